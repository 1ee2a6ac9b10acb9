/- Layer 36: Choices, of the program: what an iterator yields is collected. -/
import Derived.Test.YtjfdmhdmadnkoaaNc
import Derived.Test.YtjfdmhdmadnkoaaLp
import Derived.Maps.OwnIn
import Derived.Maps.AppendAt
namespace Go.Proofs.Ytjfdmhdmadnkoaa
open Go.RowKit Go.Shelf
set_option linter.unusedVariables false
attribute [local go_sem] Oper.semAt_some

theorem own_grown {w w' : World} {B : Nat} {e : TypeId} {sz n : Nat} {v : Value} {cs : List Value} {row : Option Nat} (h : w.ownsRow B e sz v n cs) (hg : w.grownBy w' row) (hr : ∀ r, row = some r → ∃ o, w.heap[r]? = some o ∧ o.isCells = false) : w'.ownsRow B e sz v n cs := by
  refine ⟨h.1, ?_⟩
  rcases h.2 with h2 | ⟨g, cap, cur, rfl, hb, hh, r⟩
  · exact Or.inl h2
  · refine Or.inr ⟨g, cap, cur, rfl, hb, ?_, r⟩
    rw [hg.block g (Array.getElem?_eq_some_iff.1 hh).1 (fun e => by obtain ⟨o, ho, hc⟩ := hr g e.symm; rw [hh] at ho; cases ho; cases hc)]
    exact hh

theorem wpListIn_appendT {F : Fence} {nF : Nat} {ops : Array Oper} {rest : List Oper} {o : Oper} {a : Act} {Q : Exit → Act → World → Prop} {w : World} (hgd : o.guard = none) (s x : Operand)
    (ho : o.op = .call { callee := .builtin .append, args := #[s, x], argTypes := #[24, 24] })
    (B : Nat) (v : Value) (l : List (Int × Int × Int)) (t : Int × Int × Int) (q : Nat) (hO : OwnT w B v l) (hs : a.eval s = v) (hx : a.eval x = .slice (some ⟨q, 0, none⟩) 1 1)
    (hq : Blk w q 60 (tkc t)) (hl : l.length ≤ 900000) (hB : B ≤ w.heap.size)
    (h : ∀ g cap w', OwnT w' B (.slice (some ⟨g, 0, none⟩) (l.length + 1) cap) (l ++ [t]) → w.grownBy w' v.ownBlock → (v.ownBlock = some g ∨ g = w.heap.size) → g < w'.heap.size →
      wpListIn F nF Try.prog ops Q rest (a.put o.dst (.slice (some ⟨g, 0, none⟩) (l.length + 1) cap)) w') : wpListIn F nF Try.prog ops Q (o :: rest) a w := by
  obtain ⟨i0, hi, hz0, hz1, hz2⟩ := info_parts tkinfo
  refine wpListIn_append_own_at _ hgd s x 24 ho B 60 i0 (.agg #[.int .i64 0, .int .i64 0, .int .u8 0]) 3 24 Try.underlying24 hi hz0 hz1 hz2 rfl (by decide) v l.length (l.flatMap tkc) hs hO ⟨q, 0, none⟩ 1 1 (tkc t) hx rfl ?_ (by intro u hu; exact tkc_one [t] u (by simpa using hu)) (by unfold maxLen; omega) (by omega) hB ?_
  · intro j u hu
    match j, hu with
    | 0, hu => exact hq.cell 0 u hu
    | 1, hu => exact hq.cell 1 u hu
    | 2, hu => exact hq.cell 2 u hu
    | j + 3, hu => simp [tkc] at hu
  · intro v' w' h1 h2 h3 h4
    obtain ⟨a', cap, rfl, e1, e2, e3⟩ := own_shape h1
    obtain ⟨g, rfl, e4, e5⟩ := e3 (by omega)
    refine h g cap w' ?_ h2 (by rcases h4 with h4 | h4 <;> simp [Value.ownBlock] at h4 ⊢ <;> first | exact Or.inl h4.symm | exact Or.inr h4) e5
    unfold OwnT
    rw [List.flatMap_append, List.length_append, List.length_singleton, show List.flatMap tkc [t] = tkc t by simp]
    exact h1
theorem own_cells {w : World} {B : Nat} {e : TypeId} {sz n : Nat} {v : Value} {cs : List Value} (h : w.ownsRow B e sz v n cs) : ∀ (j : Nat) (o : Obj), v.ownBlock = some j → w.heap[j]? = some o → o.isCells = true := fun j o hj ho => by
  rcases h.2 with ⟨rfl, -⟩ | ⟨g, cap, cur, rfl, hb, hh, r⟩
  · cases hj
  · simp only [Value.ownBlock, Option.some.injEq] at hj
    subst hj
    rw [hh] at ho
    cases ho
    rfl

set_option maxRecDepth 100000 in
set_option maxHeartbeats 4000000 in
theorem appendSeq_any (p5 p6 a : Nat) (ad : Option Addr) (m c : Nat) (D : List Int) (hb : Bytes D) (ha : a < D.length) (hl : D.length ≤ 65536) (w : World) (b5 : Blk w p5 22 [.slice ad m c]) (b6 : Blk w p6 3 [.int .i64 (a : Int)]) (hR : Rd8 w (.slice ad m c) D) :
    Calls Try.prog 48 #[.slice none 0 0, .func (.func 49) #[] #[.pointer (some ⟨p5, 0, none⟩), .pointer (some ⟨p6, 0, none⟩)]] w fun x w' =>
      ∃ v, x = .returned v ∧ OwnT w' w.heap.size v (chF D a) ∧ Ext w w' := by
  obtain ⟨bb, off, hab, hbb, -⟩ := Rd.cells (show Rd w 1 (.slice ad D.length c) D.length _ by obtain ⟨ad', c', e, -⟩ := Rd.shape hR; simp only [Value.slice.injEq] at e; obtain ⟨-, rfl, -⟩ := e; exact hR) (by omega)
  subst hab
  have l5 := b5.lt
  have l6 := b6.lt
  replace hb := hidden hb
  refine (callsIn_wide (n := 8)).1 ?_
  refine callsIn_of_wp_marks Try.func48 rfl trivial ?_ rfl
  simp only [Try.ntmps48, List.size_toArray, List.length_cons, List.length_nil, Nat.reduceAdd, Nat.reduceSub, Array.replicate_succ, Array.replicate_zero, List.push_toArray, List.append_toArray, List.nil_append, List.cons_append]
  gi_wp2
  have b5' := b5.alloc (.cells #[.slice none 0 0] 24)
  have b6' := b6.alloc (.cells #[.slice none 0 0] 24)
  have bS := Blk.new w [.slice none 0 0] 24
  have hR2 : Rd8 (w.alloc (.cells #[.slice none 0 0] 24)) (.slice (some ⟨bb, off, none⟩) m c) D := Rd.alloc hR _
  have hE0 := (Ext.refl w).alloc (.cells #[.slice none 0 0] 24)
  obtain ⟨W2, hW2⟩ : ∃ x, w.alloc (.cells #[.slice none 0 0] 24) = x := ⟨_, rfl⟩
  have z2 : W2.heap.size = w.heap.size + 1 := by rw [← hW2]; simp
  rw [hW2] at b5' b6' bS hR2 hE0 ⊢
  obtain ⟨s, hs⟩ : ∃ s, w.heap.size = s := ⟨_, rfl⟩
  rw [hs] at hbb l5 l6 bS z2 ⊢
  have hlt : ∀ z ∈ [p5, p6, bb], z < s := by
    intro z hz
    simp at hz
    omega
  have hsv := hidden hs
  have z2' := z2
  replace z2 := hidden z2
  clear hW2 b5 b6 hR hs
  refine wpIn_rangeFunc_ownH rfl (by omega) (gf := 49) (lb := #[.pointer (some ⟨p5, 0, none⟩), .pointer (some ⟨p6, 0, none⟩)]) rfl trivial (enters_of Try.func49 (by kernel_rfl) rfl)
    (choices_stops 7 (by omega) p5 p6 a (some ⟨bb, off, none⟩) m c D hb.out ha hl [p5, p6, bb] (by simp) (by simp) (fun _ g hg => by simp [Value.ownBlock] at hg; simp [hg]) W2 (fun z hz => by have := hlt z hz; omega) b5' b6' hR2) keepz_t (keepz_b (fun z hz => by have := hlt z hz; omega)) (Below.refl _ _) (fun _ => rfl)
    (fun pre W => ((∃ v, Blk W s 24 [v] ∧ OwnT W (s + 1) v (pre.map (fun t : ChT D a => t.1))) ∧ Below w.heap.size w W) ∧ W2.heap.size ≤ W.heap.size)
    (fun _ _ _ => False)
    (OwnFrom.and (OwnFrom.and (Own.from (fun st A B row hs hg hr => by obtain ⟨v, h1, h2⟩ := hs; exact ⟨v, blk_own s _ _ () A B row h1 hg hr, own_grown h2 hg hr⟩) _) (ownFrom_below (Nat.le_refl _) (by have := hsv.out; omega))) (fun _ A B row hs hg _ => Nat.le_trans hs hg.size))
    (fun _ _ _ _ _ hs _ _ => hs)
    ⟨⟨⟨_, bS, OwnT.nil _ _⟩, hE0⟩, Nat.le_refl _⟩
    (fun x a' W => ∃ Bx, s < Bx ∧ Blk W Bx 60 [.int .i64 x.1.1, .int .i64 x.1.2.1, .int .u8 x.1.2.2] ∧ a' = { tmps := #[.slice none 0 0, .func (.func 49) #[] #[.pointer (some ⟨p5, 0, none⟩), .pointer (some ⟨p6, 0, none⟩)], .pointer (some ⟨s, 0, none⟩), undef, .slice none 0 0, .pointer (some ⟨Bx, 0, none⟩), .func (.func 49) #[] #[.pointer (some ⟨p5, 0, none⟩), .pointer (some ⟨p6, 0, none⟩)], .agg #[.int .i64 x.1.1, .int .i64 x.1.2.1, .int .u8 x.1.2.2], undef, undef, undef, undef, undef], defers := [] })
    (fun x a' s A B row hs hg hr => by obtain ⟨Bx, h1, h2, h3⟩ := hs; exact ⟨Bx, h1, blk_own Bx _ _ () A B row h2 hg (fun r e => (hr r e).2), h3⟩) ?assign ?body ?done ?stop
  case assign =>
    rintro l pre ⟨⟨L, Ds, B⟩, hx⟩ W K ⟨⟨⟨v, i3, i4⟩, iB⟩, iz⟩ hK
    have iB' : Ext w W := iB
    have hW6 : s < W.heap.size := by omega
    gi_wp2
    refine hK _ _ ((KeepsOthers.alloc _ _).from _) ⟨KeepS.ext ((Ext.refl W).alloc _) (fun z hz => ?_), by simp⟩ ⟨⟨⟨v, i3.alloc _, OwnT.alloc i4 _⟩, iB'.alloc _⟩, by simp; omega⟩ ⟨W.heap.size, hW6, Blk.new _ _ _, rfl⟩
    have := hlt z hz
    omega
  case body =>
    rintro l pre ⟨⟨L, Ds, B⟩, hx⟩ a' W hl0 ⟨rr, hrr⟩ ⟨⟨⟨v, i3, i4⟩, iB⟩, iz⟩ ⟨Bx, hBx, bX, rfl⟩ hlen
    have iB' : Ext w W := iB
    obtain ⟨q, hq⟩ : ∃ q, (pre.map (fun t : ChT D a => t.1)).length = q := ⟨_, rfl⟩
    have hq2 : q < 256 := by rw [← hq, List.length_map]; exact hlen
    obtain ⟨ls, hls⟩ : ∃ ls, pre.map (fun t : ChT D a => t.1) = ls := ⟨_, rfl⟩
    have hls2 : Hid ((pre ++ [(⟨(L, Ds, B), hx⟩ : ChT D a)]).map (fun t : ChT D a => t.1) = ls ++ [(L, Ds, B)]) := hidden (by rw [List.map_append, hls]; rfl)
    rw [hls] at i4 hq
    obtain ⟨av, cv, rfl, -, -, -⟩ := own_shape i4
    have hnr : (Value.slice av ls.length cv).ownBlock ≠ some s := fun e => by have := (own_lt i4 e).1; omega
    have hrow : ∀ z, z ≤ s → (Value.slice av ls.length cv).ownBlock ≠ some z := fun z hz e => by have := (own_lt i4 e).1; omega
    rw [hq] at hnr hrow
    have i4' : OwnT W (s + 1) (.slice av q cv) ls := by rw [← hq]; exact i4
    rw [hq] at i3
    have c3 := i3.cell 0 _ rfl
    have f3 := i3.frozen 0
    have x0 := bX.cell 0 _ rfl
    have x1 := bX.cell 1 _ rfl
    have x2 := bX.cell 2 _ rfl
    have hcell := own_cells (OwnT.alloc i4' (.cells #[.int .i64 L, .int .i64 Ds, .int .u8 B] 60))
    have i4'' := OwnT.alloc i4' (.cells #[.int .i64 L, .int .i64 Ds, .int .u8 B] 60)
    have hnew := Blk.new W [.int .i64 L, .int .i64 Ds, .int .u8 B] 60
    have i3' := i3.alloc (.cells #[.int .i64 L, .int .i64 Ds, .int .u8 B] 60)
    have ha1 : Ext W (W.alloc (.cells #[.int .i64 L, .int .i64 Ds, .int .u8 B] 60)) := (Ext.refl W).alloc _
    have hko := KeepsOthers.alloc W (.cells #[.int .i64 L, .int .i64 Ds, .int .u8 B] 60)
    replace hq := hidden hq
    replace i4'' := hidden i4''
    replace hnew := hidden hnew
    replace hcell := hidden hcell
    replace hrow := hidden hrow
    replace hnr := hidden hnr
    replace i3' := hidden i3'
    replace ha1 := hidden ha1
    replace hko := hidden hko
    clear hls i4 i3
    gi_wp2_with (gi_at_builtin; refine wpListIn_appendT (by rfl) _ _ (by rfl) (s + 1) (.slice av q cv) ls (L, Ds, B) W.heap.size i4''.out (by rfl) (by rfl) hnew.out (by rw [hq.out]; omega) (by simp; omega) ?_; rw [hq.out]; intro g cap' w4 hO4 hg4 hat4 hlt4; have b4 := i3'.out.grown hg4 hnr.out; have c4 := b4.cell 0 _ rfl; have f4 := b4.frozen 0)
    have hkS : KeepS [p5, p6, bb] W w4 := (KeepS.ext ha1.out (fun z hz => by have := hlt z hz; omega)).trans (fun z hz => hg4.block z (by have := hlt z hz; rw [World.size_alloc]; omega) (fun e => hrow.out z (by have := hlt z hz; omega) e.symm))
    have hsz4 := hg4.size
    simp only [World.size_alloc] at hsz4
    refine ⟨?_, ⟨?_, ?_⟩, ?_⟩
    · exact ((hko.out.trans (KeepsOthers.of_grownBy hg4 hcell.out)).trans (KeepsOthers.setCell _ _ _)).from _
    · exact hkS.trans (fun z hz => Below.heap_setCell _ _ _ _ (Nat.ne_of_lt (hlt z hz)))
    · simp [World.setCell]; omega
    · refine ⟨⟨⟨_, b4.set 0 _, ?_⟩, ?_⟩, ?_⟩
      · rw [hls2.out]
        have hO5 := own_chg hO4 ((Chg.refl [s] w4).setCell (p := ⟨s, 0, none⟩) (Or.inl (by simp)) (.slice (some ⟨g, 0, none⟩) (q + 1) cap')) (fun x hx hv => by simp at hx; subst hx; have := (own_lt hO4 hv).1; omega)
        exact hO5
      · have hmono : OwnT W w.heap.size (.slice av q cv) ls := own_mono i4' (by have := hsv.out; omega)
        exact (ownT_ext1 iB' _ hmono hg4).setCell (p := ⟨s, 0, none⟩) (by have := hsv.out; show w.heap.size ≤ s; omega) _
      · simp [World.setCell]; omega
  case done =>
    rintro E ys W hD hys ⟨⟨⟨v, i3, i4⟩, iB⟩, iz⟩ hK
    rw [hys] at i4
    obtain ⟨ls, hls⟩ : ∃ ls, chF D a = ls := ⟨_, rfl⟩
    rw [hls] at i4
    obtain ⟨av, cv, rfl, -, -, -⟩ := own_shape i4
    have c3 := i3.cell 0 _ rfl
    replace hls := hidden hls
    gi_wp2
    refine ⟨by simp, .inl ⟨_, _, rfl, run_takeDeferred hK, ?_⟩⟩
    refine ⟨_, results_tmp rfl _ _ _, ?_⟩
    rw [hls.out]
    refine ⟨_, rfl, own_mono ?_ (by have := hsv.out; omega : w.heap.size ≤ s + 1), ?_⟩
    · exact ownsRow_putObj i4 _ hK rfl
    · exact Below.trans iB (belowK_b (n₀ := w.heap.size) (w := w) (Nat.le_refl _) W E _ (.deferred none) (by have := hsv.out; omega) hK rfl rfl)
  case stop =>
    rintro D c pre W _ _ h _
    exact h.elim

theorem collect_any (p5 p6 a : Nat) (ad : Option Addr) (m c : Nat) (D : List Int) (hb : Bytes D) (ha : a < D.length) (hl : D.length ≤ 65536) (w : World) (b5 : Blk w p5 22 [.slice ad m c]) (b6 : Blk w p6 3 [.int .i64 (a : Int)]) (hR : Rd8 w (.slice ad m c) D) :
    Calls Try.prog 29 #[.func (.func 49) #[] #[.pointer (some ⟨p5, 0, none⟩), .pointer (some ⟨p6, 0, none⟩)]] w fun x w' =>
      ∃ v, x = .returned v ∧ OwnT w' w.heap.size v (chF D a) ∧ Ext w w' := by
  have hc := appendSeq_any p5 p6 a ad m c D hb ha hl w b5 b6 hR
  replace hc := hidden hc
  clear b5 b6 hR hb
  go_enter Try.func29, Try.ntmps29
  go_wp2_with fail
  refine hc.out.mono ?_
  rintro e w1 ⟨v, rfl, hO, g⟩
  obtain ⟨av, cv, rfl, -, -, -⟩ := own_shape hO
  replace hO := hidden hO
  go_wp2_with fail
  go_ret
  exact ⟨_, rfl, hO.out, g⟩

theorem pchoices_any (v : Value) (D : List Int) (a : Int) (hb : Bytes D) (hl : D.length ≤ 9223372036854775807) (w : World) (h : Rd8 w v D) :
    Calls Try.prog 11 #[v, .int .i64 a] w (DePost w (chE D a)) := by
  obtain ⟨ad, cap, rfl, q1, q2, q3⟩ := Rd.shape h
  obtain ⟨m, hm⟩ : ∃ m, D.length = m := ⟨_, rfl⟩
  by_cases k1 : 65536 < D.length
  · rw [show chE D a = (5, []) by unfold chE; rw [if_pos k1]]
    rw [hm] at q1 k1 hl ⊢
    clear h hm hb
    go_enter Try.func11, Try.ntmps11
    go_wp2_with fail
    go_ret2
    exact ⟨_, rfl, OwnT.nil _ _, Ext.refl _⟩
  · by_cases k2 : a < 0
    · rw [show chE D a = (2, []) by unfold chE; rw [if_neg k1, if_pos (Or.inl k2)]]
      rw [hm] at q1 k1 hl ⊢
      clear h hm hb
      go_enter Try.func11, Try.ntmps11
      go_wp2_with fail
      go_ret2
      exact ⟨_, rfl, OwnT.nil _ _, Ext.refl _⟩
    · by_cases k3 : (D.length : Int) ≤ a
      · rw [show chE D a = (2, []) by unfold chE; rw [if_neg k1, if_pos (Or.inr k3)]]
        rw [hm] at q1 k1 hl k3 ⊢
        clear h hm hb
        go_enter Try.func11, Try.ntmps11
        go_wp2_with fail
        go_ret2
        exact ⟨_, rfl, OwnT.nil _ _, Ext.refl _⟩
      · obtain ⟨n, rfl⟩ : ∃ n : Nat, a = (n : Int) := ⟨a.toNat, by omega⟩
        rw [show chE D (n : Int) = (0, chF D n) by unfold chE; rw [if_neg k1, if_neg (by omega), Int.toNat_natCast]]
        have hc := choices_in ad m cap (n : Int) w
        have b5 := (Blk.new w [.slice ad D.length cap] 22).alloc (.cells #[.int .i64 (n : Int)] 3)
        have b6 := Blk.newAt (w.alloc (.cells #[.slice ad D.length cap] 22)) [.int .i64 (n : Int)] 3 (w.heap.size + 1) (by simp)
        have hR : Rd8 ((w.alloc (.cells #[.slice ad D.length cap] 22)).alloc (.cells #[.int .i64 (n : Int)] 3)) (.slice ad D.length cap) D := Rd.alloc (Rd.alloc h _) _
        have hcol := collect_any w.heap.size (w.heap.size + 1) n ad D.length cap D hb (by omega) (by omega) _ b5 b6 hR
        have hX : Ext w ((w.alloc (.cells #[.slice ad D.length cap] 22)).alloc (.cells #[.int .i64 (n : Int)] 3)) := ((Ext.refl w).alloc _).alloc _
        rw [hm] at hcol q1 k1 k3 hl hX ⊢
        obtain ⟨ls, hls⟩ : ∃ ls, chF D n = ls := ⟨_, rfl⟩
        rw [hls] at hcol ⊢
        replace hcol := hidden hcol
        replace hc := hidden hc
        replace hX := hidden hX
        clear h b5 b6 hR hb hm hls
        have k4 : ¬ (m : Int) ≤ (n : Int) := by omega
        go_enter Try.func11, Try.ntmps11
        go_wp2_with fail
        refine hc.out.mono ?_
        rintro e w1 ⟨rfl, rfl⟩
        go_wp2_with fail
        refine hcol.out.mono ?_
        rintro e w3 ⟨v, rfl, hO, g⟩
        obtain ⟨av, cv, rfl, -, -, -⟩ := own_shape hO
        have hX3 := hX.out.trans g
        have hO3 : OwnT w3 w.heap.size (.slice av ls.length cv) ls := own_mono hO hX.out.size
        replace hO3 := hidden hO3
        replace hX3 := hidden hX3
        clear hO g
        go_wp2_with fail
        go_ret2
        exact ⟨_, rfl, hO3.out, hX3.out⟩
end Go.Proofs.Ytjfdmhdmadnkoaa
