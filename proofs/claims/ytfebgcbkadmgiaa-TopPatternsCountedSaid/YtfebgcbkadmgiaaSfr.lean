/- Layer 33: inverse: the walk. -/
import Derived.Test.YtfebgcbkadmgiaaSfq
import Derived.Deep.DeepAppendRoom
namespace Go.Proofs.Ytfebgcbkadmgiaa
open Go.RowKit Go.Shelf
set_option linter.unusedVariables false
set_option linter.unusedSimpArgs false
attribute [local go_sem] Oper.semAt_some

theorem chg_keeps {S : List Nat} {W W' : World} (h : Chg S W W') (hS : ∀ x ∈ S, ∀ o, W.heap[x]? = some o → o.isCells = true) : KeepsOthers W W' :=
  ⟨h.size, fun k o hk ho => by
    rw [h.block k (Array.getElem?_eq_some_iff.1 hk).1 (fun hm => by rw [hS k hm o hk] at ho; cases ho)]
    exact hk⟩
theorem chg_below {S : List Nat} {w W W' : World} (hB : Below w.heap.size w W) (h : Chg S W W') (hS : ∀ x ∈ S, w.heap.size ≤ x) : Below w.heap.size w W' := by
  have h1 : Ext w W := hB
  exact Chg.ext (((Chg.of_ext [] h1)).trans h (fun x hx => Or.inr (hS x hx)))
theorem own8_own {β : Type} (B d cap : Nat) (k : β → Nat) (f : β → List Int) (hk : ∀ s, (f s).length = k s) : Own (fun s W => Own8 W B (.slice (some ⟨d, 0, none⟩) (k s) cap) (f s)) := fun s X Y row hs hg hrow => by
  have hs' : Own8 X B (.slice (some ⟨d, 0, none⟩) (k s) cap) (f s) := hs
  refine ⟨hs'.1, ?_⟩
  rcases hs'.2 with ⟨h1, _⟩ | ⟨g, c, cur, hv, hb, hgg, h2, h3, h4, h5⟩
  · cases h1
  · refine Or.inr ⟨g, c, cur, hv, hb, ?_, h2, h3, h4, h5⟩
    rw [grownBy_keeps_cells hg hrow hgg rfl]
    exact hgg
/-- The beginning of a region that draws its order, in a round of a range over a function. -/
theorem wpIn_round_D {P : Program} {id l n : Nat} {ops : Array Oper} {Q : Exit → Act → World → Prop} {a : Act} {w : World} {S : World → Prop} {D : List Nat} (hm : P.follows .mixedOrders = true) (hLO : ¬ LetsOut Q)
    (hd : ops.all noDeferB = true) (hS : S w.drew)
    (h : S w.drew → wpAnyD P .any ops Q S D ops.size (Array.replicate ops.size false) a w.drew) : (Code.region id ops true).wpIn (Fence.wide.inRound l) n P Q a w :=
  wpIn_region_any hm (wpAnyIn_round hLO (noDefer_of hd) _ _ _ _ (wpAny_of_D _ _ _ _ (h hS)))
/-- An append that finds room, to an own row. -/
theorem appendRoomD {P : Program} {md : Region.Mode} {ops : Array Oper} {Q : Exit → Act → World → Prop} {S : World → Prop} {D : List Nat} {fuel : Nat} {listed : Array Bool} (i : Nat) {oi : Oper} {dd : Tmp} {a : Act} {w : World} (hii : ops[i]? = some oi) (hd : oi.dst = some dd) (gi : oi.guard = none)
    (hrd : Region.ready md ops listed = [i]) (s x : Operand) (t : TypeId)
    (ho : oi.op = .call { callee := .builtin .append, args := #[s, x], argTypes := #[t, t] })
    (base : Nat) (e : TypeId) (i1 : TypeInfo) (size : Nat) (ht : P.underlying t = some (.slice e)) (hi : P.info? e = some i1) (hsize : i1.size = size)
    (g n cap : Nat) (xs : List Value) (hs : a.eval s = .slice (some ⟨g, 0, none⟩) n cap) (hown : w.ownsRow base e size (.slice (some ⟨g, 0, none⟩) n cap) n xs)
    (y : Option Addr) (m c : Nat) (news : List Value) (hx : a.eval x = .slice y m c) (hr : Rd w size (.slice y m c) m news) (h1 : ∀ u ∈ news, u.oneCell' = true)
    (hroom : n + m ≤ cap) (hm : 0 < m)
    (h : ∀ w', w'.ownsRow base e size (.slice (some ⟨g, 0, none⟩) (n + m) cap) (n + m) (xs ++ news) → w.grownBy w' (some g) →
      (i ∉ D → S w') ∧ wpAnyD P md ops Q S D fuel (listed.setIfInBounds i true) { a with tmps := a.tmps.setIfInBounds dd (.slice (some ⟨g, 0, none⟩) (n + m) cap) } w') :
    wpAnyD P md ops Q S D (fuel + 1) listed a w := by
  obtain ⟨ad, rfl⟩ : ∃ ad, y = some ad := by
    obtain ⟨b, off, e, -⟩ := hr.cells hm
    exact ⟨_, e⟩
  obtain ⟨w', hrr, h2, h3⟩ := run_append_own_spare (P := P) w base t oi.type e i1 size ht hi hsize g n cap xs hown ad m c news hr.1 (Rd.news hr) h1 hroom
  obtain ⟨hS, hh⟩ := h w' h2 h3
  refine valueD i _ hii hd hrd (by unfold Region.wanted; rw [gi]) (w' := w') ?_ hS hh
  unfold execOp
  simp only [ho, resolve, invoke, builtin, Sem.run_bind, Sem.run_pure, Result.andThen_ok, List.map_toArray, List.map_cons, List.map_nil, hs, hx, hrr]

theorem rd_of_blkS {w : World} {b n sz : Nat} {T : TypeId} {cs : List Value} (h : Blk w b T cs) (hl : cs.length = n * sz) (hn : n ≤ 1000) : Rd w sz (.slice (some ⟨b, 0, none⟩) n n) n cs := by
  refine ⟨hl, _, _, rfl, Nat.le_refl _, by unfold maxLen; omega, (fun e => by cases e), fun _ => ⟨b, 0, rfl, h.lt, fun j hj => ?_⟩⟩
  rw [Nat.zero_add]
  exact h.cell j _ (by simp [List.getD, List.getElem?_eq_getElem hj])

/-- The bytes of the rows of the walk. -/
def outW {n : Nat} (D : List Int) (pr : Nat) (ro : Nat → Nat) (pre : List (Fin n)) : List Int := pre.map fun x => D.getD (atI pr (ro x.val)) 0
theorem outW_len {n : Nat} (D : List Int) (pr : Nat) (ro : Nat → Nat) (pre : List (Fin n)) : (outW D pr ro pre).length = pre.length := by simp [outW]
theorem outW_snoc {n : Nat} (D : List Int) (pr : Nat) (ro : Nat → Nat) (pre : List (Fin n)) (x : Fin n) : outW D pr ro (pre ++ [x]) = outW D pr ro pre ++ [D.getD (atI pr (ro x.val)) 0] := by simp [outW]
def InvP (w : World) (l : List Int) (e : Ending) (w' : World) : Prop := ∃ v, e = .returned (.tuple #[v, .int .i64 0]) ∧ Own8 w' w.heap.size v l ∧ Ext w w'

set_option maxRecDepth 100000 in
set_option maxHeartbeats 4000000 in
theorem inverse_any (v : Value) (D : List Int) (pr n : Nat) (hb : Bytes D) (hne : D.length = n) (hn : n ≤ 1000) (hpr : pr ≤ n) (ro : Nat → Nat) (hway : Way D pr n ro) (w : World) (hr : Rd8 w v D) :
    Calls Try.prog 23 #[.agg #[v, .int .i64 (pr : Int)]] w (InvP w (outW D pr ro (List.finRange n)).reverse) := by
  obtain ⟨ad, cap, rfl, q1, q2, q3⟩ := Rd.shape hr
  have hat := fun (r : Nat) (h1 : r ≤ D.length) (h2 : r ≠ pr) W (hW : Rd8 W (.slice ad n cap) D) => at_any (.slice ad n cap) D pr r (by omega) h1 h2 (by omega) W hW
  have hrv := fun (B : Nat) (vo : Value) W (hW : Own8 W B vo (outW D pr ro (List.finRange n))) => reverse_any vo (outW D pr ro (List.finRange n)) B (by rw [outW_len]; simp; omega) W hW
  have hR : Hid (Rd8 w (.slice ad n cap) D) := hidden (by rw [← hne]; exact hr)
  rw [hne] at q1 hat ⊢
  have hm8 := hidden (mk_bytes0 n (by omega))
  have hO0 := own_bytes0 (w.alloc (.cells #[.slice ad n cap, .int .i64 (pr : Int)] 46)) n (by omega)
  have hm1 := hm8.out (w.alloc (.cells #[.slice ad n cap, .int .i64 (pr : Int)] 46))
  rw [World.size_alloc] at hm1
  clear hr
  replace hb := hidden hb
  replace hne := hidden hne
  replace hat := hidden hat
  replace hrv := hidden hrv
  replace hO0 := hidden hO0
  refine (callsIn_wide (n := 6)).1 ?_
  refine callsIn_of_wp_marks Try.func23 rfl trivial ?_ rfl
  simp only [Try.ntmps23, List.size_toArray, List.length_cons, List.length_nil, Nat.reduceAdd, Nat.reduceSub, Array.replicate_succ, Array.replicate_zero, List.push_toArray, List.append_toArray, List.nil_append, List.cons_append]
  refine wpIn_wide.2 ?_
  go_wp2_with (first | (refine wpList_make_run ?_) | (go_at_call 37; refine (walk_any _ (pr : Int) _ ad n cap rfl).mono ?_; rintro e w2 ⟨rfl, rfl⟩))
  -- THE LOOP
  obtain ⟨s, hs⟩ : ∃ s, w.heap.size = s := ⟨_, rfl⟩
  rw [hs] at hm1 ⊢
  have hsz3 : ((((w.alloc (.cells #[.slice ad n cap, .int .i64 (pr : Int)] 46)).alloc (.cells (madeCells #[.int .u8 0] n) 5)).alloc (.cells #[.slice (some ⟨s + 1, 0, none⟩) 0 n] 22)).alloc (.cells #[.slice ad n cap, .int .i64 (pr : Int)] 46)).heap.size = s + 1 + 1 + 1 + 1 := by simp only [World.size_alloc, hs]
  have e0 := hO0.out
  rw [World.size_alloc] at e0
  change Own8 ((w.alloc (.cells #[.slice ad n cap, .int .i64 (pr : Int)] 46)).alloc (.cells (madeCells #[.int .u8 0] n) 5)) _ _ _ at e0
  have e1 : Own8 ((((w.alloc (.cells #[.slice ad n cap, .int .i64 (pr : Int)] 46)).alloc (.cells (madeCells #[.int .u8 0] n) 5)).alloc (.cells #[.slice (some ⟨s + 1, 0, none⟩) 0 n] 22)).alloc (.cells #[.slice ad n cap, .int .i64 (pr : Int)] 46)) (s + 1) (.slice (some ⟨s + 1, 0, none⟩) 0 n) [] := by
    rw [← hs]
    exact own_ext e0 (((Ext.refl _).alloc _).alloc _)
  have e2 : Blk ((((w.alloc (.cells #[.slice ad n cap, .int .i64 (pr : Int)] 46)).alloc (.cells (madeCells #[.int .u8 0] n) 5)).alloc (.cells #[.slice (some ⟨s + 1, 0, none⟩) 0 n] 22)).alloc (.cells #[.slice ad n cap, .int .i64 (pr : Int)] 46)) (s + 1 + 1) 22 [.slice (some ⟨s + 1, 0, none⟩) 0 n] := by
    have := (Blk.new ((w.alloc (.cells #[.slice ad n cap, .int .i64 (pr : Int)] 46)).alloc (.cells (madeCells #[.int .u8 0] n) 5)) [.slice (some ⟨s + 1, 0, none⟩) 0 n] 22).alloc (.cells #[.slice ad n cap, .int .i64 (pr : Int)] 46)
    rw [World.size_alloc, World.size_alloc, hs] at this
    exact this
  have e3 : Blk ((((w.alloc (.cells #[.slice ad n cap, .int .i64 (pr : Int)] 46)).alloc (.cells (madeCells #[.int .u8 0] n) 5)).alloc (.cells #[.slice (some ⟨s + 1, 0, none⟩) 0 n] 22)).alloc (.cells #[.slice ad n cap, .int .i64 (pr : Int)] 46)) s 46 [.slice ad n cap, .int .i64 (pr : Int)] := by
    have := (((Blk.new w [.slice ad n cap, .int .i64 (pr : Int)] 46).alloc (.cells (madeCells #[.int .u8 0] n) 5)).alloc (.cells #[.slice (some ⟨s + 1, 0, none⟩) 0 n] 22)).alloc (.cells #[.slice ad n cap, .int .i64 (pr : Int)] 46)
    rw [hs] at this
    exact this
  have e4 : Blk ((((w.alloc (.cells #[.slice ad n cap, .int .i64 (pr : Int)] 46)).alloc (.cells (madeCells #[.int .u8 0] n) 5)).alloc (.cells #[.slice (some ⟨s + 1, 0, none⟩) 0 n] 22)).alloc (.cells #[.slice ad n cap, .int .i64 (pr : Int)] 46)) (s + 1 + 1 + 1) 46 [.slice ad n cap, .int .i64 (pr : Int)] := by
    have := Blk.new (((w.alloc (.cells #[.slice ad n cap, .int .i64 (pr : Int)] 46)).alloc (.cells (madeCells #[.int .u8 0] n) 5)).alloc (.cells #[.slice (some ⟨s + 1, 0, none⟩) 0 n] 22)) [.slice ad n cap, .int .i64 (pr : Int)] 46
    rw [World.size_alloc, World.size_alloc, World.size_alloc, hs] at this
    exact this
  have e5 : Ext w ((((w.alloc (.cells #[.slice ad n cap, .int .i64 (pr : Int)] 46)).alloc (.cells (madeCells #[.int .u8 0] n) 5)).alloc (.cells #[.slice (some ⟨s + 1, 0, none⟩) 0 n] 22)).alloc (.cells #[.slice ad n cap, .int .i64 (pr : Int)] 46)) := ((((Ext.refl w).alloc _).alloc _).alloc _).alloc _
  obtain ⟨W3, hW3⟩ : ∃ X, ((((w.alloc (.cells #[.slice ad n cap, .int .i64 (pr : Int)] 46)).alloc (.cells (madeCells #[.int .u8 0] n) 5)).alloc (.cells #[.slice (some ⟨s + 1, 0, none⟩) 0 n] 22)).alloc (.cells #[.slice ad n cap, .int .i64 (pr : Int)] 46)) = X := ⟨_, rfl⟩
  rw [hW3] at e1 e2 e3 e4 e5 hsz3 ⊢
  clear hW3 hm1 e0 hO0
  have hRd : Rd W3 1 (.slice ad n cap) n (bs D) := by have := Rd.ext hR.out e5; unfold Rd8 at this; rw [hne.out] at this; exact this
  have hlt : ∀ z ∈ [s + 1 + 1, s + 1], z < W3.heap.size := by
    intro z hz
    simp at hz
    omega
  obtain ⟨i0, hi, hz0, hz1, hz2⟩ := info_parts u8infoK
  replace hi := hidden hi
  replace hsz3 := hidden hsz3
  replace hs := hidden hs
  rename_i KK hKK
  refine (wpIn_wide (n := 6)).1 ?_
  refine wpIn_rangeFunc_ownG rfl (by omega) (gf := 56) (lb := #[.pointer (some ⟨s + 1 + 1 + 1, 0, none⟩)]) rfl trivial (enters_of Try.func56 (by kernel_rfl) rfl)
    (walk_stops 5 (by omega) (s + 1 + 1 + 1) pr n cap ad D hb.out hne.out hn hpr ro hway [s + 1 + 1, s + 1] (fun h => by simp at h; omega) W3 hlt e4 hRd) keepT_t (fun W l o o' _ h1 h2 _ => keepT_b W l o o' h1 h2) (Below.refl _ _) (fun _ => rfl)
    (fun pre W => ((Own8 W (s + 1) (.slice (some ⟨s + 1, 0, none⟩) pre.length n) (outW D pr ro pre) ∧ Blk W (s + 1 + 1) 22 [.slice (some ⟨s + 1, 0, none⟩) pre.length n]) ∧ Blk W s 46 [.slice ad n cap, .int .i64 (pr : Int)]) ∧ Below w.heap.size w W)
    (fun _ _ _ => False)
    (OwnFrom.and (OwnFrom.and (OwnFrom.and (Own.from (own8_own _ _ _ _ _ (outW_len D pr ro)) _) (Own.from (blk_own _ _ _) _)) (Own.from (blk_own _ _ (fun _ => [.slice ad n cap, .int .i64 (pr : Int)])) _)) (ownFrom_below (Nat.le_refl _) (by rw [hsz3.out, hs.out]; omega)))
    (fun _ _ _ _ _ hs _ _ => hs)
    ⟨⟨⟨e1, e2⟩, e3⟩, e5⟩
    (fun x => { tmps := #[.agg #[.slice ad n cap, .int .i64 (pr : Int)], .pointer (some ⟨s, 0, none⟩), .slice none 0 0, .int .i64 0, .pointer (some ⟨s + 1 + 1, 0, none⟩), .int .i64 (ro x.val : Int), .pointer (some ⟨s, 0, none⟩), .slice ad n cap, .int .i64 (n : Int), .slice (some ⟨s + 1, 0, none⟩) 0 n, .agg #[.slice ad n cap, .int .i64 (pr : Int)], .func (.func 56) #[] #[.pointer (some ⟨s + 1 + 1 + 1, 0, none⟩)], .int .i64 (ro x.val : Int), undef, undef, undef, undef, undef, undef, undef, undef, undef, undef, undef, undef, undef, undef, undef], defers := [] }) ?assign ?body ?done ?stop
  case assign =>
    intro l x W K hK
    unfold encW
    obtain ⟨r, hr⟩ : ∃ r, ro x.val = r := ⟨_, rfl⟩
    rw [hr] at hK ⊢
    clear hr
    gi_wp2
    exact hK
  case body =>
    rintro l pre x W ⟨⟨⟨hb1, hb2⟩, hb3⟩, hB⟩ hlen
    have hx := x.isLt
    have hsn := outW_snoc D pr ro pre x
    have hBx : Ext w W := hB
    obtain ⟨k, hk⟩ : ∃ k, pre.length = k := ⟨_, rfl⟩
    rw [hk] at hb1 hb2 hlen
    have hWd := hBx.size
    rw [hs.out] at hWd
    obtain ⟨r, hr⟩ : ∃ r, ro x.val = r := ⟨_, rfl⟩
    have hr1 := hway.le x.val (by omega)
    have hr2 := hway.ne x.val hx
    have hc := hat.out (ro x.val) hr1 hr2 W.drew (Rd.ext hR.out hBx.drew)
    obtain ⟨y, hy⟩ : ∃ y, D.getD (atI pr (ro x.val)) 0 = y := ⟨_, rfl⟩
    rw [hy] at hc hsn
    rw [hr] at hc ⊢
    obtain ⟨O, hO⟩ : ∃ O, outW D pr ro pre = O := ⟨_, rfl⟩
    have hOl : O.length = k := by rw [← hO, outW_len, hk]
    rw [hO] at hb1 hsn
    have c1 := hb2.cell 0 _ rfl
    have c2 := hb3.cell 0 _ rfl
    have c3 := hb3.cell 1 _ rfl
    replace hc := hidden hc
    replace hsn := hidden hsn
    replace hOl := hidden hOl
    replace hb1 := hidden hb1
    replace hb2 := hidden hb2
    replace hb3 := hidden hb3
    replace hBx := hidden hBx
    clear hy hr hO hB hr1 hr2
    replace hk := hidden hk
    gi_wp2
    refine wpIn_round_D (S := fun w' : World => w'.cell? ⟨s + 1 + 1, 0, none⟩ = some (.slice (some ⟨s + 1, 0, none⟩) k n) ∧ w'.cell? ⟨s, 0, none⟩ = some (.slice ad n cap) ∧ w'.cell? ⟨s, 1, none⟩ = some (.int .i64 (pr : Int))) (D := [6]) (by kernel_rfl) (fun ⟨_, _, h⟩ => (show False from h)) (by kernel_rfl) ⟨c1, c2, c3⟩ ?_
    intro HS
    refine takeD 0 [5, 6] (.slice (some ⟨s + 1, 0, none⟩) k n) rfl rfl (by kernel_rfl) (by kernel_rfl) (by kernel_rfl) (by kernel_rfl) (by decide) (by decide) (fun _ _ _ h => h) (by rfl) (fun w' hw' => by obtain ⟨s1, s2, s3⟩ := hw'; go_simp) HS ?_
    try simp only [List.setIfInBounds_toArray, List.set_cons_zero, List.set_cons_succ]
    refine takeD 1 [3, 4, 5, 6] (.agg #[.slice ad n cap, .int .i64 (pr : Int)]) rfl rfl (by kernel_rfl) (by kernel_rfl) (by kernel_rfl) (by kernel_rfl) (by decide) (by decide) (fun _ _ _ h => h) (by rfl) (fun w' hw' => by obtain ⟨s1, s2, s3⟩ := hw'; go_simp) HS ?_
    try simp only [List.setIfInBounds_toArray, List.set_cons_zero, List.set_cons_succ]
    refine takeD 2 [3, 4, 5, 6] (.int .i64 (r : Int)) rfl rfl (by kernel_rfl) (by kernel_rfl) (by kernel_rfl) (by kernel_rfl) (by decide) (by decide) (fun _ _ _ h => h) (by rfl) (fun w' hw' => by obtain ⟨s1, s2, s3⟩ := hw'; go_simp) HS ?_
    try simp only [List.setIfInBounds_toArray, List.set_cons_zero, List.set_cons_succ]
    refine callD 3 38 #[.agg #[.slice ad n cap, .int .i64 (pr : Int)], .int .i64 (r : Int)] rfl (by kernel_rfl) (by rfl) (by go_simp) hc.out ?_
    rintro e w1 ⟨rfl, hX1⟩
    refine Or.inl ⟨_, rfl, fun _ => ⟨hX1.cell c1, hX1.cell c2, hX1.cell c3⟩, ?_⟩
    have hXw : Ext W w1 := (Ext.refl W).drew.trans hX1
    refine valueD 4 (.slice (some ⟨w1.heap.size, 0, none⟩) 1 1) rfl rfl (by kernel_rfl) (by rfl) (w' := w1.alloc (.cells #[.int .u8 y] 5)) (by go_simp) (fun _ => ⟨(hX1.alloc _).cell c1, (hX1.alloc _).cell c2, (hX1.alloc _).cell c3⟩) ?_
    try simp only [List.setIfInBounds_toArray, List.set_cons_zero, List.set_cons_succ]
    have hX2 : Ext W (w1.alloc (.cells #[.int .u8 y] 5)) := hXw.alloc _
    have HO : Own8 (w1.alloc (.cells #[.int .u8 y] 5)) (s + 1) (.slice (some ⟨s + 1, 0, none⟩) k n) O := own_ext hb1.out hX2
    have HN : Rd (w1.alloc (.cells #[.int .u8 y] 5)) 1 (.slice (some ⟨w1.heap.size, 0, none⟩) 1 1) 1 [.int .u8 y] := rd_of_blkS (Blk.new w1 [.int .u8 y] 5) rfl (by omega)
    have c4 := hX2.cell c1
    have c5 := hX2.cell c2
    have c6 := hX2.cell c3
    unfold Own8 at HO
    rw [hOl.out] at HO
    replace HO := hidden HO
    replace HN := hidden HN
    refine appendRoomD 5 rfl rfl rfl (by kernel_rfl) _ _ 22 (by rfl) (s + 1) 5 i0 1 Try.underlying22 hi.out hz1 (s + 1) k n (bs O) (by rfl) HO.out (some ⟨w1.heap.size, 0, none⟩) 1 1 [.int .u8 y] (by rfl) HN.out (by simp [Value.oneCell']) (by omega) (by omega) ?_
    intro w3 hown hg
    have hC3 : Chg [s + 1] W w3 := (Chg.of_ext _ hX2).grown hg (fun x e => by cases e; exact Or.inl (by simp))
    have d1 := hC3.cell (by simp) c1
    have d2 := hC3.cell (by simp) c2
    have d3 := hC3.cell (by simp) c3
    have f1 := hC3.frozen (by simp) c1 (hb2.out.frozen 0)
    refine ⟨fun _ => ⟨d1, d2, d3⟩, ?_⟩
    try simp only [List.setIfInBounds_toArray, List.set_cons_zero, List.set_cons_succ]
    refine storeD 6 rfl rfl (by kernel_rfl) (by rfl) (w' := w3.setCell ⟨s + 1 + 1, 0, none⟩ (.slice (some ⟨s + 1, 0, none⟩) (k + 1) n)) (by go_simp) (fun h => absurd (by simp) h) ?_
    refine wpAnyD_done (by kernel_rfl) ?_ _
    have hC4 : Chg [s + 1 + 1, s + 1] W (w3.setCell ⟨s + 1 + 1, 0, none⟩ (.slice (some ⟨s + 1, 0, none⟩) (k + 1) n)) := (hC3.mono (by simp)).setCell (Or.inl (by simp)) _
    have hO3 : Own8 w3 (s + 1) (.slice (some ⟨s + 1, 0, none⟩) (k + 1) n) (outW D pr ro (pre ++ [x])) := by
      rw [hsn.out]
      unfold Own8
      rw [bs_app, List.length_append, hOl.out]
      exact hown
    have hb2' := (hb2.out.chg hC3 (by simp)).set 0 (.slice (some ⟨s + 1, 0, none⟩) (k + 1) n)
    have hb3' := hb3.out.chg hC4 (fun h => by simp at h; omega)
    clear c1 c2 c3 c4 c5 c6 d1 d2 d3 f1 HO HN HS
    replace hC4 := hidden hC4
    replace hO3 := hidden hO3
    show KeepsFrom _ _ _ ∧ _ ∧ _
    have hln : (pre ++ [x]).length = k + 1 := by rw [List.length_append, hk.out]; rfl
    refine ⟨(chg_keeps hC4.out fun z hz o ho => ?_).from _, KeepT.of_chg hC4.out (fun _ h => h), ⟨⟨?_, ?_⟩, hb3'⟩, chg_below hBx.out hC4.out (by intro z hz; rw [hs.out]; simp at hz; omega)⟩
    · simp at hz
      rcases hz with rfl | rfl
      · have := hb2.out; unfold Blk at this; rw [this] at ho; cases ho; rfl
      · obtain ⟨-, h1 | ⟨g, c, cur, hv, -, hgg, -⟩⟩ := hb1.out
        · exact absurd h1.1 (by simp)
        · cases hv; rw [hgg] at ho; cases ho; rfl
    · rw [hln]
      exact own_chg hO3.out (Chg.setCell (S := [s + 1 + 1]) (Chg.refl _ _) (Or.inl (by simp)) _) (by simp [Value.ownBlock])
    · rw [hln]; exact hb2'
  case done =>
    rintro E ys W hD rfl ⟨⟨⟨hb1, hb2⟩, hb3⟩, hB⟩ hK
    have c1 := hb2.cell 0 _ rfl
    have c2 := hb3.cell 0 _ rfl
    have hln : (List.finRange n).length = n := by simp
    rw [hln] at hb1 hb2 c1
    have hcl := hrv.out _ _ _ hb1
    replace hcl := hidden hcl
    go_wp2_with fail
    refine hcl.out.mono ?_
    rintro e w4 ⟨rfl, hO4, hC4⟩
    have hC5 : Chg [s + 1] W w4 := hC4.mono (by simp [Value.ownBlock])
    have c3 := hC5.cell (by simp) c1
    go_wp2_with fail
    rw [hsz3.out] at hD
    have hK4 : w4.heap[E]? = some (.deferred (some [])) := hC5.heap (by simp; omega) hK
    refine ⟨by simp, .inl ⟨_, _, rfl, run_takeDeferred hK4, ?_⟩⟩
    refine ⟨.tuple #[.slice (some ⟨s + 1, 0, none⟩) n n, .int .i64 0], ?_, _, rfl, ?_, ?_⟩
    · simp [results, Try.f23, go_sem]
    · refine own_mono (b := s + 1) (own_chg hO4 (S := [E]) ⟨rfl, rfl, rfl, by simp, fun x hx he => World.putObj_heap_other (fun e => he (by simp [e]))⟩ (by simp [Value.ownBlock]; omega)) (by rw [hs.out]; omega)
    · have hB4 := chg_below hB hC5 (by intro z hz; rw [hs.out]; simp at hz; omega)
      exact hB4.trans (belowK_b (n₀ := w.heap.size) (w := w) (Nat.le_refl _) w4 E _ (.deferred none) (by rw [hs.out]; omega) hK4 rfl rfl)
  case stop =>
    rintro D c pre W _ _ h _
    exact h.elim
end Go.Proofs.Ytfebgcbkadmgiaa
