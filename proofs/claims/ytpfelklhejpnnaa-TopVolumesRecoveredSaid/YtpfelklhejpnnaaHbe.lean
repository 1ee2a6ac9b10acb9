/- volume.collect. -/
import Derived.Test.YtpfelklhejpnnaaHbd
import Derived.Test.YtpfelklhejpnnaaHbc
import Derived.Test.YtpfelklhejpnnaaGw
import Derived.Test.YtpfelklhejpnnaaGl
import Derived.Carry
namespace Go.Proofs.Ytpfelklhejpnnaa
open Go.RowKit Go.MapKept Go.ChangeMaps
set_option linter.unusedVariables false
set_option linter.unusedSimpArgs false
attribute [local go_sem ↓] Go.wp_at_zero Go.wp_at_succ

/-- Whether heads agree, but for the index. -/
def same5 (ns hd : List Int) : Prop := ns.getD 0 0 = hd.getD 0 0 ∧ (0 : Int) = hd.getD 1 0 ∧ ns.getD 2 0 = hd.getD 2 0 ∧ ns.getD 3 0 = hd.getD 3 0 ∧ ns.getD 4 0 = hd.getD 4 0
instance (ns hd : List Int) : Decidable (same5 ns hd) := by unfold same5; exact inferInstance
/-- What collect has behind some byte strings: the head, the parts by their indices. -/
def colS (st : List Int × List (Int × List Int)) (x : List Int) : List Int × List (Int × List Int) :=
  if (hdF x).1 ≠ 0 then st else
  if st.2 = [] then ((hdF x).2.1.set 1 0, [((hdF x).2.1.getD 1 0, (hdF x).2.2)]) else
  if same5 (hdF x).2.1 st.1 ∧ ¬ ∃ e ∈ st.2, e.1 = (hdF x).2.1.getD 1 0 then (st.1, st.2 ++ [((hdF x).2.1.getD 1 0, (hdF x).2.2)]) else st
def colF (X : List (List Int)) : List Int × List (Int × List Int) := X.foldl colS (z5, [])
theorem colF_snoc (X : List (List Int)) (x : List Int) : colF (X ++ [x]) = colS (colF X) x := by unfold colF; rw [List.foldl_append]; rfl
theorem vH_set (ns : List Int) : vH (ns.set 1 0) = [.int .u32 (ns.getD 0 0), .int .i64 0, .int .i64 (ns.getD 2 0), .int .i64 (ns.getD 3 0), .int .i64 (ns.getD 4 0)] := by
  unfold vH
  have h : ∀ j, j ≠ 1 → (ns.set 1 0).getD j 0 = ns.getD j 0 := fun j hj => by
    rw [List.getD_eq_getElem?_getD, List.getD_eq_getElem?_getD, List.getElem?_set_ne (by omega)]
  have h1 : (ns.set 1 0).getD 1 0 = 0 := by
    rw [List.getD_eq_getElem?_getD]
    by_cases hl : 1 < ns.length
    · rw [List.getElem?_set_self hl]; rfl
    · rw [List.getElem?_eq_none (by simp; omega)]; rfl
  rw [h 0 (by omega), h1, h 2 (by omega), h 3 (by omega), h 4 (by omega)]
theorem eql47 (f0 f2 f3 f4 g0 g1 g2 g3 g4 : Int) (w : World) : (binOp .eql 47 (.agg #[.int .u32 f0, .int .i64 0, .int .i64 f2, .int .i64 f3, .int .i64 f4]) (.agg #[.int .u32 g0, .int .i64 g1, .int .i64 g2, .int .i64 g3, .int .i64 g4])).run Try.prog w = .ok (.bool (decide (f0 = g0 ∧ (0 : Int) = g1 ∧ f2 = g2 ∧ f3 = g3 ∧ f4 = g4))) w := by
  go_simp
  by_cases h0 : f0 = g0 <;> by_cases h1 : (0 : Int) = g1 <;> by_cases h2 : f2 = g2 <;> by_cases h3 : f3 = g3 <;> by_cases h4 : f4 = g4 <;> simp [*]
theorem results_row2 {P : Program} {fn : Func} {p a : Tmp} {ty : TypeId} (h : fn.results = #[.cell p ty, .tmp a]) (tmps : Array Value) (w : World) (g : Nat) (t : TypeId) (cs : Array Value) (fr : Nat × Nat) (d : TypeDesc)
    (hp : tmps.getD p undef = .pointer (some ⟨g, 0, none⟩)) (hg : w.heap[g]? = some (.cells cs t fr))
    (hu : P.underlying ty = some d) (hd : (match d with | .struct _ | .array _ _ => true | _ => false) = true) (hi : (P.info? ty).map (·.size) = some cs.size) (va : Value) (ha : tmps.getD a undef = va) :
    (results fn tmps).run P w = .ok (.tuple #[.agg cs, va]) w := by
  have hp' : tmps[p]?.getD undef = .pointer (some ⟨g, 0, none⟩) := by simpa using hp
  have ha' : tmps[a]?.getD undef = va := by simpa using ha
  simp [results, h, hp', ha', asAddr, run_loadVar_row w g t ty cs fr d hg hu hd hi]
/-- The set's cells. -/
def setC (hd : List Int) (mb : Nat) : List Value := vH hd ++ [.map (some mb)]
def ColP (w : World) (X : List (List Int)) (e : Ending) (w' : World) : Prop :=
  ((colF X).2 = [] ∧ e = .returned (.tuple #[.agg #[.int .u32 0, .int .i64 0, .int .i64 0, .int .i64 0, .int .i64 0, .map none], .int .i64 7]) ∧ Ext w w') ∨
  ((colF X).2 ≠ [] ∧ ∃ mb B, e = .returned (.tuple #[.agg (setC (colF X).1 mb).toArray, .int .i64 0]) ∧ w.heap.size ≤ mb ∧ mb < B ∧ MapM w' mb B (colF X).2 ∧ Ext w w')
set_option maxRecDepth 100000 in
set_option maxHeartbeats 2000000 in
theorem collect_any (v : Value) (X : List (List Int)) (hn : X.length ≤ 128) (hXb : ∀ l ∈ X, Bytes l) (hXl : ∀ l ∈ X, l.length ≤ 900000) (w : World) (hr : RL w v X) :
    Calls Try.prog 21 #[v] w (ColP w X) := by
  obtain ⟨ad, cap, rfl, q1, q2⟩ := hr.shape
  have hhd := fun v D hb hl W h => header_any v D hb hl W h
  obtain ⟨n, hnn⟩ : ∃ n, X.length = n := ⟨_, rfl⟩
  rw [hnn] at hr hn q1 ⊢
  have k1 : ¬ (128 : Int) < (n : Int) := by omega
  replace hr := hidden hr
  replace hhd := hidden hhd
  replace hXb := hidden hXb
  replace hXl := hidden hXl
  go_enter Try.func21, Try.ntmps21
  have hmm := fun W => run_makeMap (P := Try.prog) 56 W
  go_upto_region 5 with fail
  obtain ⟨q, hq⟩ : ∃ q, w.heap.size = q := ⟨_, rfl⟩
  have hsz : (((w.alloc (.cells #[.int .u32 0, .int .i64 0, .int .i64 0, .int .i64 0, .int .i64 0, .map none] 58)).alloc (.map #[] 0)).alloc (.cells #[.int .u32 0, .int .i64 0, .int .i64 0, .int .i64 0, .int .i64 0, .map (some (q + 1))] 58)).heap.size = q + 1 + 1 + 1 := by simp only [World.size_alloc, hq]
  have e2 : Blk (((w.alloc (.cells #[.int .u32 0, .int .i64 0, .int .i64 0, .int .i64 0, .int .i64 0, .map none] 58)).alloc (.map #[] 0)).alloc (.cells #[.int .u32 0, .int .i64 0, .int .i64 0, .int .i64 0, .int .i64 0, .map (some (q + 1))] 58)) q 58 [.int .u32 0, .int .i64 0, .int .i64 0, .int .i64 0, .int .i64 0, .map none] := by
    have := ((blk_newAt' w [.int .u32 0, .int .i64 0, .int .i64 0, .int .i64 0, .int .i64 0, .map none] 58 q hq).alloc (.map #[] 0)).alloc (.cells #[.int .u32 0, .int .i64 0, .int .i64 0, .int .i64 0, .int .i64 0, .map (some (q + 1))] 58)
    exact this
  have e4 : Blk (((w.alloc (.cells #[.int .u32 0, .int .i64 0, .int .i64 0, .int .i64 0, .int .i64 0, .map none] 58)).alloc (.map #[] 0)).alloc (.cells #[.int .u32 0, .int .i64 0, .int .i64 0, .int .i64 0, .int .i64 0, .map (some (q + 1))] 58)) (q + 1 + 1) 58 (setC z5 (q + 1)) := by
    have := blk_newAt' ((w.alloc (.cells #[.int .u32 0, .int .i64 0, .int .i64 0, .int .i64 0, .int .i64 0, .map none] 58)).alloc (.map #[] 0)) [.int .u32 0, .int .i64 0, .int .i64 0, .int .i64 0, .int .i64 0, .map (some (q + 1))] 58 (q + 1 + 1) (by simp only [World.size_alloc, hq])
    exact this
  have eM : MapM (((w.alloc (.cells #[.int .u32 0, .int .i64 0, .int .i64 0, .int .i64 0, .int .i64 0, .map none] 58)).alloc (.map #[] 0)).alloc (.cells #[.int .u32 0, .int .i64 0, .int .i64 0, .int .i64 0, .int .i64 0, .map (some (q + 1))] 58)) (q + 1) (q + 1 + 1 + 1) [] := by
    refine ⟨[], ?_, rfl, fun i p e hp _ => by simp at hp⟩
    have h1 : ((w.alloc (.cells #[.int .u32 0, .int .i64 0, .int .i64 0, .int .i64 0, .int .i64 0, .map none] 58)).alloc (.map #[] 0)).heap[q + 1]? = some (tblObj []) := by
      have := heap_alloc_new (w.alloc (.cells #[.int .u32 0, .int .i64 0, .int .i64 0, .int .i64 0, .int .i64 0, .map none] 58)) (.map #[] 0)
      rw [World.size_alloc, hq] at this
      exact this
    exact tbl_ext ((Ext.refl _).alloc _) h1
  have eX : Ext w (((w.alloc (.cells #[.int .u32 0, .int .i64 0, .int .i64 0, .int .i64 0, .int .i64 0, .map none] 58)).alloc (.map #[] 0)).alloc (.cells #[.int .u32 0, .int .i64 0, .int .i64 0, .int .i64 0, .int .i64 0, .map (some (q + 1))] 58)) := (((Ext.refl w).alloc _).alloc _).alloc _
  rw [hq]
  obtain ⟨W3, hW3⟩ : ∃ X, (((w.alloc (.cells #[.int .u32 0, .int .i64 0, .int .i64 0, .int .i64 0, .int .i64 0, .map none] 58)).alloc (.map #[] 0)).alloc (.cells #[.int .u32 0, .int .i64 0, .int .i64 0, .int .i64 0, .int .i64 0, .map (some (q + 1))] 58)) = X := ⟨_, rfl⟩
  rw [hW3] at e2 e4 eM eX hsz ⊢
  clear hW3
  replace e2 := hidden e2
  replace e4 := hidden e4
  replace eM := hidden eM
  replace eX := hidden eX
  replace hsz := hidden hsz
  replace hq := hidden hq
  clear hmm
  go_loopw [21] (fun i wr => ∃ k : Nat, i = .int .i64 (k : Int) ∧ k ≤ n ∧ Hid (Blk wr q 58 [.int .u32 0, .int .i64 0, .int .i64 0, .int .i64 0, .int .i64 0, .map none]) ∧ Hid (Blk wr (q + 1 + 1) 58 (setC (colF (X.take k)).1 (q + 1))) ∧ Hid (MapM wr (q + 1) (q + 1 + 1 + 1) (colF (X.take k)).2) ∧ Hid (Ext w wr) ∧ Hid (q + 1 + 1 + 1 ≤ wr.heap.size)) (fun i _ => n - (intOf i).toNat)
  case atStart => exact ⟨0, rfl, by omega, e2, e4, eM, eX, hidden (Nat.le_of_eq hsz.out.symm)⟩
  case round =>
    obtain ⟨k, rfl, hk, hB2, hB4, hM, hX, hqs⟩ := hrel
    have v1 : IntKind.i64.wrap ((k : Int) + 1) = (k : Int) + 1 := IntWalk.i64_in _ (by omega)
    obtain ⟨w4, hWW⟩ : ∃ X, X = wr := ⟨_, rfl⟩
    subst hWW
    by_cases hlt : k < n
    · have hlt2 : (k : Int) < (n : Int) := by omega
      obtain ⟨b', off', a1, c1, rfl, cR, hrd⟩ := (hr.out.ext hX.out).row k hlt
      have hmem := getD_mem (show k < X.length by omega) []
      have hst : colF (X.take (k + 1)) = colS (colF (X.take k)) (X.getD k []) := by
        have e3 : X[k]? = some (X.getD k []) := by simp [List.getD, show k < X.length by omega]
        rw [List.take_add_one, e3]
        exact colF_snoc _ _
      have hc := hhd.out _ (X.getD k []) (hXb.out _ hmem) (hXl.out _ hmem) w4 hrd
      obtain ⟨x, hx⟩ : ∃ x, X.getD k [] = x := ⟨_, rfl⟩
      obtain ⟨hd, hhd0⟩ : ∃ y, (colF (X.take k)).1 = y := ⟨_, rfl⟩
      obtain ⟨es, hes⟩ : ∃ y, (colF (X.take k)).2 = y := ⟨_, rfl⟩
      have hpair : colF (X.take k) = (hd, es) := by rw [← hhd0, ← hes]
      rw [hx, hpair] at hst
      rw [hx] at hc cR
      rw [hhd0] at hB4
      rw [hes] at hM
      obtain ⟨m, hm⟩ : ∃ m, x.length = m := ⟨_, rfl⟩
      rw [hm] at cR hc
      unfold colS at hst
      unfold HdP at hc
      obtain ⟨er, her⟩ : ∃ y, (hdF x).1 = y := ⟨_, rfl⟩
      obtain ⟨ns, hns⟩ : ∃ y, (hdF x).2.1 = y := ⟨_, rfl⟩
      obtain ⟨part, hpart⟩ : ∃ y, (hdF x).2.2 = y := ⟨_, rfl⟩
      rw [her, hns, hpart] at hst
      simp only [her, hns, hpart] at hc
      unfold vH at hc
      obtain ⟨f0, hf0⟩ : ∃ y, ns.getD 0 0 = y := ⟨_, rfl⟩
      obtain ⟨f1, hf1⟩ : ∃ y, ns.getD 1 0 = y := ⟨_, rfl⟩
      obtain ⟨f2, hf2⟩ : ∃ y, ns.getD 2 0 = y := ⟨_, rfl⟩
      obtain ⟨f3, hf3⟩ : ∃ y, ns.getD 3 0 = y := ⟨_, rfl⟩
      obtain ⟨f4, hf4⟩ : ∃ y, ns.getD 4 0 = y := ⟨_, rfl⟩
      simp only [hf0, hf1, hf2, hf3, hf4] at hc
      replace hc := hidden hc
      clear hrd hmem hx hpair hhd0 hes hm her hns hpart
      by_cases h0 : er = 0
      · have g0 : (er != 0) = false := by simp [h0]
        rw [if_neg (by simpa using h0)] at hst
        simp only at hst
        subst h0
        replace hst := hidden hst
        go_wp2_with fail
        refine hc.out.mono ?_
        rintro e w5 ⟨v5, rfl, hO5, hX5⟩
        obtain ⟨ua, uc, rfl⟩ := rd8_one hO5.rd
        obtain ⟨l, hl1, hl2, hl3⟩ := hM.out
        obtain ⟨p7, hp7⟩ : ∃ y, w5.heap.size = y := ⟨_, rfl⟩
        have hl5 := tbl_ext hX5 hl1
        go_upto_region 11 with fail
        have b7 : Blk (w5.alloc (.cells #[.int .u32 f0, .int .i64 0, .int .i64 f2, .int .i64 f3, .int .i64 f4] 47)) p7 47 [.int .u32 f0, .int .i64 0, .int .i64 f2, .int .i64 f3, .int .i64 f4] := blk_newAt' w5 _ _ p7 hp7
        have hX6 : Ext w5 (w5.alloc (.cells #[.int .u32 f0, .int .i64 0, .int .i64 f2, .int .i64 f3, .int .i64 f4] 47)) := (Ext.refl w5).alloc _
        obtain ⟨w6, hw6⟩ : ∃ X, w5.alloc (.cells #[.int .u32 f0, .int .i64 0, .int .i64 f2, .int .i64 f3, .int .i64 f4] 47) = X := ⟨_, rfl⟩
        rw [hw6] at b7 hX6 ⊢
        clear hw6
        have b4 := (hB4.out.ext hX5).ext hX6
        obtain ⟨g0', hg0⟩ : ∃ y, hd.getD 0 0 = y := ⟨_, rfl⟩
        obtain ⟨g1', hg1⟩ : ∃ y, hd.getD 1 0 = y := ⟨_, rfl⟩
        obtain ⟨g2', hg2⟩ : ∃ y, hd.getD 2 0 = y := ⟨_, rfl⟩
        obtain ⟨g3', hg3⟩ : ∃ y, hd.getD 3 0 = y := ⟨_, rfl⟩
        obtain ⟨g4', hg4⟩ : ∃ y, hd.getD 4 0 = y := ⟨_, rfl⟩
        unfold setC vH at b4
        rw [hg0, hg1, hg2, hg3, hg4] at b4
        simp only [List.cons_append, List.nil_append] at b4
        by_cases hese : es = []
        · subst hese
          obtain rfl : l = [] := List.eq_nil_of_length_eq_zero (by simpa using hl2)
          have hl6 := tbl_ext hX6 hl5
          have hlen : ∀ ty, (Builtin.len_ #[56] ty #[.map (some (q + 1))]).run Try.prog w6 = .ok (.int .i64 0) w6 := fun ty => run_len_tbl Try.underlying56 [] hl6
          have c45 := b4.cell 5 _ rfl
          have c40 := b4.cell 0 _ rfl
          have c41 := b4.cell 1 _ rfl
          have c42 := b4.cell 2 _ rfl
          have c43 := b4.cell 3 _ rfl
          have c44 := b4.cell 4 _ rfl
          have f40 := b4.frozen 0
          have f41 := b4.frozen 1
          have f42 := b4.frozen 2
          have f43 := b4.frozen 3
          have f44 := b4.frozen 4
          have hi47 : (Try.prog.info? 47).map (·.size) = some 5 := by kernel_rfl
          go_upto_region 12 with fail
          go_upto_region 13 with (refine wpList_load_row rfl 47 (.tmp 7) rfl p7 rfl 47 #[.int .u32 f0, .int .i64 0, .int .i64 f2, .int .i64 f3, .int .i64 f4] (0, 0) _ b7 Try.underlying47 rfl hi47 ?_)
          have hn47 : p7 ≠ q + 1 + 1 := by have := hqs.out; have := hX5.size; omega
          have b47 : Blk (((((w6.setCell ⟨q + 1 + 1, 0, none⟩ (.int .u32 f0)).setCell ⟨q + 1 + 1, 1, none⟩ (.int .i64 0)).setCell ⟨q + 1 + 1, 2, none⟩ (.int .i64 f2)).setCell ⟨q + 1 + 1, 3, none⟩ (.int .i64 f3)).setCell ⟨q + 1 + 1, 4, none⟩ (.int .i64 f4)) (q + 1 + 1) 58 [.int .u32 f0, .int .i64 0, .int .i64 f2, .int .i64 f3, .int .i64 f4, .map (some (q + 1))] := ((((b4.set 0 (.int .u32 f0)).set 1 (.int .i64 0)).set 2 (.int .i64 f2)).set 3 (.int .i64 f3)).set 4 (.int .i64 f4)
          have b77 : Blk (((((w6.setCell ⟨q + 1 + 1, 0, none⟩ (.int .u32 f0)).setCell ⟨q + 1 + 1, 1, none⟩ (.int .i64 0)).setCell ⟨q + 1 + 1, 2, none⟩ (.int .i64 f2)).setCell ⟨q + 1 + 1, 3, none⟩ (.int .i64 f3)).setCell ⟨q + 1 + 1, 4, none⟩ (.int .i64 f4)) p7 47 [.int .u32 f0, .int .i64 0, .int .i64 f2, .int .i64 f3, .int .i64 f4] := ((((b7.set_other hn47 _).set_other hn47 _).set_other hn47 _).set_other hn47 _).set_other hn47 _
          have hC67 : Chg [q + 1 + 1] w6 (((((w6.setCell ⟨q + 1 + 1, 0, none⟩ (.int .u32 f0)).setCell ⟨q + 1 + 1, 1, none⟩ (.int .i64 0)).setCell ⟨q + 1 + 1, 2, none⟩ (.int .i64 f2)).setCell ⟨q + 1 + 1, 3, none⟩ (.int .i64 f3)).setCell ⟨q + 1 + 1, 4, none⟩ (.int .i64 f4)) := (((((Chg.refl [q + 1 + 1] w6).setCell (Or.inl (by simp)) _).setCell (Or.inl (by simp)) _).setCell (Or.inl (by simp)) _).setCell (Or.inl (by simp)) _).setCell (Or.inl (by simp)) _
          obtain ⟨w7, hw7⟩ : ∃ X, (((((w6.setCell ⟨q + 1 + 1, 0, none⟩ (.int .u32 f0)).setCell ⟨q + 1 + 1, 1, none⟩ (.int .i64 0)).setCell ⟨q + 1 + 1, 2, none⟩ (.int .i64 f2)).setCell ⟨q + 1 + 1, 3, none⟩ (.int .i64 f3)).setCell ⟨q + 1 + 1, 4, none⟩ (.int .i64 f4)) = X := ⟨_, rfl⟩
          rw [hw7] at b47 b77 hC67 ⊢
          clear hw7 c40 c41 c42 c43 c44 c45 f40 f41 f42 f43 f44 b4
          have hl7 := hC67.heap (b := q + 1) (by simp) hl6
          have d0 := b47.cell 0 _ rfl
          have d1 := b47.cell 1 _ rfl
          have d2 := b47.cell 2 _ rfl
          have d3 := b47.cell 3 _ rfl
          have d4 := b47.cell 4 _ rfl
          have d5 := b47.cell 5 _ rfl
          have hlk : (Instr.lookup 56 (.map (some (q + 1))) (.int .i64 f1) true).run Try.prog w7 = .ok (.tuple #[.slice none 0 0, .bool false]) w7 := run_look_none Try.underlying56 Try.underlying3 [] hl7 f1 (.slice none 0 0) (by rfl) rfl
          go_upto_region 14 with fail
          go_upto_region 15 with (refine wpList_load_row rfl 47 (.tmp 7) rfl p7 rfl 47 #[.int .u32 f0, .int .i64 0, .int .i64 f2, .int .i64 f3, .int .i64 f4] (0, 0) _ b77 Try.underlying47 rfl hi47 ?_)
          have hins := run_insert_at (P := Try.prog) Try.underlying56 Try.underlying3 [] hl7 f1 (.slice ua part.length uc) rfl
          have hX57 : Chg [q + 1 + 1] w5 w7 := (Chg.of_ext _ hX6).trans hC67 (fun x hx => Or.inl hx)
          have hX47 : Chg [q + 1 + 1] w4 w7 := (Chg.of_ext _ hX5).trans hX57 (fun x hx => Or.inl hx)
          have hO7 := hO5.rd.chg hX57 (fun x hx _ e => by have := (own_lt hO5 e).1; have := hqs.out; simp at hx; omega)
          have hMp := MapM.put (es := []) (l := []) hl7 rfl (fun i p e hp _ => by simp at hp) (show q + 1 < q + 1 + 1 + 1 by omega) f1 (.slice ua part.length uc) part hO7 (fun g hg => by have := (own_lt hO5 hg).1; have := hqs.out; omega)
          have hC78 := chg_setBlock w7 (q + 1) (tblObj ([] ++ [(f1, .slice ua part.length uc)]))
          have hfin : Hid (Blk (setBlock w7 (q + 1) (tblObj ([] ++ [(f1, .slice ua part.length uc)]))) q 58 [.int .u32 0, .int .i64 0, .int .i64 0, .int .i64 0, .int .i64 0, .map none] ∧ Blk (setBlock w7 (q + 1) (tblObj ([] ++ [(f1, .slice ua part.length uc)]))) (q + 1 + 1) 58 (setC (colF (X.take (k + 1))).1 (q + 1)) ∧ MapM (setBlock w7 (q + 1) (tblObj ([] ++ [(f1, .slice ua part.length uc)]))) (q + 1) (q + 1 + 1 + 1) (colF (X.take (k + 1))).2 ∧ Ext w (setBlock w7 (q + 1) (tblObj ([] ++ [(f1, .slice ua part.length uc)]))) ∧ q + 1 + 1 + 1 ≤ (setBlock w7 (q + 1) (tblObj ([] ++ [(f1, .slice ua part.length uc)]))).heap.size) := hidden (by
            rw [hst.out, if_pos rfl]
            refine ⟨(hB2.out.chg hX47 (by simp; omega)).chg hC78 (by simp), ?_, ?_, Chg.ext (((Chg.of_ext [] hX.out).trans hX47 (fun x hx => Or.inr (by have := hq.out; simp at hx; omega))).trans hC78 (fun x hx => Or.inr (by have := hq.out; simp at hx; omega))), Nat.le_trans hqs.out (Nat.le_trans hX47.size hC78.size)⟩
            · unfold setC
              rw [vH_set, hf0, hf2, hf3, hf4]
              exact b47.chg hC78 (by simp)
            · rw [hf1]; exact hMp)
          clear hMp hO7 hX57 hX47 hC78 hl7 hl6 b47 b77 hlk hlen d0 d1 d2 d3 d4
          go_wp2_with fail
          exact ⟨⟨k + 1, by go_num, by omega, hidden hfin.out.1, hidden hfin.out.2.1, hidden hfin.out.2.2.1, hidden hfin.out.2.2.2.1, hidden hfin.out.2.2.2.2⟩, by simp [intOf]; omega⟩
        · have hlp : ((l.length : Int) == 0) = false := by
            have : l.length ≠ 0 := fun h => hese (List.eq_nil_of_length_eq_zero (by omega))
            simp only [beq_eq_false_iff_ne, ne_eq]
            exact fun h => this (by simpa using h)
          have hl6 := tbl_ext hX6 hl5
          have hX46 : Ext w4 w6 := hX5.trans hX6
          have hlen : ∀ ty, (Builtin.len_ #[56] ty #[.map (some (q + 1))]).run Try.prog w6 = .ok (.int .i64 (l.length : Int)) w6 := fun ty => run_len_tbl Try.underlying56 l hl6
          have c45 := b4.cell 5 _ rfl
          have c40 := b4.cell 0 _ rfl
          have c41 := b4.cell 1 _ rfl
          have c42 := b4.cell 2 _ rfl
          have c43 := b4.cell 3 _ rfl
          have c44 := b4.cell 4 _ rfl
          have hi47 : (Try.prog.info? 47).map (·.size) = some 5 := by kernel_rfl
          obtain ⟨ln', hln⟩ : ∃ y, l.length = y := ⟨_, rfl⟩
          rw [hln] at hlp hlen
          have hst1 := hst.out
          rw [if_neg hese] at hst1
          replace hese := hidden hese
          by_cases hsame : same5 ns hd
          · have heq : ∀ W, (binOp .eql 47 (.agg #[.int .u32 f0, .int .i64 0, .int .i64 f2, .int .i64 f3, .int .i64 f4]) (.agg #[.int .u32 g0', .int .i64 g1', .int .i64 g2', .int .i64 g3', .int .i64 g4'])).run Try.prog W = .ok (.bool true) W := fun W => by
              rw [eql47]
              unfold same5 at hsame
              rw [hf0, hf2, hf3, hf4, hg0, hg1, hg2, hg3, hg4] at hsame
              rw [decide_eq_true hsame]
            by_cases hth : ∃ p ∈ l, p.1 = f1
            · obtain ⟨vv, hvv⟩ := look_some hth
              have hlk : (Instr.lookup 56 (.map (some (q + 1))) (.int .i64 f1) true).run Try.prog w6 = .ok (.tuple #[vv, .bool true]) w6 := run_look Try.underlying56 Try.underlying3 l hl6 f1 vv hvv
              have hst2 : colF (X.take (k + 1)) = (hd, es) := by
                rw [hst1, if_neg (fun h => h.2 (by rw [hf1]; exact (MapM.keys hl2 hl3 f1).1 hth))]
              have hfin : Hid (Blk (w6) q 58 [.int .u32 0, .int .i64 0, .int .i64 0, .int .i64 0, .int .i64 0, .map none] ∧ Blk (w6) (q + 1 + 1) 58 (setC (colF (X.take (k + 1))).1 (q + 1)) ∧ MapM (w6) (q + 1) (q + 1 + 1 + 1) (colF (X.take (k + 1))).2 ∧ Ext w (w6) ∧ q + 1 + 1 + 1 ≤ (w6).heap.size) := hidden (by
                rw [hst2]
                exact ⟨hB2.out.ext hX46, hB4.out.ext hX46, hM.out.chg (Chg.of_ext [] hX46) (by simp), hX.out.trans hX46, Nat.le_trans hqs.out hX46.size⟩)
              replace heq := hidden heq
              clear hsame hth hst1 hst2 hvv hf0 hf1 hf2 hf3 hf4 hg0 hg1 hg2 hg3 hg4
              clear hl6 hl5 hl1 hl2 hl3 b4 hO5 hX5 hX6 hX46 hM hB4 hB2
              go_upto_region 14 with fail
              replace heq := heq.out
              go_wp2_with (refine wpList_load_row rfl 47 (.tmp 7) rfl p7 rfl 47 #[.int .u32 f0, .int .i64 0, .int .i64 f2, .int .i64 f3, .int .i64 f4] (0, 0) _ b7 Try.underlying47 rfl hi47 ?_)
              exact ⟨⟨k + 1, by go_num, by omega, hidden hfin.out.1, hidden hfin.out.2.1, hidden hfin.out.2.2.1, hidden hfin.out.2.2.2.1, hidden hfin.out.2.2.2.2⟩, by simp [intOf]; omega⟩
            · have hlk : (Instr.lookup 56 (.map (some (q + 1))) (.int .i64 f1) true).run Try.prog w6 = .ok (.tuple #[.slice none 0 0, .bool false]) w6 := run_look_none Try.underlying56 Try.underlying3 l hl6 f1 (.slice none 0 0) (by rfl) (look_none (fun p hp e => hth ⟨p, hp, e⟩))
              have hst2 : colF (X.take (k + 1)) = (hd, es ++ [(f1, part)]) := by
                rw [hst1, if_pos ⟨hsame, fun h => hth ((MapM.keys hl2 hl3 f1).2 (by rw [hf1] at h; exact h))⟩, hf1]
              have hins := run_insert_at (P := Try.prog) Try.underlying56 Try.underlying3 l hl6 f1 (.slice ua part.length uc) (look_none (fun p hp e => hth ⟨p, hp, e⟩))
              have hO6 := hO5.rd.ext hX6
              have hMp := MapM.put (W := w6) hl6 hl2 (fun i p e hp he => by
                obtain ⟨y1, y2, y3⟩ := hl3 i p e hp he
                exact ⟨y1, y2.ext hX46, y3⟩) (show q + 1 < q + 1 + 1 + 1 by omega) f1 (.slice ua part.length uc) part hO6 (fun g hg => by have := (own_lt hO5 hg).1; have := hqs.out; omega)
              have hC68 := chg_setBlock w6 (q + 1) (tblObj (l ++ [(f1, .slice ua part.length uc)]))
              have hfin : Hid (Blk (setBlock w6 (q + 1) (tblObj (l ++ [(f1, .slice ua part.length uc)]))) q 58 [.int .u32 0, .int .i64 0, .int .i64 0, .int .i64 0, .int .i64 0, .map none] ∧ Blk (setBlock w6 (q + 1) (tblObj (l ++ [(f1, .slice ua part.length uc)]))) (q + 1 + 1) 58 (setC (colF (X.take (k + 1))).1 (q + 1)) ∧ MapM (setBlock w6 (q + 1) (tblObj (l ++ [(f1, .slice ua part.length uc)]))) (q + 1) (q + 1 + 1 + 1) (colF (X.take (k + 1))).2 ∧ Ext w (setBlock w6 (q + 1) (tblObj (l ++ [(f1, .slice ua part.length uc)]))) ∧ q + 1 + 1 + 1 ≤ (setBlock w6 (q + 1) (tblObj (l ++ [(f1, .slice ua part.length uc)]))).heap.size) := hidden (by
                rw [hst2]
                exact ⟨(hB2.out.ext hX46).chg hC68 (by simp), (hB4.out.ext hX46).chg hC68 (by simp), hMp, Chg.ext ((Chg.of_ext [] (hX.out.trans hX46)).trans hC68 (fun x hx => Or.inr (by have := hq.out; simp at hx; omega))), Nat.le_trans hqs.out (Nat.le_trans hX46.size hC68.size)⟩)
              replace heq := hidden heq
              clear hsame hth hst1 hst2 hMp hO6 hC68 hf0 hf1 hf2 hf3 hf4 hg0 hg1 hg2 hg3 hg4
              clear hl6 hl5 hl1 hl2 hl3 b4 hO5 hX5 hX6 hX46 hM hB4 hB2
              go_upto_region 14 with fail
              replace heq := heq.out
              go_wp2_with (refine wpList_load_row rfl 47 (.tmp 7) rfl p7 rfl 47 #[.int .u32 f0, .int .i64 0, .int .i64 f2, .int .i64 f3, .int .i64 f4] (0, 0) _ b7 Try.underlying47 rfl hi47 ?_)
              exact ⟨⟨k + 1, by go_num, by omega, hidden hfin.out.1, hidden hfin.out.2.1, hidden hfin.out.2.2.1, hidden hfin.out.2.2.2.1, hidden hfin.out.2.2.2.2⟩, by simp [intOf]; omega⟩
          · have heq : ∀ W, (binOp .eql 47 (.agg #[.int .u32 f0, .int .i64 0, .int .i64 f2, .int .i64 f3, .int .i64 f4]) (.agg #[.int .u32 g0', .int .i64 g1', .int .i64 g2', .int .i64 g3', .int .i64 g4'])).run Try.prog W = .ok (.bool false) W := fun W => by
              rw [eql47]
              unfold same5 at hsame
              rw [hf0, hf2, hf3, hf4, hg0, hg1, hg2, hg3, hg4] at hsame
              rw [decide_eq_false hsame]
            have hst2 : colF (X.take (k + 1)) = (hd, es) := by
              rw [hst1, if_neg (fun h => hsame h.1)]
            obtain ⟨vv, ok, hlk⟩ : ∃ vv ok, (Instr.lookup 56 (.map (some (q + 1))) (.int .i64 f1) true).run Try.prog w6 = .ok (.tuple #[vv, .bool ok]) w6 := by
              by_cases hth : ∃ p ∈ l, p.1 = f1
              · obtain ⟨vv, hvv⟩ := look_some hth
                exact ⟨vv, true, run_look Try.underlying56 Try.underlying3 l hl6 f1 vv hvv⟩
              · exact ⟨.slice none 0 0, false, run_look_none Try.underlying56 Try.underlying3 l hl6 f1 (.slice none 0 0) (by rfl) (look_none (fun p hp e => hth ⟨p, hp, e⟩))⟩
            have hfin : Hid (Blk (w6) q 58 [.int .u32 0, .int .i64 0, .int .i64 0, .int .i64 0, .int .i64 0, .map none] ∧ Blk (w6) (q + 1 + 1) 58 (setC (colF (X.take (k + 1))).1 (q + 1)) ∧ MapM (w6) (q + 1) (q + 1 + 1 + 1) (colF (X.take (k + 1))).2 ∧ Ext w (w6) ∧ q + 1 + 1 + 1 ≤ (w6).heap.size) := hidden (by
              rw [hst2]
              exact ⟨hB2.out.ext hX46, hB4.out.ext hX46, hM.out.chg (Chg.of_ext [] hX46) (by simp), hX.out.trans hX46, Nat.le_trans hqs.out hX46.size⟩)
            replace heq := hidden heq
            clear hsame hst1 hst2 hf0 hf1 hf2 hf3 hf4 hg0 hg1 hg2 hg3 hg4
            clear hl6 hl5 hl1 hl2 hl3 b4 hO5 hX5 hX6 hX46 hM hB4 hB2
            go_upto_region 14 with fail
            replace heq := heq.out
            go_wp2_with (refine wpList_load_row rfl 47 (.tmp 7) rfl p7 rfl 47 #[.int .u32 f0, .int .i64 0, .int .i64 f2, .int .i64 f3, .int .i64 f4] (0, 0) _ b7 Try.underlying47 rfl hi47 ?_)
            exact ⟨⟨k + 1, by go_num, by omega, hidden hfin.out.1, hidden hfin.out.2.1, hidden hfin.out.2.2.1, hidden hfin.out.2.2.2.1, hidden hfin.out.2.2.2.2⟩, by simp [intOf]; omega⟩
      · have g0 : (er != 0) = true := by simp [h0]
        rw [if_pos h0] at hst
        replace hst := hidden hst
        replace h0 := hidden h0
        go_wp2_with fail
        refine hc.out.mono ?_
        rintro e w5 ⟨v5, rfl, hO5, hX5⟩
        obtain ⟨ua, uc, rfl⟩ := rd8_one hO5.rd
        have hX6 : Ext w4 (w5.alloc (.cells #[.int .u32 f0, .int .i64 f1, .int .i64 f2, .int .i64 f3, .int .i64 f4] 47)) := hX5.alloc _
        have hfin : Hid (Blk (w5.alloc (.cells #[.int .u32 f0, .int .i64 f1, .int .i64 f2, .int .i64 f3, .int .i64 f4] 47)) q 58 [.int .u32 0, .int .i64 0, .int .i64 0, .int .i64 0, .int .i64 0, .map none] ∧ Blk (w5.alloc (.cells #[.int .u32 f0, .int .i64 f1, .int .i64 f2, .int .i64 f3, .int .i64 f4] 47)) (q + 1 + 1) 58 (setC (colF (X.take (k + 1))).1 (q + 1)) ∧ MapM (w5.alloc (.cells #[.int .u32 f0, .int .i64 f1, .int .i64 f2, .int .i64 f3, .int .i64 f4] 47)) (q + 1) (q + 1 + 1 + 1) (colF (X.take (k + 1))).2 ∧ Ext w (w5.alloc (.cells #[.int .u32 f0, .int .i64 f1, .int .i64 f2, .int .i64 f3, .int .i64 f4] 47)) ∧ q + 1 + 1 + 1 ≤ (w5.alloc (.cells #[.int .u32 f0, .int .i64 f1, .int .i64 f2, .int .i64 f3, .int .i64 f4] 47)).heap.size) := hidden (by
          rw [hst.out]
          exact ⟨hB2.out.ext hX6, hB4.out.ext hX6, hM.out.chg (Chg.of_ext [] hX6) (by simp), hX.out.trans hX6, Nat.le_trans hqs.out hX6.size⟩)
        clear hO5 hX5 hX6 hc
        go_wp2_with fail
        exact ⟨⟨k + 1, by go_num, by omega, hidden hfin.out.1, hidden hfin.out.2.1, hidden hfin.out.2.2.1, hidden hfin.out.2.2.2.1, hidden hfin.out.2.2.2.2⟩, by simp [intOf]; omega⟩
    · have hke : k = n := by omega
      have hk8 : decide ((k : Int) < (n : Int)) = false := decide_eq_false (by omega)
      rw [hke, List.take_of_length_le (by omega)] at hB4 hM
      clear hke
      obtain ⟨hd, hhd0⟩ : ∃ y, (colF X).1 = y := ⟨_, rfl⟩
      obtain ⟨es, hes⟩ : ∃ y, (colF X).2 = y := ⟨_, rfl⟩
      rw [hhd0] at hB4
      rw [hes] at hM
      obtain ⟨l, hl1, hl2, hl3⟩ := hM.out
      have hlen : ∀ ty, (Builtin.len_ #[56] ty #[.map (some (q + 1))]).run Try.prog w4 = .ok (.int .i64 (l.length : Int)) w4 := fun ty => run_len_tbl Try.underlying56 l hl1
      have hi58 : (Try.prog.info? 58).map (·.size) = some 6 := by kernel_rfl
      have hr2 : w4.heap[q]? = some (.cells #[.int .u32 0, .int .i64 0, .int .i64 0, .int .i64 0, .int .i64 0, .map none] 58 (0, 0)) := hB2.out
      have hr4 : w4.heap[q + 1 + 1]? = some (.cells (setC hd (q + 1)).toArray 58 (0, 0)) := hB4.out
      have c45 := Blk.cell (show Blk w4 (q + 1 + 1) 58 (setC hd (q + 1)) from hr4) 5 (.map (some (q + 1))) rfl
      obtain ⟨ln', hln⟩ : ∃ y, l.length = y := ⟨_, rfl⟩
      rw [hln] at hlen
      by_cases hese : es = []
      · have hl0 : ((ln' : Int) == 0) = true := by rw [← hln, hl2, hese]; rfl
        have hX2 : Ext w (w4.setRow q #[.int .u32 0, .int .i64 0, .int .i64 0, .int .i64 0, .int .i64 0, .map none]) := below_setRow hX.out (by rw [hq.out]; exact Nat.le_refl _) _
        have hrow : (w4.setRow q #[.int .u32 0, .int .i64 0, .int .i64 0, .int .i64 0, .int .i64 0, .map none]).heap[q]? = some (.cells #[.int .u32 0, .int .i64 0, .int .i64 0, .int .i64 0, .int .i64 0, .map none] 58 (0, 0)) := setRow_heap _ q _ _ 58 _ hr2
        have hfin : Hid ((colF X).2 = [] ∧ Ext w (w4.setRow q #[.int .u32 0, .int .i64 0, .int .i64 0, .int .i64 0, .int .i64 0, .map none])) := hidden ⟨by rw [hes, hese], hX2⟩
        clear hhd0 hes hese hl1 hl2 hl3 hln hM hX2
        go_wp2_with (refine wpList_store_row rfl 58 (.tmp 2) (.tmp 66) rfl q #[.int .u32 0, .int .i64 0, .int .i64 0, .int .i64 0, .int .i64 0, .map none] rfl rfl 58 _ hr2 hi58 rfl (by simp [Value.oneCell']) ?_)
        refine bodyPost_ret (results_row2 (p := 2) (a := 3) (ty := 58) (by kernel_rfl) _ _ q 58 #[.int .u32 0, .int .i64 0, .int .i64 0, .int .i64 0, .int .i64 0, .map none] (0, 0) _ rfl hrow Try.underlying58 rfl hi58 _ rfl) rfl ?_
        exact Or.inl ⟨hfin.out.1, rfl, hfin.out.2⟩
      · have hl0 : ((ln' : Int) == 0) = false := by
          have : ln' ≠ 0 := fun h => hese (List.eq_nil_of_length_eq_zero (by omega))
          simp only [beq_eq_false_iff_ne, ne_eq]
          exact fun h => this (by simpa using h)
        have hX2 : Ext w (w4.setRow q (setC hd (q + 1)).toArray) := below_setRow hX.out (by rw [hq.out]; exact Nat.le_refl _) _
        have hrow : (w4.setRow q (setC hd (q + 1)).toArray).heap[q]? = some (.cells (setC hd (q + 1)).toArray 58 (0, 0)) := setRow_heap _ q _ _ 58 _ hr2
        have hfin : Hid ((colF X).2 ≠ [] ∧ MapM (w4.setRow q (setC hd (q + 1)).toArray) (q + 1) (q + 1 + 1 + 1) (colF X).2 ∧ Ext w (w4.setRow q (setC hd (q + 1)).toArray)) := hidden ⟨by rw [hes]; exact hese, by rw [hes]; exact hM.out.chg (chg_setRow w4 q _) (by simp; omega), hX2⟩
        replace hhd0 := hidden hhd0
        replace hrow := hidden hrow
        clear hes hese hl1 hl2 hl3 hln hM hX2
        go_wp2_with (first | (refine wpList_load_row rfl 58 (.tmp 4) rfl (q + 1 + 1) rfl 58 (setC hd (q + 1)).toArray (0, 0) _ hr4 Try.underlying58 rfl hi58 ?_) | (refine wpList_store_row rfl 58 (.tmp 2) (.tmp 67) rfl q (setC hd (q + 1)).toArray rfl rfl 58 _ hr2 hi58 rfl (by simp [setC, vH, Value.oneCell']) ?_))
        refine bodyPost_ret (results_row2 (p := 2) (a := 3) (ty := 58) (by kernel_rfl) _ _ q 58 (setC hd (q + 1)).toArray (0, 0) _ rfl hrow.out Try.underlying58 rfl hi58 _ rfl) rfl ?_
        exact Or.inr ⟨hfin.out.1, q + 1, q + 1 + 1 + 1, by rw [hhd0.out]; rfl, by rw [hq.out]; omega, by omega, hfin.out.2.1, hfin.out.2.2⟩
end Go.Proofs.Ytpfelklhejpnnaa
