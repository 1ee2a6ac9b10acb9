/- slices.Contains, slices.Index of strings; fresh. -/
import Derived.Test.YthjnchjfmbblfaaGreatDoorUzc
namespace Go.Proofs.YthjnchjfmbblfaaGreatDoor
open Go.RowKit Go.ChangeMaps Go.MapKept
set_option linter.unusedVariables false
set_option linter.unusedSimpArgs false
attribute [local go_sem ↓] Go.wp_at_zero Go.wp_at_succ

def ba (l : List UInt8) : ByteArray := ⟨l.toArray⟩
theorem ba_inj {k l : List UInt8} (h : ba k = ba l) : k = l := by
  have := congrArg (fun b : ByteArray => b.data.toList) h
  simpa [ba] using this
theorem idx_from (x : List UInt8) : ∀ (L : List (List UInt8)) (k : Nat), Lib.idxFromS (L.map ba) (ba x) k = if x ∈ L then ((k + L.idxOf x : Nat) : Int) else -1
  | [], k => by simp [Lib.idxFromS]
  | y :: L, k => by
    have ih := idx_from x L (k + 1)
    rw [List.map_cons, Lib.idxFromS]
    by_cases h : y = x
    · subst h
      simp
    · have h1 : ¬ ba y = ba x := fun e => h (ba_inj e)
      have h2 : ¬ x = y := fun e => h e.symm
      rw [if_neg h1, ih]
      have h3 : (y == x) = false := by simpa using h
      by_cases hm : x ∈ L
      · rw [if_pos hm, if_pos (List.mem_cons_of_mem _ hm), List.idxOf_cons, h3]
        show ((k + 1 + L.idxOf x : Nat) : Int) = ((k + (L.idxOf x + 1) : Nat) : Int)
        omega
      · rw [if_neg hm, if_neg (by simp [h2, hm])]
-- FRESH
theorem sv_ba (l : List UInt8) : sv l = .string (ba l) := rfl
theorem map_sv (L : List (List UInt8)) : L.map sv = (L.map ba).map Value.string := by simp [List.map_map, Function.comp, sv_ba]
theorem idx_strs (v : Value) (L : List (List UInt8)) (x : List UInt8) (w : World) (h : Rd w 1 v L.length (L.map sv)) (hL : L.length ≤ 1000000) :
    Calls Tryz.prog 78 #[v, .string (ba x)] w fun e w' => e = .returned (.int .i64 (if x ∈ L then ((L.idxOf x : Nat) : Int) else -1)) ∧ w' = w := by
  obtain ⟨a, cap, rfl, h1, h2, h3⟩ := Rd.shape h
  have hix := idx_from x L 0
  rw [Nat.zero_add] at hix
  by_cases h0 : L.length = 0
  · obtain rfl := List.eq_nil_of_length_eq_zero h0
    exact Tryz.slices_Index_string_empty a cap (ba x) w
  · obtain ⟨b, off, rfl, hb, hc⟩ := h.cells (by omega)
    have := Tryz.slices_Index_string b off L.length cap (L.map ba) (ba x) w (by simp) (by omega) (fun j hj => by
      have hj' : j < (L.map sv).length := by simpa using hj
      rw [hc j hj']
      rw [map_sv]
      simp at hj
      simp [List.getD, hj])
    rw [List.take_of_length_le (by simp)] at this
    unfold Lib.idxOfS at this
    rw [hix] at this
    exact this
theorem has_strs (v : Value) (L : List (List UInt8)) (x : List UInt8) (w : World) (h : Rd w 1 v L.length (L.map sv)) (hL : L.length ≤ 1000000) :
    Calls Tryz.prog 91 #[v, .string (ba x)] w fun e w' => e = .returned (.bool (decide (x ∈ L))) ∧ w' = w := by
  obtain ⟨a, cap, rfl, h1, h2, h3⟩ := Rd.shape h
  have hix := idx_from x L 0
  rw [Nat.zero_add] at hix
  by_cases h0 : L.length = 0
  · obtain rfl := List.eq_nil_of_length_eq_zero h0
    exact Tryz.slices_Contains_string_empty a cap (ba x) w
  · obtain ⟨b, off, rfl, hb, hc⟩ := h.cells (by omega)
    have := Tryz.slices_Contains_string b off L.length cap (L.map ba) (ba x) w (by simp) (by omega) (fun j hj => by
      have hj' : j < (L.map sv).length := by simpa using hj
      rw [hc j hj']
      rw [map_sv]
      simp at hj
      simp [List.getD, hj])
    rw [List.take_of_length_le (by simp)] at this
    unfold Lib.containsS Lib.idxOfS at this
    rw [hix] at this
    have e : decide ((0 : Int) ≤ if x ∈ L then ((L.idxOf x : Nat) : Int) else -1) = decide (x ∈ L) := by
      by_cases hm : x ∈ L
      · simp [hm]
      · simp [hm]
    rw [e] at this
    exact this
set_option maxHeartbeats 16000000 in
set_option maxRecDepth 100000 in
theorem fresh_any (B r m e : Nat) (s : Src.RS) (w : World) (hR : RMem w B r m e s) (hb : ∀ x ∈ s.ws, x.1.length ≤ 8192) (h8 : s.arr.length ≤ 1000000) (h16 : s.loc.length ≤ 1000000) :
    Calls Tryz.prog 75 #[.pointer (some ⟨r, 0, none⟩)] w (StepP B r m e vW (Src.freshF e s) w) := by
  have X0 : Ext w (w.alloc (.cells #[.string ⟨#[]⟩, .int .i64 0] 86)) := (Ext.refl w).alloc _
  have hnm := name_any B r m e s _ (hR.ext X0) hb
  have HB0 := Blk.new w [.string ⟨#[]⟩, .int .i64 0] 86
  obtain ⟨w1, hw1⟩ : ∃ w1, w.alloc (.cells #[.string ⟨#[]⟩, .int .i64 0] 86) = w1 := ⟨_, rfl⟩
  obtain ⟨q, hq⟩ : ∃ q, w.heap.size = q := ⟨_, rfl⟩
  have hs1 : w1.heap.size = q + 1 := by rw [← hw1, ← hq]; simp
  have hBq : Hid (B ≤ q ∧ r < q) := hidden (by obtain ⟨_, _, _, _, _, h⟩ := hR; rw [← hq]; exact ⟨h.BS, by have := h.rB; have := h.BS; omega⟩)
  rw [hq] at HB0
  rw [hw1] at HB0 X0 hnm
  replace X0 := hidden X0
  replace HB0 := hidden HB0
  cases hnf : Src.nameF e s with
  | error c =>
    rw [hnf] at hnm
    unfold StepP at hnm
    simp only [failW] at hnm
    have hfr : Src.freshF e s = .error c := by unfold Src.freshF; rw [hnf]
    rw [hfr]
    replace hnm := hidden hnm
    go_enter Tryz.func75, Tryz.ntmps75
    go_wp2_with fail
    refine (hnm.out).mono ?_
    rintro x w2 ⟨rfl, hC2⟩
    have hC := (Chg.of_ext [r] X0.out).trans hC2 (fun x hx => Or.inl hx)
    go_wp2
    exact ⟨rfl, rfl, hC⟩
  | ok a =>
    obtain ⟨⟨tx, pl⟩, s'⟩ := a
    have hsame := Src.nameF_same hnf
    obtain ⟨rr, hrr⟩ := hsame
    simp only at hrr
    have k8 : s'.arr.length ≤ 1000000 := by rw [hrr]; exact h8
    have k16 : s'.loc.length ≤ 1000000 := by rw [hrr]; exact h16
    rw [hnf] at hnm
    unfold StepP at hnm
    obtain ⟨T, hT⟩ : ∃ T : ByteArray, ba tx = T := ⟨_, rfl⟩
    have hv : vW (tx, pl) = .agg #[.string T, .int .i64 (pl : Int)] := by rw [← hT]; rfl
    simp only [hv] at hnm
    have hfr : Src.freshF e s = if (Src.conF s'.con tx).isSome ∨ tx ∈ s'.arr ∨ tx ∈ s'.loc then .error (pl, 8) else .ok ((tx, pl), s') := by unfold Src.freshF; rw [hnf]
    have hf := demand_false T (pl : Int) 8
    simp only [failW] at hf
    have ht := demand_true T (pl : Int) 8
    replace hnm := hidden hnm
    replace hf := hidden hf
    replace ht := hidden ht
    replace hv := hidden hv
    replace hfr := hidden hfr
    go_enter Tryz.func75, Tryz.ntmps75
    go_wp2_with fail
    refine (hnm.out).mono ?_
    rintro x w2 ⟨rfl, hR2, hC2⟩
    have X2 := hidden ((Chg.of_ext [r] X0.out).trans hC2 (fun x hx => Or.inl hx))
    have HB2 := HB0.out.chg hC2 (by have := hBq.out.2; simp; omega)
    obtain ⟨w3, hw3⟩ : ∃ w3, w2.alloc (.cells #[.string T, .int .i64 (pl : Int)] 86) = w3 := ⟨_, rfl⟩
    obtain ⟨q3, hq3⟩ : ∃ q, w2.heap.size = q := ⟨_, rfl⟩
    have X3 : Ext w2 w3 := by rw [← hw3]; exact (Ext.refl w2).alloc _
    have HB3 : Blk w3 q3 86 [.string T, .int .i64 (pl : Int)] := by rw [← hw3]; exact blk_newAt' w2 _ _ _ hq3
    obtain ⟨vw, vA, vC, va, vl, hV⟩ := hR2.ext X3
    have c0 := HB3.cell 0 _ rfl
    have c1 := HB3.cell 1 _ rfl
    have d5 := hV.blk.cell 5 _ rfl
    have d6 := hV.blk.cell 6 _ rfl
    have d7 := hV.blk.cell 7 _ rfl
    have hca : Hid (∀ W, Ext w3 W → Calls Tryz.prog 91 #[va, .string T] W fun e w' => e = .returned (.bool (decide (tx ∈ s'.arr))) ∧ w' = W) := hidden (fun W hW => by rw [← hT]; exact has_strs va s'.arr tx W (Rd.of_own (own_ext hV.oa hW)) k8)
    have hcl : Hid (∀ W, Ext w3 W → Calls Tryz.prog 91 #[vl, .string T] W fun e w' => e = .returned (.bool (decide (tx ∈ s'.loc))) ∧ w' = W) := hidden (fun W hW => by rw [← hT]; exact has_strs vl s'.loc tx W (Rd.of_own (own_ext hV.ol hW)) k16)
    have hlk : ∀ W, Ext w3 W → ∃ z, (Instr.lookup 48 (.map (some m)) (.string T) true).run Tryz.prog W = .ok (.tuple #[.int .i64 z, .bool (Src.conF s'.con tx).isSome]) W := by
      intro W hW
      obtain ⟨l, l1, l2⟩ := hV.map.chg (Chg.of_ext [] hW) (by simp)
      have l3 := l2 tx
      rw [show (⟨tx.toArray⟩ : ByteArray) = T from hT] at l3
      cases hc : Src.conF s'.con tx with
      | none =>
        rw [hc] at l3
        exact ⟨0, run_lookS_none Tryz.underlying48 Tryz.underlying9 l l1 T (.int .i64 0) (by kernel_rfl) l3⟩
      | some n =>
        rw [hc] at l3
        exact ⟨(n : Int), run_lookS Tryz.underlying48 Tryz.underlying9 l l1 T (.int .i64 (n : Int)) l3⟩
    obtain ⟨z, hz⟩ : ∃ z, ∀ k, (Instr.lookup 48 (.map (some m)) (.string T) true).run Tryz.prog (w3.drewN k) = .ok (.tuple #[.int .i64 z, .bool (Src.conF s'.con tx).isSome]) (w3.drewN k) := by
      cases hc : Src.conF s'.con tx with
      | none =>
        refine ⟨0, fun k => ?_⟩
        obtain ⟨l, l1, l2⟩ := hV.map.chg (Chg.of_ext [] ((Ext.refl w3).drewN k)) (by simp)
        have l3 := l2 tx
        rw [show (⟨tx.toArray⟩ : ByteArray) = T from hT, hc] at l3
        exact run_lookS_none Tryz.underlying48 Tryz.underlying9 l l1 T (.int .i64 0) (by kernel_rfl) l3
      | some n =>
        refine ⟨(n : Int), fun k => ?_⟩
        obtain ⟨l, l1, l2⟩ := hV.map.chg (Chg.of_ext [] ((Ext.refl w3).drewN k)) (by simp)
        have l3 := l2 tx
        rw [show (⟨tx.toArray⟩ : ByteArray) = T from hT, hc] at l3
        exact run_lookS Tryz.underlying48 Tryz.underlying9 l l1 T (.int .i64 (n : Int)) l3
    obtain ⟨is, his⟩ : ∃ b, (Src.conF s'.con tx).isSome = b := ⟨_, rfl⟩
    simp only [his] at hz
    replace HB2 := hidden (HB2.ext X3)
    replace HB3 := hidden HB3
    replace hR2 := hidden hR2
    have Y3 := hidden X3
    clear X3 hlk hC2 hrr h8 h16 hb hR hV hT k8 k16 hnf hnm
    go_wp2_with fail
    go_quiet (fail)
    obtain ⟨w5, hw5⟩ : ∃ W, w3.drewN nq = W := ⟨_, rfl⟩
    have X5 : Hid (Ext w3 w5) := hidden (by rw [← hw5]; exact (Ext.refl w3).drewN _)
    have e5 := X5.out.cell d5
    have e6 := X5.out.cell d6
    have e0 := X5.out.cell c0
    have e1 := X5.out.cell c1
    rw [hw5]
    clear hz d7 d5 d6 c0 c1 hw5
    have hfail : Hid (((Src.conF s'.con tx).isSome ∨ tx ∈ s'.arr ∨ tx ∈ s'.loc) → ∀ W, Ext w5.drew W → StepP B r m e vW (Src.freshF e s) w (failW (pl : Int) 8) W) := hidden (by
      intro h0 W hW
      unfold StepP
      rw [hfr.out, if_pos h0]
      exact ⟨rfl, X2.out.trans (Chg.of_ext [] ((Y3.out.trans X5.out.drew).trans hW)) (by simp)⟩)
    have hca' := hidden (hca.out w5.drew X5.out.drew)
    have hcl' := hidden (hcl.out w5.drew X5.out.drew)
    clear hca hcl
    go_wp2_with fail
    rename_i KK hKK
    cases is with
    | true =>
      have hF := hidden (hfail.out (Or.inl his))
      clear hfail
      refine wp_region_D (S := fun w' : World => w'.cell? ⟨r, 5, none⟩ = some va ∧ w'.cell? ⟨r, 6, none⟩ = some vl ∧ w'.cell? ⟨q3, 0, none⟩ = some (.string T) ∧ w'.cell? ⟨q3, 1, none⟩ = some (.int .i64 (pl : Int))) (D := []) (by kernel_rfl) ⟨e5, e6, e0, e1⟩ (fun HS => ?_)
      refine takeD 0 [] (.agg #[.string T, .int .i64 (pl : Int)]) rfl rfl (by kernel_rfl) (by kernel_rfl) (by kernel_rfl) (by kernel_rfl) (by decide) (by decide) (fun _ _ _ h => h) (by rfl) (fun w' hw' => by obtain ⟨s1, s2, s3, s4⟩ := hw'; go_simp) HS ?_
      try simp only [List.setIfInBounds_toArray, List.set_cons_zero, List.set_cons_succ]
      refine takeD 1 [] (.bool true) rfl rfl (by kernel_rfl) (by kernel_rfl) (by kernel_rfl) (by kernel_rfl) (by decide) (by decide) (fun _ _ _ h => h) (by rfl) (fun w' hw' => by go_simp) HS ?_
      try simp only [List.setIfInBounds_toArray, List.set_cons_zero, List.set_cons_succ]
      refine takeD 2 [] (.bool false) rfl rfl (by kernel_rfl) (by kernel_rfl) (by kernel_rfl) (by kernel_rfl) (by decide) (by decide) (fun _ _ _ h => h) (by rfl) (fun w' hw' => by go_simp) HS ?_
      try simp only [List.setIfInBounds_toArray, List.set_cons_zero, List.set_cons_succ]
      refine takeD 3 [] (.bool false) rfl rfl (by kernel_rfl) (by kernel_rfl) (by kernel_rfl) (by kernel_rfl) (by decide) (by decide) (fun _ _ _ h => h) (by rfl) (fun w' hw' => by go_simp) HS ?_
      try simp only [List.setIfInBounds_toArray, List.set_cons_zero, List.set_cons_succ]
      refine skipD 4 [] rfl rfl (by kernel_rfl) (by kernel_rfl) (by kernel_rfl) (by kernel_rfl) (by decide) (by decide) (fun _ _ _ h => h) (by rfl) HS ?_
      try simp only [List.setIfInBounds_toArray, List.set_cons_zero, List.set_cons_succ]
      refine skipD 5 [] rfl rfl (by kernel_rfl) (by kernel_rfl) (by kernel_rfl) (by kernel_rfl) (by decide) (by decide) (fun _ _ _ h => h) (by rfl) HS ?_
      try simp only [List.setIfInBounds_toArray, List.set_cons_zero, List.set_cons_succ]
      refine skipD 6 [] rfl rfl (by kernel_rfl) (by kernel_rfl) (by kernel_rfl) (by kernel_rfl) (by decide) (by decide) (fun _ _ _ h => h) (by rfl) HS ?_
      try simp only [List.setIfInBounds_toArray, List.set_cons_zero, List.set_cons_succ]
      refine skipD 7 [] rfl rfl (by kernel_rfl) (by kernel_rfl) (by kernel_rfl) (by kernel_rfl) (by decide) (by decide) (fun _ _ _ h => h) (by rfl) HS ?_
      try simp only [List.setIfInBounds_toArray, List.set_cons_zero, List.set_cons_succ]
      refine skipD 8 [] rfl rfl (by kernel_rfl) (by kernel_rfl) (by kernel_rfl) (by kernel_rfl) (by decide) (by decide) (fun _ _ _ h => h) (by rfl) HS ?_
      try simp only [List.setIfInBounds_toArray, List.set_cons_zero, List.set_cons_succ]
      refine skipD 9 [] rfl rfl (by kernel_rfl) (by kernel_rfl) (by kernel_rfl) (by kernel_rfl) (by decide) (by decide) (fun _ _ _ h => h) (by rfl) HS ?_
      try simp only [List.setIfInBounds_toArray, List.set_cons_zero, List.set_cons_succ]
      refine skipD 10 [] rfl rfl (by kernel_rfl) (by kernel_rfl) (by kernel_rfl) (by kernel_rfl) (by decide) (by decide) (fun _ _ _ h => h) (by rfl) HS ?_
      try simp only [List.setIfInBounds_toArray, List.set_cons_zero, List.set_cons_succ]
      refine skipD 11 [] rfl rfl (by kernel_rfl) (by kernel_rfl) (by kernel_rfl) (by kernel_rfl) (by decide) (by decide) (fun _ _ _ h => h) (by rfl) HS ?_
      try simp only [List.setIfInBounds_toArray, List.set_cons_zero, List.set_cons_succ]
      refine takeD 12 [] (.bool false) rfl rfl (by kernel_rfl) (by kernel_rfl) (by kernel_rfl) (by kernel_rfl) (by decide) (by decide) (fun _ _ _ h => h) (by rfl) (fun w' hw' => by go_simp) HS ?_
      try simp only [List.setIfInBounds_toArray, List.set_cons_zero, List.set_cons_succ]
      refine takeD 13 [] (.bool false) rfl rfl (by kernel_rfl) (by kernel_rfl) (by kernel_rfl) (by kernel_rfl) (by decide) (by decide) (fun _ _ _ h => h) (by rfl) (fun w' hw' => by go_simp) HS ?_
      try simp only [List.setIfInBounds_toArray, List.set_cons_zero, List.set_cons_succ]
      refine skipD 14 [] rfl rfl (by kernel_rfl) (by kernel_rfl) (by kernel_rfl) (by kernel_rfl) (by decide) (by decide) (fun _ _ _ h => h) (by rfl) HS ?_
      try simp only [List.setIfInBounds_toArray, List.set_cons_zero, List.set_cons_succ]
      refine skipD 15 [] rfl rfl (by kernel_rfl) (by kernel_rfl) (by kernel_rfl) (by kernel_rfl) (by decide) (by decide) (fun _ _ _ h => h) (by rfl) HS ?_
      try simp only [List.setIfInBounds_toArray, List.set_cons_zero, List.set_cons_succ]
      refine skipD 16 [] rfl rfl (by kernel_rfl) (by kernel_rfl) (by kernel_rfl) (by kernel_rfl) (by decide) (by decide) (fun _ _ _ h => h) (by rfl) HS ?_
      try simp only [List.setIfInBounds_toArray, List.set_cons_zero, List.set_cons_succ]
      refine skipD 17 [] rfl rfl (by kernel_rfl) (by kernel_rfl) (by kernel_rfl) (by kernel_rfl) (by decide) (by decide) (fun _ _ _ h => h) (by rfl) HS ?_
      try simp only [List.setIfInBounds_toArray, List.set_cons_zero, List.set_cons_succ]
      refine skipD 18 [] rfl rfl (by kernel_rfl) (by kernel_rfl) (by kernel_rfl) (by kernel_rfl) (by decide) (by decide) (fun _ _ _ h => h) (by rfl) HS ?_
      try simp only [List.setIfInBounds_toArray, List.set_cons_zero, List.set_cons_succ]
      refine skipD 19 [] rfl rfl (by kernel_rfl) (by kernel_rfl) (by kernel_rfl) (by kernel_rfl) (by decide) (by decide) (fun _ _ _ h => h) (by rfl) HS ?_
      try simp only [List.setIfInBounds_toArray, List.set_cons_zero, List.set_cons_succ]
      refine skipD 20 [] rfl rfl (by kernel_rfl) (by kernel_rfl) (by kernel_rfl) (by kernel_rfl) (by decide) (by decide) (fun _ _ _ h => h) (by rfl) HS ?_
      try simp only [List.setIfInBounds_toArray, List.set_cons_zero, List.set_cons_succ]
      refine skipD 21 [] rfl rfl (by kernel_rfl) (by kernel_rfl) (by kernel_rfl) (by kernel_rfl) (by decide) (by decide) (fun _ _ _ h => h) (by rfl) HS ?_
      try simp only [List.setIfInBounds_toArray, List.set_cons_zero, List.set_cons_succ]
      refine takeD 22 [] (.bool false) rfl rfl (by kernel_rfl) (by kernel_rfl) (by kernel_rfl) (by kernel_rfl) (by decide) (by decide) (fun _ _ _ h => h) (by rfl) (fun w' hw' => by go_simp) HS ?_
      try simp only [List.setIfInBounds_toArray, List.set_cons_zero, List.set_cons_succ]
      refine callVD 23 56 #[.agg #[.string T, .int .i64 (pl : Int)], .bool false, .int .i64 8] rfl rfl (by kernel_rfl) (by rfl) (by go_simp) (hf.out _) ?_
      rintro e w7 ⟨rfl, X7⟩
      refine Or.inr ⟨_, rfl, ?_⟩
      exact ⟨rfl, hF.out _ X7⟩
    | false =>
      by_cases ha : tx ∈ s'.arr
      · have hF := hidden (hfail.out (Or.inr (Or.inl ha)))
        have hca2 := hca'.out
        rw [decide_eq_true ha] at hca2
        replace hca2 := hidden hca2
        clear hfail ha
        refine wp_region_D (S := fun w' : World => w'.cell? ⟨r, 5, none⟩ = some va ∧ w'.cell? ⟨r, 6, none⟩ = some vl ∧ w'.cell? ⟨q3, 0, none⟩ = some (.string T) ∧ w'.cell? ⟨q3, 1, none⟩ = some (.int .i64 (pl : Int))) (D := []) (by kernel_rfl) ⟨e5, e6, e0, e1⟩ (fun HS => ?_)
        refine takeD 0 [] (.agg #[.string T, .int .i64 (pl : Int)]) rfl rfl (by kernel_rfl) (by kernel_rfl) (by kernel_rfl) (by kernel_rfl) (by decide) (by decide) (fun _ _ _ h => h) (by rfl) (fun w' hw' => by obtain ⟨s1, s2, s3, s4⟩ := hw'; go_simp) HS ?_
        try simp only [List.setIfInBounds_toArray, List.set_cons_zero, List.set_cons_succ]
        refine takeD 1 [] (.bool false) rfl rfl (by kernel_rfl) (by kernel_rfl) (by kernel_rfl) (by kernel_rfl) (by decide) (by decide) (fun _ _ _ h => h) (by rfl) (fun w' hw' => by go_simp) HS ?_
        try simp only [List.setIfInBounds_toArray, List.set_cons_zero, List.set_cons_succ]
        refine takeD 2 [] (.bool true) rfl rfl (by kernel_rfl) (by kernel_rfl) (by kernel_rfl) (by kernel_rfl) (by decide) (by decide) (fun _ _ _ h => h) (by rfl) (fun w' hw' => by go_simp) HS ?_
        try simp only [List.setIfInBounds_toArray, List.set_cons_zero, List.set_cons_succ]
        refine takeD 3 [] (.bool true) rfl rfl (by kernel_rfl) (by kernel_rfl) (by kernel_rfl) (by kernel_rfl) (by decide) (by decide) (fun _ _ _ h => h) (by rfl) (fun w' hw' => by go_simp) HS ?_
        try simp only [List.setIfInBounds_toArray, List.set_cons_zero, List.set_cons_succ]
        refine takeD 4 [] (.pointer (some ⟨r, 0, none⟩)) rfl rfl (by kernel_rfl) (by kernel_rfl) (by kernel_rfl) (by kernel_rfl) (by decide) (by decide) (fun _ _ _ h => h) (by rfl) (fun w' hw' => by go_simp) HS ?_
        try simp only [List.setIfInBounds_toArray, List.set_cons_zero, List.set_cons_succ]
        refine takeD 5 [] (.pointer (some ⟨r, 0, none⟩)) rfl rfl (by kernel_rfl) (by kernel_rfl) (by kernel_rfl) (by kernel_rfl) (by decide) (by decide) (fun _ _ _ h => h) (by rfl) (fun w' hw' => by go_simp) HS ?_
        try simp only [List.setIfInBounds_toArray, List.set_cons_zero, List.set_cons_succ]
        refine takeD 6 [] (.pointer (some ⟨r, 5, none⟩)) rfl rfl (by kernel_rfl) (by kernel_rfl) (by kernel_rfl) (by kernel_rfl) (by decide) (by decide) (fun _ _ _ h => h) (by rfl) (fun w' hw' => by go_simp) HS ?_
        try simp only [List.setIfInBounds_toArray, List.set_cons_zero, List.set_cons_succ]
        refine takeD 7 [] (va) rfl rfl (by kernel_rfl) (by kernel_rfl) (by kernel_rfl) (by kernel_rfl) (by decide) (by decide) (fun _ _ _ h => h) (by rfl) (fun w' hw' => by obtain ⟨s1, s2, s3, s4⟩ := hw'; go_simp) HS ?_
        try simp only [List.setIfInBounds_toArray, List.set_cons_zero, List.set_cons_succ]
        refine takeD 8 [] (.pointer (some ⟨q3, 0, none⟩)) rfl rfl (by kernel_rfl) (by kernel_rfl) (by kernel_rfl) (by kernel_rfl) (by decide) (by decide) (fun _ _ _ h => h) (by rfl) (fun w' hw' => by go_simp) HS ?_
        try simp only [List.setIfInBounds_toArray, List.set_cons_zero, List.set_cons_succ]
        refine takeD 9 [] (.string T) rfl rfl (by kernel_rfl) (by kernel_rfl) (by kernel_rfl) (by kernel_rfl) (by decide) (by decide) (fun _ _ _ h => h) (by rfl) (fun w' hw' => by obtain ⟨s1, s2, s3, s4⟩ := hw'; go_simp) HS ?_
        try simp only [List.setIfInBounds_toArray, List.set_cons_zero, List.set_cons_succ]
        refine callVD 10 91 #[va, .string T] rfl rfl (by kernel_rfl) (by rfl) (by go_simp) (hca2.out) ?_
        rintro e W0 ⟨rfl, hW0⟩
        rw [hW0]
        clear hW0 W0
        refine Or.inl ⟨_, rfl, fun _ => HS, ?_⟩
        try simp only [List.setIfInBounds_toArray, List.set_cons_zero, List.set_cons_succ]
        refine takeD 11 [] (.bool false) rfl rfl (by kernel_rfl) (by kernel_rfl) (by kernel_rfl) (by kernel_rfl) (by decide) (by decide) (fun _ _ _ h => h) (by rfl) (fun w' hw' => by go_simp) HS ?_
        try simp only [List.setIfInBounds_toArray, List.set_cons_zero, List.set_cons_succ]
        refine takeD 12 [] (.bool false) rfl rfl (by kernel_rfl) (by kernel_rfl) (by kernel_rfl) (by kernel_rfl) (by decide) (by decide) (fun _ _ _ h => h) (by rfl) (fun w' hw' => by go_simp) HS ?_
        try simp only [List.setIfInBounds_toArray, List.set_cons_zero, List.set_cons_succ]
        refine takeD 13 [] (.bool false) rfl rfl (by kernel_rfl) (by kernel_rfl) (by kernel_rfl) (by kernel_rfl) (by decide) (by decide) (fun _ _ _ h => h) (by rfl) (fun w' hw' => by go_simp) HS ?_
        try simp only [List.setIfInBounds_toArray, List.set_cons_zero, List.set_cons_succ]
        refine skipD 14 [] rfl rfl (by kernel_rfl) (by kernel_rfl) (by kernel_rfl) (by kernel_rfl) (by decide) (by decide) (fun _ _ _ h => h) (by rfl) HS ?_
        try simp only [List.setIfInBounds_toArray, List.set_cons_zero, List.set_cons_succ]
        refine skipD 15 [] rfl rfl (by kernel_rfl) (by kernel_rfl) (by kernel_rfl) (by kernel_rfl) (by decide) (by decide) (fun _ _ _ h => h) (by rfl) HS ?_
        try simp only [List.setIfInBounds_toArray, List.set_cons_zero, List.set_cons_succ]
        refine skipD 16 [] rfl rfl (by kernel_rfl) (by kernel_rfl) (by kernel_rfl) (by kernel_rfl) (by decide) (by decide) (fun _ _ _ h => h) (by rfl) HS ?_
        try simp only [List.setIfInBounds_toArray, List.set_cons_zero, List.set_cons_succ]
        refine skipD 17 [] rfl rfl (by kernel_rfl) (by kernel_rfl) (by kernel_rfl) (by kernel_rfl) (by decide) (by decide) (fun _ _ _ h => h) (by rfl) HS ?_
        try simp only [List.setIfInBounds_toArray, List.set_cons_zero, List.set_cons_succ]
        refine skipD 18 [] rfl rfl (by kernel_rfl) (by kernel_rfl) (by kernel_rfl) (by kernel_rfl) (by decide) (by decide) (fun _ _ _ h => h) (by rfl) HS ?_
        try simp only [List.setIfInBounds_toArray, List.set_cons_zero, List.set_cons_succ]
        refine skipD 19 [] rfl rfl (by kernel_rfl) (by kernel_rfl) (by kernel_rfl) (by kernel_rfl) (by decide) (by decide) (fun _ _ _ h => h) (by rfl) HS ?_
        try simp only [List.setIfInBounds_toArray, List.set_cons_zero, List.set_cons_succ]
        refine skipD 20 [] rfl rfl (by kernel_rfl) (by kernel_rfl) (by kernel_rfl) (by kernel_rfl) (by decide) (by decide) (fun _ _ _ h => h) (by rfl) HS ?_
        try simp only [List.setIfInBounds_toArray, List.set_cons_zero, List.set_cons_succ]
        refine skipD 21 [] rfl rfl (by kernel_rfl) (by kernel_rfl) (by kernel_rfl) (by kernel_rfl) (by decide) (by decide) (fun _ _ _ h => h) (by rfl) HS ?_
        try simp only [List.setIfInBounds_toArray, List.set_cons_zero, List.set_cons_succ]
        refine takeD 22 [] (.bool false) rfl rfl (by kernel_rfl) (by kernel_rfl) (by kernel_rfl) (by kernel_rfl) (by decide) (by decide) (fun _ _ _ h => h) (by rfl) (fun w' hw' => by go_simp) HS ?_
        try simp only [List.setIfInBounds_toArray, List.set_cons_zero, List.set_cons_succ]
        refine callVD 23 56 #[.agg #[.string T, .int .i64 (pl : Int)], .bool false, .int .i64 8] rfl rfl (by kernel_rfl) (by rfl) (by go_simp) (hf.out _) ?_
        rintro e w7 ⟨rfl, X7⟩
        refine Or.inr ⟨_, rfl, ?_⟩
        exact ⟨rfl, hF.out _ X7⟩
      · have hca2 := hca'.out
        rw [decide_eq_false ha] at hca2
        replace hca2 := hidden hca2
        by_cases hl : tx ∈ s'.loc
        · have hF := hidden (hfail.out (Or.inr (Or.inr hl)))
          have hcl2 := hcl'.out
          rw [decide_eq_true hl] at hcl2
          replace hcl2 := hidden hcl2
          clear hfail hl ha
          refine wp_region_D (S := fun w' : World => w'.cell? ⟨r, 5, none⟩ = some va ∧ w'.cell? ⟨r, 6, none⟩ = some vl ∧ w'.cell? ⟨q3, 0, none⟩ = some (.string T) ∧ w'.cell? ⟨q3, 1, none⟩ = some (.int .i64 (pl : Int))) (D := []) (by kernel_rfl) ⟨e5, e6, e0, e1⟩ (fun HS => ?_)
          refine takeD 0 [] (.agg #[.string T, .int .i64 (pl : Int)]) rfl rfl (by kernel_rfl) (by kernel_rfl) (by kernel_rfl) (by kernel_rfl) (by decide) (by decide) (fun _ _ _ h => h) (by rfl) (fun w' hw' => by obtain ⟨s1, s2, s3, s4⟩ := hw'; go_simp) HS ?_
          try simp only [List.setIfInBounds_toArray, List.set_cons_zero, List.set_cons_succ]
          refine takeD 1 [] (.bool false) rfl rfl (by kernel_rfl) (by kernel_rfl) (by kernel_rfl) (by kernel_rfl) (by decide) (by decide) (fun _ _ _ h => h) (by rfl) (fun w' hw' => by go_simp) HS ?_
          try simp only [List.setIfInBounds_toArray, List.set_cons_zero, List.set_cons_succ]
          refine takeD 2 [] (.bool true) rfl rfl (by kernel_rfl) (by kernel_rfl) (by kernel_rfl) (by kernel_rfl) (by decide) (by decide) (fun _ _ _ h => h) (by rfl) (fun w' hw' => by go_simp) HS ?_
          try simp only [List.setIfInBounds_toArray, List.set_cons_zero, List.set_cons_succ]
          refine takeD 3 [] (.bool true) rfl rfl (by kernel_rfl) (by kernel_rfl) (by kernel_rfl) (by kernel_rfl) (by decide) (by decide) (fun _ _ _ h => h) (by rfl) (fun w' hw' => by go_simp) HS ?_
          try simp only [List.setIfInBounds_toArray, List.set_cons_zero, List.set_cons_succ]
          refine takeD 4 [] (.pointer (some ⟨r, 0, none⟩)) rfl rfl (by kernel_rfl) (by kernel_rfl) (by kernel_rfl) (by kernel_rfl) (by decide) (by decide) (fun _ _ _ h => h) (by rfl) (fun w' hw' => by go_simp) HS ?_
          try simp only [List.setIfInBounds_toArray, List.set_cons_zero, List.set_cons_succ]
          refine takeD 5 [] (.pointer (some ⟨r, 0, none⟩)) rfl rfl (by kernel_rfl) (by kernel_rfl) (by kernel_rfl) (by kernel_rfl) (by decide) (by decide) (fun _ _ _ h => h) (by rfl) (fun w' hw' => by go_simp) HS ?_
          try simp only [List.setIfInBounds_toArray, List.set_cons_zero, List.set_cons_succ]
          refine takeD 6 [] (.pointer (some ⟨r, 5, none⟩)) rfl rfl (by kernel_rfl) (by kernel_rfl) (by kernel_rfl) (by kernel_rfl) (by decide) (by decide) (fun _ _ _ h => h) (by rfl) (fun w' hw' => by go_simp) HS ?_
          try simp only [List.setIfInBounds_toArray, List.set_cons_zero, List.set_cons_succ]
          refine takeD 7 [] (va) rfl rfl (by kernel_rfl) (by kernel_rfl) (by kernel_rfl) (by kernel_rfl) (by decide) (by decide) (fun _ _ _ h => h) (by rfl) (fun w' hw' => by obtain ⟨s1, s2, s3, s4⟩ := hw'; go_simp) HS ?_
          try simp only [List.setIfInBounds_toArray, List.set_cons_zero, List.set_cons_succ]
          refine takeD 8 [] (.pointer (some ⟨q3, 0, none⟩)) rfl rfl (by kernel_rfl) (by kernel_rfl) (by kernel_rfl) (by kernel_rfl) (by decide) (by decide) (fun _ _ _ h => h) (by rfl) (fun w' hw' => by go_simp) HS ?_
          try simp only [List.setIfInBounds_toArray, List.set_cons_zero, List.set_cons_succ]
          refine takeD 9 [] (.string T) rfl rfl (by kernel_rfl) (by kernel_rfl) (by kernel_rfl) (by kernel_rfl) (by decide) (by decide) (fun _ _ _ h => h) (by rfl) (fun w' hw' => by obtain ⟨s1, s2, s3, s4⟩ := hw'; go_simp) HS ?_
          try simp only [List.setIfInBounds_toArray, List.set_cons_zero, List.set_cons_succ]
          refine callVD 10 91 #[va, .string T] rfl rfl (by kernel_rfl) (by rfl) (by go_simp) (hca2.out) ?_
          rintro e W0 ⟨rfl, hW0⟩
          rw [hW0]
          clear hW0 W0
          refine Or.inl ⟨_, rfl, fun _ => HS, ?_⟩
          try simp only [List.setIfInBounds_toArray, List.set_cons_zero, List.set_cons_succ]
          refine takeD 11 [] (.bool true) rfl rfl (by kernel_rfl) (by kernel_rfl) (by kernel_rfl) (by kernel_rfl) (by decide) (by decide) (fun _ _ _ h => h) (by rfl) (fun w' hw' => by go_simp) HS ?_
          try simp only [List.setIfInBounds_toArray, List.set_cons_zero, List.set_cons_succ]
          refine takeD 12 [] (.bool true) rfl rfl (by kernel_rfl) (by kernel_rfl) (by kernel_rfl) (by kernel_rfl) (by decide) (by decide) (fun _ _ _ h => h) (by rfl) (fun w' hw' => by go_simp) HS ?_
          try simp only [List.setIfInBounds_toArray, List.set_cons_zero, List.set_cons_succ]
          refine takeD 13 [] (.bool true) rfl rfl (by kernel_rfl) (by kernel_rfl) (by kernel_rfl) (by kernel_rfl) (by decide) (by decide) (fun _ _ _ h => h) (by rfl) (fun w' hw' => by go_simp) HS ?_
          try simp only [List.setIfInBounds_toArray, List.set_cons_zero, List.set_cons_succ]
          refine takeD 14 [] (.pointer (some ⟨r, 0, none⟩)) rfl rfl (by kernel_rfl) (by kernel_rfl) (by kernel_rfl) (by kernel_rfl) (by decide) (by decide) (fun _ _ _ h => h) (by rfl) (fun w' hw' => by go_simp) HS ?_
          try simp only [List.setIfInBounds_toArray, List.set_cons_zero, List.set_cons_succ]
          refine takeD 15 [] (.pointer (some ⟨r, 0, none⟩)) rfl rfl (by kernel_rfl) (by kernel_rfl) (by kernel_rfl) (by kernel_rfl) (by decide) (by decide) (fun _ _ _ h => h) (by rfl) (fun w' hw' => by go_simp) HS ?_
          try simp only [List.setIfInBounds_toArray, List.set_cons_zero, List.set_cons_succ]
          refine takeD 16 [] (.pointer (some ⟨r, 6, none⟩)) rfl rfl (by kernel_rfl) (by kernel_rfl) (by kernel_rfl) (by kernel_rfl) (by decide) (by decide) (fun _ _ _ h => h) (by rfl) (fun w' hw' => by go_simp) HS ?_
          try simp only [List.setIfInBounds_toArray, List.set_cons_zero, List.set_cons_succ]
          refine takeD 17 [] (vl) rfl rfl (by kernel_rfl) (by kernel_rfl) (by kernel_rfl) (by kernel_rfl) (by decide) (by decide) (fun _ _ _ h => h) (by rfl) (fun w' hw' => by obtain ⟨s1, s2, s3, s4⟩ := hw'; go_simp) HS ?_
          try simp only [List.setIfInBounds_toArray, List.set_cons_zero, List.set_cons_succ]
          refine takeD 18 [] (.pointer (some ⟨q3, 0, none⟩)) rfl rfl (by kernel_rfl) (by kernel_rfl) (by kernel_rfl) (by kernel_rfl) (by decide) (by decide) (fun _ _ _ h => h) (by rfl) (fun w' hw' => by go_simp) HS ?_
          try simp only [List.setIfInBounds_toArray, List.set_cons_zero, List.set_cons_succ]
          refine takeD 19 [] (.string T) rfl rfl (by kernel_rfl) (by kernel_rfl) (by kernel_rfl) (by kernel_rfl) (by decide) (by decide) (fun _ _ _ h => h) (by rfl) (fun w' hw' => by obtain ⟨s1, s2, s3, s4⟩ := hw'; go_simp) HS ?_
          try simp only [List.setIfInBounds_toArray, List.set_cons_zero, List.set_cons_succ]
          refine callVD 20 91 #[vl, .string T] rfl rfl (by kernel_rfl) (by rfl) (by go_simp) (hcl2.out) ?_
          rintro e W0 ⟨rfl, hW0⟩
          rw [hW0]
          clear hW0 W0
          refine Or.inl ⟨_, rfl, fun _ => HS, ?_⟩
          try simp only [List.setIfInBounds_toArray, List.set_cons_zero, List.set_cons_succ]
          refine takeD 21 [] (.bool false) rfl rfl (by kernel_rfl) (by kernel_rfl) (by kernel_rfl) (by kernel_rfl) (by decide) (by decide) (fun _ _ _ h => h) (by rfl) (fun w' hw' => by go_simp) HS ?_
          try simp only [List.setIfInBounds_toArray, List.set_cons_zero, List.set_cons_succ]
          refine takeD 22 [] (.bool false) rfl rfl (by kernel_rfl) (by kernel_rfl) (by kernel_rfl) (by kernel_rfl) (by decide) (by decide) (fun _ _ _ h => h) (by rfl) (fun w' hw' => by go_simp) HS ?_
          try simp only [List.setIfInBounds_toArray, List.set_cons_zero, List.set_cons_succ]
          refine callVD 23 56 #[.agg #[.string T, .int .i64 (pl : Int)], .bool false, .int .i64 8] rfl rfl (by kernel_rfl) (by rfl) (by go_simp) (hf.out _) ?_
          rintro e w7 ⟨rfl, X7⟩
          refine Or.inr ⟨_, rfl, ?_⟩
          exact ⟨rfl, hF.out _ X7⟩
        · have hcl2 := hcl'.out
          rw [decide_eq_false hl] at hcl2
          replace hcl2 := hidden hcl2
          have hfr2 : Hid (Src.freshF e s = .ok ((tx, pl), s')) := hidden (by rw [hfr.out, if_neg (by rw [his]; simp [ha, hl])])
          clear hfail hl ha
          refine wp_region_D (S := fun w' : World => w'.cell? ⟨r, 5, none⟩ = some va ∧ w'.cell? ⟨r, 6, none⟩ = some vl ∧ w'.cell? ⟨q3, 0, none⟩ = some (.string T) ∧ w'.cell? ⟨q3, 1, none⟩ = some (.int .i64 (pl : Int))) (D := []) (by kernel_rfl) ⟨e5, e6, e0, e1⟩ (fun HS => ?_)
          refine takeD 0 [] (.agg #[.string T, .int .i64 (pl : Int)]) rfl rfl (by kernel_rfl) (by kernel_rfl) (by kernel_rfl) (by kernel_rfl) (by decide) (by decide) (fun _ _ _ h => h) (by rfl) (fun w' hw' => by obtain ⟨s1, s2, s3, s4⟩ := hw'; go_simp) HS ?_
          try simp only [List.setIfInBounds_toArray, List.set_cons_zero, List.set_cons_succ]
          refine takeD 1 [] (.bool false) rfl rfl (by kernel_rfl) (by kernel_rfl) (by kernel_rfl) (by kernel_rfl) (by decide) (by decide) (fun _ _ _ h => h) (by rfl) (fun w' hw' => by go_simp) HS ?_
          try simp only [List.setIfInBounds_toArray, List.set_cons_zero, List.set_cons_succ]
          refine takeD 2 [] (.bool true) rfl rfl (by kernel_rfl) (by kernel_rfl) (by kernel_rfl) (by kernel_rfl) (by decide) (by decide) (fun _ _ _ h => h) (by rfl) (fun w' hw' => by go_simp) HS ?_
          try simp only [List.setIfInBounds_toArray, List.set_cons_zero, List.set_cons_succ]
          refine takeD 3 [] (.bool true) rfl rfl (by kernel_rfl) (by kernel_rfl) (by kernel_rfl) (by kernel_rfl) (by decide) (by decide) (fun _ _ _ h => h) (by rfl) (fun w' hw' => by go_simp) HS ?_
          try simp only [List.setIfInBounds_toArray, List.set_cons_zero, List.set_cons_succ]
          refine takeD 4 [] (.pointer (some ⟨r, 0, none⟩)) rfl rfl (by kernel_rfl) (by kernel_rfl) (by kernel_rfl) (by kernel_rfl) (by decide) (by decide) (fun _ _ _ h => h) (by rfl) (fun w' hw' => by go_simp) HS ?_
          try simp only [List.setIfInBounds_toArray, List.set_cons_zero, List.set_cons_succ]
          refine takeD 5 [] (.pointer (some ⟨r, 0, none⟩)) rfl rfl (by kernel_rfl) (by kernel_rfl) (by kernel_rfl) (by kernel_rfl) (by decide) (by decide) (fun _ _ _ h => h) (by rfl) (fun w' hw' => by go_simp) HS ?_
          try simp only [List.setIfInBounds_toArray, List.set_cons_zero, List.set_cons_succ]
          refine takeD 6 [] (.pointer (some ⟨r, 5, none⟩)) rfl rfl (by kernel_rfl) (by kernel_rfl) (by kernel_rfl) (by kernel_rfl) (by decide) (by decide) (fun _ _ _ h => h) (by rfl) (fun w' hw' => by go_simp) HS ?_
          try simp only [List.setIfInBounds_toArray, List.set_cons_zero, List.set_cons_succ]
          refine takeD 7 [] (va) rfl rfl (by kernel_rfl) (by kernel_rfl) (by kernel_rfl) (by kernel_rfl) (by decide) (by decide) (fun _ _ _ h => h) (by rfl) (fun w' hw' => by obtain ⟨s1, s2, s3, s4⟩ := hw'; go_simp) HS ?_
          try simp only [List.setIfInBounds_toArray, List.set_cons_zero, List.set_cons_succ]
          refine takeD 8 [] (.pointer (some ⟨q3, 0, none⟩)) rfl rfl (by kernel_rfl) (by kernel_rfl) (by kernel_rfl) (by kernel_rfl) (by decide) (by decide) (fun _ _ _ h => h) (by rfl) (fun w' hw' => by go_simp) HS ?_
          try simp only [List.setIfInBounds_toArray, List.set_cons_zero, List.set_cons_succ]
          refine takeD 9 [] (.string T) rfl rfl (by kernel_rfl) (by kernel_rfl) (by kernel_rfl) (by kernel_rfl) (by decide) (by decide) (fun _ _ _ h => h) (by rfl) (fun w' hw' => by obtain ⟨s1, s2, s3, s4⟩ := hw'; go_simp) HS ?_
          try simp only [List.setIfInBounds_toArray, List.set_cons_zero, List.set_cons_succ]
          refine callVD 10 91 #[va, .string T] rfl rfl (by kernel_rfl) (by rfl) (by go_simp) (hca2.out) ?_
          rintro e W0 ⟨rfl, hW0⟩
          rw [hW0]
          clear hW0 W0
          refine Or.inl ⟨_, rfl, fun _ => HS, ?_⟩
          try simp only [List.setIfInBounds_toArray, List.set_cons_zero, List.set_cons_succ]
          refine takeD 11 [] (.bool true) rfl rfl (by kernel_rfl) (by kernel_rfl) (by kernel_rfl) (by kernel_rfl) (by decide) (by decide) (fun _ _ _ h => h) (by rfl) (fun w' hw' => by go_simp) HS ?_
          try simp only [List.setIfInBounds_toArray, List.set_cons_zero, List.set_cons_succ]
          refine takeD 12 [] (.bool true) rfl rfl (by kernel_rfl) (by kernel_rfl) (by kernel_rfl) (by kernel_rfl) (by decide) (by decide) (fun _ _ _ h => h) (by rfl) (fun w' hw' => by go_simp) HS ?_
          try simp only [List.setIfInBounds_toArray, List.set_cons_zero, List.set_cons_succ]
          refine takeD 13 [] (.bool true) rfl rfl (by kernel_rfl) (by kernel_rfl) (by kernel_rfl) (by kernel_rfl) (by decide) (by decide) (fun _ _ _ h => h) (by rfl) (fun w' hw' => by go_simp) HS ?_
          try simp only [List.setIfInBounds_toArray, List.set_cons_zero, List.set_cons_succ]
          refine takeD 14 [] (.pointer (some ⟨r, 0, none⟩)) rfl rfl (by kernel_rfl) (by kernel_rfl) (by kernel_rfl) (by kernel_rfl) (by decide) (by decide) (fun _ _ _ h => h) (by rfl) (fun w' hw' => by go_simp) HS ?_
          try simp only [List.setIfInBounds_toArray, List.set_cons_zero, List.set_cons_succ]
          refine takeD 15 [] (.pointer (some ⟨r, 0, none⟩)) rfl rfl (by kernel_rfl) (by kernel_rfl) (by kernel_rfl) (by kernel_rfl) (by decide) (by decide) (fun _ _ _ h => h) (by rfl) (fun w' hw' => by go_simp) HS ?_
          try simp only [List.setIfInBounds_toArray, List.set_cons_zero, List.set_cons_succ]
          refine takeD 16 [] (.pointer (some ⟨r, 6, none⟩)) rfl rfl (by kernel_rfl) (by kernel_rfl) (by kernel_rfl) (by kernel_rfl) (by decide) (by decide) (fun _ _ _ h => h) (by rfl) (fun w' hw' => by go_simp) HS ?_
          try simp only [List.setIfInBounds_toArray, List.set_cons_zero, List.set_cons_succ]
          refine takeD 17 [] (vl) rfl rfl (by kernel_rfl) (by kernel_rfl) (by kernel_rfl) (by kernel_rfl) (by decide) (by decide) (fun _ _ _ h => h) (by rfl) (fun w' hw' => by obtain ⟨s1, s2, s3, s4⟩ := hw'; go_simp) HS ?_
          try simp only [List.setIfInBounds_toArray, List.set_cons_zero, List.set_cons_succ]
          refine takeD 18 [] (.pointer (some ⟨q3, 0, none⟩)) rfl rfl (by kernel_rfl) (by kernel_rfl) (by kernel_rfl) (by kernel_rfl) (by decide) (by decide) (fun _ _ _ h => h) (by rfl) (fun w' hw' => by go_simp) HS ?_
          try simp only [List.setIfInBounds_toArray, List.set_cons_zero, List.set_cons_succ]
          refine takeD 19 [] (.string T) rfl rfl (by kernel_rfl) (by kernel_rfl) (by kernel_rfl) (by kernel_rfl) (by decide) (by decide) (fun _ _ _ h => h) (by rfl) (fun w' hw' => by obtain ⟨s1, s2, s3, s4⟩ := hw'; go_simp) HS ?_
          try simp only [List.setIfInBounds_toArray, List.set_cons_zero, List.set_cons_succ]
          refine callVD 20 91 #[vl, .string T] rfl rfl (by kernel_rfl) (by rfl) (by go_simp) (hcl2.out) ?_
          rintro e W0 ⟨rfl, hW0⟩
          rw [hW0]
          clear hW0 W0
          refine Or.inl ⟨_, rfl, fun _ => HS, ?_⟩
          try simp only [List.setIfInBounds_toArray, List.set_cons_zero, List.set_cons_succ]
          refine takeD 21 [] (.bool true) rfl rfl (by kernel_rfl) (by kernel_rfl) (by kernel_rfl) (by kernel_rfl) (by decide) (by decide) (fun _ _ _ h => h) (by rfl) (fun w' hw' => by go_simp) HS ?_
          try simp only [List.setIfInBounds_toArray, List.set_cons_zero, List.set_cons_succ]
          refine takeD 22 [] (.bool true) rfl rfl (by kernel_rfl) (by kernel_rfl) (by kernel_rfl) (by kernel_rfl) (by decide) (by decide) (fun _ _ _ h => h) (by rfl) (fun w' hw' => by go_simp) HS ?_
          try simp only [List.setIfInBounds_toArray, List.set_cons_zero, List.set_cons_succ]
          refine callVD 23 56 #[.agg #[.string T, .int .i64 (pl : Int)], .bool true, .int .i64 8] rfl rfl (by kernel_rfl) (by rfl) (by go_simp) (ht.out _) ?_
          rintro e w7 ⟨rfl, X7⟩
          refine Or.inl ⟨_, rfl, fun _ => ⟨X7.cell HS.1, X7.cell HS.2.1, X7.cell HS.2.2.1, X7.cell HS.2.2.2⟩, ?_⟩
          try simp only [List.setIfInBounds_toArray, List.set_cons_zero, List.set_cons_succ]
          refine wpAnyD_done (by kernel_rfl) ?_ _
          show KK _ _
          refine hKK _ _ ?_
          have X8 := (X5.out.drew).trans X7
          have HB8 := HB3.out.ext X8
          have HQ8 := HB2.out.ext X8
          have c7 := HB8.cell 0 _ rfl
          have c8 := HB8.cell 1 _ rfl
          have d7 := HQ8.cell 0 _ rfl
          have d8 := HQ8.cell 1 _ rfl
          have f7 := HQ8.frozen 0
          have f8 := HQ8.frozen 1
          clear HS e0 e1 e5 e6 hKK KK
          go_wp2_with fail
          obtain ⟨hM, hrow⟩ := (hR2.out.ext (Y3.out.trans X8)).put HQ8 hBq.out.1 (.string T) (.int .i64 (pl : Int))
          have hC8 : Chg [r] w w7 := X2.out.trans (Chg.of_ext [] (Y3.out.trans X8)) (by simp)
          have hC9 := (hC8.setCell (p := ⟨q, 0, none⟩) (Or.inr (by show w.heap.size ≤ q; omega)) (.string T)).setCell (p := ⟨q, 1, none⟩) (Or.inr (by show w.heap.size ≤ q; omega)) (.int .i64 (pl : Int))
          refine bodyPost_ret (v := .agg #[.string T, .int .i64 (pl : Int)]) (results_cell_row (p := 2) (ty := 86) (by kernel_rfl) _ _ q 86 #[.string T, .int .i64 (pl : Int)] (0, 0) _ rfl hrow Tryz.underlying86 rfl (by kernel_rfl)) rfl ?_
          unfold StepP
          rw [hfr2.out]
          exact ⟨by rw [← hv.out], hM, hC9⟩
end Go.Proofs.YthjnchjfmbblfaaGreatDoor
