/- The small functions of layer 35 and of its reference: form, size, the error of a token, prices. -/
import Derived.Test.YtjfdmhdmadnkoaaRows
import Derived.Test.YtjfdmhdmadnkoaaLa
import Derived.Test.YtjfdmhdmadnkoaaShelf
import Derived.Deep.QuietTactic
import Derived.BigQuiet
import Derived.Outline
namespace Go.Proofs.Ytjfdmhdmadnkoaa
open Go.RowKit
set_option linter.unusedVariables false
attribute [local go_sem ↓] Go.wp_at_zero Go.wp_at_succ

theorem lin_any (n lo hi : Int) (w : World) : Calls Try.prog 63 #[.int .i64 n, .int .i64 lo, .int .i64 hi] w fun x w' => x = .returned (.bool (decide (lo ≤ n ∧ n ≤ hi))) ∧ Ext w w' := by
  by_cases h1 : lo ≤ n
  · by_cases h2 : n ≤ hi
    · skip
      go_enter Try.func63, Try.ntmps63
      go_wp2_with fail
      go_ret
      exact ⟨ret_bool (by simp [*]), Ext.refl _⟩
    · skip
      go_enter Try.func63, Try.ntmps63
      go_wp2_with fail
      go_ret
      exact ⟨ret_bool (by simp [*]), Ext.refl _⟩
  · skip
    go_enter Try.func63, Try.ntmps63
    go_wp2_with fail
    go_ret
    exact ⟨ret_bool (by rw [Bool.eq_iff_iff]; simp; omega), Ext.refl _⟩

theorem tk_box {w w' : World} {L D B : Int} {t : TypeId} (h : Ext (w.alloc (.cells #[.int .i64 L, .int .i64 D, .int .u8 B] t)) w') :
    (w'.cell? ⟨w.heap.size, 0, none⟩ = some (.int .i64 L) ∧ w'.cell? ⟨w.heap.size, 1, none⟩ = some (.int .i64 D) ∧ w'.cell? ⟨w.heap.size, 2, none⟩ = some (.int .u8 B)) ∧ Ext w w' :=
  ⟨⟨(h.box 0 _ rfl).1, (h.box 1 _ rfl).1, (h.box 2 _ rfl).1⟩, h.past⟩

set_option maxHeartbeats 1000000 in
theorem right_any (L D B : Int) (w : World) : Calls Try.prog 53 #[tkv (L, D, B)] w fun x w' => x = .returned (.bool (decide (¬ Wr (L, D, B)))) ∧ Ext w w' := by
  show Calls _ _ #[.agg #[.int .i64 L, .int .i64 D, .int .u8 B]] _ _
  have B0 := Blk.new w [.int .i64 L, .int .i64 D, .int .u8 B] 60
  have c0 := B0.cell 0 _ rfl
  have c1 := B0.cell 1 _ rfl
  have c2 := B0.cell 2 _ rfl
  have hE := (Ext.refl w).alloc (.cells #[.int .i64 L, .int .i64 D, .int .u8 B] 60)
  by_cases k0 : L = 0
  · subst k0
    by_cases k1 : D = 0
    · subst k1
      have hr : Hid (decide (¬ Wr (0, 0, B)) = true) := hidden (by simp [Wr])
      go_enter Try.func53, Try.ntmps53
      go_wp2_with fail
      go_ret
      exact ⟨ret_bool hr.out.symm, hE⟩
    · have hr : Hid (decide (¬ Wr (0, D, B)) = false) := hidden (by simp [Wr, k1])
      have k2 : (D == 0) = false := by simp [k1]
      go_enter Try.func53, Try.ntmps53
      go_wp2_with fail
      go_ret
      exact ⟨ret_bool hr.out.symm, hE⟩
  · have k2 : (L == 0) = false := by simp [k0]
    by_cases k3 : B = 0
    · subst k3
      have hw : Hid (Wr (L, D, 0) ↔ ¬ (2 ≤ L ∧ L ≤ 255) ∨ ¬ (1 ≤ D ∧ D ≤ 4096)) := hidden (by unfold Wr; simp only [if_neg k0]; omega)
      by_cases k4 : 2 ≤ L ∧ L ≤ 255
      · have e4 : Hid (decide (2 ≤ L ∧ L ≤ 255) = true) := hidden (by simp [k4])
        by_cases k5 : 1 ≤ D ∧ D ≤ 4096
        · have e5 : Hid (decide (1 ≤ D ∧ D ≤ 4096) = true) := hidden (by simp [k5])
          have hr : Hid (decide (¬ Wr (L, D, 0)) = true) := hidden (by rw [decide_eq_true_iff, hw.out]; omega)
          clear k4 k5
          go_enter Try.func53, Try.ntmps53
          go_wp2_with fail
          refine (lin_any _ _ _ _).mono ?_
          rw [e4.out]
          rintro e w1 ⟨rfl, g1⟩
          have d1 := g1.cell c1
          have hE2 := hE.trans g1
          go_wp2_with fail
          refine (lin_any _ _ _ _).mono ?_
          rw [e5.out]
          rintro e w2 ⟨rfl, g2⟩
          go_wp2_with fail
          go_ret
          exact ⟨ret_bool hr.out.symm, hE2.trans g2⟩
        · have e5 : Hid (decide (1 ≤ D ∧ D ≤ 4096) = false) := hidden (by simpa using k5)
          have hr : Hid (decide (¬ Wr (L, D, 0)) = false) := hidden (by rw [decide_eq_false_iff_not, hw.out]; omega)
          clear k4 k5
          go_enter Try.func53, Try.ntmps53
          go_wp2_with fail
          refine (lin_any _ _ _ _).mono ?_
          rw [e4.out]
          rintro e w1 ⟨rfl, g1⟩
          have d1 := g1.cell c1
          have hE2 := hE.trans g1
          go_wp2_with fail
          refine (lin_any _ _ _ _).mono ?_
          rw [e5.out]
          rintro e w2 ⟨rfl, g2⟩
          go_wp2_with fail
          go_ret
          exact ⟨ret_bool hr.out.symm, hE2.trans g2⟩
      · have e4 : Hid (decide (2 ≤ L ∧ L ≤ 255) = false) := hidden (by simpa using k4)
        have hr : Hid (decide (¬ Wr (L, D, 0)) = false) := hidden (by rw [decide_eq_false_iff_not, hw.out]; omega)
        clear k4
        go_enter Try.func53, Try.ntmps53
        go_wp2_with fail
        refine (lin_any _ _ _ _).mono ?_
        rw [e4.out]
        rintro e w1 ⟨rfl, g1⟩
        have hE2 := hE.trans g1
        go_wp2_with fail
        go_ret
        exact ⟨ret_bool hr.out.symm, hE2⟩
    · have hr : Hid (decide (¬ Wr (L, D, B)) = false) := hidden (by simp [Wr, k0, k3])
      have k4 : (B == 0) = false := by simp [k3]
      go_enter Try.func53, Try.ntmps53
      go_wp2_with fail
      go_ret
      exact ⟨ret_bool hr.out.symm, hE⟩

set_option maxHeartbeats 1000000 in
theorem wrong_any (L D B : Int) (w : World) : Calls Try.prog 56 #[tkv (L, D, B)] w fun x w' => x = .returned (.bool (decide (Wr (L, D, B)))) ∧ Ext w w' := by
  show Calls _ _ #[.agg #[.int .i64 L, .int .i64 D, .int .u8 B]] _ _
  have B0 := Blk.new w [.int .i64 L, .int .i64 D, .int .u8 B] 60
  have c0 := B0.cell 0 _ rfl
  have c1 := B0.cell 1 _ rfl
  have c2 := B0.cell 2 _ rfl
  have hE := (Ext.refl w).alloc (.cells #[.int .i64 L, .int .i64 D, .int .u8 B] 60)
  by_cases k0 : L = 0
  · subst k0
    by_cases k1 : D = 0
    · subst k1
      have hr : Hid (decide (Wr (0, 0, B)) = false) := hidden (by simp [Wr])
      go_enter Try.func56, Try.ntmps56
      go_wp2_with fail
      go_ret
      exact ⟨ret_bool hr.out.symm, hE⟩
    · have hr : Hid (decide (Wr (0, D, B)) = true) := hidden (by simp [Wr, k1])
      have k2 : (D != 0) = true := by simp [k1]
      go_enter Try.func56, Try.ntmps56
      go_wp2_with fail
      go_ret
      exact ⟨ret_bool hr.out.symm, hE⟩
  · have k2 : (L == 0) = false := by simp [k0]
    have hw : Hid (Wr (L, D, B) ↔ (B ≠ 0 ∨ L < 2 ∨ 255 < L ∨ D < 1 ∨ 4096 < D)) := hidden (by unfold Wr; simp only [if_neg k0])
    by_cases k3 : B = 0
    · subst k3
      have ht : ∀ (h : L < 2 ∨ 255 < L ∨ D < 1 ∨ 4096 < D), Hid (decide (Wr (L, D, 0)) = true) := fun h => hidden (by rw [decide_eq_true_iff, hw.out]; omega)
      have ht := hidden ht
      clear k0
      by_cases k4 : L < 2
      · have hr := ht.out (Or.inl k4)
        go_enter Try.func56, Try.ntmps56
        go_wp2_with fail
        go_ret
        exact ⟨ret_bool hr.out.symm, hE⟩
      by_cases k5 : 255 < L
      · have hr := ht.out (Or.inr (Or.inl k5))
        go_enter Try.func56, Try.ntmps56
        go_wp2_with fail
        go_ret
        exact ⟨ret_bool hr.out.symm, hE⟩
      by_cases k6 : D < 1
      · have hr := ht.out (Or.inr (Or.inr (Or.inl k6)))
        go_enter Try.func56, Try.ntmps56
        go_wp2_with fail
        go_ret
        exact ⟨ret_bool hr.out.symm, hE⟩
      by_cases k7 : 4096 < D
      · have hr := ht.out (Or.inr (Or.inr (Or.inr k7)))
        go_enter Try.func56, Try.ntmps56
        go_wp2_with fail
        go_ret
        exact ⟨ret_bool hr.out.symm, hE⟩
      · have hr : Hid (decide (Wr (L, D, 0)) = false) := hidden (by rw [decide_eq_false_iff_not, hw.out]; omega)
        go_enter Try.func56, Try.ntmps56
        go_wp2_with fail
        go_ret
        exact ⟨ret_bool hr.out.symm, hE⟩
    · have hr : Hid (decide (Wr (L, D, B)) = true) := hidden (by rw [decide_eq_true_iff, hw.out]; exact Or.inl k3)
      have k4 : (B != 0) = true := by simp [k3]
      go_enter Try.func56, Try.ntmps56
      go_wp2_with fail
      go_ret
      exact ⟨ret_bool hr.out.symm, hE⟩

set_option maxHeartbeats 1000000 in
theorem lsize_any (L D B : Int) (w : World) : Calls Try.prog 45 #[tkv (L, D, B)] w fun x w' => x = .returned (.int .i64 (szT (L, D, B))) ∧ Ext w w' := by
  show Calls _ _ #[.agg #[.int .i64 L, .int .i64 D, .int .u8 B]] _ _
  have hE := (Ext.refl w).alloc (.cells #[.int .i64 L, .int .i64 D, .int .u8 B] 60)
  have c0 := (Blk.new w [.int .i64 L, .int .i64 D, .int .u8 B] 60).cell 0 _ rfl
  have hr : Hid (szT (L, D, B) = max 1 L) := hidden (by unfold szT; show (if L < 1 then _ else _) = _; split <;> (show _ = (_ : Int); omega))
  go_enter Try.func45, Try.ntmps45
  go_wp2_with fail
  go_ret
  exact ⟨ret_int hr.out.symm, hE⟩
set_option maxHeartbeats 1000000 in
theorem rsize_any (L D B : Int) (w : World) : Calls Try.prog 35 #[tkv (L, D, B)] w fun x w' => x = .returned (.int .i64 (szT (L, D, B))) ∧ Ext w w' := by
  show Calls _ _ #[.agg #[.int .i64 L, .int .i64 D, .int .u8 B]] _ _
  have hE := (Ext.refl w).alloc (.cells #[.int .i64 L, .int .i64 D, .int .u8 B] 60)
  have c0 := (Blk.new w [.int .i64 L, .int .i64 D, .int .u8 B] 60).cell 0 _ rfl
  have hr : Hid (szT (L, D, B) = max L 1) := hidden (by unfold szT; show (if L < 1 then _ else _) = _; split <;> (show _ = (_ : Int); omega))
  go_enter Try.func35, Try.ntmps35
  go_wp2_with fail
  go_ret
  exact ⟨ret_int hr.out.symm, hE⟩
end Go.Proofs.Ytjfdmhdmadnkoaa

/- Layer 35: the error of a token, and the price, of the program and of the reference. -/
namespace Go.Proofs.Ytjfdmhdmadnkoaa
open Go.RowKit
set_option linter.unusedVariables false
attribute [local go_sem ↓] Go.wp_at_zero Go.wp_at_succ

set_option maxHeartbeats 1000000 in
theorem lcheck_any (L D B n : Int) (hn0 : 0 ≤ n) (hn1 : n ≤ 65536) (hD0 : -9223372036854775808 ≤ D) (w : World) : Calls Try.prog 52 #[tkv (L, D, B), .int .i64 n] w fun x w' => x = .returned (.int .i64 (ckT (L, D, B) n)) ∧ Ext w w' := by
  have hs := lsize_any L D B
  have hr := right_any L D B
  have hsz : ¬ Wr (L, D, B) → szT (L, D, B) ≤ 255 := szT_le
  have hsz0 := szT_pos (L, D, B)
  obtain ⟨z, hz⟩ : ∃ z, szT (L, D, B) = z := ⟨_, rfl⟩
  have hE : Hid (ckT (L, D, B) n = if Wr (L, D, B) then 3 else if n < D then 2 else if 65536 < n + z then 5 else 0) := hidden (by rw [← hz]; rfl)
  simp only [hz] at hs hsz hsz0
  replace hs := hidden hs
  replace hr := hidden hr
  clear hz
  have T : ∀ w', Ext (w.alloc (.cells #[.int .i64 L, .int .i64 D, .int .u8 B] 60)) w' → Hid ((w'.cell? ⟨w.heap.size, 0, none⟩ = some (.int .i64 L) ∧ w'.cell? ⟨w.heap.size, 1, none⟩ = some (.int .i64 D) ∧ w'.cell? ⟨w.heap.size, 2, none⟩ = some (.int .u8 B)) ∧ Ext w w') := fun w' g => hidden (tk_box g)
  replace T := hidden T
  obtain ⟨⟨c0, c1, c2⟩, -⟩ := (T.out _ (Ext.refl _)).out
  show Calls _ _ #[.agg #[.int .i64 L, .int .i64 D, .int .u8 B], .int .i64 n] _ _
  by_cases k : Wr (L, D, B)
  · have e1 : Hid (decide (¬ Wr (L, D, B)) = false) := hidden (by simp [k])
    replace hE : Hid (ckT (L, D, B) n = 3) := hidden (by rw [hE.out, if_pos k])
    clear k hsz
    go_enter Try.func52, Try.ntmps52
    go_wp2_with fail
    refine (hr.out _).mono ?_
    rw [e1.out]
    rintro e w1 ⟨rfl, g1⟩
    obtain ⟨⟨d0, d1, d2⟩, hX⟩ := (T.out _ g1).out
    go_wp2_with fail
    go_ret
    exact ⟨ret_int hE.out.symm, hX⟩
  · have e1 : Hid (decide (¬ Wr (L, D, B)) = true) := hidden (by simp [k])
    replace hE : Hid (ckT (L, D, B) n = if n < D then 2 else if 65536 < n + z then 5 else 0) := hidden (by rw [hE.out, if_neg k])
    have hz1 := hsz k
    clear k hsz
    by_cases k2 : n < D
    · replace hE : Hid (ckT (L, D, B) n = 2) := hidden (by rw [hE.out, if_pos k2])
      go_enter Try.func52, Try.ntmps52
      go_wp2_with fail
      refine (hr.out _).mono ?_
      rw [e1.out]
      rintro e w1 ⟨rfl, g1⟩
      obtain ⟨⟨d0, d1, d2⟩, hX⟩ := (T.out _ g1).out
      go_wp2_with fail
      go_ret
      exact ⟨ret_int hE.out.symm, hX⟩
    · by_cases k3 : 65536 < n + z
      · replace hE : Hid (ckT (L, D, B) n = 5) := hidden (by rw [hE.out, if_neg k2, if_pos k3])
        go_enter Try.func52, Try.ntmps52
        go_wp2_with fail
        refine (hr.out _).mono ?_
        rw [e1.out]
        rintro e w1 ⟨rfl, g1⟩
        obtain ⟨⟨d0, d1, d2⟩, hX⟩ := (T.out _ g1).out
        go_wp2_with fail
        refine (hs.out _).mono ?_
        rintro e w2 ⟨rfl, g2⟩
        go_wp2_with fail
        go_ret
        exact ⟨ret_int hE.out.symm, hX.trans g2⟩
      · replace hE : Hid (ckT (L, D, B) n = 0) := hidden (by rw [hE.out, if_neg k2, if_neg k3])
        go_enter Try.func52, Try.ntmps52
        go_wp2_with fail
        refine (hr.out _).mono ?_
        rw [e1.out]
        rintro e w1 ⟨rfl, g1⟩
        obtain ⟨⟨d0, d1, d2⟩, hX⟩ := (T.out _ g1).out
        go_wp2_with fail
        refine (hs.out _).mono ?_
        rintro e w2 ⟨rfl, g2⟩
        go_wp2_with fail
        go_ret
        exact ⟨ret_int hE.out.symm, hX.trans g2⟩

set_option maxHeartbeats 1000000 in
theorem rtoken_any (L D B n : Int) (hn0 : 0 ≤ n) (hn1 : n ≤ 65536) (hD0 : -9223372036854775808 ≤ D) (w : World) : Calls Try.prog 55 #[tkv (L, D, B), .int .i64 n] w fun x w' => x = .returned (.int .i64 (ckT (L, D, B) n)) ∧ Ext w w' := by
  have hs := rsize_any L D B
  have hr := wrong_any L D B
  have hsz : ¬ Wr (L, D, B) → szT (L, D, B) ≤ 255 := szT_le
  have hsz0 := szT_pos (L, D, B)
  obtain ⟨z, hz⟩ : ∃ z, szT (L, D, B) = z := ⟨_, rfl⟩
  have hE : Hid (ckT (L, D, B) n = if Wr (L, D, B) then 3 else if n < D then 2 else if 65536 < n + z then 5 else 0) := hidden (by rw [← hz]; rfl)
  simp only [hz] at hs hsz hsz0
  replace hs := hidden hs
  replace hr := hidden hr
  clear hz
  have T : ∀ w', Ext (w.alloc (.cells #[.int .i64 L, .int .i64 D, .int .u8 B] 60)) w' → Hid ((w'.cell? ⟨w.heap.size, 0, none⟩ = some (.int .i64 L) ∧ w'.cell? ⟨w.heap.size, 1, none⟩ = some (.int .i64 D) ∧ w'.cell? ⟨w.heap.size, 2, none⟩ = some (.int .u8 B)) ∧ Ext w w') := fun w' g => hidden (tk_box g)
  replace T := hidden T
  obtain ⟨⟨c0, c1, c2⟩, -⟩ := (T.out _ (Ext.refl _)).out
  show Calls _ _ #[.agg #[.int .i64 L, .int .i64 D, .int .u8 B], .int .i64 n] _ _
  by_cases k : Wr (L, D, B)
  · have e1 : Hid (decide (Wr (L, D, B)) = true) := hidden (by simp [k])
    replace hE : Hid (ckT (L, D, B) n = 3) := hidden (by rw [hE.out, if_pos k])
    clear k hsz
    go_enter Try.func55, Try.ntmps55
    go_wp2_with fail
    refine (hr.out _).mono ?_
    rw [e1.out]
    rintro e w1 ⟨rfl, g1⟩
    obtain ⟨⟨d0, d1, d2⟩, hX⟩ := (T.out _ g1).out
    go_wp2_with fail
    go_ret
    exact ⟨ret_int hE.out.symm, hX⟩
  · have e1 : Hid (decide (Wr (L, D, B)) = false) := hidden (by simp [k])
    replace hE : Hid (ckT (L, D, B) n = if n < D then 2 else if 65536 < n + z then 5 else 0) := hidden (by rw [hE.out, if_neg k])
    have hz1 := hsz k
    clear k hsz
    by_cases k2 : n < D
    · replace hE : Hid (ckT (L, D, B) n = 2) := hidden (by rw [hE.out, if_pos k2])
      go_enter Try.func55, Try.ntmps55
      go_wp2_with fail
      refine (hr.out _).mono ?_
      rw [e1.out]
      rintro e w1 ⟨rfl, g1⟩
      obtain ⟨⟨d0, d1, d2⟩, hX⟩ := (T.out _ g1).out
      go_wp2_with fail
      go_ret
      exact ⟨ret_int hE.out.symm, hX⟩
    · by_cases k3 : 65536 < n + z
      · replace hE : Hid (ckT (L, D, B) n = 5) := hidden (by rw [hE.out, if_neg k2, if_pos k3])
        go_enter Try.func55, Try.ntmps55
        go_wp2_with fail
        refine (hr.out _).mono ?_
        rw [e1.out]
        rintro e w1 ⟨rfl, g1⟩
        obtain ⟨⟨d0, d1, d2⟩, hX⟩ := (T.out _ g1).out
        go_wp2_with fail
        refine (hs.out _).mono ?_
        rintro e w2 ⟨rfl, g2⟩
        go_wp2_with fail
        go_ret
        exact ⟨ret_int hE.out.symm, hX.trans g2⟩
      · replace hE : Hid (ckT (L, D, B) n = 0) := hidden (by rw [hE.out, if_neg k2, if_neg k3])
        go_enter Try.func55, Try.ntmps55
        go_wp2_with fail
        refine (hr.out _).mono ?_
        rw [e1.out]
        rintro e w1 ⟨rfl, g1⟩
        obtain ⟨⟨d0, d1, d2⟩, hX⟩ := (T.out _ g1).out
        go_wp2_with fail
        refine (hs.out _).mono ?_
        rintro e w2 ⟨rfl, g2⟩
        go_wp2_with fail
        go_ret
        exact ⟨ret_int hE.out.symm, hX.trans g2⟩

set_option maxHeartbeats 1000000 in
theorem gammaBits_any (n : Int) (h0 : 1 ≤ n) (h1 : n ≤ 65536) (w : World) : Calls Try.prog 54 #[.int .i64 n] w fun x w' => x = .returned (.int .i64 (gaB n)) ∧ w' = w := by
  have hlen := Try.bits_Len n
  obtain ⟨m, hm, hm2⟩ := bl_bd n 17 h0 (by omega) (by decide)
  have hE : Hid (gaB n = 2 * ((m : Int) + 1) - 1) := hidden (by unfold gaB; rw [hm]; rfl)
  simp only [hm] at hlen
  replace hlen := hidden hlen
  clear hm
  go_enter Try.func54, Try.ntmps54
  go_wp2_with fail
  refine (hlen.out _ (by omega) (by omega)).mono ?_
  rintro e w1 ⟨rfl, rfl⟩
  go_wp2_with fail
  go_ret
  exact ⟨ret_int (by rw [hE.out]), rfl⟩

set_option maxHeartbeats 1000000 in
theorem digits_any (n : Int) (h0 : 1 ≤ n) (h1 : n ≤ 65536) (w : World) : Calls Try.prog 57 #[.int .i64 n] w fun x w' => x = .returned (.int .i64 (Lib.bitLen n.toNat : Int)) ∧ w' = w := by
  obtain ⟨m, hm, hm2⟩ := bl_bd n 17 h0 (by omega) (by decide)
  obtain ⟨c1, c2⟩ := bitLen_int n h0 (by omega) m hm
  rw [hm]
  have Hdiv : Hid (∀ k : Nat, 0 < n / 2 ^ k ↔ k < m + 1) := by
    refine hidden (fun k => ?_)
    have hp := pow2_pos k
    constructor
    · intro hh
      rcases Nat.lt_or_ge k (m + 1) with hkm | hkm
      · exact hkm
      · exfalso
        have h2 : (2 : Int) ^ (m + 1) ≤ 2 ^ k := by
          have := Nat.pow_le_pow_right (show 0 < 2 by decide) (show m + 1 ≤ k by omega)
          have h3 : ((2 ^ (m + 1) : Nat) : Int) ≤ ((2 ^ k : Nat) : Int) := Int.ofNat_le.mpr this
          simpa using h3
        rw [Int.ediv_eq_zero_of_lt (by omega) (by omega)] at hh
        exact absurd hh (by decide)
    · intro hkm
      have h2 : (2 : Int) ^ k ≤ 2 ^ m := by
        have := Nat.pow_le_pow_right (show 0 < 2 by decide) (show k ≤ m by omega)
        have h3 : ((2 ^ k : Nat) : Int) ≤ ((2 ^ m : Nat) : Int) := Int.ofNat_le.mpr this
        simpa using h3
      exact Int.le_ediv_of_mul_le hp (by omega)
  have Hbd : Hid (∀ k : Nat, 0 ≤ n / 2 ^ k ∧ n / 2 ^ k ≤ 65536 ∧ n / 2 ^ k / 2 = n / 2 ^ (k + 1)) := by
    refine hidden (fun k => ?_)
    have hp := pow2_pos k
    refine ⟨Int.ediv_nonneg (by omega) (by omega), ?_, ?_⟩
    · have := Int.ediv_le_self (2 ^ k) (show 0 ≤ n by omega); omega
    · rw [Int.ediv_ediv_of_nonneg (by omega), Int.pow_succ]
  clear c1 c2 hm
  go_enter Try.func57, Try.ntmps57
  go_wp2_with fail
  go_loop [0, 3] (fun s0 s3 => ∃ (k : Nat) (y : Int), k ≤ m + 1 ∧ s3 = .int .i64 (k : Int) ∧ s0 = .int .i64 y ∧ Hid (y = n / 2 ^ k)) (fun _ s3 => m + 1 - (intOf s3).toNat)
  case atStart => exact ⟨0, n, by omega, rfl, rfl, hidden (by simp)⟩
  case round =>
    obtain ⟨k, y, hkm, rfl, rfl, hy⟩ := hrel
    have hX := Hdiv.out k
    obtain ⟨b0, b1, b2⟩ := Hbd.out k
    rw [← hy.out] at hX b0 b1 b2
    replace b2 := hidden b2
    by_cases hlt : k < m + 1
    · have hp := hX.2 hlt
      clear hX
      go_wp2_with fail
      go_round
      case rel => exact ⟨k + 1, y / 2, by omega, by go_num, by go_num, hidden b2.out⟩
      case measure => simp [intOf]; omega
    · have hp : ¬ 0 < y := fun e => hlt (hX.1 e)
      clear hX
      obtain rfl : k = m + 1 := by omega
      go_wp2_with fail
      go_ret
      exact ⟨ret_int (by omega), rfl⟩
end Go.Proofs.Ytjfdmhdmadnkoaa

/- Layer 35: prices, of the program and of the reference. -/
namespace Go.Proofs.Ytjfdmhdmadnkoaa
open Go.RowKit
set_option linter.unusedVariables false
attribute [local go_sem ↓] Go.wp_at_zero Go.wp_at_succ

set_option maxHeartbeats 1000000 in
theorem lprice_any (L D B : Int) (w : World) : Calls Try.prog 37 #[tkv (L, D, B)] w fun x w' => x = .returned (.int .i64 (prc (L, D, B))) ∧ Ext w w' := by
  have hr := right_any L D B
  replace hr := hidden hr
  have T : ∀ w', Ext (w.alloc (.cells #[.int .i64 L, .int .i64 D, .int .u8 B] 60)) w' → Hid ((w'.cell? ⟨w.heap.size, 0, none⟩ = some (.int .i64 L) ∧ w'.cell? ⟨w.heap.size, 1, none⟩ = some (.int .i64 D) ∧ w'.cell? ⟨w.heap.size, 2, none⟩ = some (.int .u8 B)) ∧ Ext w w') := fun w' g => hidden (tk_box g)
  replace T := hidden T
  obtain ⟨⟨c0, c1, c2⟩, -⟩ := (T.out _ (Ext.refl _)).out
  show Calls _ _ #[.agg #[.int .i64 L, .int .i64 D, .int .u8 B]] _ _
  by_cases k : Wr (L, D, B)
  · have e1 : Hid (decide (¬ Wr (L, D, B)) = false) := hidden (by simp [k])
    have hE : Hid (prc (L, D, B) = 0) := hidden (by unfold prc; rw [if_pos k])
    clear k
    go_enter Try.func37, Try.ntmps37
    go_wp2_with fail
    refine (hr.out _).mono ?_
    rw [e1.out]
    rintro e w1 ⟨rfl, g1⟩
    obtain ⟨⟨d0, d1, d2⟩, hX⟩ := (T.out _ g1).out
    go_wp2_with fail
    go_ret
    exact ⟨ret_int hE.out.symm, hX⟩
  · have e1 : Hid (decide (¬ Wr (L, D, B)) = true) := hidden (by simp [k])
    by_cases k0 : L = 0
    · have hE : Hid (prc (L, D, B) = 9) := hidden (by unfold prc; rw [if_neg k, if_pos k0])
      subst k0
      clear k
      go_enter Try.func37, Try.ntmps37
      go_wp2_with fail
      refine (hr.out _).mono ?_
      rw [e1.out]
      rintro e w1 ⟨rfl, g1⟩
      obtain ⟨⟨d0, d1, d2⟩, hX⟩ := (T.out _ g1).out
      go_wp2_with fail
      go_ret
      exact ⟨ret_int hE.out.symm, hX⟩
    · have hE : Hid (prc (L, D, B) = 1 + gaB (L - 1) + gaB D) := hidden (by unfold prc; rw [if_neg k, if_neg k0])
      have k2 : (L == 0) = false := by simp [k0]
      obtain ⟨-, a2, a3, a4, a5⟩ := Wr_copy k k0
      simp only at a2 a3 a4 a5
      clear k k0
      have C1 := gammaBits_any (L - 1) (by omega) (by omega)
      have C2 := gammaBits_any D (by omega) (by omega)
      have b1 := gaB_bd (L - 1) 8 (by omega) (by omega) (by decide)
      have b2 := gaB_bd D 13 (by omega) (by omega) (by decide)
      obtain ⟨x, hx⟩ : ∃ x, gaB (L - 1) = x := ⟨_, rfl⟩
      obtain ⟨y, hy⟩ : ∃ y, gaB D = y := ⟨_, rfl⟩
      rw [hx] at b1
      rw [hy] at b2
      simp only [hx] at C1
      simp only [hy] at C2
      obtain ⟨b10, b11⟩ := b1
      obtain ⟨b20, b21⟩ := b2
      replace C1 := hidden C1
      replace C2 := hidden C2
      replace hx := hidden hx
      replace hy := hidden hy
      go_enter Try.func37, Try.ntmps37
      go_wp2_with fail
      refine (hr.out _).mono ?_
      rw [e1.out]
      rintro e w1 ⟨rfl, g1⟩
      obtain ⟨⟨d0, d1, d2⟩, hX⟩ := (T.out _ g1).out
      go_wp2_with fail
      go_quiet ((go_at_call 54; exact Calls.quiet_of_same (by first | with_reducible exact C1.out _ | with_reducible exact C2.out _)))
      go_wp2_with fail
      go_ret
      exact ⟨ret_int (by rw [hE.out, hx.out, hy.out]), hX.drewN _⟩

set_option maxHeartbeats 1000000 in
theorem rprice_any (L D B : Int) (w : World) : Calls Try.prog 39 #[tkv (L, D, B)] w fun x w' => x = .returned (.int .i64 (prc (L, D, B))) ∧ Ext w w' := by
  have hr := wrong_any L D B
  replace hr := hidden hr
  have T : ∀ w', Ext (w.alloc (.cells #[.int .i64 L, .int .i64 D, .int .u8 B] 60)) w' → Hid ((w'.cell? ⟨w.heap.size, 0, none⟩ = some (.int .i64 L) ∧ w'.cell? ⟨w.heap.size, 1, none⟩ = some (.int .i64 D) ∧ w'.cell? ⟨w.heap.size, 2, none⟩ = some (.int .u8 B)) ∧ Ext w w') := fun w' g => hidden (tk_box g)
  replace T := hidden T
  obtain ⟨⟨c0, c1, c2⟩, -⟩ := (T.out _ (Ext.refl _)).out
  show Calls _ _ #[.agg #[.int .i64 L, .int .i64 D, .int .u8 B]] _ _
  by_cases k : Wr (L, D, B)
  · have e1 : Hid (decide (Wr (L, D, B)) = true) := hidden (by simp [k])
    have hE : Hid (prc (L, D, B) = 0) := hidden (by unfold prc; rw [if_pos k])
    clear k
    go_enter Try.func39, Try.ntmps39
    go_wp2_with fail
    refine (hr.out _).mono ?_
    rw [e1.out]
    rintro e w1 ⟨rfl, g1⟩
    obtain ⟨⟨d0, d1, d2⟩, hX⟩ := (T.out _ g1).out
    go_wp2_with fail
    go_ret
    exact ⟨ret_int hE.out.symm, hX⟩
  · have e1 : Hid (decide (Wr (L, D, B)) = false) := hidden (by simp [k])
    by_cases k0 : L = 0
    · have hE : Hid (prc (L, D, B) = 9) := hidden (by unfold prc; rw [if_neg k, if_pos k0])
      subst k0
      clear k
      go_enter Try.func39, Try.ntmps39
      go_wp2_with fail
      refine (hr.out _).mono ?_
      rw [e1.out]
      rintro e w1 ⟨rfl, g1⟩
      obtain ⟨⟨d0, d1, d2⟩, hX⟩ := (T.out _ g1).out
      go_wp2_with fail
      go_ret
      exact ⟨ret_int hE.out.symm, hX⟩
    · have hE : Hid (prc (L, D, B) = 1 + gaB (L - 1) + gaB D) := hidden (by unfold prc; rw [if_neg k, if_neg k0])
      have k2 : (L == 0) = false := by simp [k0]
      obtain ⟨-, a2, a3, a4, a5⟩ := Wr_copy k k0
      simp only at a2 a3 a4 a5
      clear k k0
      have C1 := digits_any (L - 1) (by omega) (by omega)
      have C2 := digits_any D (by omega) (by omega)
      have b1 := gaB_bd (L - 1) 8 (by omega) (by omega) (by decide)
      have b2 := gaB_bd D 13 (by omega) (by omega) (by decide)
      unfold gaB at b1 b2
      have hg : gaB (L - 1) = 2 * (Lib.bitLen (L - 1).toNat : Int) - 1 ∧ gaB D = 2 * (Lib.bitLen D.toNat : Int) - 1 := ⟨rfl, rfl⟩
      obtain ⟨x, hx⟩ : ∃ x, (Lib.bitLen (L - 1).toNat : Int) = x := ⟨_, rfl⟩
      obtain ⟨y, hy⟩ : ∃ y, (Lib.bitLen D.toNat : Int) = y := ⟨_, rfl⟩
      rw [hx] at b1 hg
      rw [hy] at b2 hg
      simp only [hx] at C1
      simp only [hy] at C2
      obtain ⟨b10, b11⟩ := b1
      obtain ⟨b20, b21⟩ := b2
      replace C1 := hidden C1
      replace C2 := hidden C2
      clear hx hy
      replace hg := hidden hg
      go_enter Try.func39, Try.ntmps39
      go_wp2_with fail
      refine (hr.out _).mono ?_
      rw [e1.out]
      rintro e w1 ⟨rfl, g1⟩
      obtain ⟨⟨d0, d1, d2⟩, hX⟩ := (T.out _ g1).out
      go_wp2_with fail
      go_quiet ((go_at_call 57; exact Calls.quiet_of_same (by first | with_reducible exact C1.out _ | with_reducible exact C2.out _)))
      go_wp2_with fail
      go_ret
      exact ⟨ret_int (by rw [hE.out, hg.out.1, hg.out.2]; omega), hX.drewN _⟩
end Go.Proofs.Ytjfdmhdmadnkoaa

/- Layer 35: Check of lists of tokens, of the program and of the reference. -/
namespace Go.Proofs.Ytjfdmhdmadnkoaa
open Go.RowKit
set_option linter.unusedVariables false
attribute [local go_sem ↓] Go.wp_at_zero Go.wp_at_succ

set_option maxHeartbeats 1000000 in
theorem lchk_any (v : Value) (l : List (Int × Int × Int)) (hok : OkTs l) (w : World) (h : Toks w v l) :
    Calls Try.prog 36 #[v] w fun x w' => x = .returned (.int .i64 (chkF l)) ∧ Ext w w' := by
  obtain ⟨a, cap, rfl, h1, h2, h3⟩ := Rd.shape h
  obtain ⟨n, hn⟩ : ∃ n, l.length = n := ⟨_, rfl⟩
  have h : Rd w 3 (.slice a l.length cap) l.length (l.flatMap tkc) := h
  rw [hn] at h h1 ⊢
  replace hn := hidden hn
  replace h := hidden h
  replace hok := hidden hok
  by_cases hb : 65536 < n
  · have hE : Hid (chkF l = 6) := by show chkF l = 6; unfold chkF; rw [hn.out]; exact if_pos hb
    go_enter Try.func36, Try.ntmps36
    go_wp2_with fail
    go_ret
    exact ⟨ret_int hE.out.symm, Ext.refl _⟩
  · have hE : Hid (chkF l = ckL 0 l) := by show chkF l = _; unfold chkF; rw [hn.out]; exact if_neg hb
    go_enter Try.func36, Try.ntmps36
    go_wp2_with fail
    go_loopw [3, 12] (fun s i wr => ∃ (k : Nat) (z : Int), k ≤ n ∧ i = .int .i64 (k : Int) ∧ s = .int .i64 z ∧ 0 ≤ z ∧ z ≤ 65536 ∧ Hid (ckL 0 l = ckL z (l.drop k)) ∧ Ext w wr) (fun _ i _ => n - (intOf i).toNat)
    case atStart => exact ⟨0, 0, by omega, rfl, rfl, by omega, by omega, rfl, Ext.refl _⟩
    case round =>
      obtain ⟨k, z, hk, rfl, rfl, l0, l1, hl, hX⟩ := hrel
      by_cases hlt : k < n
      · obtain ⟨b, off, rfl, -, -⟩ := h.out.cells (by omega)
        obtain ⟨x, hx, hxm⟩ := at_lt l (k := k) (by rw [hn.out]; exact hlt)
        obtain ⟨c0, c1, c2⟩ := rd3_at tkc_len h.out k x hx _ _ _ rfl
        have hdr := drop_at hx
        obtain ⟨L, D, B⟩ := x
        obtain ⟨⟨x0, x1⟩, ⟨x2, x3⟩, x4, x5⟩ := hok.out _ hxm
        simp only at x0 x1 x2 x3 x4 x5 c0 c1 c2
        have d0 := hX.cell c0
        have d1 := hX.cell c1
        have d2 := hX.cell c2
        have hck := lcheck_any L D B z l0 l1 x2
        have hsz := lsize_any L D B
        have hok1 : ckT (L, D, B) z = 0 → 1 ≤ szT (L, D, B) ∧ z + szT (L, D, B) ≤ 65536 := fun e => ⟨szT_pos _, (ckT_ok e).2.2⟩
        have hst : Hid (ckL z (l.drop k) = if ckT (L, D, B) z ≠ 0 then ckT (L, D, B) z else ckL (z + szT (L, D, B)) (l.drop (k + 1))) := by show _ = _; rw [hdr]; rfl
        obtain ⟨q, hq⟩ : ∃ q, ckT (L, D, B) z = q := ⟨_, rfl⟩
        obtain ⟨y, hy⟩ : ∃ y, szT (L, D, B) = y := ⟨_, rfl⟩
        rw [hq, hy] at hok1
        simp only [hq, hy] at hst
        simp only [hq] at hck
        simp only [hy] at hsz
        replace hck := hidden hck
        replace hsz := hidden hsz
        replace hx := hidden hx
        replace hxm := hidden hxm
        clear hq hy hdr c0 c1 c2
        go_wp2_with fail
        refine (hck.out _).mono ?_
        rintro e w2 ⟨rfl, g2⟩
        have hX2 := hX.trans g2.past
        by_cases hq0 : q = 0
        · subst hq0
          obtain ⟨y0, y1⟩ := hok1 rfl
          clear hok1
          replace hst : Hid (ckL z (l.drop k) = ckL (z + y) (l.drop (k + 1))) := by show _ = _; rw [hst.out]; exact if_neg (by simp)
          obtain ⟨⟨e0, e1, e2⟩, -⟩ := tk_box g2
          go_wp2_with fail
          refine (hsz.out _).mono ?_
          rintro e w3 ⟨rfl, g3⟩
          go_wp2_with fail
          go_round
          case rel => exact ⟨k + 1, z + y, by omega, by go_num, rfl, by omega, by omega, by show _ = _; rw [hl.out, hst.out], hX2.trans g3⟩
          case measure => simp [intOf]; omega
        · have hq1 : (q != 0) = true := by simp [hq0]
          clear hok1
          replace hst : Hid (ckL z (l.drop k) = q) := by show _ = _; rw [hst.out]; exact if_pos hq0
          go_wp2_with fail
          go_ret
          exact ⟨ret_int (by rw [hE.out, hl.out, hst.out]), hX2⟩
      · obtain rfl : k = n := by omega
        have hE2 : Hid (ckL 0 l = 0) := by show _ = _; rw [hl.out, List.drop_of_length_le (by rw [hn.out]; exact Nat.le_refl _)]; rfl
        go_wp2_with fail
        go_ret
        exact ⟨ret_int (hE.out.trans hE2.out).symm, hX⟩

set_option maxHeartbeats 1000000 in
theorem rchk_any (v : Value) (l : List (Int × Int × Int)) (hok : OkTs l) (w : World) (h : Toks w v l) :
    Calls Try.prog 38 #[v] w fun x w' => x = .returned (.int .i64 (chkF l)) ∧ Ext w w' := by
  obtain ⟨a, cap, rfl, h1, h2, h3⟩ := Rd.shape h
  obtain ⟨n, hn⟩ : ∃ n, l.length = n := ⟨_, rfl⟩
  have h : Rd w 3 (.slice a l.length cap) l.length (l.flatMap tkc) := h
  rw [hn] at h h1 ⊢
  replace hn := hidden hn
  replace h := hidden h
  replace hok := hidden hok
  by_cases hb : 65536 < n
  · have hE : Hid (chkF l = 6) := by show chkF l = 6; unfold chkF; rw [hn.out]; exact if_pos hb
    go_enter Try.func38, Try.ntmps38
    go_wp2_with fail
    go_ret
    exact ⟨ret_int hE.out.symm, Ext.refl _⟩
  · have hE : Hid (chkF l = ckL 0 l) := by show chkF l = _; unfold chkF; rw [hn.out]; exact if_neg hb
    go_enter Try.func38, Try.ntmps38
    go_wp2_with fail
    go_loopw [3, 4] (fun s i wr => ∃ (k : Nat) (z : Int), k ≤ n ∧ i = .int .i64 (k : Int) ∧ s = .int .i64 z ∧ 0 ≤ z ∧ z ≤ 65536 ∧ Hid (ckL 0 l = ckL z (l.drop k)) ∧ Ext w wr) (fun _ i _ => n - (intOf i).toNat)
    case atStart => exact ⟨0, 0, by omega, rfl, rfl, by omega, by omega, rfl, Ext.refl _⟩
    case round =>
      obtain ⟨k, z, hk, rfl, rfl, l0, l1, hl, hX⟩ := hrel
      by_cases hlt : k < n
      · obtain ⟨b, off, rfl, -, -⟩ := h.out.cells (by omega)
        obtain ⟨x, hx, hxm⟩ := at_lt l (k := k) (by rw [hn.out]; exact hlt)
        obtain ⟨c0, c1, c2⟩ := rd3_at tkc_len h.out k x hx _ _ _ rfl
        have hdr := drop_at hx
        obtain ⟨L, D, B⟩ := x
        obtain ⟨⟨x0, x1⟩, ⟨x2, x3⟩, x4, x5⟩ := hok.out _ hxm
        simp only at x0 x1 x2 x3 x4 x5 c0 c1 c2
        have d0 := hX.cell c0
        have d1 := hX.cell c1
        have d2 := hX.cell c2
        have hck := rtoken_any L D B z l0 l1 x2
        have hsz := rsize_any L D B
        have hok1 : ckT (L, D, B) z = 0 → 1 ≤ szT (L, D, B) ∧ z + szT (L, D, B) ≤ 65536 := fun e => ⟨szT_pos _, (ckT_ok e).2.2⟩
        have hst : Hid (ckL z (l.drop k) = if ckT (L, D, B) z ≠ 0 then ckT (L, D, B) z else ckL (z + szT (L, D, B)) (l.drop (k + 1))) := by show _ = _; rw [hdr]; rfl
        obtain ⟨q, hq⟩ : ∃ q, ckT (L, D, B) z = q := ⟨_, rfl⟩
        obtain ⟨y, hy⟩ : ∃ y, szT (L, D, B) = y := ⟨_, rfl⟩
        rw [hq, hy] at hok1
        simp only [hq, hy] at hst
        simp only [hq] at hck
        simp only [hy] at hsz
        replace hck := hidden hck
        replace hsz := hidden hsz
        replace hx := hidden hx
        replace hxm := hidden hxm
        clear hq hy hdr c0 c1 c2
        go_wp2_with fail
        refine (hck.out _).mono ?_
        rintro e w2 ⟨rfl, g2⟩
        have hX2 := hX.trans g2
        by_cases hq0 : q = 0
        · subst hq0
          obtain ⟨y0, y1⟩ := hok1 rfl
          clear hok1
          replace hst : Hid (ckL z (l.drop k) = ckL (z + y) (l.drop (k + 1))) := by show _ = _; rw [hst.out]; exact if_neg (by simp)
          have e0 := g2.cell d0
          have e1 := g2.cell d1
          have e2 := g2.cell d2
          go_wp2_with fail
          refine (hsz.out _).mono ?_
          rintro e w3 ⟨rfl, g3⟩
          go_wp2_with fail
          go_round
          case rel => exact ⟨k + 1, z + y, by omega, by go_num, rfl, by omega, by omega, by show _ = _; rw [hl.out, hst.out], hX2.trans g3⟩
          case measure => simp [intOf]; omega
        · have hq1 : (q != 0) = true := by simp [hq0]
          clear hok1
          replace hst : Hid (ckL z (l.drop k) = q) := by show _ = _; rw [hst.out]; exact if_pos hq0
          go_wp2_with fail
          go_ret
          exact ⟨ret_int (by rw [hE.out, hl.out, hst.out]), hX2⟩
      · obtain rfl : k = n := by omega
        have hE2 : Hid (ckL 0 l = 0) := by show _ = _; rw [hl.out, List.drop_of_length_le (by rw [hn.out]; exact Nat.le_refl _)]; rfl
        go_wp2_with fail
        go_ret
        exact ⟨ret_int (hE.out.trans hE2.out).symm, hX⟩
end Go.Proofs.Ytjfdmhdmadnkoaa
