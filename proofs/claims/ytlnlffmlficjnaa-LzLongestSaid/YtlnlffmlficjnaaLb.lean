/- The small functions of layer 35 and of its reference: form, size, the error of a token, prices. -/
import Derived.Test.YtlnlffmlficjnaaRows
import Derived.Test.YtlnlffmlficjnaaLa
import Derived.Test.YtlnlffmlficjnaaShelf
import Derived.Deep.QuietTactic
import Derived.BigQuiet
import Derived.Outline
namespace Go.Proofs.Ytlnlffmlficjnaa
open Go.RowKit
set_option linter.unusedVariables false
attribute [local go_sem ↓] Go.wp_at_zero Go.wp_at_succ

theorem lin_any (n lo hi : Int) (w : World) : Calls Try.prog 40 #[.int .i64 n, .int .i64 lo, .int .i64 hi] w fun x w' => x = .returned (.bool (decide (lo ≤ n ∧ n ≤ hi))) ∧ Ext w w' := by
  by_cases h1 : lo ≤ n
  · by_cases h2 : n ≤ hi
    · skip
      go_enter Try.func40, Try.ntmps40
      go_wp2_with fail
      go_ret
      exact ⟨ret_bool (by simp [*]), Ext.refl _⟩
    · skip
      go_enter Try.func40, Try.ntmps40
      go_wp2_with fail
      go_ret
      exact ⟨ret_bool (by simp [*]), Ext.refl _⟩
  · skip
    go_enter Try.func40, Try.ntmps40
    go_wp2_with fail
    go_ret
    exact ⟨ret_bool (by rw [Bool.eq_iff_iff]; simp; omega), Ext.refl _⟩

theorem tk_box {w w' : World} {L D B : Int} {t : TypeId} (h : Ext (w.alloc (.cells #[.int .i64 L, .int .i64 D, .int .u8 B] t)) w') :
    (w'.cell? ⟨w.heap.size, 0, none⟩ = some (.int .i64 L) ∧ w'.cell? ⟨w.heap.size, 1, none⟩ = some (.int .i64 D) ∧ w'.cell? ⟨w.heap.size, 2, none⟩ = some (.int .u8 B)) ∧ Ext w w' :=
  ⟨⟨(h.box 0 _ rfl).1, (h.box 1 _ rfl).1, (h.box 2 _ rfl).1⟩, h.past⟩

set_option maxHeartbeats 1000000 in
theorem right_any (L D B : Int) (w : World) : Calls Try.prog 27 #[tkv (L, D, B)] w fun x w' => x = .returned (.bool (decide (¬ Wr (L, D, B)))) ∧ Ext w w' := by
  show Calls _ _ #[.agg #[.int .i64 L, .int .i64 D, .int .u8 B]] _ _
  have B0 := Blk.new w [.int .i64 L, .int .i64 D, .int .u8 B] 27
  have c0 := B0.cell 0 _ rfl
  have c1 := B0.cell 1 _ rfl
  have c2 := B0.cell 2 _ rfl
  have hE := (Ext.refl w).alloc (.cells #[.int .i64 L, .int .i64 D, .int .u8 B] 27)
  by_cases k0 : L = 0
  · subst k0
    by_cases k1 : D = 0
    · subst k1
      have hr : Hid (decide (¬ Wr (0, 0, B)) = true) := hidden (by simp [Wr])
      go_enter Try.func27, Try.ntmps27
      go_wp2_with fail
      go_ret
      exact ⟨ret_bool hr.out.symm, hE⟩
    · have hr : Hid (decide (¬ Wr (0, D, B)) = false) := hidden (by simp [Wr, k1])
      have k2 : (D == 0) = false := by simp [k1]
      go_enter Try.func27, Try.ntmps27
      go_wp2_with fail
      go_ret
      exact ⟨ret_bool hr.out.symm, hE⟩
  · have k2 : (L == 0) = false := by simp [k0]
    by_cases k3 : B = 0
    · subst k3
      have hw : Hid (Wr (L, D, 0) ↔ ¬ (2 ≤ L ∧ L ≤ 255) ∨ ¬ (1 ≤ D ∧ D ≤ 4096)) := hidden (by unfold Wr; simp only [if_neg k0]; omega)
      by_cases k4 : 2 ≤ L ∧ L ≤ 255
      · have e4 : Hid (decide (2 ≤ L ∧ L ≤ 255) = true) := hidden (by simp [k4])
        by_cases k5 : 1 ≤ D ∧ D ≤ 4096
        · have e5 : Hid (decide (1 ≤ D ∧ D ≤ 4096) = true) := hidden (by simp [k5])
          have hr : Hid (decide (¬ Wr (L, D, 0)) = true) := hidden (by rw [decide_eq_true_iff, hw.out]; omega)
          clear k4 k5
          go_enter Try.func27, Try.ntmps27
          go_wp2_with fail
          refine (lin_any _ _ _ _).mono ?_
          rw [e4.out]
          rintro e w1 ⟨rfl, g1⟩
          have d1 := g1.cell c1
          have hE2 := hE.trans g1
          go_wp2_with fail
          refine (lin_any _ _ _ _).mono ?_
          rw [e5.out]
          rintro e w2 ⟨rfl, g2⟩
          go_wp2_with fail
          go_ret
          exact ⟨ret_bool hr.out.symm, hE2.trans g2⟩
        · have e5 : Hid (decide (1 ≤ D ∧ D ≤ 4096) = false) := hidden (by simpa using k5)
          have hr : Hid (decide (¬ Wr (L, D, 0)) = false) := hidden (by rw [decide_eq_false_iff_not, hw.out]; omega)
          clear k4 k5
          go_enter Try.func27, Try.ntmps27
          go_wp2_with fail
          refine (lin_any _ _ _ _).mono ?_
          rw [e4.out]
          rintro e w1 ⟨rfl, g1⟩
          have d1 := g1.cell c1
          have hE2 := hE.trans g1
          go_wp2_with fail
          refine (lin_any _ _ _ _).mono ?_
          rw [e5.out]
          rintro e w2 ⟨rfl, g2⟩
          go_wp2_with fail
          go_ret
          exact ⟨ret_bool hr.out.symm, hE2.trans g2⟩
      · have e4 : Hid (decide (2 ≤ L ∧ L ≤ 255) = false) := hidden (by simpa using k4)
        have hr : Hid (decide (¬ Wr (L, D, 0)) = false) := hidden (by rw [decide_eq_false_iff_not, hw.out]; omega)
        clear k4
        go_enter Try.func27, Try.ntmps27
        go_wp2_with fail
        refine (lin_any _ _ _ _).mono ?_
        rw [e4.out]
        rintro e w1 ⟨rfl, g1⟩
        have hE2 := hE.trans g1
        go_wp2_with fail
        go_ret
        exact ⟨ret_bool hr.out.symm, hE2⟩
    · have hr : Hid (decide (¬ Wr (L, D, B)) = false) := hidden (by simp [Wr, k0, k3])
      have k4 : (B == 0) = false := by simp [k3]
      go_enter Try.func27, Try.ntmps27
      go_wp2_with fail
      go_ret
      exact ⟨ret_bool hr.out.symm, hE⟩

set_option maxHeartbeats 1000000 in
theorem wrong_any (L D B : Int) (w : World) : Calls Try.prog 29 #[tkv (L, D, B)] w fun x w' => x = .returned (.bool (decide (Wr (L, D, B)))) ∧ Ext w w' := by
  show Calls _ _ #[.agg #[.int .i64 L, .int .i64 D, .int .u8 B]] _ _
  have B0 := Blk.new w [.int .i64 L, .int .i64 D, .int .u8 B] 27
  have c0 := B0.cell 0 _ rfl
  have c1 := B0.cell 1 _ rfl
  have c2 := B0.cell 2 _ rfl
  have hE := (Ext.refl w).alloc (.cells #[.int .i64 L, .int .i64 D, .int .u8 B] 27)
  by_cases k0 : L = 0
  · subst k0
    by_cases k1 : D = 0
    · subst k1
      have hr : Hid (decide (Wr (0, 0, B)) = false) := hidden (by simp [Wr])
      go_enter Try.func29, Try.ntmps29
      go_wp2_with fail
      go_ret
      exact ⟨ret_bool hr.out.symm, hE⟩
    · have hr : Hid (decide (Wr (0, D, B)) = true) := hidden (by simp [Wr, k1])
      have k2 : (D != 0) = true := by simp [k1]
      go_enter Try.func29, Try.ntmps29
      go_wp2_with fail
      go_ret
      exact ⟨ret_bool hr.out.symm, hE⟩
  · have k2 : (L == 0) = false := by simp [k0]
    have hw : Hid (Wr (L, D, B) ↔ (B ≠ 0 ∨ L < 2 ∨ 255 < L ∨ D < 1 ∨ 4096 < D)) := hidden (by unfold Wr; simp only [if_neg k0])
    by_cases k3 : B = 0
    · subst k3
      have ht : ∀ (h : L < 2 ∨ 255 < L ∨ D < 1 ∨ 4096 < D), Hid (decide (Wr (L, D, 0)) = true) := fun h => hidden (by rw [decide_eq_true_iff, hw.out]; omega)
      have ht := hidden ht
      clear k0
      by_cases k4 : L < 2
      · have hr := ht.out (Or.inl k4)
        go_enter Try.func29, Try.ntmps29
        go_wp2_with fail
        go_ret
        exact ⟨ret_bool hr.out.symm, hE⟩
      by_cases k5 : 255 < L
      · have hr := ht.out (Or.inr (Or.inl k5))
        go_enter Try.func29, Try.ntmps29
        go_wp2_with fail
        go_ret
        exact ⟨ret_bool hr.out.symm, hE⟩
      by_cases k6 : D < 1
      · have hr := ht.out (Or.inr (Or.inr (Or.inl k6)))
        go_enter Try.func29, Try.ntmps29
        go_wp2_with fail
        go_ret
        exact ⟨ret_bool hr.out.symm, hE⟩
      by_cases k7 : 4096 < D
      · have hr := ht.out (Or.inr (Or.inr (Or.inr k7)))
        go_enter Try.func29, Try.ntmps29
        go_wp2_with fail
        go_ret
        exact ⟨ret_bool hr.out.symm, hE⟩
      · have hr : Hid (decide (Wr (L, D, 0)) = false) := hidden (by rw [decide_eq_false_iff_not, hw.out]; omega)
        go_enter Try.func29, Try.ntmps29
        go_wp2_with fail
        go_ret
        exact ⟨ret_bool hr.out.symm, hE⟩
    · have hr : Hid (decide (Wr (L, D, B)) = true) := hidden (by rw [decide_eq_true_iff, hw.out]; exact Or.inl k3)
      have k4 : (B != 0) = true := by simp [k3]
      go_enter Try.func29, Try.ntmps29
      go_wp2_with fail
      go_ret
      exact ⟨ret_bool hr.out.symm, hE⟩

set_option maxHeartbeats 1000000 in
theorem lsize_any (L D B : Int) (w : World) : Calls Try.prog 32 #[tkv (L, D, B)] w fun x w' => x = .returned (.int .i64 (szT (L, D, B))) ∧ Ext w w' := by
  show Calls _ _ #[.agg #[.int .i64 L, .int .i64 D, .int .u8 B]] _ _
  have hE := (Ext.refl w).alloc (.cells #[.int .i64 L, .int .i64 D, .int .u8 B] 27)
  have c0 := (Blk.new w [.int .i64 L, .int .i64 D, .int .u8 B] 27).cell 0 _ rfl
  have hr : Hid (szT (L, D, B) = max 1 L) := hidden (by unfold szT; show (if L < 1 then _ else _) = _; split <;> (show _ = (_ : Int); omega))
  go_enter Try.func32, Try.ntmps32
  go_wp2_with fail
  go_ret
  exact ⟨ret_int hr.out.symm, hE⟩
set_option maxHeartbeats 1000000 in
theorem rsize_any (L D B : Int) (w : World) : Calls Try.prog 34 #[tkv (L, D, B)] w fun x w' => x = .returned (.int .i64 (szT (L, D, B))) ∧ Ext w w' := by
  show Calls _ _ #[.agg #[.int .i64 L, .int .i64 D, .int .u8 B]] _ _
  have hE := (Ext.refl w).alloc (.cells #[.int .i64 L, .int .i64 D, .int .u8 B] 27)
  have c0 := (Blk.new w [.int .i64 L, .int .i64 D, .int .u8 B] 27).cell 0 _ rfl
  have hr : Hid (szT (L, D, B) = max L 1) := hidden (by unfold szT; show (if L < 1 then _ else _) = _; split <;> (show _ = (_ : Int); omega))
  go_enter Try.func34, Try.ntmps34
  go_wp2_with fail
  go_ret
  exact ⟨ret_int hr.out.symm, hE⟩
end Go.Proofs.Ytlnlffmlficjnaa
