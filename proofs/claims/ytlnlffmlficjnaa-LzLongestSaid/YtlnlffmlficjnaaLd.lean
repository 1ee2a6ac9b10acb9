/- Layer 35: prices, of the program and of the reference. -/
import Derived.Test.YtlnlffmlficjnaaLc
namespace Go.Proofs.Ytlnlffmlficjnaa
open Go.RowKit
set_option linter.unusedVariables false
attribute [local go_sem ↓] Go.wp_at_zero Go.wp_at_succ

set_option maxHeartbeats 1000000 in
theorem lprice_any (L D B : Int) (w : World) : Calls Try.prog 13 #[tkv (L, D, B)] w fun x w' => x = .returned (.int .i64 (prc (L, D, B))) ∧ Ext w w' := by
  have hr := right_any L D B
  replace hr := hidden hr
  have T : ∀ w', Ext (w.alloc (.cells #[.int .i64 L, .int .i64 D, .int .u8 B] 27)) w' → Hid ((w'.cell? ⟨w.heap.size, 0, none⟩ = some (.int .i64 L) ∧ w'.cell? ⟨w.heap.size, 1, none⟩ = some (.int .i64 D) ∧ w'.cell? ⟨w.heap.size, 2, none⟩ = some (.int .u8 B)) ∧ Ext w w') := fun w' g => hidden (tk_box g)
  replace T := hidden T
  obtain ⟨⟨c0, c1, c2⟩, -⟩ := (T.out _ (Ext.refl _)).out
  show Calls _ _ #[.agg #[.int .i64 L, .int .i64 D, .int .u8 B]] _ _
  by_cases k : Wr (L, D, B)
  · have e1 : Hid (decide (¬ Wr (L, D, B)) = false) := hidden (by simp [k])
    have hE : Hid (prc (L, D, B) = 0) := hidden (by unfold prc; rw [if_pos k])
    clear k
    go_enter Try.func13, Try.ntmps13
    go_wp2_with fail
    refine (hr.out _).mono ?_
    rw [e1.out]
    rintro e w1 ⟨rfl, g1⟩
    obtain ⟨⟨d0, d1, d2⟩, hX⟩ := (T.out _ g1).out
    go_wp2_with fail
    go_ret
    exact ⟨ret_int hE.out.symm, hX⟩
  · have e1 : Hid (decide (¬ Wr (L, D, B)) = true) := hidden (by simp [k])
    by_cases k0 : L = 0
    · have hE : Hid (prc (L, D, B) = 9) := hidden (by unfold prc; rw [if_neg k, if_pos k0])
      subst k0
      clear k
      go_enter Try.func13, Try.ntmps13
      go_wp2_with fail
      refine (hr.out _).mono ?_
      rw [e1.out]
      rintro e w1 ⟨rfl, g1⟩
      obtain ⟨⟨d0, d1, d2⟩, hX⟩ := (T.out _ g1).out
      go_wp2_with fail
      go_ret
      exact ⟨ret_int hE.out.symm, hX⟩
    · have hE : Hid (prc (L, D, B) = 1 + gaB (L - 1) + gaB D) := hidden (by unfold prc; rw [if_neg k, if_neg k0])
      have k2 : (L == 0) = false := by simp [k0]
      obtain ⟨-, a2, a3, a4, a5⟩ := Wr_copy k k0
      simp only at a2 a3 a4 a5
      clear k k0
      have C1 := gammaBits_any (L - 1) (by omega) (by omega)
      have C2 := gammaBits_any D (by omega) (by omega)
      have b1 := gaB_bd (L - 1) 8 (by omega) (by omega) (by decide)
      have b2 := gaB_bd D 13 (by omega) (by omega) (by decide)
      obtain ⟨x, hx⟩ : ∃ x, gaB (L - 1) = x := ⟨_, rfl⟩
      obtain ⟨y, hy⟩ : ∃ y, gaB D = y := ⟨_, rfl⟩
      rw [hx] at b1
      rw [hy] at b2
      simp only [hx] at C1
      simp only [hy] at C2
      obtain ⟨b10, b11⟩ := b1
      obtain ⟨b20, b21⟩ := b2
      replace C1 := hidden C1
      replace C2 := hidden C2
      replace hx := hidden hx
      replace hy := hidden hy
      go_enter Try.func13, Try.ntmps13
      go_wp2_with fail
      refine (hr.out _).mono ?_
      rw [e1.out]
      rintro e w1 ⟨rfl, g1⟩
      obtain ⟨⟨d0, d1, d2⟩, hX⟩ := (T.out _ g1).out
      go_wp2_with fail
      go_quiet ((go_at_call 28; exact Calls.quiet_of_same (by first | with_reducible exact C1.out _ | with_reducible exact C2.out _)))
      go_wp2_with fail
      go_ret
      exact ⟨ret_int (by rw [hE.out, hx.out, hy.out]), hX.drewN _⟩

set_option maxHeartbeats 1000000 in
theorem rprice_any (L D B : Int) (w : World) : Calls Try.prog 14 #[tkv (L, D, B)] w fun x w' => x = .returned (.int .i64 (prc (L, D, B))) ∧ Ext w w' := by
  have hr := wrong_any L D B
  replace hr := hidden hr
  have T : ∀ w', Ext (w.alloc (.cells #[.int .i64 L, .int .i64 D, .int .u8 B] 27)) w' → Hid ((w'.cell? ⟨w.heap.size, 0, none⟩ = some (.int .i64 L) ∧ w'.cell? ⟨w.heap.size, 1, none⟩ = some (.int .i64 D) ∧ w'.cell? ⟨w.heap.size, 2, none⟩ = some (.int .u8 B)) ∧ Ext w w') := fun w' g => hidden (tk_box g)
  replace T := hidden T
  obtain ⟨⟨c0, c1, c2⟩, -⟩ := (T.out _ (Ext.refl _)).out
  show Calls _ _ #[.agg #[.int .i64 L, .int .i64 D, .int .u8 B]] _ _
  by_cases k : Wr (L, D, B)
  · have e1 : Hid (decide (Wr (L, D, B)) = true) := hidden (by simp [k])
    have hE : Hid (prc (L, D, B) = 0) := hidden (by unfold prc; rw [if_pos k])
    clear k
    go_enter Try.func14, Try.ntmps14
    go_wp2_with fail
    refine (hr.out _).mono ?_
    rw [e1.out]
    rintro e w1 ⟨rfl, g1⟩
    obtain ⟨⟨d0, d1, d2⟩, hX⟩ := (T.out _ g1).out
    go_wp2_with fail
    go_ret
    exact ⟨ret_int hE.out.symm, hX⟩
  · have e1 : Hid (decide (Wr (L, D, B)) = false) := hidden (by simp [k])
    by_cases k0 : L = 0
    · have hE : Hid (prc (L, D, B) = 9) := hidden (by unfold prc; rw [if_neg k, if_pos k0])
      subst k0
      clear k
      go_enter Try.func14, Try.ntmps14
      go_wp2_with fail
      refine (hr.out _).mono ?_
      rw [e1.out]
      rintro e w1 ⟨rfl, g1⟩
      obtain ⟨⟨d0, d1, d2⟩, hX⟩ := (T.out _ g1).out
      go_wp2_with fail
      go_ret
      exact ⟨ret_int hE.out.symm, hX⟩
    · have hE : Hid (prc (L, D, B) = 1 + gaB (L - 1) + gaB D) := hidden (by unfold prc; rw [if_neg k, if_neg k0])
      have k2 : (L == 0) = false := by simp [k0]
      obtain ⟨-, a2, a3, a4, a5⟩ := Wr_copy k k0
      simp only at a2 a3 a4 a5
      clear k k0
      have C1 := digits_any (L - 1) (by omega) (by omega)
      have C2 := digits_any D (by omega) (by omega)
      have b1 := gaB_bd (L - 1) 8 (by omega) (by omega) (by decide)
      have b2 := gaB_bd D 13 (by omega) (by omega) (by decide)
      unfold gaB at b1 b2
      have hg : gaB (L - 1) = 2 * (Lib.bitLen (L - 1).toNat : Int) - 1 ∧ gaB D = 2 * (Lib.bitLen D.toNat : Int) - 1 := ⟨rfl, rfl⟩
      obtain ⟨x, hx⟩ : ∃ x, (Lib.bitLen (L - 1).toNat : Int) = x := ⟨_, rfl⟩
      obtain ⟨y, hy⟩ : ∃ y, (Lib.bitLen D.toNat : Int) = y := ⟨_, rfl⟩
      rw [hx] at b1 hg
      rw [hy] at b2 hg
      simp only [hx] at C1
      simp only [hy] at C2
      obtain ⟨b10, b11⟩ := b1
      obtain ⟨b20, b21⟩ := b2
      replace C1 := hidden C1
      replace C2 := hidden C2
      clear hx hy
      replace hg := hidden hg
      go_enter Try.func14, Try.ntmps14
      go_wp2_with fail
      refine (hr.out _).mono ?_
      rw [e1.out]
      rintro e w1 ⟨rfl, g1⟩
      obtain ⟨⟨d0, d1, d2⟩, hX⟩ := (T.out _ g1).out
      go_wp2_with fail
      go_quiet ((go_at_call 30; exact Calls.quiet_of_same (by first | with_reducible exact C1.out _ | with_reducible exact C2.out _)))
      go_wp2_with fail
      go_ret
      exact ⟨ret_int (by rw [hE.out, hg.out.1, hg.out.2]; omega), hX.drewN _⟩
end Go.Proofs.Ytlnlffmlficjnaa
