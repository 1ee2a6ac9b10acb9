/- Layer 32: cmp.Compare, cmp.Or at two, the closure rest. -/
import Derived.Test.YtfebgcbkadmgiaaSfa
import Derived.Test.YtfebgcbkadmgiaaHu
namespace Go.Proofs.Ytfebgcbkadmgiaa
open Go.RowKit
set_option linter.unusedVariables false
set_option linter.unusedSimpArgs false
attribute [local go_sem ↓] Go.wp_at_zero Go.wp_at_succ

theorem isnan_any (x : Int) (w : World) : Calls Try.prog 33 #[.int .i64 x] w fun e w' => e = .returned (.bool false) ∧ w' = w := by
  go_enter Try.func33, Try.ntmps33
  go_wp2_with fail
  go_ret
  exact ⟨rfl, rfl⟩
set_option maxRecDepth 100000 in
theorem cmpi_any (x y : Int) (w : World) : Calls Try.prog 17 #[.int .i64 x, .int .i64 y] w fun e w' => e = .returned (.int .i64 (Suf.cmpI x y)) ∧ w' = w := by
  have hn := hidden isnan_any
  unfold Suf.cmpI
  obtain ⟨R, hR⟩ : ∃ R, (if x < y then (-1 : Int) else if y < x then 1 else 0) = R := ⟨_, rfl⟩
  rw [hR]
  go_enter Try.func17, Try.ntmps17
  go_wp2_with fail
  refine (hn.out _ _).mono ?_
  rintro e w1 ⟨rfl, rfl⟩
  go_wp2_with fail
  refine (hn.out _ _).mono ?_
  rintro e w2 ⟨rfl, rfl⟩
  by_cases h1 : x < y
  · rw [if_pos h1] at hR
    replace hR := hidden hR
    have d1 : decide (x < y) = true := decide_eq_true h1
    go_wp2_with fail
    go_ret
    exact ⟨by rw [← hR.out]; rfl, rfl⟩
  · rw [if_neg h1] at hR
    have d1 : decide (x < y) = false := decide_eq_false h1
    by_cases h2 : y < x
    · rw [if_pos h2] at hR
      replace hR := hidden hR
      have d2 : decide (y < x) = true := decide_eq_true h2
      go_wp2_with fail
      go_ret
      exact ⟨by rw [← hR.out]; rfl, rfl⟩
    · rw [if_neg h2] at hR
      replace hR := hidden hR
      have d2 : decide (y < x) = false := decide_eq_false h2
      go_wp2_with fail
      go_ret
      exact ⟨by rw [← hR.out]; rfl, rfl⟩
end Go.Proofs.Ytfebgcbkadmgiaa
