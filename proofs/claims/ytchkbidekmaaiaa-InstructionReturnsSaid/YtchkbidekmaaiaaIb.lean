/- The closures of layer 15's arithmetic. -/
import Derived.Test.YtchkbidekmaaiaaIa
import Derived.Test.YtchkbidekmaaiaaIp
namespace Go.Proofs.Ytchkbidekmaaiaa
open Go.RowKit
set_option linter.unusedVariables false


theorem flag_any (p : Bool) (w : World) : Calls Try.prog 34 #[.bool p] w fun x w' => x = .returned (.int .u32 (fl p)) ∧ w = w' := by
  cases p <;>
  · go_enter Try.func34, Try.ntmps34
    go_wp2_with fail
    go_ret
    exact ⟨rfl, rfl⟩
theorem cl8 (a b : Int) (ha0 : 0 ≤ a) (ha1 : a ≤ 4294967295) (hb0 : 0 ≤ b) (hb1 : b ≤ 4294967295) (w : World) :
    Calls Try.prog 48 #[.int .u32 a, .int .u32 b] w fun x w' => x = .returned (.int .u32 (apV 8 a b)) ∧ w = w' := by
  go_enter Try.func48, Try.ntmps48
  go_wp2_with fail
  all_goals
    go_ret
    exact ⟨ret_int (by rw [apV_8]), rfl⟩
theorem cl9 (a b : Int) (ha0 : 0 ≤ a) (ha1 : a ≤ 4294967295) (hb0 : 0 ≤ b) (hb1 : b ≤ 4294967295) (w : World) :
    Calls Try.prog 49 #[.int .u32 a, .int .u32 b] w fun x w' => x = .returned (.int .u32 (apV 9 a b)) ∧ w = w' := by
  go_enter Try.func49, Try.ntmps49
  go_wp2_with fail
  all_goals
    go_ret
    exact ⟨ret_int (by rw [apV_9]), rfl⟩
theorem cl10 (a b : Int) (ha0 : 0 ≤ a) (ha1 : a ≤ 4294967295) (hb0 : 0 ≤ b) (hb1 : b ≤ 4294967295) (w : World) :
    Calls Try.prog 50 #[.int .u32 a, .int .u32 b] w fun x w' => x = .returned (.int .u32 (apV 10 a b)) ∧ w = w' := by
  go_enter Try.func50, Try.ntmps50
  go_wp2_with fail
  all_goals
    go_ret
    exact ⟨ret_int (by rw [apV_10]), rfl⟩
theorem cl11 (a b : Int) (ha0 : 0 ≤ a) (ha1 : a ≤ 4294967295) (hb0 : 0 ≤ b) (hb1 : b ≤ 4294967295) (hz : 0 < b) (w : World) :
    Calls Try.prog 51 #[.int .u32 a, .int .u32 b] w fun x w' => x = .returned (.int .u32 (apV 11 a b)) ∧ w = w' := by
  go_enter Try.func51, Try.ntmps51
  go_wp2_with fail
  all_goals
    go_ret
    exact ⟨ret_int (by rw [apV_11]), rfl⟩
theorem cl12 (a b : Int) (ha0 : 0 ≤ a) (ha1 : a ≤ 4294967295) (hb0 : 0 ≤ b) (hb1 : b ≤ 4294967295) (hz : 0 < b) (w : World) :
    Calls Try.prog 52 #[.int .u32 a, .int .u32 b] w fun x w' => x = .returned (.int .u32 (apV 12 a b)) ∧ w = w' := by
  go_enter Try.func52, Try.ntmps52
  go_wp2_with fail
  all_goals
    go_ret
    exact ⟨ret_int (by rw [apV_12]), rfl⟩
theorem cl13 (a b : Int) (ha0 : 0 ≤ a) (ha1 : a ≤ 4294967295) (hb0 : 0 ≤ b) (hb1 : b ≤ 4294967295) (w : World) :
    Calls Try.prog 53 #[.int .u32 a, .int .u32 b] w fun x w' => x = .returned (.int .u32 (apV 13 a b)) ∧ w = w' := by
  go_enter Try.func53, Try.ntmps53
  go_wp2_with fail
  all_goals
    go_ret
    exact ⟨ret_int (by rw [apV_13]), rfl⟩
theorem cl14 (a b : Int) (ha0 : 0 ≤ a) (ha1 : a ≤ 4294967295) (hb0 : 0 ≤ b) (hb1 : b ≤ 4294967295) (w : World) :
    Calls Try.prog 54 #[.int .u32 a, .int .u32 b] w fun x w' => x = .returned (.int .u32 (apV 14 a b)) ∧ w = w' := by
  go_enter Try.func54, Try.ntmps54
  go_wp2_with fail
  all_goals
    go_ret
    exact ⟨ret_int (by rw [apV_14]), rfl⟩
theorem cl15 (a b : Int) (ha0 : 0 ≤ a) (ha1 : a ≤ 4294967295) (hb0 : 0 ≤ b) (hb1 : b ≤ 4294967295) (w : World) :
    Calls Try.prog 55 #[.int .u32 a, .int .u32 b] w fun x w' => x = .returned (.int .u32 (apV 15 a b)) ∧ w = w' := by
  go_enter Try.func55, Try.ntmps55
  go_wp2_with fail
  all_goals
    go_ret
    exact ⟨ret_int (by rw [apV_15]), rfl⟩
theorem cl16 (a b : Int) (ha0 : 0 ≤ a) (ha1 : a ≤ 4294967295) (hb0 : 0 ≤ b) (hb1 : b ≤ 4294967295) (w : World) :
    Calls Try.prog 56 #[.int .u32 a, .int .u32 b] w fun x w' => x = .returned (.int .u32 (apV 16 a b)) ∧ w = w' := by
  go_enter Try.func56, Try.ntmps56
  go_wp2_with fail
  all_goals
    go_ret
    exact ⟨ret_int (by rw [apV_16]), rfl⟩
theorem cl17 (a b : Int) (ha0 : 0 ≤ a) (ha1 : a ≤ 4294967295) (hb0 : 0 ≤ b) (hb1 : b ≤ 4294967295) (w : World) :
    Calls Try.prog 57 #[.int .u32 a, .int .u32 b] w fun x w' => x = .returned (.int .u32 (apV 17 a b)) ∧ w = w' := by
  go_enter Try.func57, Try.ntmps57
  go_wp2_with fail
  all_goals
    go_ret
    exact ⟨ret_int (by rw [apV_17]), rfl⟩
theorem cl18 (a b : Int) (ha0 : 0 ≤ a) (ha1 : a ≤ 4294967295) (hb0 : 0 ≤ b) (hb1 : b ≤ 4294967295) (w : World) :
    Calls Try.prog 58 #[.int .u32 a, .int .u32 b] w fun x w' => x = .returned (.int .u32 (apV 18 a b)) ∧ w = w' := by
  go_enter Try.func58, Try.ntmps58
  go_wp2_with fail
  all_goals
    go_ret
    exact ⟨ret_int (by rw [apV_18]; omega), rfl⟩
theorem cl19 (a b : Int) (ha0 : 0 ≤ a) (ha1 : a ≤ 4294967295) (hb0 : 0 ≤ b) (hb1 : b ≤ 4294967295) (w : World) :
    Calls Try.prog 59 #[.int .u32 a, .int .u32 b] w fun x w' => x = .returned (.int .u32 (apV 19 a b)) ∧ w = w' := by
  go_enter Try.func59, Try.ntmps59
  go_wp2_with fail
  all_goals
    go_ret
    exact ⟨ret_int (by rw [apV_19]; omega), rfl⟩
theorem cl20 (a b : Int) (ha0 : 0 ≤ a) (ha1 : a ≤ 4294967295) (hb0 : 0 ≤ b) (hb1 : b ≤ 4294967295) (w : World) :
    Calls Try.prog 60 #[.int .u32 a, .int .u32 b] w fun x w' => x = .returned (.int .u32 (apV 20 a b)) ∧ w = w' := by
  go_enter Try.func60, Try.ntmps60
  go_wp2_with fail
  all_goals
    go_ret
    exact ⟨ret_int (by rw [apV_20]; unfold hs; rfl), rfl⟩
theorem cl21 (a b : Int) (ha0 : 0 ≤ a) (ha1 : a ≤ 4294967295) (hb0 : 0 ≤ b) (hb1 : b ≤ 4294967295) (w : World) :
    Calls Try.prog 61 #[.int .u32 a, .int .u32 b] w fun x w' => x = .returned (.int .u32 (apV 21 a b)) ∧ w = w' := by
  go_enter Try.func61, Try.ntmps61
  go_wp2_with (go_at_call 34; refine (flag_any _ _).mono ?_; rintro e w1 ⟨rfl, rfl⟩)
  go_ret
  exact ⟨ret_int (by rw [apV_21]), rfl⟩
theorem cl22 (a b : Int) (ha0 : 0 ≤ a) (ha1 : a ≤ 4294967295) (hb0 : 0 ≤ b) (hb1 : b ≤ 4294967295) (w : World) :
    Calls Try.prog 62 #[.int .u32 a, .int .u32 b] w fun x w' => x = .returned (.int .u32 (apV 22 a b)) ∧ w = w' := by
  go_enter Try.func62, Try.ntmps62
  go_wp2_with (go_at_call 34; refine (flag_any _ _).mono ?_; rintro e w1 ⟨rfl, rfl⟩)
  go_ret
  exact ⟨ret_int (by rw [apV_22]), rfl⟩
theorem cl23 (a b : Int) (ha0 : 0 ≤ a) (ha1 : a ≤ 4294967295) (hb0 : 0 ≤ b) (hb1 : b ≤ 4294967295) (w : World) :
    Calls Try.prog 63 #[.int .u32 a, .int .u32 b] w fun x w' => x = .returned (.int .u32 (apV 23 a b)) ∧ w = w' := by
  go_enter Try.func63, Try.ntmps63
  go_wp2_with (go_at_call 34; refine (flag_any _ _).mono ?_; rintro e w1 ⟨rfl, rfl⟩)
  go_ret
  exact ⟨ret_int (by rw [apV_23]), rfl⟩
theorem cl24 (a b : Int) (ha0 : 0 ≤ a) (ha1 : a ≤ 4294967295) (hb0 : 0 ≤ b) (hb1 : b ≤ 4294967295) (w : World) :
    Calls Try.prog 64 #[.int .u32 a, .int .u32 b] w fun x w' => x = .returned (.int .u32 (apV 24 a b)) ∧ w = w' := by
  have hv := apV_24 a b
  by_cases h1 : a = 0
  · have e1 : (a != 0) = false := by simp [h1]
    have e2 : (a == 0) = true := by simp [h1]
    rw [e1] at hv
    clear h1
    by_cases h2 : b = 0
    all_goals
      first | have e3 : (b != 0) = false := by simp [h2]
            | have e3 : (b != 0) = true := by simp [h2]
      rw [e3] at hv
      have hv := hidden hv
      clear h2
      go_enter Try.func64, Try.ntmps64
      go_wp2_with (go_at_call 34; refine (flag_any _ _).mono ?_; rintro e w1 ⟨rfl, rfl⟩)
      go_ret
      exact ⟨ret_int (by rw [hv.out]; rfl), rfl⟩
  · have e1 : (a != 0) = true := by simp [h1]
    have e2 : (a == 0) = false := by simp [h1]
    rw [e1] at hv
    clear h1
    by_cases h2 : b = 0
    all_goals
      first | have e3 : (b != 0) = false := by simp [h2]
            | have e3 : (b != 0) = true := by simp [h2]
      rw [e3] at hv
      have hv := hidden hv
      clear h2
      go_enter Try.func64, Try.ntmps64
      go_wp2_with (go_at_call 34; refine (flag_any _ _).mono ?_; rintro e w1 ⟨rfl, rfl⟩)
      go_ret
      exact ⟨ret_int (by rw [hv.out]; rfl), rfl⟩
theorem cl25 (a b : Int) (ha0 : 0 ≤ a) (ha1 : a ≤ 4294967295) (hb0 : 0 ≤ b) (hb1 : b ≤ 4294967295) (w : World) :
    Calls Try.prog 65 #[.int .u32 a, .int .u32 b] w fun x w' => x = .returned (.int .u32 (apV 25 a b)) ∧ w = w' := by
  have hv := apV_25 a b
  by_cases h1 : a = 0
  · have e1 : (a != 0) = false := by simp [h1]
    have e2 : (a == 0) = true := by simp [h1]
    rw [e1] at hv
    clear h1
    by_cases h2 : b = 0
    all_goals
      first | have e3 : (b != 0) = false := by simp [h2]
            | have e3 : (b != 0) = true := by simp [h2]
      rw [e3] at hv
      have hv := hidden hv
      clear h2
      go_enter Try.func65, Try.ntmps65
      go_wp2_with (go_at_call 34; refine (flag_any _ _).mono ?_; rintro e w1 ⟨rfl, rfl⟩)
      go_ret
      exact ⟨ret_int (by rw [hv.out]; rfl), rfl⟩
  · have e1 : (a != 0) = true := by simp [h1]
    have e2 : (a == 0) = false := by simp [h1]
    rw [e1] at hv
    clear h1
    by_cases h2 : b = 0
    all_goals
      first | have e3 : (b != 0) = false := by simp [h2]
            | have e3 : (b != 0) = true := by simp [h2]
      rw [e3] at hv
      have hv := hidden hv
      clear h2
      go_enter Try.func65, Try.ntmps65
      go_wp2_with (go_at_call 34; refine (flag_any _ _).mono ?_; rintro e w1 ⟨rfl, rfl⟩)
      go_ret
      exact ⟨ret_int (by rw [hv.out]; rfl), rfl⟩
theorem cl26 (a b : Int) (ha0 : 0 ≤ a) (ha1 : a ≤ 4294967295) (hb0 : 0 ≤ b) (hb1 : b ≤ 4294967295) (w : World) :
    Calls Try.prog 66 #[.int .u32 a, .int .u32 b] w fun x w' => x = .returned (.int .u32 (apV 26 a b)) ∧ w = w' := by
  go_enter Try.func66, Try.ntmps66
  go_wp2_with (go_at_call 34; refine (flag_any _ _).mono ?_; rintro e w1 ⟨rfl, rfl⟩)
  go_ret
  exact ⟨ret_int (by rw [apV_26]), rfl⟩
end Go.Proofs.Ytchkbidekmaaiaa
