/- The reference's Name. -/
import Derived.Test.YtchkbidekmaaiaaJc
namespace Go.Proofs.Ytchkbidekmaaiaa
open Go.RowKit
set_option linter.unusedVariables false


theorem rname0 (w : World) : Calls Try.prog 26 #[.int .i64 0] w fun x w' => x = .returned (.string (opAt 0).1) ∧ w = w' := by
  show Calls _ _ _ _ fun x w' => x = .returned (.string ⟨#[112, 117, 115, 104]⟩) ∧ w = w'
  go_enter Try.func26, Try.ntmps26
  go_wp2_with fail
  go_ret
  exact ⟨rfl, rfl⟩
theorem rname1 (w : World) : Calls Try.prog 26 #[.int .i64 1] w fun x w' => x = .returned (.string (opAt 1).1) ∧ w = w' := by
  show Calls _ _ _ _ fun x w' => x = .returned (.string ⟨#[108, 111, 97, 100]⟩) ∧ w = w'
  go_enter Try.func26, Try.ntmps26
  go_wp2_with fail
  go_ret
  exact ⟨rfl, rfl⟩
theorem rname2 (w : World) : Calls Try.prog 26 #[.int .i64 2] w fun x w' => x = .returned (.string (opAt 2).1) ∧ w = w' := by
  show Calls _ _ _ _ fun x w' => x = .returned (.string ⟨#[115, 116, 111, 114, 101]⟩) ∧ w = w'
  go_enter Try.func26, Try.ntmps26
  go_wp2_with fail
  go_ret
  exact ⟨rfl, rfl⟩
theorem rname3 (w : World) : Calls Try.prog 26 #[.int .i64 3] w fun x w' => x = .returned (.string (opAt 3).1) ∧ w = w' := by
  show Calls _ _ _ _ fun x w' => x = .returned (.string ⟨#[103, 101, 116]⟩) ∧ w = w'
  go_enter Try.func26, Try.ntmps26
  go_wp2_with fail
  go_ret
  exact ⟨rfl, rfl⟩
theorem rname4 (w : World) : Calls Try.prog 26 #[.int .i64 4] w fun x w' => x = .returned (.string (opAt 4).1) ∧ w = w' := by
  show Calls _ _ _ _ fun x w' => x = .returned (.string ⟨#[112, 117, 116]⟩) ∧ w = w'
  go_enter Try.func26, Try.ntmps26
  go_wp2_with fail
  go_ret
  exact ⟨rfl, rfl⟩
theorem rname5 (w : World) : Calls Try.prog 26 #[.int .i64 5] w fun x w' => x = .returned (.string (opAt 5).1) ∧ w = w' := by
  show Calls _ _ _ _ fun x w' => x = .returned (.string ⟨#[100, 117, 112]⟩) ∧ w = w'
  go_enter Try.func26, Try.ntmps26
  go_wp2_with fail
  go_ret
  exact ⟨rfl, rfl⟩
theorem rname6 (w : World) : Calls Try.prog 26 #[.int .i64 6] w fun x w' => x = .returned (.string (opAt 6).1) ∧ w = w' := by
  show Calls _ _ _ _ fun x w' => x = .returned (.string ⟨#[100, 114, 111, 112]⟩) ∧ w = w'
  go_enter Try.func26, Try.ntmps26
  go_wp2_with fail
  go_ret
  exact ⟨rfl, rfl⟩
theorem rname7 (w : World) : Calls Try.prog 26 #[.int .i64 7] w fun x w' => x = .returned (.string (opAt 7).1) ∧ w = w' := by
  show Calls _ _ _ _ fun x w' => x = .returned (.string ⟨#[115, 119, 97, 112]⟩) ∧ w = w'
  go_enter Try.func26, Try.ntmps26
  go_wp2_with fail
  go_ret
  exact ⟨rfl, rfl⟩
theorem rname8 (w : World) : Calls Try.prog 26 #[.int .i64 8] w fun x w' => x = .returned (.string (opAt 8).1) ∧ w = w' := by
  show Calls _ _ _ _ fun x w' => x = .returned (.string ⟨#[97, 100, 100]⟩) ∧ w = w'
  go_enter Try.func26, Try.ntmps26
  go_wp2_with fail
  go_ret
  exact ⟨rfl, rfl⟩
theorem rname9 (w : World) : Calls Try.prog 26 #[.int .i64 9] w fun x w' => x = .returned (.string (opAt 9).1) ∧ w = w' := by
  show Calls _ _ _ _ fun x w' => x = .returned (.string ⟨#[115, 117, 98]⟩) ∧ w = w'
  go_enter Try.func26, Try.ntmps26
  go_wp2_with fail
  go_ret
  exact ⟨rfl, rfl⟩
theorem rname10 (w : World) : Calls Try.prog 26 #[.int .i64 10] w fun x w' => x = .returned (.string (opAt 10).1) ∧ w = w' := by
  show Calls _ _ _ _ fun x w' => x = .returned (.string ⟨#[109, 117, 108]⟩) ∧ w = w'
  go_enter Try.func26, Try.ntmps26
  go_wp2_with fail
  go_ret
  exact ⟨rfl, rfl⟩
theorem rname11 (w : World) : Calls Try.prog 26 #[.int .i64 11] w fun x w' => x = .returned (.string (opAt 11).1) ∧ w = w' := by
  show Calls _ _ _ _ fun x w' => x = .returned (.string ⟨#[100, 105, 118]⟩) ∧ w = w'
  go_enter Try.func26, Try.ntmps26
  go_wp2_with fail
  go_ret
  exact ⟨rfl, rfl⟩
theorem rname12 (w : World) : Calls Try.prog 26 #[.int .i64 12] w fun x w' => x = .returned (.string (opAt 12).1) ∧ w = w' := by
  show Calls _ _ _ _ fun x w' => x = .returned (.string ⟨#[109, 111, 100]⟩) ∧ w = w'
  go_enter Try.func26, Try.ntmps26
  go_wp2_with fail
  go_ret
  exact ⟨rfl, rfl⟩
theorem rname13 (w : World) : Calls Try.prog 26 #[.int .i64 13] w fun x w' => x = .returned (.string (opAt 13).1) ∧ w = w' := by
  show Calls _ _ _ _ fun x w' => x = .returned (.string ⟨#[97, 110, 100]⟩) ∧ w = w'
  go_enter Try.func26, Try.ntmps26
  go_wp2_with fail
  go_ret
  exact ⟨rfl, rfl⟩
theorem rname14 (w : World) : Calls Try.prog 26 #[.int .i64 14] w fun x w' => x = .returned (.string (opAt 14).1) ∧ w = w' := by
  show Calls _ _ _ _ fun x w' => x = .returned (.string ⟨#[111, 114]⟩) ∧ w = w'
  go_enter Try.func26, Try.ntmps26
  go_wp2_with fail
  go_ret
  exact ⟨rfl, rfl⟩
theorem rname15 (w : World) : Calls Try.prog 26 #[.int .i64 15] w fun x w' => x = .returned (.string (opAt 15).1) ∧ w = w' := by
  show Calls _ _ _ _ fun x w' => x = .returned (.string ⟨#[120, 111, 114]⟩) ∧ w = w'
  go_enter Try.func26, Try.ntmps26
  go_wp2_with fail
  go_ret
  exact ⟨rfl, rfl⟩
theorem rname16 (w : World) : Calls Try.prog 26 #[.int .i64 16] w fun x w' => x = .returned (.string (opAt 16).1) ∧ w = w' := by
  show Calls _ _ _ _ fun x w' => x = .returned (.string ⟨#[115, 104, 108]⟩) ∧ w = w'
  go_enter Try.func26, Try.ntmps26
  go_wp2_with fail
  go_ret
  exact ⟨rfl, rfl⟩
theorem rname17 (w : World) : Calls Try.prog 26 #[.int .i64 17] w fun x w' => x = .returned (.string (opAt 17).1) ∧ w = w' := by
  show Calls _ _ _ _ fun x w' => x = .returned (.string ⟨#[115, 104, 114]⟩) ∧ w = w'
  go_enter Try.func26, Try.ntmps26
  go_wp2_with fail
  go_ret
  exact ⟨rfl, rfl⟩
theorem rlate18 (w : World) : Calls Try.prog 46 #[.int .i64 18] w fun x w' => x = .returned (.string ⟨#[109, 105, 110]⟩) ∧ w = w' := by
  go_enter Try.func46, Try.ntmps46
  go_wp2_with fail
  go_ret
  exact ⟨rfl, rfl⟩
theorem rname18 (w : World) : Calls Try.prog 26 #[.int .i64 18] w fun x w' => x = .returned (.string (opAt 18).1) ∧ w = w' := by
  show Calls _ _ _ _ fun x w' => x = .returned (.string ⟨#[109, 105, 110]⟩) ∧ w = w'
  go_enter Try.func26, Try.ntmps26
  go_wp2_with fail
  refine (rlate18 _).mono ?_
  rintro e w1 ⟨rfl, rfl⟩
  go_wp2_with fail
  go_ret
  exact ⟨rfl, rfl⟩
theorem rlate19 (w : World) : Calls Try.prog 46 #[.int .i64 19] w fun x w' => x = .returned (.string ⟨#[109, 97, 120]⟩) ∧ w = w' := by
  go_enter Try.func46, Try.ntmps46
  go_wp2_with fail
  go_ret
  exact ⟨rfl, rfl⟩
theorem rname19 (w : World) : Calls Try.prog 26 #[.int .i64 19] w fun x w' => x = .returned (.string (opAt 19).1) ∧ w = w' := by
  show Calls _ _ _ _ fun x w' => x = .returned (.string ⟨#[109, 97, 120]⟩) ∧ w = w'
  go_enter Try.func26, Try.ntmps26
  go_wp2_with fail
  refine (rlate19 _).mono ?_
  rintro e w1 ⟨rfl, rfl⟩
  go_wp2_with fail
  go_ret
  exact ⟨rfl, rfl⟩
theorem rlate20 (w : World) : Calls Try.prog 46 #[.int .i64 20] w fun x w' => x = .returned (.string ⟨#[104, 97, 115, 104]⟩) ∧ w = w' := by
  go_enter Try.func46, Try.ntmps46
  go_wp2_with fail
  go_ret
  exact ⟨rfl, rfl⟩
theorem rname20 (w : World) : Calls Try.prog 26 #[.int .i64 20] w fun x w' => x = .returned (.string (opAt 20).1) ∧ w = w' := by
  show Calls _ _ _ _ fun x w' => x = .returned (.string ⟨#[104, 97, 115, 104]⟩) ∧ w = w'
  go_enter Try.func26, Try.ntmps26
  go_wp2_with fail
  refine (rlate20 _).mono ?_
  rintro e w1 ⟨rfl, rfl⟩
  go_wp2_with fail
  go_ret
  exact ⟨rfl, rfl⟩
theorem rlate21 (w : World) : Calls Try.prog 46 #[.int .i64 21] w fun x w' => x = .returned (.string ⟨#[101, 113]⟩) ∧ w = w' := by
  go_enter Try.func46, Try.ntmps46
  go_wp2_with fail
  go_ret
  exact ⟨rfl, rfl⟩
theorem rname21 (w : World) : Calls Try.prog 26 #[.int .i64 21] w fun x w' => x = .returned (.string (opAt 21).1) ∧ w = w' := by
  show Calls _ _ _ _ fun x w' => x = .returned (.string ⟨#[101, 113]⟩) ∧ w = w'
  go_enter Try.func26, Try.ntmps26
  go_wp2_with fail
  refine (rlate21 _).mono ?_
  rintro e w1 ⟨rfl, rfl⟩
  go_wp2_with fail
  go_ret
  exact ⟨rfl, rfl⟩
theorem rlate22 (w : World) : Calls Try.prog 46 #[.int .i64 22] w fun x w' => x = .returned (.string ⟨#[108, 101, 115, 115]⟩) ∧ w = w' := by
  go_enter Try.func46, Try.ntmps46
  go_wp2_with fail
  go_ret
  exact ⟨rfl, rfl⟩
theorem rname22 (w : World) : Calls Try.prog 26 #[.int .i64 22] w fun x w' => x = .returned (.string (opAt 22).1) ∧ w = w' := by
  show Calls _ _ _ _ fun x w' => x = .returned (.string ⟨#[108, 101, 115, 115]⟩) ∧ w = w'
  go_enter Try.func26, Try.ntmps26
  go_wp2_with fail
  refine (rlate22 _).mono ?_
  rintro e w1 ⟨rfl, rfl⟩
  go_wp2_with fail
  go_ret
  exact ⟨rfl, rfl⟩
theorem rlate23 (w : World) : Calls Try.prog 46 #[.int .i64 23] w fun x w' => x = .returned (.string ⟨#[110, 111, 116]⟩) ∧ w = w' := by
  go_enter Try.func46, Try.ntmps46
  go_wp2_with fail
  go_ret
  exact ⟨rfl, rfl⟩
theorem rname23 (w : World) : Calls Try.prog 26 #[.int .i64 23] w fun x w' => x = .returned (.string (opAt 23).1) ∧ w = w' := by
  show Calls _ _ _ _ fun x w' => x = .returned (.string ⟨#[110, 111, 116]⟩) ∧ w = w'
  go_enter Try.func26, Try.ntmps26
  go_wp2_with fail
  refine (rlate23 _).mono ?_
  rintro e w1 ⟨rfl, rfl⟩
  go_wp2_with fail
  go_ret
  exact ⟨rfl, rfl⟩
theorem rlate24 (w : World) : Calls Try.prog 46 #[.int .i64 24] w fun x w' => x = .returned (.string ⟨#[98, 111, 116, 104]⟩) ∧ w = w' := by
  go_enter Try.func46, Try.ntmps46
  go_wp2_with fail
  go_ret
  exact ⟨rfl, rfl⟩
theorem rname24 (w : World) : Calls Try.prog 26 #[.int .i64 24] w fun x w' => x = .returned (.string (opAt 24).1) ∧ w = w' := by
  show Calls _ _ _ _ fun x w' => x = .returned (.string ⟨#[98, 111, 116, 104]⟩) ∧ w = w'
  go_enter Try.func26, Try.ntmps26
  go_wp2_with fail
  refine (rlate24 _).mono ?_
  rintro e w1 ⟨rfl, rfl⟩
  go_wp2_with fail
  go_ret
  exact ⟨rfl, rfl⟩
theorem rlate25 (w : World) : Calls Try.prog 46 #[.int .i64 25] w fun x w' => x = .returned (.string ⟨#[101, 105, 116, 104, 101, 114]⟩) ∧ w = w' := by
  go_enter Try.func46, Try.ntmps46
  go_wp2_with fail
  go_ret
  exact ⟨rfl, rfl⟩
theorem rname25 (w : World) : Calls Try.prog 26 #[.int .i64 25] w fun x w' => x = .returned (.string (opAt 25).1) ∧ w = w' := by
  show Calls _ _ _ _ fun x w' => x = .returned (.string ⟨#[101, 105, 116, 104, 101, 114]⟩) ∧ w = w'
  go_enter Try.func26, Try.ntmps26
  go_wp2_with fail
  refine (rlate25 _).mono ?_
  rintro e w1 ⟨rfl, rfl⟩
  go_wp2_with fail
  go_ret
  exact ⟨rfl, rfl⟩
theorem rlate26 (w : World) : Calls Try.prog 46 #[.int .i64 26] w fun x w' => x = .returned (.string ⟨#[105, 110, 116]⟩) ∧ w = w' := by
  go_enter Try.func46, Try.ntmps46
  go_wp2_with fail
  go_ret
  exact ⟨rfl, rfl⟩
theorem rname26 (w : World) : Calls Try.prog 26 #[.int .i64 26] w fun x w' => x = .returned (.string (opAt 26).1) ∧ w = w' := by
  show Calls _ _ _ _ fun x w' => x = .returned (.string ⟨#[105, 110, 116]⟩) ∧ w = w'
  go_enter Try.func26, Try.ntmps26
  go_wp2_with fail
  refine (rlate26 _).mono ?_
  rintro e w1 ⟨rfl, rfl⟩
  go_wp2_with fail
  go_ret
  exact ⟨rfl, rfl⟩
theorem rlate27 (w : World) : Calls Try.prog 46 #[.int .i64 27] w fun x w' => x = .returned (.string ⟨#[105, 102]⟩) ∧ w = w' := by
  go_enter Try.func46, Try.ntmps46
  go_wp2_with fail
  go_ret
  exact ⟨rfl, rfl⟩
theorem rname27 (w : World) : Calls Try.prog 26 #[.int .i64 27] w fun x w' => x = .returned (.string (opAt 27).1) ∧ w = w' := by
  show Calls _ _ _ _ fun x w' => x = .returned (.string ⟨#[105, 102]⟩) ∧ w = w'
  go_enter Try.func26, Try.ntmps26
  go_wp2_with fail
  refine (rlate27 _).mono ?_
  rintro e w1 ⟨rfl, rfl⟩
  go_wp2_with fail
  go_ret
  exact ⟨rfl, rfl⟩
theorem rlate28 (w : World) : Calls Try.prog 46 #[.int .i64 28] w fun x w' => x = .returned (.string ⟨#[101, 108, 115, 101]⟩) ∧ w = w' := by
  go_enter Try.func46, Try.ntmps46
  go_wp2_with fail
  go_ret
  exact ⟨rfl, rfl⟩
theorem rname28 (w : World) : Calls Try.prog 26 #[.int .i64 28] w fun x w' => x = .returned (.string (opAt 28).1) ∧ w = w' := by
  show Calls _ _ _ _ fun x w' => x = .returned (.string ⟨#[101, 108, 115, 101]⟩) ∧ w = w'
  go_enter Try.func26, Try.ntmps26
  go_wp2_with fail
  refine (rlate28 _).mono ?_
  rintro e w1 ⟨rfl, rfl⟩
  go_wp2_with fail
  go_ret
  exact ⟨rfl, rfl⟩
theorem rlate29 (w : World) : Calls Try.prog 46 #[.int .i64 29] w fun x w' => x = .returned (.string ⟨#[108, 111, 111, 112]⟩) ∧ w = w' := by
  go_enter Try.func46, Try.ntmps46
  go_wp2_with fail
  go_ret
  exact ⟨rfl, rfl⟩
theorem rname29 (w : World) : Calls Try.prog 26 #[.int .i64 29] w fun x w' => x = .returned (.string (opAt 29).1) ∧ w = w' := by
  show Calls _ _ _ _ fun x w' => x = .returned (.string ⟨#[108, 111, 111, 112]⟩) ∧ w = w'
  go_enter Try.func26, Try.ntmps26
  go_wp2_with fail
  refine (rlate29 _).mono ?_
  rintro e w1 ⟨rfl, rfl⟩
  go_wp2_with fail
  go_ret
  exact ⟨rfl, rfl⟩
theorem rlate30 (w : World) : Calls Try.prog 46 #[.int .i64 30] w fun x w' => x = .returned (.string ⟨#[108, 101, 97, 118, 101]⟩) ∧ w = w' := by
  go_enter Try.func46, Try.ntmps46
  go_wp2_with fail
  go_ret
  exact ⟨rfl, rfl⟩
theorem rname30 (w : World) : Calls Try.prog 26 #[.int .i64 30] w fun x w' => x = .returned (.string (opAt 30).1) ∧ w = w' := by
  show Calls _ _ _ _ fun x w' => x = .returned (.string ⟨#[108, 101, 97, 118, 101]⟩) ∧ w = w'
  go_enter Try.func26, Try.ntmps26
  go_wp2_with fail
  refine (rlate30 _).mono ?_
  rintro e w1 ⟨rfl, rfl⟩
  go_wp2_with fail
  go_ret
  exact ⟨rfl, rfl⟩
theorem rlate31 (w : World) : Calls Try.prog 46 #[.int .i64 31] w fun x w' => x = .returned (.string ⟨#[101, 110, 100]⟩) ∧ w = w' := by
  go_enter Try.func46, Try.ntmps46
  go_wp2_with fail
  go_ret
  exact ⟨rfl, rfl⟩
theorem rname31 (w : World) : Calls Try.prog 26 #[.int .i64 31] w fun x w' => x = .returned (.string (opAt 31).1) ∧ w = w' := by
  show Calls _ _ _ _ fun x w' => x = .returned (.string ⟨#[101, 110, 100]⟩) ∧ w = w'
  go_enter Try.func26, Try.ntmps26
  go_wp2_with fail
  refine (rlate31 _).mono ?_
  rintro e w1 ⟨rfl, rfl⟩
  go_wp2_with fail
  go_ret
  exact ⟨rfl, rfl⟩
theorem rlate32 (w : World) : Calls Try.prog 46 #[.int .i64 32] w fun x w' => x = .returned (.string ⟨#[105, 110, 112, 117, 116]⟩) ∧ w = w' := by
  go_enter Try.func46, Try.ntmps46
  go_wp2_with fail
  go_ret
  exact ⟨rfl, rfl⟩
theorem rname32 (w : World) : Calls Try.prog 26 #[.int .i64 32] w fun x w' => x = .returned (.string (opAt 32).1) ∧ w = w' := by
  show Calls _ _ _ _ fun x w' => x = .returned (.string ⟨#[105, 110, 112, 117, 116]⟩) ∧ w = w'
  go_enter Try.func26, Try.ntmps26
  go_wp2_with fail
  refine (rlate32 _).mono ?_
  rintro e w1 ⟨rfl, rfl⟩
  go_wp2_with fail
  go_ret
  exact ⟨rfl, rfl⟩
theorem rlate33 (w : World) : Calls Try.prog 46 #[.int .i64 33] w fun x w' => x = .returned (.string ⟨#[101, 110, 100, 101, 100]⟩) ∧ w = w' := by
  go_enter Try.func46, Try.ntmps46
  go_wp2_with fail
  go_ret
  exact ⟨rfl, rfl⟩
theorem rname33 (w : World) : Calls Try.prog 26 #[.int .i64 33] w fun x w' => x = .returned (.string (opAt 33).1) ∧ w = w' := by
  show Calls _ _ _ _ fun x w' => x = .returned (.string ⟨#[101, 110, 100, 101, 100]⟩) ∧ w = w'
  go_enter Try.func26, Try.ntmps26
  go_wp2_with fail
  refine (rlate33 _).mono ?_
  rintro e w1 ⟨rfl, rfl⟩
  go_wp2_with fail
  go_ret
  exact ⟨rfl, rfl⟩
theorem rlate34 (w : World) : Calls Try.prog 46 #[.int .i64 34] w fun x w' => x = .returned (.string ⟨#[101, 109, 105, 116]⟩) ∧ w = w' := by
  go_enter Try.func46, Try.ntmps46
  go_wp2_with fail
  go_ret
  exact ⟨rfl, rfl⟩
theorem rname34 (w : World) : Calls Try.prog 26 #[.int .i64 34] w fun x w' => x = .returned (.string (opAt 34).1) ∧ w = w' := by
  show Calls _ _ _ _ fun x w' => x = .returned (.string ⟨#[101, 109, 105, 116]⟩) ∧ w = w'
  go_enter Try.func26, Try.ntmps26
  go_wp2_with fail
  refine (rlate34 _).mono ?_
  rintro e w1 ⟨rfl, rfl⟩
  go_wp2_with fail
  go_ret
  exact ⟨rfl, rfl⟩
theorem rlate35 (w : World) : Calls Try.prog 46 #[.int .i64 35] w fun x w' => x = .returned (.string ⟨#[99, 111, 110, 116, 101, 120, 116]⟩) ∧ w = w' := by
  go_enter Try.func46, Try.ntmps46
  go_wp2_with fail
  go_ret
  exact ⟨rfl, rfl⟩
theorem rname35 (w : World) : Calls Try.prog 26 #[.int .i64 35] w fun x w' => x = .returned (.string (opAt 35).1) ∧ w = w' := by
  show Calls _ _ _ _ fun x w' => x = .returned (.string ⟨#[99, 111, 110, 116, 101, 120, 116]⟩) ∧ w = w'
  go_enter Try.func26, Try.ntmps26
  go_wp2_with fail
  refine (rlate35 _).mono ?_
  rintro e w1 ⟨rfl, rfl⟩
  go_wp2_with fail
  go_ret
  exact ⟨rfl, rfl⟩
theorem rlate_out (op : Int) (h : ¬ (0 ≤ op ∧ op < 36)) (w : World) : Calls Try.prog 46 #[.int .i64 op] w fun x w' => x = .returned (.string ⟨#[]⟩) ∧ w = w' := by
  have n18 : (op == 18) = false := by simp; omega
  have n19 : (op == 19) = false := by simp; omega
  have n20 : (op == 20) = false := by simp; omega
  have n21 : (op == 21) = false := by simp; omega
  have n22 : (op == 22) = false := by simp; omega
  have n23 : (op == 23) = false := by simp; omega
  have n24 : (op == 24) = false := by simp; omega
  have n25 : (op == 25) = false := by simp; omega
  have n26 : (op == 26) = false := by simp; omega
  have n27 : (op == 27) = false := by simp; omega
  have n28 : (op == 28) = false := by simp; omega
  have n29 : (op == 29) = false := by simp; omega
  have n30 : (op == 30) = false := by simp; omega
  have n31 : (op == 31) = false := by simp; omega
  have n32 : (op == 32) = false := by simp; omega
  have n33 : (op == 33) = false := by simp; omega
  have n34 : (op == 34) = false := by simp; omega
  have n35 : (op == 35) = false := by simp; omega
  clear h
  go_enter Try.func46, Try.ntmps46
  go_wp2_with fail
  go_ret
  exact ⟨rfl, rfl⟩
theorem rname_any (op : Int) (w : World) : Calls Try.prog 26 #[.int .i64 op] w fun x w' => x = .returned (.string (opAt op).1) ∧ w = w' := by
  by_cases h : 0 ≤ op ∧ op < 36
  · have hc : op = 0 ∨ op = 1 ∨ op = 2 ∨ op = 3 ∨ op = 4 ∨ op = 5 ∨ op = 6 ∨ op = 7 ∨ op = 8 ∨ op = 9 ∨ op = 10 ∨ op = 11 ∨ op = 12 ∨ op = 13 ∨ op = 14 ∨ op = 15 ∨ op = 16 ∨ op = 17 ∨ op = 18 ∨ op = 19 ∨ op = 20 ∨ op = 21 ∨ op = 22 ∨ op = 23 ∨ op = 24 ∨ op = 25 ∨ op = 26 ∨ op = 27 ∨ op = 28 ∨ op = 29 ∨ op = 30 ∨ op = 31 ∨ op = 32 ∨ op = 33 ∨ op = 34 ∨ op = 35 := by omega
    rcases hc with rfl | rfl | rfl | rfl | rfl | rfl | rfl | rfl | rfl | rfl | rfl | rfl | rfl | rfl | rfl | rfl | rfl | rfl | rfl | rfl | rfl | rfl | rfl | rfl | rfl | rfl | rfl | rfl | rfl | rfl | rfl | rfl | rfl | rfl | rfl | rfl
    · exact rname0 w
    · exact rname1 w
    · exact rname2 w
    · exact rname3 w
    · exact rname4 w
    · exact rname5 w
    · exact rname6 w
    · exact rname7 w
    · exact rname8 w
    · exact rname9 w
    · exact rname10 w
    · exact rname11 w
    · exact rname12 w
    · exact rname13 w
    · exact rname14 w
    · exact rname15 w
    · exact rname16 w
    · exact rname17 w
    · exact rname18 w
    · exact rname19 w
    · exact rname20 w
    · exact rname21 w
    · exact rname22 w
    · exact rname23 w
    · exact rname24 w
    · exact rname25 w
    · exact rname26 w
    · exact rname27 w
    · exact rname28 w
    · exact rname29 w
    · exact rname30 w
    · exact rname31 w
    · exact rname32 w
    · exact rname33 w
    · exact rname34 w
    · exact rname35 w
  · rw [show opAt op = noOp by unfold opAt; exact if_neg h]
    show Calls _ _ _ _ fun x w' => x = .returned (.string ⟨#[]⟩) ∧ w = w'
    have hl := hidden (rlate_out op h)
    have n0 : (op == 0) = false := by simp; omega
    have n1 : (op == 1) = false := by simp; omega
    have n2 : (op == 2) = false := by simp; omega
    have n3 : (op == 3) = false := by simp; omega
    have n4 : (op == 4) = false := by simp; omega
    have n5 : (op == 5) = false := by simp; omega
    have n6 : (op == 6) = false := by simp; omega
    have n7 : (op == 7) = false := by simp; omega
    have n8 : (op == 8) = false := by simp; omega
    have n9 : (op == 9) = false := by simp; omega
    have n10 : (op == 10) = false := by simp; omega
    have n11 : (op == 11) = false := by simp; omega
    have n12 : (op == 12) = false := by simp; omega
    have n13 : (op == 13) = false := by simp; omega
    have n14 : (op == 14) = false := by simp; omega
    have n15 : (op == 15) = false := by simp; omega
    have n16 : (op == 16) = false := by simp; omega
    have n17 : (op == 17) = false := by simp; omega
    clear h
    go_enter Try.func26, Try.ntmps26
    go_wp2_with fail
    refine (hl.out _).mono ?_
    rintro e w1 ⟨rfl, rfl⟩
    go_wp2_with fail
    go_ret
    exact ⟨rfl, rfl⟩
end Go.Proofs.Ytchkbidekmaaiaa
