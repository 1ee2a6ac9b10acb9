
import Derived.Test.YtgjjklajipekdaaGreatYb
namespace Go.Proofs.YtgjjklajipekdaaGreat
open Go.RowKit
set_option linter.unusedVariables false
theorem reff0 (w : World) : Calls Tryz.prog 78 #[.int .i64 0] w fun x w' => x = .returned (.tuple #[.string (opAt 0).2.1, .string (opAt 0).2.2.1, .bool (isOp 0)]) ∧ w = w' := by
 show Calls _ _ _ _ fun x w' => x = .returned (.tuple #[.string ⟨#[]⟩, .string ⟨#[110]⟩, .bool true]) ∧ w = w'
 go_enter Tryz.func78, Tryz.ntmps78
 go_wp2_with fail
 go_ret3
 exact ⟨rfl, rfl⟩
theorem reff1 (w : World) : Calls Tryz.prog 78 #[.int .i64 1] w fun x w' => x = .returned (.tuple #[.string (opAt 1).2.1, .string (opAt 1).2.2.1, .bool (isOp 1)]) ∧ w = w' := by
 show Calls _ _ _ _ fun x w' => x = .returned (.tuple #[.string ⟨#[]⟩, .string ⟨#[110]⟩, .bool true]) ∧ w = w'
 go_enter Tryz.func78, Tryz.ntmps78
 go_wp2_with fail
 go_ret3
 exact ⟨rfl, rfl⟩
theorem reff2 (w : World) : Calls Tryz.prog 78 #[.int .i64 2] w fun x w' => x = .returned (.tuple #[.string (opAt 2).2.1, .string (opAt 2).2.2.1, .bool (isOp 2)]) ∧ w = w' := by
 show Calls _ _ _ _ fun x w' => x = .returned (.tuple #[.string ⟨#[110]⟩, .string ⟨#[]⟩, .bool true]) ∧ w = w'
 go_enter Tryz.func78, Tryz.ntmps78
 go_wp2_with fail
 go_ret3
 exact ⟨rfl, rfl⟩
theorem reff3 (w : World) : Calls Tryz.prog 78 #[.int .i64 3] w fun x w' => x = .returned (.tuple #[.string (opAt 3).2.1, .string (opAt 3).2.2.1, .bool (isOp 3)]) ∧ w = w' := by
 show Calls _ _ _ _ fun x w' => x = .returned (.tuple #[.string ⟨#[110]⟩, .string ⟨#[110]⟩, .bool true]) ∧ w = w'
 go_enter Tryz.func78, Tryz.ntmps78
 go_wp2_with fail
 go_ret3
 exact ⟨rfl, rfl⟩
theorem reff4 (w : World) : Calls Tryz.prog 78 #[.int .i64 4] w fun x w' => x = .returned (.tuple #[.string (opAt 4).2.1, .string (opAt 4).2.2.1, .bool (isOp 4)]) ∧ w = w' := by
 show Calls _ _ _ _ fun x w' => x = .returned (.tuple #[.string ⟨#[110, 110]⟩, .string ⟨#[]⟩, .bool true]) ∧ w = w'
 go_enter Tryz.func78, Tryz.ntmps78
 go_wp2_with fail
 go_ret3
 exact ⟨rfl, rfl⟩
theorem reff5 (w : World) : Calls Tryz.prog 78 #[.int .i64 5] w fun x w' => x = .returned (.tuple #[.string (opAt 5).2.1, .string (opAt 5).2.2.1, .bool (isOp 5)]) ∧ w = w' := by
 show Calls _ _ _ _ fun x w' => x = .returned (.tuple #[.string ⟨#[97]⟩, .string ⟨#[97, 97]⟩, .bool true]) ∧ w = w'
 go_enter Tryz.func78, Tryz.ntmps78
 go_wp2_with fail
 go_ret3
 exact ⟨rfl, rfl⟩
theorem reff6 (w : World) : Calls Tryz.prog 78 #[.int .i64 6] w fun x w' => x = .returned (.tuple #[.string (opAt 6).2.1, .string (opAt 6).2.2.1, .bool (isOp 6)]) ∧ w = w' := by
 show Calls _ _ _ _ fun x w' => x = .returned (.tuple #[.string ⟨#[97]⟩, .string ⟨#[]⟩, .bool true]) ∧ w = w'
 go_enter Tryz.func78, Tryz.ntmps78
 go_wp2_with fail
 go_ret3
 exact ⟨rfl, rfl⟩
theorem reff7 (w : World) : Calls Tryz.prog 78 #[.int .i64 7] w fun x w' => x = .returned (.tuple #[.string (opAt 7).2.1, .string (opAt 7).2.2.1, .bool (isOp 7)]) ∧ w = w' := by
 show Calls _ _ _ _ fun x w' => x = .returned (.tuple #[.string ⟨#[97, 98]⟩, .string ⟨#[98, 97]⟩, .bool true]) ∧ w = w'
 go_enter Tryz.func78, Tryz.ntmps78
 go_wp2_with fail
 go_ret3
 exact ⟨rfl, rfl⟩
theorem reff8 (w : World) : Calls Tryz.prog 78 #[.int .i64 8] w fun x w' => x = .returned (.tuple #[.string (opAt 8).2.1, .string (opAt 8).2.2.1, .bool (isOp 8)]) ∧ w = w' := by
 show Calls _ _ _ _ fun x w' => x = .returned (.tuple #[.string ⟨#[110, 110]⟩, .string ⟨#[110]⟩, .bool true]) ∧ w = w'
 go_enter Tryz.func78, Tryz.ntmps78
 go_wp2_with fail
 go_ret3
 exact ⟨rfl, rfl⟩
theorem reff9 (w : World) : Calls Tryz.prog 78 #[.int .i64 9] w fun x w' => x = .returned (.tuple #[.string (opAt 9).2.1, .string (opAt 9).2.2.1, .bool (isOp 9)]) ∧ w = w' := by
 show Calls _ _ _ _ fun x w' => x = .returned (.tuple #[.string ⟨#[110, 110]⟩, .string ⟨#[110]⟩, .bool true]) ∧ w = w'
 go_enter Tryz.func78, Tryz.ntmps78
 go_wp2_with fail
 go_ret3
 exact ⟨rfl, rfl⟩
theorem reff10 (w : World) : Calls Tryz.prog 78 #[.int .i64 10] w fun x w' => x = .returned (.tuple #[.string (opAt 10).2.1, .string (opAt 10).2.2.1, .bool (isOp 10)]) ∧ w = w' := by
 show Calls _ _ _ _ fun x w' => x = .returned (.tuple #[.string ⟨#[110, 110]⟩, .string ⟨#[110]⟩, .bool true]) ∧ w = w'
 go_enter Tryz.func78, Tryz.ntmps78
 go_wp2_with fail
 go_ret3
 exact ⟨rfl, rfl⟩
theorem reff11 (w : World) : Calls Tryz.prog 78 #[.int .i64 11] w fun x w' => x = .returned (.tuple #[.string (opAt 11).2.1, .string (opAt 11).2.2.1, .bool (isOp 11)]) ∧ w = w' := by
 show Calls _ _ _ _ fun x w' => x = .returned (.tuple #[.string ⟨#[110, 110]⟩, .string ⟨#[110]⟩, .bool true]) ∧ w = w'
 go_enter Tryz.func78, Tryz.ntmps78
 go_wp2_with fail
 go_ret3
 exact ⟨rfl, rfl⟩
theorem reff12 (w : World) : Calls Tryz.prog 78 #[.int .i64 12] w fun x w' => x = .returned (.tuple #[.string (opAt 12).2.1, .string (opAt 12).2.2.1, .bool (isOp 12)]) ∧ w = w' := by
 show Calls _ _ _ _ fun x w' => x = .returned (.tuple #[.string ⟨#[110, 110]⟩, .string ⟨#[110]⟩, .bool true]) ∧ w = w'
 go_enter Tryz.func78, Tryz.ntmps78
 go_wp2_with fail
 go_ret3
 exact ⟨rfl, rfl⟩
theorem reff13 (w : World) : Calls Tryz.prog 78 #[.int .i64 13] w fun x w' => x = .returned (.tuple #[.string (opAt 13).2.1, .string (opAt 13).2.2.1, .bool (isOp 13)]) ∧ w = w' := by
 show Calls _ _ _ _ fun x w' => x = .returned (.tuple #[.string ⟨#[110, 110]⟩, .string ⟨#[110]⟩, .bool true]) ∧ w = w'
 go_enter Tryz.func78, Tryz.ntmps78
 go_wp2_with fail
 go_ret3
 exact ⟨rfl, rfl⟩
theorem reff14 (w : World) : Calls Tryz.prog 78 #[.int .i64 14] w fun x w' => x = .returned (.tuple #[.string (opAt 14).2.1, .string (opAt 14).2.2.1, .bool (isOp 14)]) ∧ w = w' := by
 show Calls _ _ _ _ fun x w' => x = .returned (.tuple #[.string ⟨#[110, 110]⟩, .string ⟨#[110]⟩, .bool true]) ∧ w = w'
 go_enter Tryz.func78, Tryz.ntmps78
 go_wp2_with fail
 go_ret3
 exact ⟨rfl, rfl⟩
theorem reff15 (w : World) : Calls Tryz.prog 78 #[.int .i64 15] w fun x w' => x = .returned (.tuple #[.string (opAt 15).2.1, .string (opAt 15).2.2.1, .bool (isOp 15)]) ∧ w = w' := by
 show Calls _ _ _ _ fun x w' => x = .returned (.tuple #[.string ⟨#[110, 110]⟩, .string ⟨#[110]⟩, .bool true]) ∧ w = w'
 go_enter Tryz.func78, Tryz.ntmps78
 go_wp2_with fail
 go_ret3
 exact ⟨rfl, rfl⟩
theorem reff16 (w : World) : Calls Tryz.prog 78 #[.int .i64 16] w fun x w' => x = .returned (.tuple #[.string (opAt 16).2.1, .string (opAt 16).2.2.1, .bool (isOp 16)]) ∧ w = w' := by
 show Calls _ _ _ _ fun x w' => x = .returned (.tuple #[.string ⟨#[110, 110]⟩, .string ⟨#[110]⟩, .bool true]) ∧ w = w'
 go_enter Tryz.func78, Tryz.ntmps78
 go_wp2_with fail
 go_ret3
 exact ⟨rfl, rfl⟩
theorem reff17 (w : World) : Calls Tryz.prog 78 #[.int .i64 17] w fun x w' => x = .returned (.tuple #[.string (opAt 17).2.1, .string (opAt 17).2.2.1, .bool (isOp 17)]) ∧ w = w' := by
 show Calls _ _ _ _ fun x w' => x = .returned (.tuple #[.string ⟨#[110, 110]⟩, .string ⟨#[110]⟩, .bool true]) ∧ w = w'
 go_enter Tryz.func78, Tryz.ntmps78
 go_wp2_with fail
 go_ret3
 exact ⟨rfl, rfl⟩
theorem reff18 (w : World) : Calls Tryz.prog 78 #[.int .i64 18] w fun x w' => x = .returned (.tuple #[.string (opAt 18).2.1, .string (opAt 18).2.2.1, .bool (isOp 18)]) ∧ w = w' := by
 show Calls _ _ _ _ fun x w' => x = .returned (.tuple #[.string ⟨#[110, 110]⟩, .string ⟨#[110]⟩, .bool true]) ∧ w = w'
 go_enter Tryz.func78, Tryz.ntmps78
 go_wp2_with fail
 go_ret3
 exact ⟨rfl, rfl⟩
theorem reff19 (w : World) : Calls Tryz.prog 78 #[.int .i64 19] w fun x w' => x = .returned (.tuple #[.string (opAt 19).2.1, .string (opAt 19).2.2.1, .bool (isOp 19)]) ∧ w = w' := by
 show Calls _ _ _ _ fun x w' => x = .returned (.tuple #[.string ⟨#[110, 110]⟩, .string ⟨#[110]⟩, .bool true]) ∧ w = w'
 go_enter Tryz.func78, Tryz.ntmps78
 go_wp2_with fail
 go_ret3
 exact ⟨rfl, rfl⟩
theorem reff20 (w : World) : Calls Tryz.prog 78 #[.int .i64 20] w fun x w' => x = .returned (.tuple #[.string (opAt 20).2.1, .string (opAt 20).2.2.1, .bool (isOp 20)]) ∧ w = w' := by
 show Calls _ _ _ _ fun x w' => x = .returned (.tuple #[.string ⟨#[110, 110]⟩, .string ⟨#[110]⟩, .bool true]) ∧ w = w'
 go_enter Tryz.func78, Tryz.ntmps78
 go_wp2_with fail
 go_ret3
 exact ⟨rfl, rfl⟩
theorem reff21 (w : World) : Calls Tryz.prog 78 #[.int .i64 21] w fun x w' => x = .returned (.tuple #[.string (opAt 21).2.1, .string (opAt 21).2.2.1, .bool (isOp 21)]) ∧ w = w' := by
 show Calls _ _ _ _ fun x w' => x = .returned (.tuple #[.string ⟨#[110, 110]⟩, .string ⟨#[116]⟩, .bool true]) ∧ w = w'
 go_enter Tryz.func78, Tryz.ntmps78
 go_wp2_with fail
 go_ret3
 exact ⟨rfl, rfl⟩
theorem reff22 (w : World) : Calls Tryz.prog 78 #[.int .i64 22] w fun x w' => x = .returned (.tuple #[.string (opAt 22).2.1, .string (opAt 22).2.2.1, .bool (isOp 22)]) ∧ w = w' := by
 show Calls _ _ _ _ fun x w' => x = .returned (.tuple #[.string ⟨#[110, 110]⟩, .string ⟨#[116]⟩, .bool true]) ∧ w = w'
 go_enter Tryz.func78, Tryz.ntmps78
 go_wp2_with fail
 go_ret3
 exact ⟨rfl, rfl⟩
theorem reff23 (w : World) : Calls Tryz.prog 78 #[.int .i64 23] w fun x w' => x = .returned (.tuple #[.string (opAt 23).2.1, .string (opAt 23).2.2.1, .bool (isOp 23)]) ∧ w = w' := by
 show Calls _ _ _ _ fun x w' => x = .returned (.tuple #[.string ⟨#[116]⟩, .string ⟨#[116]⟩, .bool true]) ∧ w = w'
 go_enter Tryz.func78, Tryz.ntmps78
 go_wp2_with fail
 go_ret3
 exact ⟨rfl, rfl⟩
theorem reff24 (w : World) : Calls Tryz.prog 78 #[.int .i64 24] w fun x w' => x = .returned (.tuple #[.string (opAt 24).2.1, .string (opAt 24).2.2.1, .bool (isOp 24)]) ∧ w = w' := by
 show Calls _ _ _ _ fun x w' => x = .returned (.tuple #[.string ⟨#[116, 116]⟩, .string ⟨#[116]⟩, .bool true]) ∧ w = w'
 go_enter Tryz.func78, Tryz.ntmps78
 go_wp2_with fail
 go_ret3
 exact ⟨rfl, rfl⟩
theorem reff25 (w : World) : Calls Tryz.prog 78 #[.int .i64 25] w fun x w' => x = .returned (.tuple #[.string (opAt 25).2.1, .string (opAt 25).2.2.1, .bool (isOp 25)]) ∧ w = w' := by
 show Calls _ _ _ _ fun x w' => x = .returned (.tuple #[.string ⟨#[116, 116]⟩, .string ⟨#[116]⟩, .bool true]) ∧ w = w'
 go_enter Tryz.func78, Tryz.ntmps78
 go_wp2_with fail
 go_ret3
 exact ⟨rfl, rfl⟩
theorem reff26 (w : World) : Calls Tryz.prog 78 #[.int .i64 26] w fun x w' => x = .returned (.tuple #[.string (opAt 26).2.1, .string (opAt 26).2.2.1, .bool (isOp 26)]) ∧ w = w' := by
 show Calls _ _ _ _ fun x w' => x = .returned (.tuple #[.string ⟨#[116]⟩, .string ⟨#[110]⟩, .bool true]) ∧ w = w'
 go_enter Tryz.func78, Tryz.ntmps78
 go_wp2_with fail
 go_ret3
 exact ⟨rfl, rfl⟩
theorem reff27 (w : World) : Calls Tryz.prog 78 #[.int .i64 27] w fun x w' => x = .returned (.tuple #[.string (opAt 27).2.1, .string (opAt 27).2.2.1, .bool (isOp 27)]) ∧ w = w' := by
 show Calls _ _ _ _ fun x w' => x = .returned (.tuple #[.string ⟨#[116]⟩, .string ⟨#[]⟩, .bool true]) ∧ w = w'
 go_enter Tryz.func78, Tryz.ntmps78
 go_wp2_with fail
 go_ret3
 exact ⟨rfl, rfl⟩
theorem reff28 (w : World) : Calls Tryz.prog 78 #[.int .i64 28] w fun x w' => x = .returned (.tuple #[.string (opAt 28).2.1, .string (opAt 28).2.2.1, .bool (isOp 28)]) ∧ w = w' := by
 show Calls _ _ _ _ fun x w' => x = .returned (.tuple #[.string ⟨#[]⟩, .string ⟨#[]⟩, .bool true]) ∧ w = w'
 go_enter Tryz.func78, Tryz.ntmps78
 go_wp2_with fail
 go_ret3
 exact ⟨rfl, rfl⟩
theorem reff29 (w : World) : Calls Tryz.prog 78 #[.int .i64 29] w fun x w' => x = .returned (.tuple #[.string (opAt 29).2.1, .string (opAt 29).2.2.1, .bool (isOp 29)]) ∧ w = w' := by
 show Calls _ _ _ _ fun x w' => x = .returned (.tuple #[.string ⟨#[110]⟩, .string ⟨#[]⟩, .bool true]) ∧ w = w'
 go_enter Tryz.func78, Tryz.ntmps78
 go_wp2_with fail
 go_ret3
 exact ⟨rfl, rfl⟩
theorem reff30 (w : World) : Calls Tryz.prog 78 #[.int .i64 30] w fun x w' => x = .returned (.tuple #[.string (opAt 30).2.1, .string (opAt 30).2.2.1, .bool (isOp 30)]) ∧ w = w' := by
 show Calls _ _ _ _ fun x w' => x = .returned (.tuple #[.string ⟨#[116]⟩, .string ⟨#[]⟩, .bool true]) ∧ w = w'
 go_enter Tryz.func78, Tryz.ntmps78
 go_wp2_with fail
 go_ret3
 exact ⟨rfl, rfl⟩
theorem reff31 (w : World) : Calls Tryz.prog 78 #[.int .i64 31] w fun x w' => x = .returned (.tuple #[.string (opAt 31).2.1, .string (opAt 31).2.2.1, .bool (isOp 31)]) ∧ w = w' := by
 show Calls _ _ _ _ fun x w' => x = .returned (.tuple #[.string ⟨#[]⟩, .string ⟨#[]⟩, .bool true]) ∧ w = w'
 go_enter Tryz.func78, Tryz.ntmps78
 go_wp2_with fail
 go_ret3
 exact ⟨rfl, rfl⟩
theorem reff32 (w : World) : Calls Tryz.prog 78 #[.int .i64 32] w fun x w' => x = .returned (.tuple #[.string (opAt 32).2.1, .string (opAt 32).2.2.1, .bool (isOp 32)]) ∧ w = w' := by
 show Calls _ _ _ _ fun x w' => x = .returned (.tuple #[.string ⟨#[]⟩, .string ⟨#[110]⟩, .bool true]) ∧ w = w'
 go_enter Tryz.func78, Tryz.ntmps78
 go_wp2_with fail
 go_ret3
 exact ⟨rfl, rfl⟩
theorem reff33 (w : World) : Calls Tryz.prog 78 #[.int .i64 33] w fun x w' => x = .returned (.tuple #[.string (opAt 33).2.1, .string (opAt 33).2.2.1, .bool (isOp 33)]) ∧ w = w' := by
 show Calls _ _ _ _ fun x w' => x = .returned (.tuple #[.string ⟨#[]⟩, .string ⟨#[116]⟩, .bool true]) ∧ w = w'
 go_enter Tryz.func78, Tryz.ntmps78
 go_wp2_with fail
 go_ret3
 exact ⟨rfl, rfl⟩
theorem reff34 (w : World) : Calls Tryz.prog 78 #[.int .i64 34] w fun x w' => x = .returned (.tuple #[.string (opAt 34).2.1, .string (opAt 34).2.2.1, .bool (isOp 34)]) ∧ w = w' := by
 show Calls _ _ _ _ fun x w' => x = .returned (.tuple #[.string ⟨#[110]⟩, .string ⟨#[]⟩, .bool true]) ∧ w = w'
 go_enter Tryz.func78, Tryz.ntmps78
 go_wp2_with fail
 go_ret3
 exact ⟨rfl, rfl⟩
theorem reff35 (w : World) : Calls Tryz.prog 78 #[.int .i64 35] w fun x w' => x = .returned (.tuple #[.string (opAt 35).2.1, .string (opAt 35).2.2.1, .bool (isOp 35)]) ∧ w = w' := by
 show Calls _ _ _ _ fun x w' => x = .returned (.tuple #[.string ⟨#[110]⟩, .string ⟨#[]⟩, .bool true]) ∧ w = w'
 go_enter Tryz.func78, Tryz.ntmps78
 go_wp2_with fail
 go_ret3
 exact ⟨rfl, rfl⟩
theorem reff_any (op : Int) (w : World) : Calls Tryz.prog 78 #[.int .i64 op] w fun x w' => x = .returned (.tuple #[.string (opAt op).2.1, .string (opAt op).2.2.1, .bool (isOp op)]) ∧ w = w' := by
 by_cases h : 0 ≤ op ∧ op < 36
 ·have hc : op = 0 ∨ op = 1 ∨ op = 2 ∨ op = 3 ∨ op = 4 ∨ op = 5 ∨ op = 6 ∨ op = 7 ∨ op = 8 ∨ op = 9 ∨ op = 10 ∨ op = 11 ∨ op = 12 ∨ op = 13 ∨ op = 14 ∨ op = 15 ∨ op = 16 ∨ op = 17 ∨ op = 18 ∨ op = 19 ∨ op = 20 ∨ op = 21 ∨ op = 22 ∨ op = 23 ∨ op = 24 ∨ op = 25 ∨ op = 26 ∨ op = 27 ∨ op = 28 ∨ op = 29 ∨ op = 30 ∨ op = 31 ∨ op = 32 ∨ op = 33 ∨ op = 34 ∨ op = 35 := by omega
  rcases hc with rfl | rfl | rfl | rfl | rfl | rfl | rfl | rfl | rfl | rfl | rfl | rfl | rfl | rfl | rfl | rfl | rfl | rfl | rfl | rfl | rfl | rfl | rfl | rfl | rfl | rfl | rfl | rfl | rfl | rfl | rfl | rfl | rfl | rfl | rfl | rfl
  ·exact reff0 w
  ·exact reff1 w
  ·exact reff2 w
  ·exact reff3 w
  ·exact reff4 w
  ·exact reff5 w
  ·exact reff6 w
  ·exact reff7 w
  ·exact reff8 w
  ·exact reff9 w
  ·exact reff10 w
  ·exact reff11 w
  ·exact reff12 w
  ·exact reff13 w
  ·exact reff14 w
  ·exact reff15 w
  ·exact reff16 w
  ·exact reff17 w
  ·exact reff18 w
  ·exact reff19 w
  ·exact reff20 w
  ·exact reff21 w
  ·exact reff22 w
  ·exact reff23 w
  ·exact reff24 w
  ·exact reff25 w
  ·exact reff26 w
  ·exact reff27 w
  ·exact reff28 w
  ·exact reff29 w
  ·exact reff30 w
  ·exact reff31 w
  ·exact reff32 w
  ·exact reff33 w
  ·exact reff34 w
  ·exact reff35 w
 ·rw [show opAt op = noOp by unfold opAt; exact if_neg h, show isOp op = false by unfold isOp; exact decide_eq_false h]
  show Calls _ _ _ _ fun x w' => x = .returned (.tuple #[.string ⟨#[]⟩, .string ⟨#[]⟩, .bool false]) ∧ w = w'
  by_cases k : op < 0
  ·clear h
   go_enter Tryz.func78, Tryz.ntmps78
   go_wp2_with fail
   go_ret3
   exact ⟨rfl, rfl⟩
  ·have k2 : 36 ≤ op := by omega
   clear h
   go_enter Tryz.func78, Tryz.ntmps78
   go_wp2_with fail
   go_ret3
   exact ⟨rfl, rfl⟩
end Go.Proofs.YtgjjklajipekdaaGreat
