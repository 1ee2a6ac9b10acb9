
import Derived.Test.YtgjjklajipekdaaGreatRows
import Derived.Test.YtgjjklajipekdaaGreatT
import Derived.Deep.QuietTactic
import Derived.BigQuiet
import Derived.Outline
namespace Go.Proofs.YtgjjklajipekdaaGreat
set_option maxHeartbeats 16000000
set_option maxRecDepth 100000
open Go.RowKit
set_option linter.unusedVariables false
theorem ret_two_u {k j : IntKind} {a b c : Int} (h : a = b) : Ending.returned (.tuple #[.int k a, .int j c]) = .returned (.tuple #[.int k b, .int j c]) := by rw [h]
theorem truth_any (p : Bool) (w : World) : Calls Tryz.prog 113 #[.bool p] w fun x w' => x = .returned (.int .u32 (fl p)) ∧ w = w' := by
 cases p <;>
 ·go_enter Tryz.func113, Tryz.ntmps113
  go_wp2_with fail
  go_ret
  exact ⟨rfl, rfl⟩
theorem rhash_any (a b : Int) (ha0 : 0 ≤ a) (ha1 : a ≤ 4294967295) (hb0 : 0 ≤ b) (hb1 : b ≤ 4294967295) (w : World) : Calls Tryz.prog 114 #[.int .u32 a, .int .u32 b] w fun x w' => x = .returned (.int .u32 (hs a b)) ∧ w = w' := by
 go_enter Tryz.func114, Tryz.ntmps114
 go_wp2_with fail
 go_ret
 exact ⟨ret_int (by unfold hs; rfl), rfl⟩
theorem rapply8 (a b : Int) (ha0 : 0 ≤ a) (ha1 : a ≤ 4294967295) (hb0 : 0 ≤ b) (hb1 : b ≤ 4294967295) (w : World) :
  Calls Tryz.prog 83 #[.int .i64 8, .int .u32 a, .int .u32 b] w fun x w' => x = .returned (.tuple #[.int .u32 (apF 8 a b).1, .int .i64 (apF 8 a b).2]) ∧ w = w' := by
 rw [apF_in (by omega) (by omega) (by omega), apV_8]
 go_enter Tryz.func83, Tryz.ntmps83
 go_wp2_with fail
 go_ret2
 exact ⟨rfl, rfl⟩
theorem rapply9 (a b : Int) (ha0 : 0 ≤ a) (ha1 : a ≤ 4294967295) (hb0 : 0 ≤ b) (hb1 : b ≤ 4294967295) (w : World) :
  Calls Tryz.prog 83 #[.int .i64 9, .int .u32 a, .int .u32 b] w fun x w' => x = .returned (.tuple #[.int .u32 (apF 9 a b).1, .int .i64 (apF 9 a b).2]) ∧ w = w' := by
 rw [apF_in (by omega) (by omega) (by omega), apV_9]
 go_enter Tryz.func83, Tryz.ntmps83
 go_wp2_with fail
 go_ret2
 exact ⟨rfl, rfl⟩
theorem rapply10 (a b : Int) (ha0 : 0 ≤ a) (ha1 : a ≤ 4294967295) (hb0 : 0 ≤ b) (hb1 : b ≤ 4294967295) (w : World) :
  Calls Tryz.prog 83 #[.int .i64 10, .int .u32 a, .int .u32 b] w fun x w' => x = .returned (.tuple #[.int .u32 (apF 10 a b).1, .int .i64 (apF 10 a b).2]) ∧ w = w' := by
 rw [apF_in (by omega) (by omega) (by omega), apV_10]
 go_enter Tryz.func83, Tryz.ntmps83
 go_wp2_with fail
 go_ret2
 exact ⟨rfl, rfl⟩
theorem rapply11 (a b : Int) (ha0 : 0 ≤ a) (ha1 : a ≤ 4294967295) (hb0 : 0 ≤ b) (hb1 : b ≤ 4294967295) (w : World) :
  Calls Tryz.prog 83 #[.int .i64 11, .int .u32 a, .int .u32 b] w fun x w' => x = .returned (.tuple #[.int .u32 (apF 11 a b).1, .int .i64 (apF 11 a b).2]) ∧ w = w' := by
 by_cases hb : b = 0
 ·rw [apF_div hb (by omega)]
  have hb' : (b == 0) = true := by simp [hb]
  clear hb
  go_enter Tryz.func83, Tryz.ntmps83
  go_wp2_with fail
  go_ret2
  exact ⟨rfl, rfl⟩
 ·rw [apF_in (by omega) (by omega) (by omega), apV_11]
  have hb' : (b == 0) = false := by simp [hb]
  have hp : 0 < b := by omega
  clear hb
  go_enter Tryz.func83, Tryz.ntmps83
  go_wp2_with fail
  go_ret2
  exact ⟨rfl, rfl⟩
theorem rapply12 (a b : Int) (ha0 : 0 ≤ a) (ha1 : a ≤ 4294967295) (hb0 : 0 ≤ b) (hb1 : b ≤ 4294967295) (w : World) :
  Calls Tryz.prog 83 #[.int .i64 12, .int .u32 a, .int .u32 b] w fun x w' => x = .returned (.tuple #[.int .u32 (apF 12 a b).1, .int .i64 (apF 12 a b).2]) ∧ w = w' := by
 by_cases hb : b = 0
 ·rw [apF_div hb (by omega)]
  have hb' : (b == 0) = true := by simp [hb]
  clear hb
  go_enter Tryz.func83, Tryz.ntmps83
  go_wp2_with fail
  go_ret2
  exact ⟨rfl, rfl⟩
 ·rw [apF_in (by omega) (by omega) (by omega), apV_12]
  have hb' : (b == 0) = false := by simp [hb]
  have hp : 0 < b := by omega
  clear hb
  go_enter Tryz.func83, Tryz.ntmps83
  go_wp2_with fail
  go_ret2
  exact ⟨rfl, rfl⟩
theorem rapply13 (a b : Int) (ha0 : 0 ≤ a) (ha1 : a ≤ 4294967295) (hb0 : 0 ≤ b) (hb1 : b ≤ 4294967295) (w : World) :
  Calls Tryz.prog 83 #[.int .i64 13, .int .u32 a, .int .u32 b] w fun x w' => x = .returned (.tuple #[.int .u32 (apF 13 a b).1, .int .i64 (apF 13 a b).2]) ∧ w = w' := by
 rw [apF_in (by omega) (by omega) (by omega), apV_13]
 go_enter Tryz.func83, Tryz.ntmps83
 go_wp2_with fail
 go_ret2
 exact ⟨rfl, rfl⟩
theorem rapply14 (a b : Int) (ha0 : 0 ≤ a) (ha1 : a ≤ 4294967295) (hb0 : 0 ≤ b) (hb1 : b ≤ 4294967295) (w : World) :
  Calls Tryz.prog 83 #[.int .i64 14, .int .u32 a, .int .u32 b] w fun x w' => x = .returned (.tuple #[.int .u32 (apF 14 a b).1, .int .i64 (apF 14 a b).2]) ∧ w = w' := by
 rw [apF_in (by omega) (by omega) (by omega), apV_14]
 go_enter Tryz.func83, Tryz.ntmps83
 go_wp2_with fail
 go_ret2
 exact ⟨rfl, rfl⟩
theorem rapply15 (a b : Int) (ha0 : 0 ≤ a) (ha1 : a ≤ 4294967295) (hb0 : 0 ≤ b) (hb1 : b ≤ 4294967295) (w : World) :
  Calls Tryz.prog 83 #[.int .i64 15, .int .u32 a, .int .u32 b] w fun x w' => x = .returned (.tuple #[.int .u32 (apF 15 a b).1, .int .i64 (apF 15 a b).2]) ∧ w = w' := by
 rw [apF_in (by omega) (by omega) (by omega), apV_15]
 go_enter Tryz.func83, Tryz.ntmps83
 go_wp2_with fail
 go_ret2
 exact ⟨rfl, rfl⟩
theorem rapply16 (a b : Int) (ha0 : 0 ≤ a) (ha1 : a ≤ 4294967295) (hb0 : 0 ≤ b) (hb1 : b ≤ 4294967295) (w : World) :
  Calls Tryz.prog 83 #[.int .i64 16, .int .u32 a, .int .u32 b] w fun x w' => x = .returned (.tuple #[.int .u32 (apF 16 a b).1, .int .i64 (apF 16 a b).2]) ∧ w = w' := by
 rw [apF_in (by omega) (by omega) (by omega), apV_16]
 go_enter Tryz.func83, Tryz.ntmps83
 go_wp2_with fail
 go_ret2
 exact ⟨rfl, rfl⟩
theorem rapply17 (a b : Int) (ha0 : 0 ≤ a) (ha1 : a ≤ 4294967295) (hb0 : 0 ≤ b) (hb1 : b ≤ 4294967295) (w : World) :
  Calls Tryz.prog 83 #[.int .i64 17, .int .u32 a, .int .u32 b] w fun x w' => x = .returned (.tuple #[.int .u32 (apF 17 a b).1, .int .i64 (apF 17 a b).2]) ∧ w = w' := by
 rw [apF_in (by omega) (by omega) (by omega), apV_17]
 go_enter Tryz.func83, Tryz.ntmps83
 go_wp2_with fail
 go_ret2
 exact ⟨rfl, rfl⟩
theorem rapply18 (a b : Int) (ha0 : 0 ≤ a) (ha1 : a ≤ 4294967295) (hb0 : 0 ≤ b) (hb1 : b ≤ 4294967295) (w : World) :
  Calls Tryz.prog 83 #[.int .i64 18, .int .u32 a, .int .u32 b] w fun x w' => x = .returned (.tuple #[.int .u32 (apF 18 a b).1, .int .i64 (apF 18 a b).2]) ∧ w = w' := by
 rw [apF_in (by omega) (by omega) (by omega), apV_18]
 go_enter Tryz.func83, Tryz.ntmps83
 go_wp2_with fail
 all_goals
  go_ret2
  exact ⟨ret_two_u (by omega), rfl⟩
theorem rapply19 (a b : Int) (ha0 : 0 ≤ a) (ha1 : a ≤ 4294967295) (hb0 : 0 ≤ b) (hb1 : b ≤ 4294967295) (w : World) :
  Calls Tryz.prog 83 #[.int .i64 19, .int .u32 a, .int .u32 b] w fun x w' => x = .returned (.tuple #[.int .u32 (apF 19 a b).1, .int .i64 (apF 19 a b).2]) ∧ w = w' := by
 rw [apF_in (by omega) (by omega) (by omega), apV_19]
 go_enter Tryz.func83, Tryz.ntmps83
 go_wp2_with fail
 all_goals
  go_ret2
  exact ⟨ret_two_u (by omega), rfl⟩
theorem rapply20 (a b : Int) (ha0 : 0 ≤ a) (ha1 : a ≤ 4294967295) (hb0 : 0 ≤ b) (hb1 : b ≤ 4294967295) (w : World) :
  Calls Tryz.prog 83 #[.int .i64 20, .int .u32 a, .int .u32 b] w fun x w' => x = .returned (.tuple #[.int .u32 (apF 20 a b).1, .int .i64 (apF 20 a b).2]) ∧ w = w' := by
 rw [apF_in (by omega) (by omega) (by omega), apV_20]
 go_enter Tryz.func83, Tryz.ntmps83
 go_wp2_with fail
 refine (rhash_any _ _ ha0 ha1 hb0 hb1 _).mono ?_
 rintro e w1 ⟨rfl, rfl⟩
 go_wp2_with fail
 go_ret2
 exact ⟨rfl, rfl⟩
theorem rapply21 (a b : Int) (ha0 : 0 ≤ a) (ha1 : a ≤ 4294967295) (hb0 : 0 ≤ b) (hb1 : b ≤ 4294967295) (w : World) :
  Calls Tryz.prog 83 #[.int .i64 21, .int .u32 a, .int .u32 b] w fun x w' => x = .returned (.tuple #[.int .u32 (apF 21 a b).1, .int .i64 (apF 21 a b).2]) ∧ w = w' := by
 rw [apF_in (by omega) (by omega) (by omega), apV_21]
 go_enter Tryz.func83, Tryz.ntmps83
 go_wp2_with fail
 refine (truth_any _ _).mono ?_
 rintro e w1 ⟨rfl, rfl⟩
 go_wp2_with fail
 go_ret2
 exact ⟨rfl, rfl⟩
theorem rapply22 (a b : Int) (ha0 : 0 ≤ a) (ha1 : a ≤ 4294967295) (hb0 : 0 ≤ b) (hb1 : b ≤ 4294967295) (w : World) :
  Calls Tryz.prog 83 #[.int .i64 22, .int .u32 a, .int .u32 b] w fun x w' => x = .returned (.tuple #[.int .u32 (apF 22 a b).1, .int .i64 (apF 22 a b).2]) ∧ w = w' := by
 rw [apF_in (by omega) (by omega) (by omega), apV_22]
 go_enter Tryz.func83, Tryz.ntmps83
 go_wp2_with fail
 refine (truth_any _ _).mono ?_
 rintro e w1 ⟨rfl, rfl⟩
 go_wp2_with fail
 go_ret2
 exact ⟨rfl, rfl⟩
theorem rapply23 (a b : Int) (ha0 : 0 ≤ a) (ha1 : a ≤ 4294967295) (hb0 : 0 ≤ b) (hb1 : b ≤ 4294967295) (w : World) :
  Calls Tryz.prog 83 #[.int .i64 23, .int .u32 a, .int .u32 b] w fun x w' => x = .returned (.tuple #[.int .u32 (apF 23 a b).1, .int .i64 (apF 23 a b).2]) ∧ w = w' := by
 rw [apF_in (by omega) (by omega) (by omega), apV_23]
 go_enter Tryz.func83, Tryz.ntmps83
 go_wp2_with fail
 refine (truth_any _ _).mono ?_
 rintro e w1 ⟨rfl, rfl⟩
 go_wp2_with fail
 go_ret2
 exact ⟨rfl, rfl⟩
theorem rapply24 (a b : Int) (ha0 : 0 ≤ a) (ha1 : a ≤ 4294967295) (hb0 : 0 ≤ b) (hb1 : b ≤ 4294967295) (w : World) :
  Calls Tryz.prog 83 #[.int .i64 24, .int .u32 a, .int .u32 b] w fun x w' => x = .returned (.tuple #[.int .u32 (apF 24 a b).1, .int .i64 (apF 24 a b).2]) ∧ w = w' := by
 rw [apF_in (by omega) (by omega) (by omega)]
 have hv := apV_24 a b
 by_cases h1 : a = 0
 all_goals
  first | have e1 : (a != 0) = false := by simp [h1]
        | have e1 : (a != 0) = true := by simp [h1]
  rw [e1] at hv
  clear h1
  by_cases h2 : b = 0
  all_goals
   first | have e3 : (b != 0) = false := by simp [h2]
         | have e3 : (b != 0) = true := by simp [h2]
   rw [e3] at hv
   have hv := hidden hv
   clear h2
   go_enter Tryz.func83, Tryz.ntmps83
   go_wp2_with (go_at_call 113; refine (truth_any _ _).mono ?_; rintro e w1 ⟨rfl, rfl⟩)
   go_ret2
   exact ⟨ret_two_u (by rw [hv.out]; rfl), rfl⟩
theorem rapply25 (a b : Int) (ha0 : 0 ≤ a) (ha1 : a ≤ 4294967295) (hb0 : 0 ≤ b) (hb1 : b ≤ 4294967295) (w : World) :
  Calls Tryz.prog 83 #[.int .i64 25, .int .u32 a, .int .u32 b] w fun x w' => x = .returned (.tuple #[.int .u32 (apF 25 a b).1, .int .i64 (apF 25 a b).2]) ∧ w = w' := by
 rw [apF_in (by omega) (by omega) (by omega)]
 have hv := apV_25 a b
 by_cases h1 : a = 0
 all_goals
  first | have e1 : (a != 0) = false := by simp [h1]
        | have e1 : (a != 0) = true := by simp [h1]
  rw [e1] at hv
  clear h1
  by_cases h2 : b = 0
  all_goals
   first | have e3 : (b != 0) = false := by simp [h2]
         | have e3 : (b != 0) = true := by simp [h2]
   rw [e3] at hv
   have hv := hidden hv
   clear h2
   go_enter Tryz.func83, Tryz.ntmps83
   go_wp2_with (go_at_call 113; refine (truth_any _ _).mono ?_; rintro e w1 ⟨rfl, rfl⟩)
   go_ret2
   exact ⟨ret_two_u (by rw [hv.out]; rfl), rfl⟩
theorem rapply26 (a b : Int) (ha0 : 0 ≤ a) (ha1 : a ≤ 4294967295) (hb0 : 0 ≤ b) (hb1 : b ≤ 4294967295) (w : World) :
  Calls Tryz.prog 83 #[.int .i64 26, .int .u32 a, .int .u32 b] w fun x w' => x = .returned (.tuple #[.int .u32 (apF 26 a b).1, .int .i64 (apF 26 a b).2]) ∧ w = w' := by
 rw [apF_in (by omega) (by omega) (by omega), apV_26]
 go_enter Tryz.func83, Tryz.ntmps83
 go_wp2_with fail
 refine (truth_any _ _).mono ?_
 rintro e w1 ⟨rfl, rfl⟩
 go_wp2_with fail
 go_ret2
 exact ⟨rfl, rfl⟩
theorem rapply_out (op a b : Int) (h : op < 8 ∨ 26 < op) (w : World) :
  Calls Tryz.prog 83 #[.int .i64 op, .int .u32 a, .int .u32 b] w fun x w' => x = .returned (.tuple #[.int .u32 (apF op a b).1, .int .i64 (apF op a b).2]) ∧ w = w' := by
 rw [apF_out h]
 have h8 : (op == 8) = false := by simp; omega
 have h9 : (op == 9) = false := by simp; omega
 have h10 : (op == 10) = false := by simp; omega
 have h11 : (op == 11) = false := by simp; omega
 have h12 : (op == 12) = false := by simp; omega
 have h13 : (op == 13) = false := by simp; omega
 have h14 : (op == 14) = false := by simp; omega
 have h15 : (op == 15) = false := by simp; omega
 have h16 : (op == 16) = false := by simp; omega
 have h17 : (op == 17) = false := by simp; omega
 have h18 : (op == 18) = false := by simp; omega
 have h19 : (op == 19) = false := by simp; omega
 have h20 : (op == 20) = false := by simp; omega
 have h21 : (op == 21) = false := by simp; omega
 have h22 : (op == 22) = false := by simp; omega
 have h23 : (op == 23) = false := by simp; omega
 have h24 : (op == 24) = false := by simp; omega
 have h25 : (op == 25) = false := by simp; omega
 have h26 : (op == 26) = false := by simp; omega
 clear h
 go_enter Tryz.func83, Tryz.ntmps83
 go_wp2_with fail
 go_ret2
 exact ⟨rfl, rfl⟩
theorem rapply_any (op a b : Int) (ha0 : 0 ≤ a) (ha1 : a ≤ 4294967295) (hb0 : 0 ≤ b) (hb1 : b ≤ 4294967295) (w : World) :
  Calls Tryz.prog 83 #[.int .i64 op, .int .u32 a, .int .u32 b] w fun x w' => x = .returned (.tuple #[.int .u32 (apF op a b).1, .int .i64 (apF op a b).2]) ∧ w = w' := by
 by_cases h : op < 8 ∨ 26 < op
 ·exact rapply_out op a b h w
 ·have hc : op = 8 ∨ op = 9 ∨ op = 10 ∨ op = 11 ∨ op = 12 ∨ op = 13 ∨ op = 14 ∨ op = 15 ∨ op = 16 ∨ op = 17 ∨ op = 18 ∨ op = 19 ∨ op = 20 ∨ op = 21 ∨ op = 22 ∨ op = 23 ∨ op = 24 ∨ op = 25 ∨ op = 26 := by omega
  rcases hc with rfl | rfl | rfl | rfl | rfl | rfl | rfl | rfl | rfl | rfl | rfl | rfl | rfl | rfl | rfl | rfl | rfl | rfl | rfl
  ·exact rapply8 a b ha0 ha1 hb0 hb1 w
  ·exact rapply9 a b ha0 ha1 hb0 hb1 w
  ·exact rapply10 a b ha0 ha1 hb0 hb1 w
  ·exact rapply11 a b ha0 ha1 hb0 hb1 w
  ·exact rapply12 a b ha0 ha1 hb0 hb1 w
  ·exact rapply13 a b ha0 ha1 hb0 hb1 w
  ·exact rapply14 a b ha0 ha1 hb0 hb1 w
  ·exact rapply15 a b ha0 ha1 hb0 hb1 w
  ·exact rapply16 a b ha0 ha1 hb0 hb1 w
  ·exact rapply17 a b ha0 ha1 hb0 hb1 w
  ·exact rapply18 a b ha0 ha1 hb0 hb1 w
  ·exact rapply19 a b ha0 ha1 hb0 hb1 w
  ·exact rapply20 a b ha0 ha1 hb0 hb1 w
  ·exact rapply21 a b ha0 ha1 hb0 hb1 w
  ·exact rapply22 a b ha0 ha1 hb0 hb1 w
  ·exact rapply23 a b ha0 ha1 hb0 hb1 w
  ·exact rapply24 a b ha0 ha1 hb0 hb1 w
  ·exact rapply25 a b ha0 ha1 hb0 hb1 w
  ·exact rapply26 a b ha0 ha1 hb0 hb1 w
end Go.Proofs.YtgjjklajipekdaaGreat
