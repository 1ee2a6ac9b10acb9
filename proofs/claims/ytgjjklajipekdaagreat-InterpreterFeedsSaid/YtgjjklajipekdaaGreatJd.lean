
import Derived.Test.YtgjjklajipekdaaGreatYb
namespace Go.Proofs.YtgjjklajipekdaaGreat
open Go.RowKit
set_option linter.unusedVariables false
theorem rchk0 (arg : Int) (h0 : 0 ≤ arg) (h1 : arg ≤ 4294967295) (w : World) : Calls Tryz.prog 46 #[.agg #[.int .i64 0, .int .u32 arg]] w fun x w' => x = .returned (.int .i64 (chkI 0 arg)) ∧ Ext w w' := by
 rw [show chkI 0 arg = 0 by unfold chkI; rw [if_neg (by decide +kernel), if_neg (by show ¬ (4294967296 : Int) ≤ arg; omega)]]
 go_enter Tryz.func46, Tryz.ntmps46
 go_wp2_with fail
 go_ret
 exact ⟨rfl, (Ext.refl _).alloc _⟩
theorem rchk1 (arg : Int) (h0 : 0 ≤ arg) (h1 : arg ≤ 4294967295) (w : World) : Calls Tryz.prog 46 #[.agg #[.int .i64 1, .int .u32 arg]] w fun x w' => x = .returned (.int .i64 (chkI 1 arg)) ∧ Ext w w' := by
 by_cases k : 15 < arg
 ·rw [show chkI 1 arg = 2 by unfold chkI; rw [if_neg (by decide +kernel), if_pos (by show (16 : Int) ≤ arg; omega)]]
  go_enter Tryz.func46, Tryz.ntmps46
  go_wp2_with fail
  go_ret
  exact ⟨rfl, (Ext.refl _).alloc _⟩
 ·rw [show chkI 1 arg = 0 by unfold chkI; rw [if_neg (by decide +kernel), if_neg (by show ¬ (16 : Int) ≤ arg; omega)]]
  go_enter Tryz.func46, Tryz.ntmps46
  go_wp2_with fail
  go_ret
  exact ⟨rfl, (Ext.refl _).alloc _⟩
theorem rchk2 (arg : Int) (h0 : 0 ≤ arg) (h1 : arg ≤ 4294967295) (w : World) : Calls Tryz.prog 46 #[.agg #[.int .i64 2, .int .u32 arg]] w fun x w' => x = .returned (.int .i64 (chkI 2 arg)) ∧ Ext w w' := by
 by_cases k : 15 < arg
 ·rw [show chkI 2 arg = 2 by unfold chkI; rw [if_neg (by decide +kernel), if_pos (by show (16 : Int) ≤ arg; omega)]]
  go_enter Tryz.func46, Tryz.ntmps46
  go_wp2_with fail
  go_ret
  exact ⟨rfl, (Ext.refl _).alloc _⟩
 ·rw [show chkI 2 arg = 0 by unfold chkI; rw [if_neg (by decide +kernel), if_neg (by show ¬ (16 : Int) ≤ arg; omega)]]
  go_enter Tryz.func46, Tryz.ntmps46
  go_wp2_with fail
  go_ret
  exact ⟨rfl, (Ext.refl _).alloc _⟩
theorem rchk3 (arg : Int) (h0 : 0 ≤ arg) (h1 : arg ≤ 4294967295) (w : World) : Calls Tryz.prog 46 #[.agg #[.int .i64 3, .int .u32 arg]] w fun x w' => x = .returned (.int .i64 (chkI 3 arg)) ∧ Ext w w' := by
 by_cases k : 7 < arg
 ·rw [show chkI 3 arg = 2 by unfold chkI; rw [if_neg (by decide +kernel), if_pos (by show (8 : Int) ≤ arg; omega)]]
  go_enter Tryz.func46, Tryz.ntmps46
  go_wp2_with fail
  go_ret
  exact ⟨rfl, (Ext.refl _).alloc _⟩
 ·rw [show chkI 3 arg = 0 by unfold chkI; rw [if_neg (by decide +kernel), if_neg (by show ¬ (8 : Int) ≤ arg; omega)]]
  go_enter Tryz.func46, Tryz.ntmps46
  go_wp2_with fail
  go_ret
  exact ⟨rfl, (Ext.refl _).alloc _⟩
theorem rchk4 (arg : Int) (h0 : 0 ≤ arg) (h1 : arg ≤ 4294967295) (w : World) : Calls Tryz.prog 46 #[.agg #[.int .i64 4, .int .u32 arg]] w fun x w' => x = .returned (.int .i64 (chkI 4 arg)) ∧ Ext w w' := by
 by_cases k : 7 < arg
 ·rw [show chkI 4 arg = 2 by unfold chkI; rw [if_neg (by decide +kernel), if_pos (by show (8 : Int) ≤ arg; omega)]]
  go_enter Tryz.func46, Tryz.ntmps46
  go_wp2_with fail
  go_ret
  exact ⟨rfl, (Ext.refl _).alloc _⟩
 ·rw [show chkI 4 arg = 0 by unfold chkI; rw [if_neg (by decide +kernel), if_neg (by show ¬ (8 : Int) ≤ arg; omega)]]
  go_enter Tryz.func46, Tryz.ntmps46
  go_wp2_with fail
  go_ret
  exact ⟨rfl, (Ext.refl _).alloc _⟩
theorem rchk5 (arg : Int) (h0 : 0 ≤ arg) (h1 : arg ≤ 4294967295) (w : World) : Calls Tryz.prog 46 #[.agg #[.int .i64 5, .int .u32 arg]] w fun x w' => x = .returned (.int .i64 (chkI 5 arg)) ∧ Ext w w' := by
 by_cases k : 0 < arg
 ·rw [show chkI 5 arg = 2 by unfold chkI; rw [if_neg (by decide +kernel), if_pos (by show (1 : Int) ≤ arg; omega)]]
  go_enter Tryz.func46, Tryz.ntmps46
  go_wp2_with fail
  go_ret
  exact ⟨rfl, (Ext.refl _).alloc _⟩
 ·rw [show chkI 5 arg = 0 by unfold chkI; rw [if_neg (by decide +kernel), if_neg (by show ¬ (1 : Int) ≤ arg; omega)]]
  go_enter Tryz.func46, Tryz.ntmps46
  go_wp2_with fail
  go_ret
  exact ⟨rfl, (Ext.refl _).alloc _⟩
theorem rchk6 (arg : Int) (h0 : 0 ≤ arg) (h1 : arg ≤ 4294967295) (w : World) : Calls Tryz.prog 46 #[.agg #[.int .i64 6, .int .u32 arg]] w fun x w' => x = .returned (.int .i64 (chkI 6 arg)) ∧ Ext w w' := by
 by_cases k : 0 < arg
 ·rw [show chkI 6 arg = 2 by unfold chkI; rw [if_neg (by decide +kernel), if_pos (by show (1 : Int) ≤ arg; omega)]]
  go_enter Tryz.func46, Tryz.ntmps46
  go_wp2_with fail
  go_ret
  exact ⟨rfl, (Ext.refl _).alloc _⟩
 ·rw [show chkI 6 arg = 0 by unfold chkI; rw [if_neg (by decide +kernel), if_neg (by show ¬ (1 : Int) ≤ arg; omega)]]
  go_enter Tryz.func46, Tryz.ntmps46
  go_wp2_with fail
  go_ret
  exact ⟨rfl, (Ext.refl _).alloc _⟩
theorem rchk7 (arg : Int) (h0 : 0 ≤ arg) (h1 : arg ≤ 4294967295) (w : World) : Calls Tryz.prog 46 #[.agg #[.int .i64 7, .int .u32 arg]] w fun x w' => x = .returned (.int .i64 (chkI 7 arg)) ∧ Ext w w' := by
 by_cases k : 0 < arg
 ·rw [show chkI 7 arg = 2 by unfold chkI; rw [if_neg (by decide +kernel), if_pos (by show (1 : Int) ≤ arg; omega)]]
  go_enter Tryz.func46, Tryz.ntmps46
  go_wp2_with fail
  go_ret
  exact ⟨rfl, (Ext.refl _).alloc _⟩
 ·rw [show chkI 7 arg = 0 by unfold chkI; rw [if_neg (by decide +kernel), if_neg (by show ¬ (1 : Int) ≤ arg; omega)]]
  go_enter Tryz.func46, Tryz.ntmps46
  go_wp2_with fail
  go_ret
  exact ⟨rfl, (Ext.refl _).alloc _⟩
theorem rchk8 (arg : Int) (h0 : 0 ≤ arg) (h1 : arg ≤ 4294967295) (w : World) : Calls Tryz.prog 46 #[.agg #[.int .i64 8, .int .u32 arg]] w fun x w' => x = .returned (.int .i64 (chkI 8 arg)) ∧ Ext w w' := by
 by_cases k : 0 < arg
 ·rw [show chkI 8 arg = 2 by unfold chkI; rw [if_neg (by decide +kernel), if_pos (by show (1 : Int) ≤ arg; omega)]]
  go_enter Tryz.func46, Tryz.ntmps46
  go_wp2_with fail
  go_ret
  exact ⟨rfl, (Ext.refl _).alloc _⟩
 ·rw [show chkI 8 arg = 0 by unfold chkI; rw [if_neg (by decide +kernel), if_neg (by show ¬ (1 : Int) ≤ arg; omega)]]
  go_enter Tryz.func46, Tryz.ntmps46
  go_wp2_with fail
  go_ret
  exact ⟨rfl, (Ext.refl _).alloc _⟩
theorem rchk9 (arg : Int) (h0 : 0 ≤ arg) (h1 : arg ≤ 4294967295) (w : World) : Calls Tryz.prog 46 #[.agg #[.int .i64 9, .int .u32 arg]] w fun x w' => x = .returned (.int .i64 (chkI 9 arg)) ∧ Ext w w' := by
 by_cases k : 0 < arg
 ·rw [show chkI 9 arg = 2 by unfold chkI; rw [if_neg (by decide +kernel), if_pos (by show (1 : Int) ≤ arg; omega)]]
  go_enter Tryz.func46, Tryz.ntmps46
  go_wp2_with fail
  go_ret
  exact ⟨rfl, (Ext.refl _).alloc _⟩
 ·rw [show chkI 9 arg = 0 by unfold chkI; rw [if_neg (by decide +kernel), if_neg (by show ¬ (1 : Int) ≤ arg; omega)]]
  go_enter Tryz.func46, Tryz.ntmps46
  go_wp2_with fail
  go_ret
  exact ⟨rfl, (Ext.refl _).alloc _⟩
theorem rchk10 (arg : Int) (h0 : 0 ≤ arg) (h1 : arg ≤ 4294967295) (w : World) : Calls Tryz.prog 46 #[.agg #[.int .i64 10, .int .u32 arg]] w fun x w' => x = .returned (.int .i64 (chkI 10 arg)) ∧ Ext w w' := by
 by_cases k : 0 < arg
 ·rw [show chkI 10 arg = 2 by unfold chkI; rw [if_neg (by decide +kernel), if_pos (by show (1 : Int) ≤ arg; omega)]]
  go_enter Tryz.func46, Tryz.ntmps46
  go_wp2_with fail
  go_ret
  exact ⟨rfl, (Ext.refl _).alloc _⟩
 ·rw [show chkI 10 arg = 0 by unfold chkI; rw [if_neg (by decide +kernel), if_neg (by show ¬ (1 : Int) ≤ arg; omega)]]
  go_enter Tryz.func46, Tryz.ntmps46
  go_wp2_with fail
  go_ret
  exact ⟨rfl, (Ext.refl _).alloc _⟩
theorem rchk11 (arg : Int) (h0 : 0 ≤ arg) (h1 : arg ≤ 4294967295) (w : World) : Calls Tryz.prog 46 #[.agg #[.int .i64 11, .int .u32 arg]] w fun x w' => x = .returned (.int .i64 (chkI 11 arg)) ∧ Ext w w' := by
 by_cases k : 0 < arg
 ·rw [show chkI 11 arg = 2 by unfold chkI; rw [if_neg (by decide +kernel), if_pos (by show (1 : Int) ≤ arg; omega)]]
  go_enter Tryz.func46, Tryz.ntmps46
  go_wp2_with fail
  go_ret
  exact ⟨rfl, (Ext.refl _).alloc _⟩
 ·rw [show chkI 11 arg = 0 by unfold chkI; rw [if_neg (by decide +kernel), if_neg (by show ¬ (1 : Int) ≤ arg; omega)]]
  go_enter Tryz.func46, Tryz.ntmps46
  go_wp2_with fail
  go_ret
  exact ⟨rfl, (Ext.refl _).alloc _⟩
theorem rchk12 (arg : Int) (h0 : 0 ≤ arg) (h1 : arg ≤ 4294967295) (w : World) : Calls Tryz.prog 46 #[.agg #[.int .i64 12, .int .u32 arg]] w fun x w' => x = .returned (.int .i64 (chkI 12 arg)) ∧ Ext w w' := by
 by_cases k : 0 < arg
 ·rw [show chkI 12 arg = 2 by unfold chkI; rw [if_neg (by decide +kernel), if_pos (by show (1 : Int) ≤ arg; omega)]]
  go_enter Tryz.func46, Tryz.ntmps46
  go_wp2_with fail
  go_ret
  exact ⟨rfl, (Ext.refl _).alloc _⟩
 ·rw [show chkI 12 arg = 0 by unfold chkI; rw [if_neg (by decide +kernel), if_neg (by show ¬ (1 : Int) ≤ arg; omega)]]
  go_enter Tryz.func46, Tryz.ntmps46
  go_wp2_with fail
  go_ret
  exact ⟨rfl, (Ext.refl _).alloc _⟩
theorem rchk13 (arg : Int) (h0 : 0 ≤ arg) (h1 : arg ≤ 4294967295) (w : World) : Calls Tryz.prog 46 #[.agg #[.int .i64 13, .int .u32 arg]] w fun x w' => x = .returned (.int .i64 (chkI 13 arg)) ∧ Ext w w' := by
 by_cases k : 0 < arg
 ·rw [show chkI 13 arg = 2 by unfold chkI; rw [if_neg (by decide +kernel), if_pos (by show (1 : Int) ≤ arg; omega)]]
  go_enter Tryz.func46, Tryz.ntmps46
  go_wp2_with fail
  go_ret
  exact ⟨rfl, (Ext.refl _).alloc _⟩
 ·rw [show chkI 13 arg = 0 by unfold chkI; rw [if_neg (by decide +kernel), if_neg (by show ¬ (1 : Int) ≤ arg; omega)]]
  go_enter Tryz.func46, Tryz.ntmps46
  go_wp2_with fail
  go_ret
  exact ⟨rfl, (Ext.refl _).alloc _⟩
theorem rchk14 (arg : Int) (h0 : 0 ≤ arg) (h1 : arg ≤ 4294967295) (w : World) : Calls Tryz.prog 46 #[.agg #[.int .i64 14, .int .u32 arg]] w fun x w' => x = .returned (.int .i64 (chkI 14 arg)) ∧ Ext w w' := by
 by_cases k : 0 < arg
 ·rw [show chkI 14 arg = 2 by unfold chkI; rw [if_neg (by decide +kernel), if_pos (by show (1 : Int) ≤ arg; omega)]]
  go_enter Tryz.func46, Tryz.ntmps46
  go_wp2_with fail
  go_ret
  exact ⟨rfl, (Ext.refl _).alloc _⟩
 ·rw [show chkI 14 arg = 0 by unfold chkI; rw [if_neg (by decide +kernel), if_neg (by show ¬ (1 : Int) ≤ arg; omega)]]
  go_enter Tryz.func46, Tryz.ntmps46
  go_wp2_with fail
  go_ret
  exact ⟨rfl, (Ext.refl _).alloc _⟩
theorem rchk15 (arg : Int) (h0 : 0 ≤ arg) (h1 : arg ≤ 4294967295) (w : World) : Calls Tryz.prog 46 #[.agg #[.int .i64 15, .int .u32 arg]] w fun x w' => x = .returned (.int .i64 (chkI 15 arg)) ∧ Ext w w' := by
 by_cases k : 0 < arg
 ·rw [show chkI 15 arg = 2 by unfold chkI; rw [if_neg (by decide +kernel), if_pos (by show (1 : Int) ≤ arg; omega)]]
  go_enter Tryz.func46, Tryz.ntmps46
  go_wp2_with fail
  go_ret
  exact ⟨rfl, (Ext.refl _).alloc _⟩
 ·rw [show chkI 15 arg = 0 by unfold chkI; rw [if_neg (by decide +kernel), if_neg (by show ¬ (1 : Int) ≤ arg; omega)]]
  go_enter Tryz.func46, Tryz.ntmps46
  go_wp2_with fail
  go_ret
  exact ⟨rfl, (Ext.refl _).alloc _⟩
theorem rchk16 (arg : Int) (h0 : 0 ≤ arg) (h1 : arg ≤ 4294967295) (w : World) : Calls Tryz.prog 46 #[.agg #[.int .i64 16, .int .u32 arg]] w fun x w' => x = .returned (.int .i64 (chkI 16 arg)) ∧ Ext w w' := by
 by_cases k : 0 < arg
 ·rw [show chkI 16 arg = 2 by unfold chkI; rw [if_neg (by decide +kernel), if_pos (by show (1 : Int) ≤ arg; omega)]]
  go_enter Tryz.func46, Tryz.ntmps46
  go_wp2_with fail
  go_ret
  exact ⟨rfl, (Ext.refl _).alloc _⟩
 ·rw [show chkI 16 arg = 0 by unfold chkI; rw [if_neg (by decide +kernel), if_neg (by show ¬ (1 : Int) ≤ arg; omega)]]
  go_enter Tryz.func46, Tryz.ntmps46
  go_wp2_with fail
  go_ret
  exact ⟨rfl, (Ext.refl _).alloc _⟩
theorem rchk17 (arg : Int) (h0 : 0 ≤ arg) (h1 : arg ≤ 4294967295) (w : World) : Calls Tryz.prog 46 #[.agg #[.int .i64 17, .int .u32 arg]] w fun x w' => x = .returned (.int .i64 (chkI 17 arg)) ∧ Ext w w' := by
 by_cases k : 0 < arg
 ·rw [show chkI 17 arg = 2 by unfold chkI; rw [if_neg (by decide +kernel), if_pos (by show (1 : Int) ≤ arg; omega)]]
  go_enter Tryz.func46, Tryz.ntmps46
  go_wp2_with fail
  go_ret
  exact ⟨rfl, (Ext.refl _).alloc _⟩
 ·rw [show chkI 17 arg = 0 by unfold chkI; rw [if_neg (by decide +kernel), if_neg (by show ¬ (1 : Int) ≤ arg; omega)]]
  go_enter Tryz.func46, Tryz.ntmps46
  go_wp2_with fail
  go_ret
  exact ⟨rfl, (Ext.refl _).alloc _⟩
theorem rchk18 (arg : Int) (h0 : 0 ≤ arg) (h1 : arg ≤ 4294967295) (w : World) : Calls Tryz.prog 46 #[.agg #[.int .i64 18, .int .u32 arg]] w fun x w' => x = .returned (.int .i64 (chkI 18 arg)) ∧ Ext w w' := by
 by_cases k : 0 < arg
 ·rw [show chkI 18 arg = 2 by unfold chkI; rw [if_neg (by decide +kernel), if_pos (by show (1 : Int) ≤ arg; omega)]]
  go_enter Tryz.func46, Tryz.ntmps46
  go_wp2_with fail
  go_ret
  exact ⟨rfl, (Ext.refl _).alloc _⟩
 ·rw [show chkI 18 arg = 0 by unfold chkI; rw [if_neg (by decide +kernel), if_neg (by show ¬ (1 : Int) ≤ arg; omega)]]
  go_enter Tryz.func46, Tryz.ntmps46
  go_wp2_with fail
  go_ret
  exact ⟨rfl, (Ext.refl _).alloc _⟩
theorem rchk19 (arg : Int) (h0 : 0 ≤ arg) (h1 : arg ≤ 4294967295) (w : World) : Calls Tryz.prog 46 #[.agg #[.int .i64 19, .int .u32 arg]] w fun x w' => x = .returned (.int .i64 (chkI 19 arg)) ∧ Ext w w' := by
 by_cases k : 0 < arg
 ·rw [show chkI 19 arg = 2 by unfold chkI; rw [if_neg (by decide +kernel), if_pos (by show (1 : Int) ≤ arg; omega)]]
  go_enter Tryz.func46, Tryz.ntmps46
  go_wp2_with fail
  go_ret
  exact ⟨rfl, (Ext.refl _).alloc _⟩
 ·rw [show chkI 19 arg = 0 by unfold chkI; rw [if_neg (by decide +kernel), if_neg (by show ¬ (1 : Int) ≤ arg; omega)]]
  go_enter Tryz.func46, Tryz.ntmps46
  go_wp2_with fail
  go_ret
  exact ⟨rfl, (Ext.refl _).alloc _⟩
theorem rchk20 (arg : Int) (h0 : 0 ≤ arg) (h1 : arg ≤ 4294967295) (w : World) : Calls Tryz.prog 46 #[.agg #[.int .i64 20, .int .u32 arg]] w fun x w' => x = .returned (.int .i64 (chkI 20 arg)) ∧ Ext w w' := by
 by_cases k : 0 < arg
 ·rw [show chkI 20 arg = 2 by unfold chkI; rw [if_neg (by decide +kernel), if_pos (by show (1 : Int) ≤ arg; omega)]]
  go_enter Tryz.func46, Tryz.ntmps46
  go_wp2_with fail
  go_ret
  exact ⟨rfl, (Ext.refl _).alloc _⟩
 ·rw [show chkI 20 arg = 0 by unfold chkI; rw [if_neg (by decide +kernel), if_neg (by show ¬ (1 : Int) ≤ arg; omega)]]
  go_enter Tryz.func46, Tryz.ntmps46
  go_wp2_with fail
  go_ret
  exact ⟨rfl, (Ext.refl _).alloc _⟩
theorem rchk21 (arg : Int) (h0 : 0 ≤ arg) (h1 : arg ≤ 4294967295) (w : World) : Calls Tryz.prog 46 #[.agg #[.int .i64 21, .int .u32 arg]] w fun x w' => x = .returned (.int .i64 (chkI 21 arg)) ∧ Ext w w' := by
 by_cases k : 0 < arg
 ·rw [show chkI 21 arg = 2 by unfold chkI; rw [if_neg (by decide +kernel), if_pos (by show (1 : Int) ≤ arg; omega)]]
  go_enter Tryz.func46, Tryz.ntmps46
  go_wp2_with fail
  go_ret
  exact ⟨rfl, (Ext.refl _).alloc _⟩
 ·rw [show chkI 21 arg = 0 by unfold chkI; rw [if_neg (by decide +kernel), if_neg (by show ¬ (1 : Int) ≤ arg; omega)]]
  go_enter Tryz.func46, Tryz.ntmps46
  go_wp2_with fail
  go_ret
  exact ⟨rfl, (Ext.refl _).alloc _⟩
theorem rchk22 (arg : Int) (h0 : 0 ≤ arg) (h1 : arg ≤ 4294967295) (w : World) : Calls Tryz.prog 46 #[.agg #[.int .i64 22, .int .u32 arg]] w fun x w' => x = .returned (.int .i64 (chkI 22 arg)) ∧ Ext w w' := by
 by_cases k : 0 < arg
 ·rw [show chkI 22 arg = 2 by unfold chkI; rw [if_neg (by decide +kernel), if_pos (by show (1 : Int) ≤ arg; omega)]]
  go_enter Tryz.func46, Tryz.ntmps46
  go_wp2_with fail
  go_ret
  exact ⟨rfl, (Ext.refl _).alloc _⟩
 ·rw [show chkI 22 arg = 0 by unfold chkI; rw [if_neg (by decide +kernel), if_neg (by show ¬ (1 : Int) ≤ arg; omega)]]
  go_enter Tryz.func46, Tryz.ntmps46
  go_wp2_with fail
  go_ret
  exact ⟨rfl, (Ext.refl _).alloc _⟩
theorem rchk23 (arg : Int) (h0 : 0 ≤ arg) (h1 : arg ≤ 4294967295) (w : World) : Calls Tryz.prog 46 #[.agg #[.int .i64 23, .int .u32 arg]] w fun x w' => x = .returned (.int .i64 (chkI 23 arg)) ∧ Ext w w' := by
 by_cases k : 0 < arg
 ·rw [show chkI 23 arg = 2 by unfold chkI; rw [if_neg (by decide +kernel), if_pos (by show (1 : Int) ≤ arg; omega)]]
  go_enter Tryz.func46, Tryz.ntmps46
  go_wp2_with fail
  go_ret
  exact ⟨rfl, (Ext.refl _).alloc _⟩
 ·rw [show chkI 23 arg = 0 by unfold chkI; rw [if_neg (by decide +kernel), if_neg (by show ¬ (1 : Int) ≤ arg; omega)]]
  go_enter Tryz.func46, Tryz.ntmps46
  go_wp2_with fail
  go_ret
  exact ⟨rfl, (Ext.refl _).alloc _⟩
theorem rchk24 (arg : Int) (h0 : 0 ≤ arg) (h1 : arg ≤ 4294967295) (w : World) : Calls Tryz.prog 46 #[.agg #[.int .i64 24, .int .u32 arg]] w fun x w' => x = .returned (.int .i64 (chkI 24 arg)) ∧ Ext w w' := by
 by_cases k : 0 < arg
 ·rw [show chkI 24 arg = 2 by unfold chkI; rw [if_neg (by decide +kernel), if_pos (by show (1 : Int) ≤ arg; omega)]]
  go_enter Tryz.func46, Tryz.ntmps46
  go_wp2_with fail
  go_ret
  exact ⟨rfl, (Ext.refl _).alloc _⟩
 ·rw [show chkI 24 arg = 0 by unfold chkI; rw [if_neg (by decide +kernel), if_neg (by show ¬ (1 : Int) ≤ arg; omega)]]
  go_enter Tryz.func46, Tryz.ntmps46
  go_wp2_with fail
  go_ret
  exact ⟨rfl, (Ext.refl _).alloc _⟩
theorem rchk25 (arg : Int) (h0 : 0 ≤ arg) (h1 : arg ≤ 4294967295) (w : World) : Calls Tryz.prog 46 #[.agg #[.int .i64 25, .int .u32 arg]] w fun x w' => x = .returned (.int .i64 (chkI 25 arg)) ∧ Ext w w' := by
 by_cases k : 0 < arg
 ·rw [show chkI 25 arg = 2 by unfold chkI; rw [if_neg (by decide +kernel), if_pos (by show (1 : Int) ≤ arg; omega)]]
  go_enter Tryz.func46, Tryz.ntmps46
  go_wp2_with fail
  go_ret
  exact ⟨rfl, (Ext.refl _).alloc _⟩
 ·rw [show chkI 25 arg = 0 by unfold chkI; rw [if_neg (by decide +kernel), if_neg (by show ¬ (1 : Int) ≤ arg; omega)]]
  go_enter Tryz.func46, Tryz.ntmps46
  go_wp2_with fail
  go_ret
  exact ⟨rfl, (Ext.refl _).alloc _⟩
theorem rchk26 (arg : Int) (h0 : 0 ≤ arg) (h1 : arg ≤ 4294967295) (w : World) : Calls Tryz.prog 46 #[.agg #[.int .i64 26, .int .u32 arg]] w fun x w' => x = .returned (.int .i64 (chkI 26 arg)) ∧ Ext w w' := by
 by_cases k : 0 < arg
 ·rw [show chkI 26 arg = 2 by unfold chkI; rw [if_neg (by decide +kernel), if_pos (by show (1 : Int) ≤ arg; omega)]]
  go_enter Tryz.func46, Tryz.ntmps46
  go_wp2_with fail
  go_ret
  exact ⟨rfl, (Ext.refl _).alloc _⟩
 ·rw [show chkI 26 arg = 0 by unfold chkI; rw [if_neg (by decide +kernel), if_neg (by show ¬ (1 : Int) ≤ arg; omega)]]
  go_enter Tryz.func46, Tryz.ntmps46
  go_wp2_with fail
  go_ret
  exact ⟨rfl, (Ext.refl _).alloc _⟩
theorem rchk27 (arg : Int) (h0 : 0 ≤ arg) (h1 : arg ≤ 4294967295) (w : World) : Calls Tryz.prog 46 #[.agg #[.int .i64 27, .int .u32 arg]] w fun x w' => x = .returned (.int .i64 (chkI 27 arg)) ∧ Ext w w' := by
 by_cases k : 0 < arg
 ·rw [show chkI 27 arg = 2 by unfold chkI; rw [if_neg (by decide +kernel), if_pos (by show (1 : Int) ≤ arg; omega)]]
  go_enter Tryz.func46, Tryz.ntmps46
  go_wp2_with fail
  go_ret
  exact ⟨rfl, (Ext.refl _).alloc _⟩
 ·rw [show chkI 27 arg = 0 by unfold chkI; rw [if_neg (by decide +kernel), if_neg (by show ¬ (1 : Int) ≤ arg; omega)]]
  go_enter Tryz.func46, Tryz.ntmps46
  go_wp2_with fail
  go_ret
  exact ⟨rfl, (Ext.refl _).alloc _⟩
theorem rchk28 (arg : Int) (h0 : 0 ≤ arg) (h1 : arg ≤ 4294967295) (w : World) : Calls Tryz.prog 46 #[.agg #[.int .i64 28, .int .u32 arg]] w fun x w' => x = .returned (.int .i64 (chkI 28 arg)) ∧ Ext w w' := by
 by_cases k : 0 < arg
 ·rw [show chkI 28 arg = 2 by unfold chkI; rw [if_neg (by decide +kernel), if_pos (by show (1 : Int) ≤ arg; omega)]]
  go_enter Tryz.func46, Tryz.ntmps46
  go_wp2_with fail
  go_ret
  exact ⟨rfl, (Ext.refl _).alloc _⟩
 ·rw [show chkI 28 arg = 0 by unfold chkI; rw [if_neg (by decide +kernel), if_neg (by show ¬ (1 : Int) ≤ arg; omega)]]
  go_enter Tryz.func46, Tryz.ntmps46
  go_wp2_with fail
  go_ret
  exact ⟨rfl, (Ext.refl _).alloc _⟩
theorem rchk29 (arg : Int) (h0 : 0 ≤ arg) (h1 : arg ≤ 4294967295) (w : World) : Calls Tryz.prog 46 #[.agg #[.int .i64 29, .int .u32 arg]] w fun x w' => x = .returned (.int .i64 (chkI 29 arg)) ∧ Ext w w' := by
 by_cases k : 0 < arg
 ·rw [show chkI 29 arg = 2 by unfold chkI; rw [if_neg (by decide +kernel), if_pos (by show (1 : Int) ≤ arg; omega)]]
  go_enter Tryz.func46, Tryz.ntmps46
  go_wp2_with fail
  go_ret
  exact ⟨rfl, (Ext.refl _).alloc _⟩
 ·rw [show chkI 29 arg = 0 by unfold chkI; rw [if_neg (by decide +kernel), if_neg (by show ¬ (1 : Int) ≤ arg; omega)]]
  go_enter Tryz.func46, Tryz.ntmps46
  go_wp2_with fail
  go_ret
  exact ⟨rfl, (Ext.refl _).alloc _⟩
theorem rchk30 (arg : Int) (h0 : 0 ≤ arg) (h1 : arg ≤ 4294967295) (w : World) : Calls Tryz.prog 46 #[.agg #[.int .i64 30, .int .u32 arg]] w fun x w' => x = .returned (.int .i64 (chkI 30 arg)) ∧ Ext w w' := by
 by_cases k : 0 < arg
 ·rw [show chkI 30 arg = 2 by unfold chkI; rw [if_neg (by decide +kernel), if_pos (by show (1 : Int) ≤ arg; omega)]]
  go_enter Tryz.func46, Tryz.ntmps46
  go_wp2_with fail
  go_ret
  exact ⟨rfl, (Ext.refl _).alloc _⟩
 ·rw [show chkI 30 arg = 0 by unfold chkI; rw [if_neg (by decide +kernel), if_neg (by show ¬ (1 : Int) ≤ arg; omega)]]
  go_enter Tryz.func46, Tryz.ntmps46
  go_wp2_with fail
  go_ret
  exact ⟨rfl, (Ext.refl _).alloc _⟩
theorem rchk31 (arg : Int) (h0 : 0 ≤ arg) (h1 : arg ≤ 4294967295) (w : World) : Calls Tryz.prog 46 #[.agg #[.int .i64 31, .int .u32 arg]] w fun x w' => x = .returned (.int .i64 (chkI 31 arg)) ∧ Ext w w' := by
 by_cases k : 0 < arg
 ·rw [show chkI 31 arg = 2 by unfold chkI; rw [if_neg (by decide +kernel), if_pos (by show (1 : Int) ≤ arg; omega)]]
  go_enter Tryz.func46, Tryz.ntmps46
  go_wp2_with fail
  go_ret
  exact ⟨rfl, (Ext.refl _).alloc _⟩
 ·rw [show chkI 31 arg = 0 by unfold chkI; rw [if_neg (by decide +kernel), if_neg (by show ¬ (1 : Int) ≤ arg; omega)]]
  go_enter Tryz.func46, Tryz.ntmps46
  go_wp2_with fail
  go_ret
  exact ⟨rfl, (Ext.refl _).alloc _⟩
theorem rchk32 (arg : Int) (h0 : 0 ≤ arg) (h1 : arg ≤ 4294967295) (w : World) : Calls Tryz.prog 46 #[.agg #[.int .i64 32, .int .u32 arg]] w fun x w' => x = .returned (.int .i64 (chkI 32 arg)) ∧ Ext w w' := by
 by_cases k : 0 < arg
 ·rw [show chkI 32 arg = 2 by unfold chkI; rw [if_neg (by decide +kernel), if_pos (by show (1 : Int) ≤ arg; omega)]]
  go_enter Tryz.func46, Tryz.ntmps46
  go_wp2_with fail
  go_ret
  exact ⟨rfl, (Ext.refl _).alloc _⟩
 ·rw [show chkI 32 arg = 0 by unfold chkI; rw [if_neg (by decide +kernel), if_neg (by show ¬ (1 : Int) ≤ arg; omega)]]
  go_enter Tryz.func46, Tryz.ntmps46
  go_wp2_with fail
  go_ret
  exact ⟨rfl, (Ext.refl _).alloc _⟩
theorem rchk33 (arg : Int) (h0 : 0 ≤ arg) (h1 : arg ≤ 4294967295) (w : World) : Calls Tryz.prog 46 #[.agg #[.int .i64 33, .int .u32 arg]] w fun x w' => x = .returned (.int .i64 (chkI 33 arg)) ∧ Ext w w' := by
 by_cases k : 0 < arg
 ·rw [show chkI 33 arg = 2 by unfold chkI; rw [if_neg (by decide +kernel), if_pos (by show (1 : Int) ≤ arg; omega)]]
  go_enter Tryz.func46, Tryz.ntmps46
  go_wp2_with fail
  go_ret
  exact ⟨rfl, (Ext.refl _).alloc _⟩
 ·rw [show chkI 33 arg = 0 by unfold chkI; rw [if_neg (by decide +kernel), if_neg (by show ¬ (1 : Int) ≤ arg; omega)]]
  go_enter Tryz.func46, Tryz.ntmps46
  go_wp2_with fail
  go_ret
  exact ⟨rfl, (Ext.refl _).alloc _⟩
theorem rchk34 (arg : Int) (h0 : 0 ≤ arg) (h1 : arg ≤ 4294967295) (w : World) : Calls Tryz.prog 46 #[.agg #[.int .i64 34, .int .u32 arg]] w fun x w' => x = .returned (.int .i64 (chkI 34 arg)) ∧ Ext w w' := by
 by_cases k : 0 < arg
 ·rw [show chkI 34 arg = 2 by unfold chkI; rw [if_neg (by decide +kernel), if_pos (by show (1 : Int) ≤ arg; omega)]]
  go_enter Tryz.func46, Tryz.ntmps46
  go_wp2_with fail
  go_ret
  exact ⟨rfl, (Ext.refl _).alloc _⟩
 ·rw [show chkI 34 arg = 0 by unfold chkI; rw [if_neg (by decide +kernel), if_neg (by show ¬ (1 : Int) ≤ arg; omega)]]
  go_enter Tryz.func46, Tryz.ntmps46
  go_wp2_with fail
  go_ret
  exact ⟨rfl, (Ext.refl _).alloc _⟩
theorem rchk35 (arg : Int) (h0 : 0 ≤ arg) (h1 : arg ≤ 4294967295) (w : World) : Calls Tryz.prog 46 #[.agg #[.int .i64 35, .int .u32 arg]] w fun x w' => x = .returned (.int .i64 (chkI 35 arg)) ∧ Ext w w' := by
 by_cases k : 15 < arg
 ·rw [show chkI 35 arg = 2 by unfold chkI; rw [if_neg (by decide +kernel), if_pos (by show (16 : Int) ≤ arg; omega)]]
  go_enter Tryz.func46, Tryz.ntmps46
  go_wp2_with fail
  go_ret
  exact ⟨rfl, (Ext.refl _).alloc _⟩
 ·rw [show chkI 35 arg = 0 by unfold chkI; rw [if_neg (by decide +kernel), if_neg (by show ¬ (16 : Int) ≤ arg; omega)]]
  go_enter Tryz.func46, Tryz.ntmps46
  go_wp2_with fail
  go_ret
  exact ⟨rfl, (Ext.refl _).alloc _⟩
theorem rcheckI_any (op arg : Int) (h0 : 0 ≤ arg) (h1 : arg ≤ 4294967295) (w : World) : Calls Tryz.prog 46 #[.agg #[.int .i64 op, .int .u32 arg]] w fun x w' => x = .returned (.int .i64 (chkI op arg)) ∧ Ext w w' := by
 by_cases h : 0 ≤ op ∧ op < 36
 ·have hc : op = 0 ∨ op = 1 ∨ op = 2 ∨ op = 3 ∨ op = 4 ∨ op = 5 ∨ op = 6 ∨ op = 7 ∨ op = 8 ∨ op = 9 ∨ op = 10 ∨ op = 11 ∨ op = 12 ∨ op = 13 ∨ op = 14 ∨ op = 15 ∨ op = 16 ∨ op = 17 ∨ op = 18 ∨ op = 19 ∨ op = 20 ∨ op = 21 ∨ op = 22 ∨ op = 23 ∨ op = 24 ∨ op = 25 ∨ op = 26 ∨ op = 27 ∨ op = 28 ∨ op = 29 ∨ op = 30 ∨ op = 31 ∨ op = 32 ∨ op = 33 ∨ op = 34 ∨ op = 35 := by omega
  rcases hc with rfl | rfl | rfl | rfl | rfl | rfl | rfl | rfl | rfl | rfl | rfl | rfl | rfl | rfl | rfl | rfl | rfl | rfl | rfl | rfl | rfl | rfl | rfl | rfl | rfl | rfl | rfl | rfl | rfl | rfl | rfl | rfl | rfl | rfl | rfl | rfl
  ·exact rchk0 arg h0 h1 w
  ·exact rchk1 arg h0 h1 w
  ·exact rchk2 arg h0 h1 w
  ·exact rchk3 arg h0 h1 w
  ·exact rchk4 arg h0 h1 w
  ·exact rchk5 arg h0 h1 w
  ·exact rchk6 arg h0 h1 w
  ·exact rchk7 arg h0 h1 w
  ·exact rchk8 arg h0 h1 w
  ·exact rchk9 arg h0 h1 w
  ·exact rchk10 arg h0 h1 w
  ·exact rchk11 arg h0 h1 w
  ·exact rchk12 arg h0 h1 w
  ·exact rchk13 arg h0 h1 w
  ·exact rchk14 arg h0 h1 w
  ·exact rchk15 arg h0 h1 w
  ·exact rchk16 arg h0 h1 w
  ·exact rchk17 arg h0 h1 w
  ·exact rchk18 arg h0 h1 w
  ·exact rchk19 arg h0 h1 w
  ·exact rchk20 arg h0 h1 w
  ·exact rchk21 arg h0 h1 w
  ·exact rchk22 arg h0 h1 w
  ·exact rchk23 arg h0 h1 w
  ·exact rchk24 arg h0 h1 w
  ·exact rchk25 arg h0 h1 w
  ·exact rchk26 arg h0 h1 w
  ·exact rchk27 arg h0 h1 w
  ·exact rchk28 arg h0 h1 w
  ·exact rchk29 arg h0 h1 w
  ·exact rchk30 arg h0 h1 w
  ·exact rchk31 arg h0 h1 w
  ·exact rchk32 arg h0 h1 w
  ·exact rchk33 arg h0 h1 w
  ·exact rchk34 arg h0 h1 w
  ·exact rchk35 arg h0 h1 w
 ·rw [show chkI op arg = 1 by unfold chkI; rw [if_pos (by unfold isOp; exact decide_eq_false h)]]
  by_cases k : op < 0
  ·go_enter Tryz.func46, Tryz.ntmps46
   go_wp2_with fail
   go_ret
   exact ⟨rfl, (Ext.refl _).alloc _⟩
  ·have k2 : 36 ≤ op := by omega
   go_enter Tryz.func46, Tryz.ntmps46
   go_wp2_with fail
   go_ret
   exact ⟨rfl, (Ext.refl _).alloc _⟩
end Go.Proofs.YtgjjklajipekdaaGreat
