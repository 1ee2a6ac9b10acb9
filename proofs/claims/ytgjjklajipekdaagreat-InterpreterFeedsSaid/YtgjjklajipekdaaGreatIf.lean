
import Derived.Test.YtgjjklajipekdaaGreatRows
import Derived.Test.YtgjjklajipekdaaGreatT
import Derived.Deep.QuietTactic
import Derived.BigQuiet
import Derived.Outline
namespace Go.Proofs.YtgjjklajipekdaaGreat
set_option maxHeartbeats 16000000
set_option maxRecDepth 100000
open Go.RowKit
set_option linter.unusedVariables false
def combT : List (Int × Value) := [(8, .func (.func 129) #[] #[]), (9, .func (.func 130) #[] #[]), (10, .func (.func 131) #[] #[]), (11, .func (.func 132) #[] #[]), (12, .func (.func 133) #[] #[]), (13, .func (.func 134) #[] #[]), (14, .func (.func 135) #[] #[]), (15, .func (.func 136) #[] #[]), (16, .func (.func 137) #[] #[]), (17, .func (.func 138) #[] #[]), (18, .func (.func 139) #[] #[]), (19, .func (.func 140) #[] #[]), (20, .func (.func 141) #[] #[]), (21, .func (.func 142) #[] #[]), (22, .func (.func 143) #[] #[]), (23, .func (.func 144) #[] #[]), (24, .func (.func 145) #[] #[]), (25, .func (.func 146) #[] #[]), (26, .func (.func 147) #[] #[])]
theorem comb_any (w : World) :
  Calls Tryz.prog 125 #[] w fun e w' => e = .returned (.map (some w.heap.size)) ∧ w.alloc (tblObj combT) = w' := by
 have hmm : ∀ t w, (Instr.makeMap t none).run Tryz.prog w = .ok (.map (some w.heap.size)) (w.alloc (tblObj [])) := fun _ _ => rfl
 go_enter Tryz.func125, Tryz.ntmps125
 go_wp2_with fail
 iterate 19 (rw [run_insert Tryz.underlying188 Tryz.underlying3 _ _ _ (by rfl)]; go_wp2_with fail)
 go_ret
 exact ⟨rfl, rfl⟩
theorem comb_look (w : World) (k : Int) (v : Value) (h : look k combT = some v) : (Instr.lookup 188 (.map (some w.heap.size)) (.int .i64 k) true).run Tryz.prog (w.alloc (tblObj combT)) = .ok (.tuple #[v, .bool true]) (w.alloc (tblObj combT)) :=
 run_look Tryz.underlying188 Tryz.underlying3 combT (tbl_at w combT) k v h
theorem comb_none (w : World) (k : Int) (h : k < 8 ∨ 26 < k) : (Instr.lookup 188 (.map (some w.heap.size)) (.int .i64 k) true).run Tryz.prog (w.alloc (tblObj combT)) = .ok (.tuple #[.nilFunc, .bool false]) (w.alloc (tblObj combT)) :=
 run_look_none Tryz.underlying188 Tryz.underlying3 combT (tbl_at w combT) k .nilFunc rfl (look_none (by simp only [combT, List.mem_cons, List.not_mem_nil, or_false]; rintro p (rfl | rfl | rfl | rfl | rfl | rfl | rfl | rfl | rfl | rfl | rfl | rfl | rfl | rfl | rfl | rfl | rfl | rfl | rfl) <;> simp <;> omega))
set_option linter.unusedVariables false
theorem flag_any (p : Bool) (w : World) : Calls Tryz.prog 62 #[.bool p] w fun x w' => x = .returned (.int .u32 (fl p)) ∧ w = w' := by
 cases p <;>
 ·go_enter Tryz.func62, Tryz.ntmps62
  go_wp2_with fail
  go_ret
  exact ⟨rfl, rfl⟩
theorem cl8 (a b : Int) (ha0 : 0 ≤ a) (ha1 : a ≤ 4294967295) (hb0 : 0 ≤ b) (hb1 : b ≤ 4294967295) (w : World) :
  Calls Tryz.prog 129 #[.int .u32 a, .int .u32 b] w fun x w' => x = .returned (.int .u32 (apV 8 a b)) ∧ w = w' := by
 go_enter Tryz.func129, Tryz.ntmps129
 go_wp2_with fail
 all_goals
  go_ret
  exact ⟨ret_int (by rw [apV_8]), rfl⟩
theorem cl9 (a b : Int) (ha0 : 0 ≤ a) (ha1 : a ≤ 4294967295) (hb0 : 0 ≤ b) (hb1 : b ≤ 4294967295) (w : World) :
  Calls Tryz.prog 130 #[.int .u32 a, .int .u32 b] w fun x w' => x = .returned (.int .u32 (apV 9 a b)) ∧ w = w' := by
 go_enter Tryz.func130, Tryz.ntmps130
 go_wp2_with fail
 all_goals
  go_ret
  exact ⟨ret_int (by rw [apV_9]), rfl⟩
theorem cl10 (a b : Int) (ha0 : 0 ≤ a) (ha1 : a ≤ 4294967295) (hb0 : 0 ≤ b) (hb1 : b ≤ 4294967295) (w : World) :
  Calls Tryz.prog 131 #[.int .u32 a, .int .u32 b] w fun x w' => x = .returned (.int .u32 (apV 10 a b)) ∧ w = w' := by
 go_enter Tryz.func131, Tryz.ntmps131
 go_wp2_with fail
 all_goals
  go_ret
  exact ⟨ret_int (by rw [apV_10]), rfl⟩
theorem cl11 (a b : Int) (ha0 : 0 ≤ a) (ha1 : a ≤ 4294967295) (hb0 : 0 ≤ b) (hb1 : b ≤ 4294967295) (hz : 0 < b) (w : World) :
  Calls Tryz.prog 132 #[.int .u32 a, .int .u32 b] w fun x w' => x = .returned (.int .u32 (apV 11 a b)) ∧ w = w' := by
 go_enter Tryz.func132, Tryz.ntmps132
 go_wp2_with fail
 all_goals
  go_ret
  exact ⟨ret_int (by rw [apV_11]), rfl⟩
theorem cl12 (a b : Int) (ha0 : 0 ≤ a) (ha1 : a ≤ 4294967295) (hb0 : 0 ≤ b) (hb1 : b ≤ 4294967295) (hz : 0 < b) (w : World) :
  Calls Tryz.prog 133 #[.int .u32 a, .int .u32 b] w fun x w' => x = .returned (.int .u32 (apV 12 a b)) ∧ w = w' := by
 go_enter Tryz.func133, Tryz.ntmps133
 go_wp2_with fail
 all_goals
  go_ret
  exact ⟨ret_int (by rw [apV_12]), rfl⟩
theorem cl13 (a b : Int) (ha0 : 0 ≤ a) (ha1 : a ≤ 4294967295) (hb0 : 0 ≤ b) (hb1 : b ≤ 4294967295) (w : World) :
  Calls Tryz.prog 134 #[.int .u32 a, .int .u32 b] w fun x w' => x = .returned (.int .u32 (apV 13 a b)) ∧ w = w' := by
 go_enter Tryz.func134, Tryz.ntmps134
 go_wp2_with fail
 all_goals
  go_ret
  exact ⟨ret_int (by rw [apV_13]), rfl⟩
theorem cl14 (a b : Int) (ha0 : 0 ≤ a) (ha1 : a ≤ 4294967295) (hb0 : 0 ≤ b) (hb1 : b ≤ 4294967295) (w : World) :
  Calls Tryz.prog 135 #[.int .u32 a, .int .u32 b] w fun x w' => x = .returned (.int .u32 (apV 14 a b)) ∧ w = w' := by
 go_enter Tryz.func135, Tryz.ntmps135
 go_wp2_with fail
 all_goals
  go_ret
  exact ⟨ret_int (by rw [apV_14]), rfl⟩
theorem cl15 (a b : Int) (ha0 : 0 ≤ a) (ha1 : a ≤ 4294967295) (hb0 : 0 ≤ b) (hb1 : b ≤ 4294967295) (w : World) :
  Calls Tryz.prog 136 #[.int .u32 a, .int .u32 b] w fun x w' => x = .returned (.int .u32 (apV 15 a b)) ∧ w = w' := by
 go_enter Tryz.func136, Tryz.ntmps136
 go_wp2_with fail
 all_goals
  go_ret
  exact ⟨ret_int (by rw [apV_15]), rfl⟩
theorem cl16 (a b : Int) (ha0 : 0 ≤ a) (ha1 : a ≤ 4294967295) (hb0 : 0 ≤ b) (hb1 : b ≤ 4294967295) (w : World) :
  Calls Tryz.prog 137 #[.int .u32 a, .int .u32 b] w fun x w' => x = .returned (.int .u32 (apV 16 a b)) ∧ w = w' := by
 go_enter Tryz.func137, Tryz.ntmps137
 go_wp2_with fail
 all_goals
  go_ret
  exact ⟨ret_int (by rw [apV_16]), rfl⟩
theorem cl17 (a b : Int) (ha0 : 0 ≤ a) (ha1 : a ≤ 4294967295) (hb0 : 0 ≤ b) (hb1 : b ≤ 4294967295) (w : World) :
  Calls Tryz.prog 138 #[.int .u32 a, .int .u32 b] w fun x w' => x = .returned (.int .u32 (apV 17 a b)) ∧ w = w' := by
 go_enter Tryz.func138, Tryz.ntmps138
 go_wp2_with fail
 all_goals
  go_ret
  exact ⟨ret_int (by rw [apV_17]), rfl⟩
theorem cl18 (a b : Int) (ha0 : 0 ≤ a) (ha1 : a ≤ 4294967295) (hb0 : 0 ≤ b) (hb1 : b ≤ 4294967295) (w : World) :
  Calls Tryz.prog 139 #[.int .u32 a, .int .u32 b] w fun x w' => x = .returned (.int .u32 (apV 18 a b)) ∧ w = w' := by
 go_enter Tryz.func139, Tryz.ntmps139
 go_wp2_with fail
 all_goals
  go_ret
  exact ⟨ret_int (by rw [apV_18]; omega), rfl⟩
theorem cl19 (a b : Int) (ha0 : 0 ≤ a) (ha1 : a ≤ 4294967295) (hb0 : 0 ≤ b) (hb1 : b ≤ 4294967295) (w : World) :
  Calls Tryz.prog 140 #[.int .u32 a, .int .u32 b] w fun x w' => x = .returned (.int .u32 (apV 19 a b)) ∧ w = w' := by
 go_enter Tryz.func140, Tryz.ntmps140
 go_wp2_with fail
 all_goals
  go_ret
  exact ⟨ret_int (by rw [apV_19]; omega), rfl⟩
theorem cl20 (a b : Int) (ha0 : 0 ≤ a) (ha1 : a ≤ 4294967295) (hb0 : 0 ≤ b) (hb1 : b ≤ 4294967295) (w : World) :
  Calls Tryz.prog 141 #[.int .u32 a, .int .u32 b] w fun x w' => x = .returned (.int .u32 (apV 20 a b)) ∧ w = w' := by
 go_enter Tryz.func141, Tryz.ntmps141
 go_wp2_with fail
 all_goals
  go_ret
  exact ⟨ret_int (by rw [apV_20]; unfold hs; rfl), rfl⟩
theorem cl21 (a b : Int) (ha0 : 0 ≤ a) (ha1 : a ≤ 4294967295) (hb0 : 0 ≤ b) (hb1 : b ≤ 4294967295) (w : World) :
  Calls Tryz.prog 142 #[.int .u32 a, .int .u32 b] w fun x w' => x = .returned (.int .u32 (apV 21 a b)) ∧ w = w' := by
 go_enter Tryz.func142, Tryz.ntmps142
 go_wp2_with (go_at_call 62; refine (flag_any _ _).mono ?_; rintro e w1 ⟨rfl, rfl⟩)
 go_ret
 exact ⟨ret_int (by rw [apV_21]), rfl⟩
theorem cl22 (a b : Int) (ha0 : 0 ≤ a) (ha1 : a ≤ 4294967295) (hb0 : 0 ≤ b) (hb1 : b ≤ 4294967295) (w : World) :
  Calls Tryz.prog 143 #[.int .u32 a, .int .u32 b] w fun x w' => x = .returned (.int .u32 (apV 22 a b)) ∧ w = w' := by
 go_enter Tryz.func143, Tryz.ntmps143
 go_wp2_with (go_at_call 62; refine (flag_any _ _).mono ?_; rintro e w1 ⟨rfl, rfl⟩)
 go_ret
 exact ⟨ret_int (by rw [apV_22]), rfl⟩
theorem cl23 (a b : Int) (ha0 : 0 ≤ a) (ha1 : a ≤ 4294967295) (hb0 : 0 ≤ b) (hb1 : b ≤ 4294967295) (w : World) :
  Calls Tryz.prog 144 #[.int .u32 a, .int .u32 b] w fun x w' => x = .returned (.int .u32 (apV 23 a b)) ∧ w = w' := by
 go_enter Tryz.func144, Tryz.ntmps144
 go_wp2_with (go_at_call 62; refine (flag_any _ _).mono ?_; rintro e w1 ⟨rfl, rfl⟩)
 go_ret
 exact ⟨ret_int (by rw [apV_23]), rfl⟩
theorem cl24 (a b : Int) (ha0 : 0 ≤ a) (ha1 : a ≤ 4294967295) (hb0 : 0 ≤ b) (hb1 : b ≤ 4294967295) (w : World) :
  Calls Tryz.prog 145 #[.int .u32 a, .int .u32 b] w fun x w' => x = .returned (.int .u32 (apV 24 a b)) ∧ w = w' := by
 have hv := apV_24 a b
 by_cases h1 : a = 0
 ·have e1 : (a != 0) = false := by simp [h1]
  have e2 : (a == 0) = true := by simp [h1]
  rw [e1] at hv
  clear h1
  by_cases h2 : b = 0
  all_goals
   first | have e3 : (b != 0) = false := by simp [h2]
         | have e3 : (b != 0) = true := by simp [h2]
   rw [e3] at hv
   have hv := hidden hv
   clear h2
   go_enter Tryz.func145, Tryz.ntmps145
   go_wp2_with (go_at_call 62; refine (flag_any _ _).mono ?_; rintro e w1 ⟨rfl, rfl⟩)
   go_ret
   exact ⟨ret_int (by rw [hv.out]; rfl), rfl⟩
 ·have e1 : (a != 0) = true := by simp [h1]
  have e2 : (a == 0) = false := by simp [h1]
  rw [e1] at hv
  clear h1
  by_cases h2 : b = 0
  all_goals
   first | have e3 : (b != 0) = false := by simp [h2]
         | have e3 : (b != 0) = true := by simp [h2]
   rw [e3] at hv
   have hv := hidden hv
   clear h2
   go_enter Tryz.func145, Tryz.ntmps145
   go_wp2_with (go_at_call 62; refine (flag_any _ _).mono ?_; rintro e w1 ⟨rfl, rfl⟩)
   go_ret
   exact ⟨ret_int (by rw [hv.out]; rfl), rfl⟩
theorem cl25 (a b : Int) (ha0 : 0 ≤ a) (ha1 : a ≤ 4294967295) (hb0 : 0 ≤ b) (hb1 : b ≤ 4294967295) (w : World) :
  Calls Tryz.prog 146 #[.int .u32 a, .int .u32 b] w fun x w' => x = .returned (.int .u32 (apV 25 a b)) ∧ w = w' := by
 have hv := apV_25 a b
 by_cases h1 : a = 0
 ·have e1 : (a != 0) = false := by simp [h1]
  have e2 : (a == 0) = true := by simp [h1]
  rw [e1] at hv
  clear h1
  by_cases h2 : b = 0
  all_goals
   first | have e3 : (b != 0) = false := by simp [h2]
         | have e3 : (b != 0) = true := by simp [h2]
   rw [e3] at hv
   have hv := hidden hv
   clear h2
   go_enter Tryz.func146, Tryz.ntmps146
   go_wp2_with (go_at_call 62; refine (flag_any _ _).mono ?_; rintro e w1 ⟨rfl, rfl⟩)
   go_ret
   exact ⟨ret_int (by rw [hv.out]; rfl), rfl⟩
 ·have e1 : (a != 0) = true := by simp [h1]
  have e2 : (a == 0) = false := by simp [h1]
  rw [e1] at hv
  clear h1
  by_cases h2 : b = 0
  all_goals
   first | have e3 : (b != 0) = false := by simp [h2]
         | have e3 : (b != 0) = true := by simp [h2]
   rw [e3] at hv
   have hv := hidden hv
   clear h2
   go_enter Tryz.func146, Tryz.ntmps146
   go_wp2_with (go_at_call 62; refine (flag_any _ _).mono ?_; rintro e w1 ⟨rfl, rfl⟩)
   go_ret
   exact ⟨ret_int (by rw [hv.out]; rfl), rfl⟩
theorem cl26 (a b : Int) (ha0 : 0 ≤ a) (ha1 : a ≤ 4294967295) (hb0 : 0 ≤ b) (hb1 : b ≤ 4294967295) (w : World) :
  Calls Tryz.prog 147 #[.int .u32 a, .int .u32 b] w fun x w' => x = .returned (.int .u32 (apV 26 a b)) ∧ w = w' := by
 go_enter Tryz.func147, Tryz.ntmps147
 go_wp2_with (go_at_call 62; refine (flag_any _ _).mono ?_; rintro e w1 ⟨rfl, rfl⟩)
 go_ret
 exact ⟨ret_int (by rw [apV_26]), rfl⟩
set_option linter.unusedVariables false
theorem iapply8 (a b : Int) (ha0 : 0 ≤ a) (ha1 : a ≤ 4294967295) (hb0 : 0 ≤ b) (hb1 : b ≤ 4294967295) (w : World) :
  Calls Tryz.prog 111 #[.int .i64 8, .int .u32 a, .int .u32 b] w fun x w' => x = .returned (.tuple #[.int .u32 (apF 8 a b).1, .int .i64 (apF 8 a b).2]) ∧ Ext w w' := by
 have hlk := comb_look w 8 (.func (.func 129) #[] #[]) rfl
 have hX : Ext w (w.alloc (tblObj combT)) := (Ext.refl w).alloc _
 rw [apF_in (by omega) (by omega) (by omega)]
 by_cases hb : b = 0
 ·subst hb
  go_enter Tryz.func111, Tryz.ntmps111
  go_wp2_with fail
  refine (comb_any _).mono ?_
  rintro e w1 ⟨rfl, rfl⟩
  obtain ⟨W, hW⟩ := ex (w.alloc (tblObj combT))
  rw [hW] at hlk hX ⊢
  clear hW
  go_wp2_with fail
  refine (cl8 a 0 ha0 ha1 (by omega) (by omega) _).mono ?_
  rintro e w1 ⟨rfl, rfl⟩
  go_wp2_with fail
  go_ret2
  exact ⟨rfl, hX⟩
 ·have hb' : (b == 0) = false := by simp [hb]
  clear hb
  go_enter Tryz.func111, Tryz.ntmps111
  go_wp2_with fail
  refine (comb_any _).mono ?_
  rintro e w1 ⟨rfl, rfl⟩
  obtain ⟨W, hW⟩ := ex (w.alloc (tblObj combT))
  rw [hW] at hlk hX ⊢
  clear hW
  go_wp2_with fail
  refine (cl8 a b ha0 ha1 hb0 hb1 _).mono ?_
  rintro e w1 ⟨rfl, rfl⟩
  go_wp2_with fail
  go_ret2
  exact ⟨rfl, hX⟩
theorem iapply9 (a b : Int) (ha0 : 0 ≤ a) (ha1 : a ≤ 4294967295) (hb0 : 0 ≤ b) (hb1 : b ≤ 4294967295) (w : World) :
  Calls Tryz.prog 111 #[.int .i64 9, .int .u32 a, .int .u32 b] w fun x w' => x = .returned (.tuple #[.int .u32 (apF 9 a b).1, .int .i64 (apF 9 a b).2]) ∧ Ext w w' := by
 have hlk := comb_look w 9 (.func (.func 130) #[] #[]) rfl
 have hX : Ext w (w.alloc (tblObj combT)) := (Ext.refl w).alloc _
 rw [apF_in (by omega) (by omega) (by omega)]
 by_cases hb : b = 0
 ·subst hb
  go_enter Tryz.func111, Tryz.ntmps111
  go_wp2_with fail
  refine (comb_any _).mono ?_
  rintro e w1 ⟨rfl, rfl⟩
  obtain ⟨W, hW⟩ := ex (w.alloc (tblObj combT))
  rw [hW] at hlk hX ⊢
  clear hW
  go_wp2_with fail
  refine (cl9 a 0 ha0 ha1 (by omega) (by omega) _).mono ?_
  rintro e w1 ⟨rfl, rfl⟩
  go_wp2_with fail
  go_ret2
  exact ⟨rfl, hX⟩
 ·have hb' : (b == 0) = false := by simp [hb]
  clear hb
  go_enter Tryz.func111, Tryz.ntmps111
  go_wp2_with fail
  refine (comb_any _).mono ?_
  rintro e w1 ⟨rfl, rfl⟩
  obtain ⟨W, hW⟩ := ex (w.alloc (tblObj combT))
  rw [hW] at hlk hX ⊢
  clear hW
  go_wp2_with fail
  refine (cl9 a b ha0 ha1 hb0 hb1 _).mono ?_
  rintro e w1 ⟨rfl, rfl⟩
  go_wp2_with fail
  go_ret2
  exact ⟨rfl, hX⟩
theorem iapply10 (a b : Int) (ha0 : 0 ≤ a) (ha1 : a ≤ 4294967295) (hb0 : 0 ≤ b) (hb1 : b ≤ 4294967295) (w : World) :
  Calls Tryz.prog 111 #[.int .i64 10, .int .u32 a, .int .u32 b] w fun x w' => x = .returned (.tuple #[.int .u32 (apF 10 a b).1, .int .i64 (apF 10 a b).2]) ∧ Ext w w' := by
 have hlk := comb_look w 10 (.func (.func 131) #[] #[]) rfl
 have hX : Ext w (w.alloc (tblObj combT)) := (Ext.refl w).alloc _
 rw [apF_in (by omega) (by omega) (by omega)]
 by_cases hb : b = 0
 ·subst hb
  go_enter Tryz.func111, Tryz.ntmps111
  go_wp2_with fail
  refine (comb_any _).mono ?_
  rintro e w1 ⟨rfl, rfl⟩
  obtain ⟨W, hW⟩ := ex (w.alloc (tblObj combT))
  rw [hW] at hlk hX ⊢
  clear hW
  go_wp2_with fail
  refine (cl10 a 0 ha0 ha1 (by omega) (by omega) _).mono ?_
  rintro e w1 ⟨rfl, rfl⟩
  go_wp2_with fail
  go_ret2
  exact ⟨rfl, hX⟩
 ·have hb' : (b == 0) = false := by simp [hb]
  clear hb
  go_enter Tryz.func111, Tryz.ntmps111
  go_wp2_with fail
  refine (comb_any _).mono ?_
  rintro e w1 ⟨rfl, rfl⟩
  obtain ⟨W, hW⟩ := ex (w.alloc (tblObj combT))
  rw [hW] at hlk hX ⊢
  clear hW
  go_wp2_with fail
  refine (cl10 a b ha0 ha1 hb0 hb1 _).mono ?_
  rintro e w1 ⟨rfl, rfl⟩
  go_wp2_with fail
  go_ret2
  exact ⟨rfl, hX⟩
theorem iapply11 (a b : Int) (ha0 : 0 ≤ a) (ha1 : a ≤ 4294967295) (hb0 : 0 ≤ b) (hb1 : b ≤ 4294967295) (w : World) :
  Calls Tryz.prog 111 #[.int .i64 11, .int .u32 a, .int .u32 b] w fun x w' => x = .returned (.tuple #[.int .u32 (apF 11 a b).1, .int .i64 (apF 11 a b).2]) ∧ Ext w w' := by
 have hlk := comb_look w 11 (.func (.func 132) #[] #[]) rfl
 have hX : Ext w (w.alloc (tblObj combT)) := (Ext.refl w).alloc _
 by_cases hb : b = 0
 ·rw [apF_div hb (by omega)]
  have hb' : (b == 0) = true := by simp [hb]
  clear hb
  go_enter Tryz.func111, Tryz.ntmps111
  go_wp2_with fail
  refine (comb_any _).mono ?_
  rintro e w1 ⟨rfl, rfl⟩
  obtain ⟨W, hW⟩ := ex (w.alloc (tblObj combT))
  rw [hW] at hlk hX ⊢
  clear hW
  go_wp2_with fail
  go_ret2
  exact ⟨rfl, hX⟩
 ·rw [apF_in (by omega) (by omega) (by omega)]
  have hb' : (b == 0) = false := by simp [hb]
  have hp : 0 < b := by omega
  clear hb
  go_enter Tryz.func111, Tryz.ntmps111
  go_wp2_with fail
  refine (comb_any _).mono ?_
  rintro e w1 ⟨rfl, rfl⟩
  obtain ⟨W, hW⟩ := ex (w.alloc (tblObj combT))
  rw [hW] at hlk hX ⊢
  clear hW
  go_wp2_with fail
  refine (cl11 _ _ ha0 ha1 (by omega) (by omega) hp _).mono ?_
  rintro e w1 ⟨rfl, rfl⟩
  go_wp2_with fail
  go_ret2
  exact ⟨rfl, hX⟩
theorem iapply12 (a b : Int) (ha0 : 0 ≤ a) (ha1 : a ≤ 4294967295) (hb0 : 0 ≤ b) (hb1 : b ≤ 4294967295) (w : World) :
  Calls Tryz.prog 111 #[.int .i64 12, .int .u32 a, .int .u32 b] w fun x w' => x = .returned (.tuple #[.int .u32 (apF 12 a b).1, .int .i64 (apF 12 a b).2]) ∧ Ext w w' := by
 have hlk := comb_look w 12 (.func (.func 133) #[] #[]) rfl
 have hX : Ext w (w.alloc (tblObj combT)) := (Ext.refl w).alloc _
 by_cases hb : b = 0
 ·rw [apF_div hb (by omega)]
  have hb' : (b == 0) = true := by simp [hb]
  clear hb
  go_enter Tryz.func111, Tryz.ntmps111
  go_wp2_with fail
  refine (comb_any _).mono ?_
  rintro e w1 ⟨rfl, rfl⟩
  obtain ⟨W, hW⟩ := ex (w.alloc (tblObj combT))
  rw [hW] at hlk hX ⊢
  clear hW
  go_wp2_with fail
  go_ret2
  exact ⟨rfl, hX⟩
 ·rw [apF_in (by omega) (by omega) (by omega)]
  have hb' : (b == 0) = false := by simp [hb]
  have hp : 0 < b := by omega
  clear hb
  go_enter Tryz.func111, Tryz.ntmps111
  go_wp2_with fail
  refine (comb_any _).mono ?_
  rintro e w1 ⟨rfl, rfl⟩
  obtain ⟨W, hW⟩ := ex (w.alloc (tblObj combT))
  rw [hW] at hlk hX ⊢
  clear hW
  go_wp2_with fail
  refine (cl12 _ _ ha0 ha1 (by omega) (by omega) hp _).mono ?_
  rintro e w1 ⟨rfl, rfl⟩
  go_wp2_with fail
  go_ret2
  exact ⟨rfl, hX⟩
theorem iapply13 (a b : Int) (ha0 : 0 ≤ a) (ha1 : a ≤ 4294967295) (hb0 : 0 ≤ b) (hb1 : b ≤ 4294967295) (w : World) :
  Calls Tryz.prog 111 #[.int .i64 13, .int .u32 a, .int .u32 b] w fun x w' => x = .returned (.tuple #[.int .u32 (apF 13 a b).1, .int .i64 (apF 13 a b).2]) ∧ Ext w w' := by
 have hlk := comb_look w 13 (.func (.func 134) #[] #[]) rfl
 have hX : Ext w (w.alloc (tblObj combT)) := (Ext.refl w).alloc _
 rw [apF_in (by omega) (by omega) (by omega)]
 by_cases hb : b = 0
 ·subst hb
  go_enter Tryz.func111, Tryz.ntmps111
  go_wp2_with fail
  refine (comb_any _).mono ?_
  rintro e w1 ⟨rfl, rfl⟩
  obtain ⟨W, hW⟩ := ex (w.alloc (tblObj combT))
  rw [hW] at hlk hX ⊢
  clear hW
  go_wp2_with fail
  refine (cl13 a 0 ha0 ha1 (by omega) (by omega) _).mono ?_
  rintro e w1 ⟨rfl, rfl⟩
  go_wp2_with fail
  go_ret2
  exact ⟨rfl, hX⟩
 ·have hb' : (b == 0) = false := by simp [hb]
  clear hb
  go_enter Tryz.func111, Tryz.ntmps111
  go_wp2_with fail
  refine (comb_any _).mono ?_
  rintro e w1 ⟨rfl, rfl⟩
  obtain ⟨W, hW⟩ := ex (w.alloc (tblObj combT))
  rw [hW] at hlk hX ⊢
  clear hW
  go_wp2_with fail
  refine (cl13 a b ha0 ha1 hb0 hb1 _).mono ?_
  rintro e w1 ⟨rfl, rfl⟩
  go_wp2_with fail
  go_ret2
  exact ⟨rfl, hX⟩
theorem iapply14 (a b : Int) (ha0 : 0 ≤ a) (ha1 : a ≤ 4294967295) (hb0 : 0 ≤ b) (hb1 : b ≤ 4294967295) (w : World) :
  Calls Tryz.prog 111 #[.int .i64 14, .int .u32 a, .int .u32 b] w fun x w' => x = .returned (.tuple #[.int .u32 (apF 14 a b).1, .int .i64 (apF 14 a b).2]) ∧ Ext w w' := by
 have hlk := comb_look w 14 (.func (.func 135) #[] #[]) rfl
 have hX : Ext w (w.alloc (tblObj combT)) := (Ext.refl w).alloc _
 rw [apF_in (by omega) (by omega) (by omega)]
 by_cases hb : b = 0
 ·subst hb
  go_enter Tryz.func111, Tryz.ntmps111
  go_wp2_with fail
  refine (comb_any _).mono ?_
  rintro e w1 ⟨rfl, rfl⟩
  obtain ⟨W, hW⟩ := ex (w.alloc (tblObj combT))
  rw [hW] at hlk hX ⊢
  clear hW
  go_wp2_with fail
  refine (cl14 a 0 ha0 ha1 (by omega) (by omega) _).mono ?_
  rintro e w1 ⟨rfl, rfl⟩
  go_wp2_with fail
  go_ret2
  exact ⟨rfl, hX⟩
 ·have hb' : (b == 0) = false := by simp [hb]
  clear hb
  go_enter Tryz.func111, Tryz.ntmps111
  go_wp2_with fail
  refine (comb_any _).mono ?_
  rintro e w1 ⟨rfl, rfl⟩
  obtain ⟨W, hW⟩ := ex (w.alloc (tblObj combT))
  rw [hW] at hlk hX ⊢
  clear hW
  go_wp2_with fail
  refine (cl14 a b ha0 ha1 hb0 hb1 _).mono ?_
  rintro e w1 ⟨rfl, rfl⟩
  go_wp2_with fail
  go_ret2
  exact ⟨rfl, hX⟩
set_option linter.unusedVariables false
theorem iapply15 (a b : Int) (ha0 : 0 ≤ a) (ha1 : a ≤ 4294967295) (hb0 : 0 ≤ b) (hb1 : b ≤ 4294967295) (w : World) :
  Calls Tryz.prog 111 #[.int .i64 15, .int .u32 a, .int .u32 b] w fun x w' => x = .returned (.tuple #[.int .u32 (apF 15 a b).1, .int .i64 (apF 15 a b).2]) ∧ Ext w w' := by
 have hlk := comb_look w 15 (.func (.func 136) #[] #[]) rfl
 have hX : Ext w (w.alloc (tblObj combT)) := (Ext.refl w).alloc _
 rw [apF_in (by omega) (by omega) (by omega)]
 by_cases hb : b = 0
 ·subst hb
  go_enter Tryz.func111, Tryz.ntmps111
  go_wp2_with fail
  refine (comb_any _).mono ?_
  rintro e w1 ⟨rfl, rfl⟩
  obtain ⟨W, hW⟩ := ex (w.alloc (tblObj combT))
  rw [hW] at hlk hX ⊢
  clear hW
  go_wp2_with fail
  refine (cl15 a 0 ha0 ha1 (by omega) (by omega) _).mono ?_
  rintro e w1 ⟨rfl, rfl⟩
  go_wp2_with fail
  go_ret2
  exact ⟨rfl, hX⟩
 ·have hb' : (b == 0) = false := by simp [hb]
  clear hb
  go_enter Tryz.func111, Tryz.ntmps111
  go_wp2_with fail
  refine (comb_any _).mono ?_
  rintro e w1 ⟨rfl, rfl⟩
  obtain ⟨W, hW⟩ := ex (w.alloc (tblObj combT))
  rw [hW] at hlk hX ⊢
  clear hW
  go_wp2_with fail
  refine (cl15 a b ha0 ha1 hb0 hb1 _).mono ?_
  rintro e w1 ⟨rfl, rfl⟩
  go_wp2_with fail
  go_ret2
  exact ⟨rfl, hX⟩
theorem iapply16 (a b : Int) (ha0 : 0 ≤ a) (ha1 : a ≤ 4294967295) (hb0 : 0 ≤ b) (hb1 : b ≤ 4294967295) (w : World) :
  Calls Tryz.prog 111 #[.int .i64 16, .int .u32 a, .int .u32 b] w fun x w' => x = .returned (.tuple #[.int .u32 (apF 16 a b).1, .int .i64 (apF 16 a b).2]) ∧ Ext w w' := by
 have hlk := comb_look w 16 (.func (.func 137) #[] #[]) rfl
 have hX : Ext w (w.alloc (tblObj combT)) := (Ext.refl w).alloc _
 rw [apF_in (by omega) (by omega) (by omega)]
 by_cases hb : b = 0
 ·subst hb
  go_enter Tryz.func111, Tryz.ntmps111
  go_wp2_with fail
  refine (comb_any _).mono ?_
  rintro e w1 ⟨rfl, rfl⟩
  obtain ⟨W, hW⟩ := ex (w.alloc (tblObj combT))
  rw [hW] at hlk hX ⊢
  clear hW
  go_wp2_with fail
  refine (cl16 a 0 ha0 ha1 (by omega) (by omega) _).mono ?_
  rintro e w1 ⟨rfl, rfl⟩
  go_wp2_with fail
  go_ret2
  exact ⟨rfl, hX⟩
 ·have hb' : (b == 0) = false := by simp [hb]
  clear hb
  go_enter Tryz.func111, Tryz.ntmps111
  go_wp2_with fail
  refine (comb_any _).mono ?_
  rintro e w1 ⟨rfl, rfl⟩
  obtain ⟨W, hW⟩ := ex (w.alloc (tblObj combT))
  rw [hW] at hlk hX ⊢
  clear hW
  go_wp2_with fail
  refine (cl16 a b ha0 ha1 hb0 hb1 _).mono ?_
  rintro e w1 ⟨rfl, rfl⟩
  go_wp2_with fail
  go_ret2
  exact ⟨rfl, hX⟩
theorem iapply17 (a b : Int) (ha0 : 0 ≤ a) (ha1 : a ≤ 4294967295) (hb0 : 0 ≤ b) (hb1 : b ≤ 4294967295) (w : World) :
  Calls Tryz.prog 111 #[.int .i64 17, .int .u32 a, .int .u32 b] w fun x w' => x = .returned (.tuple #[.int .u32 (apF 17 a b).1, .int .i64 (apF 17 a b).2]) ∧ Ext w w' := by
 have hlk := comb_look w 17 (.func (.func 138) #[] #[]) rfl
 have hX : Ext w (w.alloc (tblObj combT)) := (Ext.refl w).alloc _
 rw [apF_in (by omega) (by omega) (by omega)]
 by_cases hb : b = 0
 ·subst hb
  go_enter Tryz.func111, Tryz.ntmps111
  go_wp2_with fail
  refine (comb_any _).mono ?_
  rintro e w1 ⟨rfl, rfl⟩
  obtain ⟨W, hW⟩ := ex (w.alloc (tblObj combT))
  rw [hW] at hlk hX ⊢
  clear hW
  go_wp2_with fail
  refine (cl17 a 0 ha0 ha1 (by omega) (by omega) _).mono ?_
  rintro e w1 ⟨rfl, rfl⟩
  go_wp2_with fail
  go_ret2
  exact ⟨rfl, hX⟩
 ·have hb' : (b == 0) = false := by simp [hb]
  clear hb
  go_enter Tryz.func111, Tryz.ntmps111
  go_wp2_with fail
  refine (comb_any _).mono ?_
  rintro e w1 ⟨rfl, rfl⟩
  obtain ⟨W, hW⟩ := ex (w.alloc (tblObj combT))
  rw [hW] at hlk hX ⊢
  clear hW
  go_wp2_with fail
  refine (cl17 a b ha0 ha1 hb0 hb1 _).mono ?_
  rintro e w1 ⟨rfl, rfl⟩
  go_wp2_with fail
  go_ret2
  exact ⟨rfl, hX⟩
theorem iapply18 (a b : Int) (ha0 : 0 ≤ a) (ha1 : a ≤ 4294967295) (hb0 : 0 ≤ b) (hb1 : b ≤ 4294967295) (w : World) :
  Calls Tryz.prog 111 #[.int .i64 18, .int .u32 a, .int .u32 b] w fun x w' => x = .returned (.tuple #[.int .u32 (apF 18 a b).1, .int .i64 (apF 18 a b).2]) ∧ Ext w w' := by
 have hlk := comb_look w 18 (.func (.func 139) #[] #[]) rfl
 have hX : Ext w (w.alloc (tblObj combT)) := (Ext.refl w).alloc _
 rw [apF_in (by omega) (by omega) (by omega)]
 by_cases hb : b = 0
 ·subst hb
  go_enter Tryz.func111, Tryz.ntmps111
  go_wp2_with fail
  refine (comb_any _).mono ?_
  rintro e w1 ⟨rfl, rfl⟩
  obtain ⟨W, hW⟩ := ex (w.alloc (tblObj combT))
  rw [hW] at hlk hX ⊢
  clear hW
  go_wp2_with fail
  refine (cl18 a 0 ha0 ha1 (by omega) (by omega) _).mono ?_
  rintro e w1 ⟨rfl, rfl⟩
  go_wp2_with fail
  go_ret2
  exact ⟨rfl, hX⟩
 ·have hb' : (b == 0) = false := by simp [hb]
  clear hb
  go_enter Tryz.func111, Tryz.ntmps111
  go_wp2_with fail
  refine (comb_any _).mono ?_
  rintro e w1 ⟨rfl, rfl⟩
  obtain ⟨W, hW⟩ := ex (w.alloc (tblObj combT))
  rw [hW] at hlk hX ⊢
  clear hW
  go_wp2_with fail
  refine (cl18 a b ha0 ha1 hb0 hb1 _).mono ?_
  rintro e w1 ⟨rfl, rfl⟩
  go_wp2_with fail
  go_ret2
  exact ⟨rfl, hX⟩
theorem iapply19 (a b : Int) (ha0 : 0 ≤ a) (ha1 : a ≤ 4294967295) (hb0 : 0 ≤ b) (hb1 : b ≤ 4294967295) (w : World) :
  Calls Tryz.prog 111 #[.int .i64 19, .int .u32 a, .int .u32 b] w fun x w' => x = .returned (.tuple #[.int .u32 (apF 19 a b).1, .int .i64 (apF 19 a b).2]) ∧ Ext w w' := by
 have hlk := comb_look w 19 (.func (.func 140) #[] #[]) rfl
 have hX : Ext w (w.alloc (tblObj combT)) := (Ext.refl w).alloc _
 rw [apF_in (by omega) (by omega) (by omega)]
 by_cases hb : b = 0
 ·subst hb
  go_enter Tryz.func111, Tryz.ntmps111
  go_wp2_with fail
  refine (comb_any _).mono ?_
  rintro e w1 ⟨rfl, rfl⟩
  obtain ⟨W, hW⟩ := ex (w.alloc (tblObj combT))
  rw [hW] at hlk hX ⊢
  clear hW
  go_wp2_with fail
  refine (cl19 a 0 ha0 ha1 (by omega) (by omega) _).mono ?_
  rintro e w1 ⟨rfl, rfl⟩
  go_wp2_with fail
  go_ret2
  exact ⟨rfl, hX⟩
 ·have hb' : (b == 0) = false := by simp [hb]
  clear hb
  go_enter Tryz.func111, Tryz.ntmps111
  go_wp2_with fail
  refine (comb_any _).mono ?_
  rintro e w1 ⟨rfl, rfl⟩
  obtain ⟨W, hW⟩ := ex (w.alloc (tblObj combT))
  rw [hW] at hlk hX ⊢
  clear hW
  go_wp2_with fail
  refine (cl19 a b ha0 ha1 hb0 hb1 _).mono ?_
  rintro e w1 ⟨rfl, rfl⟩
  go_wp2_with fail
  go_ret2
  exact ⟨rfl, hX⟩
theorem iapply20 (a b : Int) (ha0 : 0 ≤ a) (ha1 : a ≤ 4294967295) (hb0 : 0 ≤ b) (hb1 : b ≤ 4294967295) (w : World) :
  Calls Tryz.prog 111 #[.int .i64 20, .int .u32 a, .int .u32 b] w fun x w' => x = .returned (.tuple #[.int .u32 (apF 20 a b).1, .int .i64 (apF 20 a b).2]) ∧ Ext w w' := by
 have hlk := comb_look w 20 (.func (.func 141) #[] #[]) rfl
 have hX : Ext w (w.alloc (tblObj combT)) := (Ext.refl w).alloc _
 rw [apF_in (by omega) (by omega) (by omega)]
 by_cases hb : b = 0
 ·subst hb
  go_enter Tryz.func111, Tryz.ntmps111
  go_wp2_with fail
  refine (comb_any _).mono ?_
  rintro e w1 ⟨rfl, rfl⟩
  obtain ⟨W, hW⟩ := ex (w.alloc (tblObj combT))
  rw [hW] at hlk hX ⊢
  clear hW
  go_wp2_with fail
  refine (cl20 a 0 ha0 ha1 (by omega) (by omega) _).mono ?_
  rintro e w1 ⟨rfl, rfl⟩
  go_wp2_with fail
  go_ret2
  exact ⟨rfl, hX⟩
 ·have hb' : (b == 0) = false := by simp [hb]
  clear hb
  go_enter Tryz.func111, Tryz.ntmps111
  go_wp2_with fail
  refine (comb_any _).mono ?_
  rintro e w1 ⟨rfl, rfl⟩
  obtain ⟨W, hW⟩ := ex (w.alloc (tblObj combT))
  rw [hW] at hlk hX ⊢
  clear hW
  go_wp2_with fail
  refine (cl20 a b ha0 ha1 hb0 hb1 _).mono ?_
  rintro e w1 ⟨rfl, rfl⟩
  go_wp2_with fail
  go_ret2
  exact ⟨rfl, hX⟩
set_option linter.unusedVariables false
theorem iapply21 (a b : Int) (ha0 : 0 ≤ a) (ha1 : a ≤ 4294967295) (hb0 : 0 ≤ b) (hb1 : b ≤ 4294967295) (w : World) :
  Calls Tryz.prog 111 #[.int .i64 21, .int .u32 a, .int .u32 b] w fun x w' => x = .returned (.tuple #[.int .u32 (apF 21 a b).1, .int .i64 (apF 21 a b).2]) ∧ Ext w w' := by
 have hlk := comb_look w 21 (.func (.func 142) #[] #[]) rfl
 have hX : Ext w (w.alloc (tblObj combT)) := (Ext.refl w).alloc _
 rw [apF_in (by omega) (by omega) (by omega)]
 by_cases hb : b = 0
 ·subst hb
  go_enter Tryz.func111, Tryz.ntmps111
  go_wp2_with fail
  refine (comb_any _).mono ?_
  rintro e w1 ⟨rfl, rfl⟩
  obtain ⟨W, hW⟩ := ex (w.alloc (tblObj combT))
  rw [hW] at hlk hX ⊢
  clear hW
  go_wp2_with fail
  refine (cl21 a 0 ha0 ha1 (by omega) (by omega) _).mono ?_
  rintro e w1 ⟨rfl, rfl⟩
  go_wp2_with fail
  go_ret2
  exact ⟨rfl, hX⟩
 ·have hb' : (b == 0) = false := by simp [hb]
  clear hb
  go_enter Tryz.func111, Tryz.ntmps111
  go_wp2_with fail
  refine (comb_any _).mono ?_
  rintro e w1 ⟨rfl, rfl⟩
  obtain ⟨W, hW⟩ := ex (w.alloc (tblObj combT))
  rw [hW] at hlk hX ⊢
  clear hW
  go_wp2_with fail
  refine (cl21 a b ha0 ha1 hb0 hb1 _).mono ?_
  rintro e w1 ⟨rfl, rfl⟩
  go_wp2_with fail
  go_ret2
  exact ⟨rfl, hX⟩
theorem iapply22 (a b : Int) (ha0 : 0 ≤ a) (ha1 : a ≤ 4294967295) (hb0 : 0 ≤ b) (hb1 : b ≤ 4294967295) (w : World) :
  Calls Tryz.prog 111 #[.int .i64 22, .int .u32 a, .int .u32 b] w fun x w' => x = .returned (.tuple #[.int .u32 (apF 22 a b).1, .int .i64 (apF 22 a b).2]) ∧ Ext w w' := by
 have hlk := comb_look w 22 (.func (.func 143) #[] #[]) rfl
 have hX : Ext w (w.alloc (tblObj combT)) := (Ext.refl w).alloc _
 rw [apF_in (by omega) (by omega) (by omega)]
 by_cases hb : b = 0
 ·subst hb
  go_enter Tryz.func111, Tryz.ntmps111
  go_wp2_with fail
  refine (comb_any _).mono ?_
  rintro e w1 ⟨rfl, rfl⟩
  obtain ⟨W, hW⟩ := ex (w.alloc (tblObj combT))
  rw [hW] at hlk hX ⊢
  clear hW
  go_wp2_with fail
  refine (cl22 a 0 ha0 ha1 (by omega) (by omega) _).mono ?_
  rintro e w1 ⟨rfl, rfl⟩
  go_wp2_with fail
  go_ret2
  exact ⟨rfl, hX⟩
 ·have hb' : (b == 0) = false := by simp [hb]
  clear hb
  go_enter Tryz.func111, Tryz.ntmps111
  go_wp2_with fail
  refine (comb_any _).mono ?_
  rintro e w1 ⟨rfl, rfl⟩
  obtain ⟨W, hW⟩ := ex (w.alloc (tblObj combT))
  rw [hW] at hlk hX ⊢
  clear hW
  go_wp2_with fail
  refine (cl22 a b ha0 ha1 hb0 hb1 _).mono ?_
  rintro e w1 ⟨rfl, rfl⟩
  go_wp2_with fail
  go_ret2
  exact ⟨rfl, hX⟩
theorem iapply23 (a b : Int) (ha0 : 0 ≤ a) (ha1 : a ≤ 4294967295) (hb0 : 0 ≤ b) (hb1 : b ≤ 4294967295) (w : World) :
  Calls Tryz.prog 111 #[.int .i64 23, .int .u32 a, .int .u32 b] w fun x w' => x = .returned (.tuple #[.int .u32 (apF 23 a b).1, .int .i64 (apF 23 a b).2]) ∧ Ext w w' := by
 have hlk := comb_look w 23 (.func (.func 144) #[] #[]) rfl
 have hX : Ext w (w.alloc (tblObj combT)) := (Ext.refl w).alloc _
 rw [apF_in (by omega) (by omega) (by omega)]
 by_cases hb : b = 0
 ·subst hb
  go_enter Tryz.func111, Tryz.ntmps111
  go_wp2_with fail
  refine (comb_any _).mono ?_
  rintro e w1 ⟨rfl, rfl⟩
  obtain ⟨W, hW⟩ := ex (w.alloc (tblObj combT))
  rw [hW] at hlk hX ⊢
  clear hW
  go_wp2_with fail
  refine (cl23 a 0 ha0 ha1 (by omega) (by omega) _).mono ?_
  rintro e w1 ⟨rfl, rfl⟩
  go_wp2_with fail
  go_ret2
  exact ⟨rfl, hX⟩
 ·have hb' : (b == 0) = false := by simp [hb]
  clear hb
  go_enter Tryz.func111, Tryz.ntmps111
  go_wp2_with fail
  refine (comb_any _).mono ?_
  rintro e w1 ⟨rfl, rfl⟩
  obtain ⟨W, hW⟩ := ex (w.alloc (tblObj combT))
  rw [hW] at hlk hX ⊢
  clear hW
  go_wp2_with fail
  refine (cl23 a b ha0 ha1 hb0 hb1 _).mono ?_
  rintro e w1 ⟨rfl, rfl⟩
  go_wp2_with fail
  go_ret2
  exact ⟨rfl, hX⟩
theorem iapply24 (a b : Int) (ha0 : 0 ≤ a) (ha1 : a ≤ 4294967295) (hb0 : 0 ≤ b) (hb1 : b ≤ 4294967295) (w : World) :
  Calls Tryz.prog 111 #[.int .i64 24, .int .u32 a, .int .u32 b] w fun x w' => x = .returned (.tuple #[.int .u32 (apF 24 a b).1, .int .i64 (apF 24 a b).2]) ∧ Ext w w' := by
 have hlk := comb_look w 24 (.func (.func 145) #[] #[]) rfl
 have hX : Ext w (w.alloc (tblObj combT)) := (Ext.refl w).alloc _
 rw [apF_in (by omega) (by omega) (by omega)]
 by_cases hb : b = 0
 ·subst hb
  go_enter Tryz.func111, Tryz.ntmps111
  go_wp2_with fail
  refine (comb_any _).mono ?_
  rintro e w1 ⟨rfl, rfl⟩
  obtain ⟨W, hW⟩ := ex (w.alloc (tblObj combT))
  rw [hW] at hlk hX ⊢
  clear hW
  go_wp2_with fail
  refine (cl24 a 0 ha0 ha1 (by omega) (by omega) _).mono ?_
  rintro e w1 ⟨rfl, rfl⟩
  go_wp2_with fail
  go_ret2
  exact ⟨rfl, hX⟩
 ·have hb' : (b == 0) = false := by simp [hb]
  clear hb
  go_enter Tryz.func111, Tryz.ntmps111
  go_wp2_with fail
  refine (comb_any _).mono ?_
  rintro e w1 ⟨rfl, rfl⟩
  obtain ⟨W, hW⟩ := ex (w.alloc (tblObj combT))
  rw [hW] at hlk hX ⊢
  clear hW
  go_wp2_with fail
  refine (cl24 a b ha0 ha1 hb0 hb1 _).mono ?_
  rintro e w1 ⟨rfl, rfl⟩
  go_wp2_with fail
  go_ret2
  exact ⟨rfl, hX⟩
theorem iapply25 (a b : Int) (ha0 : 0 ≤ a) (ha1 : a ≤ 4294967295) (hb0 : 0 ≤ b) (hb1 : b ≤ 4294967295) (w : World) :
  Calls Tryz.prog 111 #[.int .i64 25, .int .u32 a, .int .u32 b] w fun x w' => x = .returned (.tuple #[.int .u32 (apF 25 a b).1, .int .i64 (apF 25 a b).2]) ∧ Ext w w' := by
 have hlk := comb_look w 25 (.func (.func 146) #[] #[]) rfl
 have hX : Ext w (w.alloc (tblObj combT)) := (Ext.refl w).alloc _
 rw [apF_in (by omega) (by omega) (by omega)]
 by_cases hb : b = 0
 ·subst hb
  go_enter Tryz.func111, Tryz.ntmps111
  go_wp2_with fail
  refine (comb_any _).mono ?_
  rintro e w1 ⟨rfl, rfl⟩
  obtain ⟨W, hW⟩ := ex (w.alloc (tblObj combT))
  rw [hW] at hlk hX ⊢
  clear hW
  go_wp2_with fail
  refine (cl25 a 0 ha0 ha1 (by omega) (by omega) _).mono ?_
  rintro e w1 ⟨rfl, rfl⟩
  go_wp2_with fail
  go_ret2
  exact ⟨rfl, hX⟩
 ·have hb' : (b == 0) = false := by simp [hb]
  clear hb
  go_enter Tryz.func111, Tryz.ntmps111
  go_wp2_with fail
  refine (comb_any _).mono ?_
  rintro e w1 ⟨rfl, rfl⟩
  obtain ⟨W, hW⟩ := ex (w.alloc (tblObj combT))
  rw [hW] at hlk hX ⊢
  clear hW
  go_wp2_with fail
  refine (cl25 a b ha0 ha1 hb0 hb1 _).mono ?_
  rintro e w1 ⟨rfl, rfl⟩
  go_wp2_with fail
  go_ret2
  exact ⟨rfl, hX⟩
theorem iapply26 (a b : Int) (ha0 : 0 ≤ a) (ha1 : a ≤ 4294967295) (hb0 : 0 ≤ b) (hb1 : b ≤ 4294967295) (w : World) :
  Calls Tryz.prog 111 #[.int .i64 26, .int .u32 a, .int .u32 b] w fun x w' => x = .returned (.tuple #[.int .u32 (apF 26 a b).1, .int .i64 (apF 26 a b).2]) ∧ Ext w w' := by
 have hlk := comb_look w 26 (.func (.func 147) #[] #[]) rfl
 have hX : Ext w (w.alloc (tblObj combT)) := (Ext.refl w).alloc _
 rw [apF_in (by omega) (by omega) (by omega)]
 by_cases hb : b = 0
 ·subst hb
  go_enter Tryz.func111, Tryz.ntmps111
  go_wp2_with fail
  refine (comb_any _).mono ?_
  rintro e w1 ⟨rfl, rfl⟩
  obtain ⟨W, hW⟩ := ex (w.alloc (tblObj combT))
  rw [hW] at hlk hX ⊢
  clear hW
  go_wp2_with fail
  refine (cl26 a 0 ha0 ha1 (by omega) (by omega) _).mono ?_
  rintro e w1 ⟨rfl, rfl⟩
  go_wp2_with fail
  go_ret2
  exact ⟨rfl, hX⟩
 ·have hb' : (b == 0) = false := by simp [hb]
  clear hb
  go_enter Tryz.func111, Tryz.ntmps111
  go_wp2_with fail
  refine (comb_any _).mono ?_
  rintro e w1 ⟨rfl, rfl⟩
  obtain ⟨W, hW⟩ := ex (w.alloc (tblObj combT))
  rw [hW] at hlk hX ⊢
  clear hW
  go_wp2_with fail
  refine (cl26 a b ha0 ha1 hb0 hb1 _).mono ?_
  rintro e w1 ⟨rfl, rfl⟩
  go_wp2_with fail
  go_ret2
  exact ⟨rfl, hX⟩
set_option linter.unusedVariables false
theorem iapply_any (op a b : Int) (ha0 : 0 ≤ a) (ha1 : a ≤ 4294967295) (hb0 : 0 ≤ b) (hb1 : b ≤ 4294967295) (w : World) :
  Calls Tryz.prog 111 #[.int .i64 op, .int .u32 a, .int .u32 b] w fun x w' => x = .returned (.tuple #[.int .u32 (apF op a b).1, .int .i64 (apF op a b).2]) ∧ Ext w w' := by
 by_cases h : op < 8 ∨ 26 < op
 ·rw [apF_out h]
  have hlk := comb_none w op h
  have hX : Ext w (w.alloc (tblObj combT)) := (Ext.refl w).alloc _
  clear h
  go_enter Tryz.func111, Tryz.ntmps111
  go_wp2_with fail
  refine (comb_any _).mono ?_
  rintro e w1 ⟨rfl, rfl⟩
  obtain ⟨W, hW⟩ := ex (w.alloc (tblObj combT))
  rw [hW] at hlk hX ⊢
  clear hW
  go_wp2_with fail
  go_ret2
  exact ⟨rfl, hX⟩
 ·have hc : op = 8 ∨ op = 9 ∨ op = 10 ∨ op = 11 ∨ op = 12 ∨ op = 13 ∨ op = 14 ∨ op = 15 ∨ op = 16 ∨ op = 17 ∨ op = 18 ∨ op = 19 ∨ op = 20 ∨ op = 21 ∨ op = 22 ∨ op = 23 ∨ op = 24 ∨ op = 25 ∨ op = 26 := by omega
  rcases hc with rfl | rfl | rfl | rfl | rfl | rfl | rfl | rfl | rfl | rfl | rfl | rfl | rfl | rfl | rfl | rfl | rfl | rfl | rfl
  ·exact iapply8 a b ha0 ha1 hb0 hb1 w
  ·exact iapply9 a b ha0 ha1 hb0 hb1 w
  ·exact iapply10 a b ha0 ha1 hb0 hb1 w
  ·exact iapply11 a b ha0 ha1 hb0 hb1 w
  ·exact iapply12 a b ha0 ha1 hb0 hb1 w
  ·exact iapply13 a b ha0 ha1 hb0 hb1 w
  ·exact iapply14 a b ha0 ha1 hb0 hb1 w
  ·exact iapply15 a b ha0 ha1 hb0 hb1 w
  ·exact iapply16 a b ha0 ha1 hb0 hb1 w
  ·exact iapply17 a b ha0 ha1 hb0 hb1 w
  ·exact iapply18 a b ha0 ha1 hb0 hb1 w
  ·exact iapply19 a b ha0 ha1 hb0 hb1 w
  ·exact iapply20 a b ha0 ha1 hb0 hb1 w
  ·exact iapply21 a b ha0 ha1 hb0 hb1 w
  ·exact iapply22 a b ha0 ha1 hb0 hb1 w
  ·exact iapply23 a b ha0 ha1 hb0 hb1 w
  ·exact iapply24 a b ha0 ha1 hb0 hb1 w
  ·exact iapply25 a b ha0 ha1 hb0 hb1 w
  ·exact iapply26 a b ha0 ha1 hb0 hb1 w
end Go.Proofs.YtgjjklajipekdaaGreat
