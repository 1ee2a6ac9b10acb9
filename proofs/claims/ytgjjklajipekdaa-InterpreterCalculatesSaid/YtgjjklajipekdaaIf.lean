/- The functions of layer 15's arithmetic, as a table. -/
import Derived.Test.YtgjjklajipekdaaRows
import Derived.Test.YtgjjklajipekdaaT
import Derived.Deep.QuietTactic
import Derived.BigQuiet
import Derived.Outline
namespace Go.Proofs.Ytgjjklajipekdaa
open Go.RowKit
set_option linter.unusedVariables false


def combT : List (Int × Value) := [(8, .func (.func 19) #[] #[]), (9, .func (.func 20) #[] #[]), (10, .func (.func 21) #[] #[]), (11, .func (.func 22) #[] #[]), (12, .func (.func 23) #[] #[]), (13, .func (.func 24) #[] #[]), (14, .func (.func 25) #[] #[]), (15, .func (.func 26) #[] #[]), (16, .func (.func 27) #[] #[]), (17, .func (.func 28) #[] #[]), (18, .func (.func 29) #[] #[]), (19, .func (.func 30) #[] #[]), (20, .func (.func 31) #[] #[]), (21, .func (.func 32) #[] #[]), (22, .func (.func 34) #[] #[]), (23, .func (.func 35) #[] #[]), (24, .func (.func 36) #[] #[]), (25, .func (.func 37) #[] #[]), (26, .func (.func 38) #[] #[])]
set_option maxRecDepth 100000 in
theorem comb_any (w : World) :
    Calls Try.prog 13 #[] w fun e w' => e = .returned (.map (some w.heap.size)) ∧ w.alloc (tblObj combT) = w' := by
  have hmm : ∀ t w, (Instr.makeMap t none).run Try.prog w = .ok (.map (some w.heap.size)) (w.alloc (tblObj [])) := fun _ _ => rfl
  go_enter Try.func13, Try.ntmps13
  go_wp2_with fail
  iterate 19 (rw [run_insert Try.underlying56 Try.underlying3 _ _ _ (by rfl)]; go_wp2_with fail)
  go_ret
  exact ⟨rfl, rfl⟩
theorem comb_look (w : World) (k : Int) (v : Value) (h : look k combT = some v) : (Instr.lookup 56 (.map (some w.heap.size)) (.int .i64 k) true).run Try.prog (w.alloc (tblObj combT)) = .ok (.tuple #[v, .bool true]) (w.alloc (tblObj combT)) :=
  run_look Try.underlying56 Try.underlying3 combT (tbl_at w combT) k v h
set_option maxRecDepth 100000 in
theorem comb_none (w : World) (k : Int) (h : k < 8 ∨ 26 < k) : (Instr.lookup 56 (.map (some w.heap.size)) (.int .i64 k) true).run Try.prog (w.alloc (tblObj combT)) = .ok (.tuple #[.nilFunc, .bool false]) (w.alloc (tblObj combT)) :=
  run_look_none Try.underlying56 Try.underlying3 combT (tbl_at w combT) k .nilFunc rfl (look_none (by simp only [combT, List.mem_cons, List.not_mem_nil, or_false]; rintro p (rfl | rfl | rfl | rfl | rfl | rfl | rfl | rfl | rfl | rfl | rfl | rfl | rfl | rfl | rfl | rfl | rfl | rfl | rfl) <;> simp <;> omega))
end Go.Proofs.Ytgjjklajipekdaa

/- The closures of layer 15's arithmetic. -/
namespace Go.Proofs.Ytgjjklajipekdaa
open Go.RowKit
set_option linter.unusedVariables false


theorem flag_any (p : Bool) (w : World) : Calls Try.prog 33 #[.bool p] w fun x w' => x = .returned (.int .u32 (fl p)) ∧ w = w' := by
  cases p <;>
  · go_enter Try.func33, Try.ntmps33
    go_wp2_with fail
    go_ret
    exact ⟨rfl, rfl⟩
theorem cl8 (a b : Int) (ha0 : 0 ≤ a) (ha1 : a ≤ 4294967295) (hb0 : 0 ≤ b) (hb1 : b ≤ 4294967295) (w : World) :
    Calls Try.prog 19 #[.int .u32 a, .int .u32 b] w fun x w' => x = .returned (.int .u32 (apV 8 a b)) ∧ w = w' := by
  go_enter Try.func19, Try.ntmps19
  go_wp2_with fail
  all_goals
    go_ret
    exact ⟨ret_int (by rw [apV_8]), rfl⟩
theorem cl9 (a b : Int) (ha0 : 0 ≤ a) (ha1 : a ≤ 4294967295) (hb0 : 0 ≤ b) (hb1 : b ≤ 4294967295) (w : World) :
    Calls Try.prog 20 #[.int .u32 a, .int .u32 b] w fun x w' => x = .returned (.int .u32 (apV 9 a b)) ∧ w = w' := by
  go_enter Try.func20, Try.ntmps20
  go_wp2_with fail
  all_goals
    go_ret
    exact ⟨ret_int (by rw [apV_9]), rfl⟩
theorem cl10 (a b : Int) (ha0 : 0 ≤ a) (ha1 : a ≤ 4294967295) (hb0 : 0 ≤ b) (hb1 : b ≤ 4294967295) (w : World) :
    Calls Try.prog 21 #[.int .u32 a, .int .u32 b] w fun x w' => x = .returned (.int .u32 (apV 10 a b)) ∧ w = w' := by
  go_enter Try.func21, Try.ntmps21
  go_wp2_with fail
  all_goals
    go_ret
    exact ⟨ret_int (by rw [apV_10]), rfl⟩
theorem cl11 (a b : Int) (ha0 : 0 ≤ a) (ha1 : a ≤ 4294967295) (hb0 : 0 ≤ b) (hb1 : b ≤ 4294967295) (hz : 0 < b) (w : World) :
    Calls Try.prog 22 #[.int .u32 a, .int .u32 b] w fun x w' => x = .returned (.int .u32 (apV 11 a b)) ∧ w = w' := by
  go_enter Try.func22, Try.ntmps22
  go_wp2_with fail
  all_goals
    go_ret
    exact ⟨ret_int (by rw [apV_11]), rfl⟩
theorem cl12 (a b : Int) (ha0 : 0 ≤ a) (ha1 : a ≤ 4294967295) (hb0 : 0 ≤ b) (hb1 : b ≤ 4294967295) (hz : 0 < b) (w : World) :
    Calls Try.prog 23 #[.int .u32 a, .int .u32 b] w fun x w' => x = .returned (.int .u32 (apV 12 a b)) ∧ w = w' := by
  go_enter Try.func23, Try.ntmps23
  go_wp2_with fail
  all_goals
    go_ret
    exact ⟨ret_int (by rw [apV_12]), rfl⟩
theorem cl13 (a b : Int) (ha0 : 0 ≤ a) (ha1 : a ≤ 4294967295) (hb0 : 0 ≤ b) (hb1 : b ≤ 4294967295) (w : World) :
    Calls Try.prog 24 #[.int .u32 a, .int .u32 b] w fun x w' => x = .returned (.int .u32 (apV 13 a b)) ∧ w = w' := by
  go_enter Try.func24, Try.ntmps24
  go_wp2_with fail
  all_goals
    go_ret
    exact ⟨ret_int (by rw [apV_13]), rfl⟩
theorem cl14 (a b : Int) (ha0 : 0 ≤ a) (ha1 : a ≤ 4294967295) (hb0 : 0 ≤ b) (hb1 : b ≤ 4294967295) (w : World) :
    Calls Try.prog 25 #[.int .u32 a, .int .u32 b] w fun x w' => x = .returned (.int .u32 (apV 14 a b)) ∧ w = w' := by
  go_enter Try.func25, Try.ntmps25
  go_wp2_with fail
  all_goals
    go_ret
    exact ⟨ret_int (by rw [apV_14]), rfl⟩
theorem cl15 (a b : Int) (ha0 : 0 ≤ a) (ha1 : a ≤ 4294967295) (hb0 : 0 ≤ b) (hb1 : b ≤ 4294967295) (w : World) :
    Calls Try.prog 26 #[.int .u32 a, .int .u32 b] w fun x w' => x = .returned (.int .u32 (apV 15 a b)) ∧ w = w' := by
  go_enter Try.func26, Try.ntmps26
  go_wp2_with fail
  all_goals
    go_ret
    exact ⟨ret_int (by rw [apV_15]), rfl⟩
theorem cl16 (a b : Int) (ha0 : 0 ≤ a) (ha1 : a ≤ 4294967295) (hb0 : 0 ≤ b) (hb1 : b ≤ 4294967295) (w : World) :
    Calls Try.prog 27 #[.int .u32 a, .int .u32 b] w fun x w' => x = .returned (.int .u32 (apV 16 a b)) ∧ w = w' := by
  go_enter Try.func27, Try.ntmps27
  go_wp2_with fail
  all_goals
    go_ret
    exact ⟨ret_int (by rw [apV_16]), rfl⟩
theorem cl17 (a b : Int) (ha0 : 0 ≤ a) (ha1 : a ≤ 4294967295) (hb0 : 0 ≤ b) (hb1 : b ≤ 4294967295) (w : World) :
    Calls Try.prog 28 #[.int .u32 a, .int .u32 b] w fun x w' => x = .returned (.int .u32 (apV 17 a b)) ∧ w = w' := by
  go_enter Try.func28, Try.ntmps28
  go_wp2_with fail
  all_goals
    go_ret
    exact ⟨ret_int (by rw [apV_17]), rfl⟩
theorem cl18 (a b : Int) (ha0 : 0 ≤ a) (ha1 : a ≤ 4294967295) (hb0 : 0 ≤ b) (hb1 : b ≤ 4294967295) (w : World) :
    Calls Try.prog 29 #[.int .u32 a, .int .u32 b] w fun x w' => x = .returned (.int .u32 (apV 18 a b)) ∧ w = w' := by
  go_enter Try.func29, Try.ntmps29
  go_wp2_with fail
  all_goals
    go_ret
    exact ⟨ret_int (by rw [apV_18]; omega), rfl⟩
theorem cl19 (a b : Int) (ha0 : 0 ≤ a) (ha1 : a ≤ 4294967295) (hb0 : 0 ≤ b) (hb1 : b ≤ 4294967295) (w : World) :
    Calls Try.prog 30 #[.int .u32 a, .int .u32 b] w fun x w' => x = .returned (.int .u32 (apV 19 a b)) ∧ w = w' := by
  go_enter Try.func30, Try.ntmps30
  go_wp2_with fail
  all_goals
    go_ret
    exact ⟨ret_int (by rw [apV_19]; omega), rfl⟩
theorem cl20 (a b : Int) (ha0 : 0 ≤ a) (ha1 : a ≤ 4294967295) (hb0 : 0 ≤ b) (hb1 : b ≤ 4294967295) (w : World) :
    Calls Try.prog 31 #[.int .u32 a, .int .u32 b] w fun x w' => x = .returned (.int .u32 (apV 20 a b)) ∧ w = w' := by
  go_enter Try.func31, Try.ntmps31
  go_wp2_with fail
  all_goals
    go_ret
    exact ⟨ret_int (by rw [apV_20]; unfold hs; rfl), rfl⟩
theorem cl21 (a b : Int) (ha0 : 0 ≤ a) (ha1 : a ≤ 4294967295) (hb0 : 0 ≤ b) (hb1 : b ≤ 4294967295) (w : World) :
    Calls Try.prog 32 #[.int .u32 a, .int .u32 b] w fun x w' => x = .returned (.int .u32 (apV 21 a b)) ∧ w = w' := by
  go_enter Try.func32, Try.ntmps32
  go_wp2_with (go_at_call 33; refine (flag_any _ _).mono ?_; rintro e w1 ⟨rfl, rfl⟩)
  go_ret
  exact ⟨ret_int (by rw [apV_21]), rfl⟩
theorem cl22 (a b : Int) (ha0 : 0 ≤ a) (ha1 : a ≤ 4294967295) (hb0 : 0 ≤ b) (hb1 : b ≤ 4294967295) (w : World) :
    Calls Try.prog 34 #[.int .u32 a, .int .u32 b] w fun x w' => x = .returned (.int .u32 (apV 22 a b)) ∧ w = w' := by
  go_enter Try.func34, Try.ntmps34
  go_wp2_with (go_at_call 33; refine (flag_any _ _).mono ?_; rintro e w1 ⟨rfl, rfl⟩)
  go_ret
  exact ⟨ret_int (by rw [apV_22]), rfl⟩
theorem cl23 (a b : Int) (ha0 : 0 ≤ a) (ha1 : a ≤ 4294967295) (hb0 : 0 ≤ b) (hb1 : b ≤ 4294967295) (w : World) :
    Calls Try.prog 35 #[.int .u32 a, .int .u32 b] w fun x w' => x = .returned (.int .u32 (apV 23 a b)) ∧ w = w' := by
  go_enter Try.func35, Try.ntmps35
  go_wp2_with (go_at_call 33; refine (flag_any _ _).mono ?_; rintro e w1 ⟨rfl, rfl⟩)
  go_ret
  exact ⟨ret_int (by rw [apV_23]), rfl⟩
theorem cl24 (a b : Int) (ha0 : 0 ≤ a) (ha1 : a ≤ 4294967295) (hb0 : 0 ≤ b) (hb1 : b ≤ 4294967295) (w : World) :
    Calls Try.prog 36 #[.int .u32 a, .int .u32 b] w fun x w' => x = .returned (.int .u32 (apV 24 a b)) ∧ w = w' := by
  have hv := apV_24 a b
  by_cases h1 : a = 0
  · have e1 : (a != 0) = false := by simp [h1]
    have e2 : (a == 0) = true := by simp [h1]
    rw [e1] at hv
    clear h1
    by_cases h2 : b = 0
    all_goals
      first | have e3 : (b != 0) = false := by simp [h2]
            | have e3 : (b != 0) = true := by simp [h2]
      rw [e3] at hv
      have hv := hidden hv
      clear h2
      go_enter Try.func36, Try.ntmps36
      go_wp2_with (go_at_call 33; refine (flag_any _ _).mono ?_; rintro e w1 ⟨rfl, rfl⟩)
      go_ret
      exact ⟨ret_int (by rw [hv.out]; rfl), rfl⟩
  · have e1 : (a != 0) = true := by simp [h1]
    have e2 : (a == 0) = false := by simp [h1]
    rw [e1] at hv
    clear h1
    by_cases h2 : b = 0
    all_goals
      first | have e3 : (b != 0) = false := by simp [h2]
            | have e3 : (b != 0) = true := by simp [h2]
      rw [e3] at hv
      have hv := hidden hv
      clear h2
      go_enter Try.func36, Try.ntmps36
      go_wp2_with (go_at_call 33; refine (flag_any _ _).mono ?_; rintro e w1 ⟨rfl, rfl⟩)
      go_ret
      exact ⟨ret_int (by rw [hv.out]; rfl), rfl⟩
theorem cl25 (a b : Int) (ha0 : 0 ≤ a) (ha1 : a ≤ 4294967295) (hb0 : 0 ≤ b) (hb1 : b ≤ 4294967295) (w : World) :
    Calls Try.prog 37 #[.int .u32 a, .int .u32 b] w fun x w' => x = .returned (.int .u32 (apV 25 a b)) ∧ w = w' := by
  have hv := apV_25 a b
  by_cases h1 : a = 0
  · have e1 : (a != 0) = false := by simp [h1]
    have e2 : (a == 0) = true := by simp [h1]
    rw [e1] at hv
    clear h1
    by_cases h2 : b = 0
    all_goals
      first | have e3 : (b != 0) = false := by simp [h2]
            | have e3 : (b != 0) = true := by simp [h2]
      rw [e3] at hv
      have hv := hidden hv
      clear h2
      go_enter Try.func37, Try.ntmps37
      go_wp2_with (go_at_call 33; refine (flag_any _ _).mono ?_; rintro e w1 ⟨rfl, rfl⟩)
      go_ret
      exact ⟨ret_int (by rw [hv.out]; rfl), rfl⟩
  · have e1 : (a != 0) = true := by simp [h1]
    have e2 : (a == 0) = false := by simp [h1]
    rw [e1] at hv
    clear h1
    by_cases h2 : b = 0
    all_goals
      first | have e3 : (b != 0) = false := by simp [h2]
            | have e3 : (b != 0) = true := by simp [h2]
      rw [e3] at hv
      have hv := hidden hv
      clear h2
      go_enter Try.func37, Try.ntmps37
      go_wp2_with (go_at_call 33; refine (flag_any _ _).mono ?_; rintro e w1 ⟨rfl, rfl⟩)
      go_ret
      exact ⟨ret_int (by rw [hv.out]; rfl), rfl⟩
theorem cl26 (a b : Int) (ha0 : 0 ≤ a) (ha1 : a ≤ 4294967295) (hb0 : 0 ≤ b) (hb1 : b ≤ 4294967295) (w : World) :
    Calls Try.prog 38 #[.int .u32 a, .int .u32 b] w fun x w' => x = .returned (.int .u32 (apV 26 a b)) ∧ w = w' := by
  go_enter Try.func38, Try.ntmps38
  go_wp2_with (go_at_call 33; refine (flag_any _ _).mono ?_; rintro e w1 ⟨rfl, rfl⟩)
  go_ret
  exact ⟨ret_int (by rw [apV_26]), rfl⟩
end Go.Proofs.Ytgjjklajipekdaa

/- Apply of layer 15, operation by operation. -/
namespace Go.Proofs.Ytgjjklajipekdaa
open Go.RowKit
set_option linter.unusedVariables false


set_option maxHeartbeats 400000 in
theorem iapply8 (a b : Int) (ha0 : 0 ≤ a) (ha1 : a ≤ 4294967295) (hb0 : 0 ≤ b) (hb1 : b ≤ 4294967295) (w : World) :
    Calls Try.prog 5 #[.int .i64 8, .int .u32 a, .int .u32 b] w fun x w' => x = .returned (.tuple #[.int .u32 (apF 8 a b).1, .int .i64 (apF 8 a b).2]) ∧ Ext w w' := by
  have hlk := comb_look w 8 (.func (.func 19) #[] #[]) rfl
  have hX : Ext w (w.alloc (tblObj combT)) := (Ext.refl w).alloc _
  rw [apF_in (by omega) (by omega) (by omega)]
  by_cases hb : b = 0
  · subst hb
    go_enter Try.func5, Try.ntmps5
    go_wp2_with fail
    refine (comb_any _).mono ?_
    rintro e w1 ⟨rfl, rfl⟩
    obtain ⟨W, hW⟩ : ∃ W, w.alloc (tblObj combT) = W := ⟨_, rfl⟩
    rw [hW] at hlk hX ⊢
    clear hW
    go_wp2_with fail
    refine (cl8 a 0 ha0 ha1 (by omega) (by omega) _).mono ?_
    rintro e w1 ⟨rfl, rfl⟩
    go_wp2_with fail
    go_ret2
    exact ⟨rfl, hX⟩
  · have hb' : (b == 0) = false := by simp [hb]
    clear hb
    go_enter Try.func5, Try.ntmps5
    go_wp2_with fail
    refine (comb_any _).mono ?_
    rintro e w1 ⟨rfl, rfl⟩
    obtain ⟨W, hW⟩ : ∃ W, w.alloc (tblObj combT) = W := ⟨_, rfl⟩
    rw [hW] at hlk hX ⊢
    clear hW
    go_wp2_with fail
    refine (cl8 a b ha0 ha1 hb0 hb1 _).mono ?_
    rintro e w1 ⟨rfl, rfl⟩
    go_wp2_with fail
    go_ret2
    exact ⟨rfl, hX⟩
set_option maxHeartbeats 400000 in
theorem iapply9 (a b : Int) (ha0 : 0 ≤ a) (ha1 : a ≤ 4294967295) (hb0 : 0 ≤ b) (hb1 : b ≤ 4294967295) (w : World) :
    Calls Try.prog 5 #[.int .i64 9, .int .u32 a, .int .u32 b] w fun x w' => x = .returned (.tuple #[.int .u32 (apF 9 a b).1, .int .i64 (apF 9 a b).2]) ∧ Ext w w' := by
  have hlk := comb_look w 9 (.func (.func 20) #[] #[]) rfl
  have hX : Ext w (w.alloc (tblObj combT)) := (Ext.refl w).alloc _
  rw [apF_in (by omega) (by omega) (by omega)]
  by_cases hb : b = 0
  · subst hb
    go_enter Try.func5, Try.ntmps5
    go_wp2_with fail
    refine (comb_any _).mono ?_
    rintro e w1 ⟨rfl, rfl⟩
    obtain ⟨W, hW⟩ : ∃ W, w.alloc (tblObj combT) = W := ⟨_, rfl⟩
    rw [hW] at hlk hX ⊢
    clear hW
    go_wp2_with fail
    refine (cl9 a 0 ha0 ha1 (by omega) (by omega) _).mono ?_
    rintro e w1 ⟨rfl, rfl⟩
    go_wp2_with fail
    go_ret2
    exact ⟨rfl, hX⟩
  · have hb' : (b == 0) = false := by simp [hb]
    clear hb
    go_enter Try.func5, Try.ntmps5
    go_wp2_with fail
    refine (comb_any _).mono ?_
    rintro e w1 ⟨rfl, rfl⟩
    obtain ⟨W, hW⟩ : ∃ W, w.alloc (tblObj combT) = W := ⟨_, rfl⟩
    rw [hW] at hlk hX ⊢
    clear hW
    go_wp2_with fail
    refine (cl9 a b ha0 ha1 hb0 hb1 _).mono ?_
    rintro e w1 ⟨rfl, rfl⟩
    go_wp2_with fail
    go_ret2
    exact ⟨rfl, hX⟩
set_option maxHeartbeats 400000 in
theorem iapply10 (a b : Int) (ha0 : 0 ≤ a) (ha1 : a ≤ 4294967295) (hb0 : 0 ≤ b) (hb1 : b ≤ 4294967295) (w : World) :
    Calls Try.prog 5 #[.int .i64 10, .int .u32 a, .int .u32 b] w fun x w' => x = .returned (.tuple #[.int .u32 (apF 10 a b).1, .int .i64 (apF 10 a b).2]) ∧ Ext w w' := by
  have hlk := comb_look w 10 (.func (.func 21) #[] #[]) rfl
  have hX : Ext w (w.alloc (tblObj combT)) := (Ext.refl w).alloc _
  rw [apF_in (by omega) (by omega) (by omega)]
  by_cases hb : b = 0
  · subst hb
    go_enter Try.func5, Try.ntmps5
    go_wp2_with fail
    refine (comb_any _).mono ?_
    rintro e w1 ⟨rfl, rfl⟩
    obtain ⟨W, hW⟩ : ∃ W, w.alloc (tblObj combT) = W := ⟨_, rfl⟩
    rw [hW] at hlk hX ⊢
    clear hW
    go_wp2_with fail
    refine (cl10 a 0 ha0 ha1 (by omega) (by omega) _).mono ?_
    rintro e w1 ⟨rfl, rfl⟩
    go_wp2_with fail
    go_ret2
    exact ⟨rfl, hX⟩
  · have hb' : (b == 0) = false := by simp [hb]
    clear hb
    go_enter Try.func5, Try.ntmps5
    go_wp2_with fail
    refine (comb_any _).mono ?_
    rintro e w1 ⟨rfl, rfl⟩
    obtain ⟨W, hW⟩ : ∃ W, w.alloc (tblObj combT) = W := ⟨_, rfl⟩
    rw [hW] at hlk hX ⊢
    clear hW
    go_wp2_with fail
    refine (cl10 a b ha0 ha1 hb0 hb1 _).mono ?_
    rintro e w1 ⟨rfl, rfl⟩
    go_wp2_with fail
    go_ret2
    exact ⟨rfl, hX⟩
set_option maxHeartbeats 400000 in
theorem iapply11 (a b : Int) (ha0 : 0 ≤ a) (ha1 : a ≤ 4294967295) (hb0 : 0 ≤ b) (hb1 : b ≤ 4294967295) (w : World) :
    Calls Try.prog 5 #[.int .i64 11, .int .u32 a, .int .u32 b] w fun x w' => x = .returned (.tuple #[.int .u32 (apF 11 a b).1, .int .i64 (apF 11 a b).2]) ∧ Ext w w' := by
  have hlk := comb_look w 11 (.func (.func 22) #[] #[]) rfl
  have hX : Ext w (w.alloc (tblObj combT)) := (Ext.refl w).alloc _
  by_cases hb : b = 0
  · rw [apF_div hb (by omega)]
    have hb' : (b == 0) = true := by simp [hb]
    clear hb
    go_enter Try.func5, Try.ntmps5
    go_wp2_with fail
    refine (comb_any _).mono ?_
    rintro e w1 ⟨rfl, rfl⟩
    obtain ⟨W, hW⟩ : ∃ W, w.alloc (tblObj combT) = W := ⟨_, rfl⟩
    rw [hW] at hlk hX ⊢
    clear hW
    go_wp2_with fail
    go_ret2
    exact ⟨rfl, hX⟩
  · rw [apF_in (by omega) (by omega) (by omega)]
    have hb' : (b == 0) = false := by simp [hb]
    have hp : 0 < b := by omega
    clear hb
    go_enter Try.func5, Try.ntmps5
    go_wp2_with fail
    refine (comb_any _).mono ?_
    rintro e w1 ⟨rfl, rfl⟩
    obtain ⟨W, hW⟩ : ∃ W, w.alloc (tblObj combT) = W := ⟨_, rfl⟩
    rw [hW] at hlk hX ⊢
    clear hW
    go_wp2_with fail
    refine (cl11 _ _ ha0 ha1 (by omega) (by omega) hp _).mono ?_
    rintro e w1 ⟨rfl, rfl⟩
    go_wp2_with fail
    go_ret2
    exact ⟨rfl, hX⟩
set_option maxHeartbeats 400000 in
theorem iapply12 (a b : Int) (ha0 : 0 ≤ a) (ha1 : a ≤ 4294967295) (hb0 : 0 ≤ b) (hb1 : b ≤ 4294967295) (w : World) :
    Calls Try.prog 5 #[.int .i64 12, .int .u32 a, .int .u32 b] w fun x w' => x = .returned (.tuple #[.int .u32 (apF 12 a b).1, .int .i64 (apF 12 a b).2]) ∧ Ext w w' := by
  have hlk := comb_look w 12 (.func (.func 23) #[] #[]) rfl
  have hX : Ext w (w.alloc (tblObj combT)) := (Ext.refl w).alloc _
  by_cases hb : b = 0
  · rw [apF_div hb (by omega)]
    have hb' : (b == 0) = true := by simp [hb]
    clear hb
    go_enter Try.func5, Try.ntmps5
    go_wp2_with fail
    refine (comb_any _).mono ?_
    rintro e w1 ⟨rfl, rfl⟩
    obtain ⟨W, hW⟩ : ∃ W, w.alloc (tblObj combT) = W := ⟨_, rfl⟩
    rw [hW] at hlk hX ⊢
    clear hW
    go_wp2_with fail
    go_ret2
    exact ⟨rfl, hX⟩
  · rw [apF_in (by omega) (by omega) (by omega)]
    have hb' : (b == 0) = false := by simp [hb]
    have hp : 0 < b := by omega
    clear hb
    go_enter Try.func5, Try.ntmps5
    go_wp2_with fail
    refine (comb_any _).mono ?_
    rintro e w1 ⟨rfl, rfl⟩
    obtain ⟨W, hW⟩ : ∃ W, w.alloc (tblObj combT) = W := ⟨_, rfl⟩
    rw [hW] at hlk hX ⊢
    clear hW
    go_wp2_with fail
    refine (cl12 _ _ ha0 ha1 (by omega) (by omega) hp _).mono ?_
    rintro e w1 ⟨rfl, rfl⟩
    go_wp2_with fail
    go_ret2
    exact ⟨rfl, hX⟩
set_option maxHeartbeats 400000 in
theorem iapply13 (a b : Int) (ha0 : 0 ≤ a) (ha1 : a ≤ 4294967295) (hb0 : 0 ≤ b) (hb1 : b ≤ 4294967295) (w : World) :
    Calls Try.prog 5 #[.int .i64 13, .int .u32 a, .int .u32 b] w fun x w' => x = .returned (.tuple #[.int .u32 (apF 13 a b).1, .int .i64 (apF 13 a b).2]) ∧ Ext w w' := by
  have hlk := comb_look w 13 (.func (.func 24) #[] #[]) rfl
  have hX : Ext w (w.alloc (tblObj combT)) := (Ext.refl w).alloc _
  rw [apF_in (by omega) (by omega) (by omega)]
  by_cases hb : b = 0
  · subst hb
    go_enter Try.func5, Try.ntmps5
    go_wp2_with fail
    refine (comb_any _).mono ?_
    rintro e w1 ⟨rfl, rfl⟩
    obtain ⟨W, hW⟩ : ∃ W, w.alloc (tblObj combT) = W := ⟨_, rfl⟩
    rw [hW] at hlk hX ⊢
    clear hW
    go_wp2_with fail
    refine (cl13 a 0 ha0 ha1 (by omega) (by omega) _).mono ?_
    rintro e w1 ⟨rfl, rfl⟩
    go_wp2_with fail
    go_ret2
    exact ⟨rfl, hX⟩
  · have hb' : (b == 0) = false := by simp [hb]
    clear hb
    go_enter Try.func5, Try.ntmps5
    go_wp2_with fail
    refine (comb_any _).mono ?_
    rintro e w1 ⟨rfl, rfl⟩
    obtain ⟨W, hW⟩ : ∃ W, w.alloc (tblObj combT) = W := ⟨_, rfl⟩
    rw [hW] at hlk hX ⊢
    clear hW
    go_wp2_with fail
    refine (cl13 a b ha0 ha1 hb0 hb1 _).mono ?_
    rintro e w1 ⟨rfl, rfl⟩
    go_wp2_with fail
    go_ret2
    exact ⟨rfl, hX⟩
set_option maxHeartbeats 400000 in
theorem iapply14 (a b : Int) (ha0 : 0 ≤ a) (ha1 : a ≤ 4294967295) (hb0 : 0 ≤ b) (hb1 : b ≤ 4294967295) (w : World) :
    Calls Try.prog 5 #[.int .i64 14, .int .u32 a, .int .u32 b] w fun x w' => x = .returned (.tuple #[.int .u32 (apF 14 a b).1, .int .i64 (apF 14 a b).2]) ∧ Ext w w' := by
  have hlk := comb_look w 14 (.func (.func 25) #[] #[]) rfl
  have hX : Ext w (w.alloc (tblObj combT)) := (Ext.refl w).alloc _
  rw [apF_in (by omega) (by omega) (by omega)]
  by_cases hb : b = 0
  · subst hb
    go_enter Try.func5, Try.ntmps5
    go_wp2_with fail
    refine (comb_any _).mono ?_
    rintro e w1 ⟨rfl, rfl⟩
    obtain ⟨W, hW⟩ : ∃ W, w.alloc (tblObj combT) = W := ⟨_, rfl⟩
    rw [hW] at hlk hX ⊢
    clear hW
    go_wp2_with fail
    refine (cl14 a 0 ha0 ha1 (by omega) (by omega) _).mono ?_
    rintro e w1 ⟨rfl, rfl⟩
    go_wp2_with fail
    go_ret2
    exact ⟨rfl, hX⟩
  · have hb' : (b == 0) = false := by simp [hb]
    clear hb
    go_enter Try.func5, Try.ntmps5
    go_wp2_with fail
    refine (comb_any _).mono ?_
    rintro e w1 ⟨rfl, rfl⟩
    obtain ⟨W, hW⟩ : ∃ W, w.alloc (tblObj combT) = W := ⟨_, rfl⟩
    rw [hW] at hlk hX ⊢
    clear hW
    go_wp2_with fail
    refine (cl14 a b ha0 ha1 hb0 hb1 _).mono ?_
    rintro e w1 ⟨rfl, rfl⟩
    go_wp2_with fail
    go_ret2
    exact ⟨rfl, hX⟩
end Go.Proofs.Ytgjjklajipekdaa

/- Apply of layer 15, operation by operation. -/
namespace Go.Proofs.Ytgjjklajipekdaa
open Go.RowKit
set_option linter.unusedVariables false


set_option maxHeartbeats 400000 in
theorem iapply15 (a b : Int) (ha0 : 0 ≤ a) (ha1 : a ≤ 4294967295) (hb0 : 0 ≤ b) (hb1 : b ≤ 4294967295) (w : World) :
    Calls Try.prog 5 #[.int .i64 15, .int .u32 a, .int .u32 b] w fun x w' => x = .returned (.tuple #[.int .u32 (apF 15 a b).1, .int .i64 (apF 15 a b).2]) ∧ Ext w w' := by
  have hlk := comb_look w 15 (.func (.func 26) #[] #[]) rfl
  have hX : Ext w (w.alloc (tblObj combT)) := (Ext.refl w).alloc _
  rw [apF_in (by omega) (by omega) (by omega)]
  by_cases hb : b = 0
  · subst hb
    go_enter Try.func5, Try.ntmps5
    go_wp2_with fail
    refine (comb_any _).mono ?_
    rintro e w1 ⟨rfl, rfl⟩
    obtain ⟨W, hW⟩ : ∃ W, w.alloc (tblObj combT) = W := ⟨_, rfl⟩
    rw [hW] at hlk hX ⊢
    clear hW
    go_wp2_with fail
    refine (cl15 a 0 ha0 ha1 (by omega) (by omega) _).mono ?_
    rintro e w1 ⟨rfl, rfl⟩
    go_wp2_with fail
    go_ret2
    exact ⟨rfl, hX⟩
  · have hb' : (b == 0) = false := by simp [hb]
    clear hb
    go_enter Try.func5, Try.ntmps5
    go_wp2_with fail
    refine (comb_any _).mono ?_
    rintro e w1 ⟨rfl, rfl⟩
    obtain ⟨W, hW⟩ : ∃ W, w.alloc (tblObj combT) = W := ⟨_, rfl⟩
    rw [hW] at hlk hX ⊢
    clear hW
    go_wp2_with fail
    refine (cl15 a b ha0 ha1 hb0 hb1 _).mono ?_
    rintro e w1 ⟨rfl, rfl⟩
    go_wp2_with fail
    go_ret2
    exact ⟨rfl, hX⟩
set_option maxHeartbeats 400000 in
theorem iapply16 (a b : Int) (ha0 : 0 ≤ a) (ha1 : a ≤ 4294967295) (hb0 : 0 ≤ b) (hb1 : b ≤ 4294967295) (w : World) :
    Calls Try.prog 5 #[.int .i64 16, .int .u32 a, .int .u32 b] w fun x w' => x = .returned (.tuple #[.int .u32 (apF 16 a b).1, .int .i64 (apF 16 a b).2]) ∧ Ext w w' := by
  have hlk := comb_look w 16 (.func (.func 27) #[] #[]) rfl
  have hX : Ext w (w.alloc (tblObj combT)) := (Ext.refl w).alloc _
  rw [apF_in (by omega) (by omega) (by omega)]
  by_cases hb : b = 0
  · subst hb
    go_enter Try.func5, Try.ntmps5
    go_wp2_with fail
    refine (comb_any _).mono ?_
    rintro e w1 ⟨rfl, rfl⟩
    obtain ⟨W, hW⟩ : ∃ W, w.alloc (tblObj combT) = W := ⟨_, rfl⟩
    rw [hW] at hlk hX ⊢
    clear hW
    go_wp2_with fail
    refine (cl16 a 0 ha0 ha1 (by omega) (by omega) _).mono ?_
    rintro e w1 ⟨rfl, rfl⟩
    go_wp2_with fail
    go_ret2
    exact ⟨rfl, hX⟩
  · have hb' : (b == 0) = false := by simp [hb]
    clear hb
    go_enter Try.func5, Try.ntmps5
    go_wp2_with fail
    refine (comb_any _).mono ?_
    rintro e w1 ⟨rfl, rfl⟩
    obtain ⟨W, hW⟩ : ∃ W, w.alloc (tblObj combT) = W := ⟨_, rfl⟩
    rw [hW] at hlk hX ⊢
    clear hW
    go_wp2_with fail
    refine (cl16 a b ha0 ha1 hb0 hb1 _).mono ?_
    rintro e w1 ⟨rfl, rfl⟩
    go_wp2_with fail
    go_ret2
    exact ⟨rfl, hX⟩
set_option maxHeartbeats 400000 in
theorem iapply17 (a b : Int) (ha0 : 0 ≤ a) (ha1 : a ≤ 4294967295) (hb0 : 0 ≤ b) (hb1 : b ≤ 4294967295) (w : World) :
    Calls Try.prog 5 #[.int .i64 17, .int .u32 a, .int .u32 b] w fun x w' => x = .returned (.tuple #[.int .u32 (apF 17 a b).1, .int .i64 (apF 17 a b).2]) ∧ Ext w w' := by
  have hlk := comb_look w 17 (.func (.func 28) #[] #[]) rfl
  have hX : Ext w (w.alloc (tblObj combT)) := (Ext.refl w).alloc _
  rw [apF_in (by omega) (by omega) (by omega)]
  by_cases hb : b = 0
  · subst hb
    go_enter Try.func5, Try.ntmps5
    go_wp2_with fail
    refine (comb_any _).mono ?_
    rintro e w1 ⟨rfl, rfl⟩
    obtain ⟨W, hW⟩ : ∃ W, w.alloc (tblObj combT) = W := ⟨_, rfl⟩
    rw [hW] at hlk hX ⊢
    clear hW
    go_wp2_with fail
    refine (cl17 a 0 ha0 ha1 (by omega) (by omega) _).mono ?_
    rintro e w1 ⟨rfl, rfl⟩
    go_wp2_with fail
    go_ret2
    exact ⟨rfl, hX⟩
  · have hb' : (b == 0) = false := by simp [hb]
    clear hb
    go_enter Try.func5, Try.ntmps5
    go_wp2_with fail
    refine (comb_any _).mono ?_
    rintro e w1 ⟨rfl, rfl⟩
    obtain ⟨W, hW⟩ : ∃ W, w.alloc (tblObj combT) = W := ⟨_, rfl⟩
    rw [hW] at hlk hX ⊢
    clear hW
    go_wp2_with fail
    refine (cl17 a b ha0 ha1 hb0 hb1 _).mono ?_
    rintro e w1 ⟨rfl, rfl⟩
    go_wp2_with fail
    go_ret2
    exact ⟨rfl, hX⟩
set_option maxHeartbeats 400000 in
theorem iapply18 (a b : Int) (ha0 : 0 ≤ a) (ha1 : a ≤ 4294967295) (hb0 : 0 ≤ b) (hb1 : b ≤ 4294967295) (w : World) :
    Calls Try.prog 5 #[.int .i64 18, .int .u32 a, .int .u32 b] w fun x w' => x = .returned (.tuple #[.int .u32 (apF 18 a b).1, .int .i64 (apF 18 a b).2]) ∧ Ext w w' := by
  have hlk := comb_look w 18 (.func (.func 29) #[] #[]) rfl
  have hX : Ext w (w.alloc (tblObj combT)) := (Ext.refl w).alloc _
  rw [apF_in (by omega) (by omega) (by omega)]
  by_cases hb : b = 0
  · subst hb
    go_enter Try.func5, Try.ntmps5
    go_wp2_with fail
    refine (comb_any _).mono ?_
    rintro e w1 ⟨rfl, rfl⟩
    obtain ⟨W, hW⟩ : ∃ W, w.alloc (tblObj combT) = W := ⟨_, rfl⟩
    rw [hW] at hlk hX ⊢
    clear hW
    go_wp2_with fail
    refine (cl18 a 0 ha0 ha1 (by omega) (by omega) _).mono ?_
    rintro e w1 ⟨rfl, rfl⟩
    go_wp2_with fail
    go_ret2
    exact ⟨rfl, hX⟩
  · have hb' : (b == 0) = false := by simp [hb]
    clear hb
    go_enter Try.func5, Try.ntmps5
    go_wp2_with fail
    refine (comb_any _).mono ?_
    rintro e w1 ⟨rfl, rfl⟩
    obtain ⟨W, hW⟩ : ∃ W, w.alloc (tblObj combT) = W := ⟨_, rfl⟩
    rw [hW] at hlk hX ⊢
    clear hW
    go_wp2_with fail
    refine (cl18 a b ha0 ha1 hb0 hb1 _).mono ?_
    rintro e w1 ⟨rfl, rfl⟩
    go_wp2_with fail
    go_ret2
    exact ⟨rfl, hX⟩
set_option maxHeartbeats 400000 in
theorem iapply19 (a b : Int) (ha0 : 0 ≤ a) (ha1 : a ≤ 4294967295) (hb0 : 0 ≤ b) (hb1 : b ≤ 4294967295) (w : World) :
    Calls Try.prog 5 #[.int .i64 19, .int .u32 a, .int .u32 b] w fun x w' => x = .returned (.tuple #[.int .u32 (apF 19 a b).1, .int .i64 (apF 19 a b).2]) ∧ Ext w w' := by
  have hlk := comb_look w 19 (.func (.func 30) #[] #[]) rfl
  have hX : Ext w (w.alloc (tblObj combT)) := (Ext.refl w).alloc _
  rw [apF_in (by omega) (by omega) (by omega)]
  by_cases hb : b = 0
  · subst hb
    go_enter Try.func5, Try.ntmps5
    go_wp2_with fail
    refine (comb_any _).mono ?_
    rintro e w1 ⟨rfl, rfl⟩
    obtain ⟨W, hW⟩ : ∃ W, w.alloc (tblObj combT) = W := ⟨_, rfl⟩
    rw [hW] at hlk hX ⊢
    clear hW
    go_wp2_with fail
    refine (cl19 a 0 ha0 ha1 (by omega) (by omega) _).mono ?_
    rintro e w1 ⟨rfl, rfl⟩
    go_wp2_with fail
    go_ret2
    exact ⟨rfl, hX⟩
  · have hb' : (b == 0) = false := by simp [hb]
    clear hb
    go_enter Try.func5, Try.ntmps5
    go_wp2_with fail
    refine (comb_any _).mono ?_
    rintro e w1 ⟨rfl, rfl⟩
    obtain ⟨W, hW⟩ : ∃ W, w.alloc (tblObj combT) = W := ⟨_, rfl⟩
    rw [hW] at hlk hX ⊢
    clear hW
    go_wp2_with fail
    refine (cl19 a b ha0 ha1 hb0 hb1 _).mono ?_
    rintro e w1 ⟨rfl, rfl⟩
    go_wp2_with fail
    go_ret2
    exact ⟨rfl, hX⟩
set_option maxHeartbeats 400000 in
theorem iapply20 (a b : Int) (ha0 : 0 ≤ a) (ha1 : a ≤ 4294967295) (hb0 : 0 ≤ b) (hb1 : b ≤ 4294967295) (w : World) :
    Calls Try.prog 5 #[.int .i64 20, .int .u32 a, .int .u32 b] w fun x w' => x = .returned (.tuple #[.int .u32 (apF 20 a b).1, .int .i64 (apF 20 a b).2]) ∧ Ext w w' := by
  have hlk := comb_look w 20 (.func (.func 31) #[] #[]) rfl
  have hX : Ext w (w.alloc (tblObj combT)) := (Ext.refl w).alloc _
  rw [apF_in (by omega) (by omega) (by omega)]
  by_cases hb : b = 0
  · subst hb
    go_enter Try.func5, Try.ntmps5
    go_wp2_with fail
    refine (comb_any _).mono ?_
    rintro e w1 ⟨rfl, rfl⟩
    obtain ⟨W, hW⟩ : ∃ W, w.alloc (tblObj combT) = W := ⟨_, rfl⟩
    rw [hW] at hlk hX ⊢
    clear hW
    go_wp2_with fail
    refine (cl20 a 0 ha0 ha1 (by omega) (by omega) _).mono ?_
    rintro e w1 ⟨rfl, rfl⟩
    go_wp2_with fail
    go_ret2
    exact ⟨rfl, hX⟩
  · have hb' : (b == 0) = false := by simp [hb]
    clear hb
    go_enter Try.func5, Try.ntmps5
    go_wp2_with fail
    refine (comb_any _).mono ?_
    rintro e w1 ⟨rfl, rfl⟩
    obtain ⟨W, hW⟩ : ∃ W, w.alloc (tblObj combT) = W := ⟨_, rfl⟩
    rw [hW] at hlk hX ⊢
    clear hW
    go_wp2_with fail
    refine (cl20 a b ha0 ha1 hb0 hb1 _).mono ?_
    rintro e w1 ⟨rfl, rfl⟩
    go_wp2_with fail
    go_ret2
    exact ⟨rfl, hX⟩
end Go.Proofs.Ytgjjklajipekdaa

/- Apply of layer 15, operation by operation. -/
namespace Go.Proofs.Ytgjjklajipekdaa
open Go.RowKit
set_option linter.unusedVariables false


set_option maxHeartbeats 400000 in
theorem iapply21 (a b : Int) (ha0 : 0 ≤ a) (ha1 : a ≤ 4294967295) (hb0 : 0 ≤ b) (hb1 : b ≤ 4294967295) (w : World) :
    Calls Try.prog 5 #[.int .i64 21, .int .u32 a, .int .u32 b] w fun x w' => x = .returned (.tuple #[.int .u32 (apF 21 a b).1, .int .i64 (apF 21 a b).2]) ∧ Ext w w' := by
  have hlk := comb_look w 21 (.func (.func 32) #[] #[]) rfl
  have hX : Ext w (w.alloc (tblObj combT)) := (Ext.refl w).alloc _
  rw [apF_in (by omega) (by omega) (by omega)]
  by_cases hb : b = 0
  · subst hb
    go_enter Try.func5, Try.ntmps5
    go_wp2_with fail
    refine (comb_any _).mono ?_
    rintro e w1 ⟨rfl, rfl⟩
    obtain ⟨W, hW⟩ : ∃ W, w.alloc (tblObj combT) = W := ⟨_, rfl⟩
    rw [hW] at hlk hX ⊢
    clear hW
    go_wp2_with fail
    refine (cl21 a 0 ha0 ha1 (by omega) (by omega) _).mono ?_
    rintro e w1 ⟨rfl, rfl⟩
    go_wp2_with fail
    go_ret2
    exact ⟨rfl, hX⟩
  · have hb' : (b == 0) = false := by simp [hb]
    clear hb
    go_enter Try.func5, Try.ntmps5
    go_wp2_with fail
    refine (comb_any _).mono ?_
    rintro e w1 ⟨rfl, rfl⟩
    obtain ⟨W, hW⟩ : ∃ W, w.alloc (tblObj combT) = W := ⟨_, rfl⟩
    rw [hW] at hlk hX ⊢
    clear hW
    go_wp2_with fail
    refine (cl21 a b ha0 ha1 hb0 hb1 _).mono ?_
    rintro e w1 ⟨rfl, rfl⟩
    go_wp2_with fail
    go_ret2
    exact ⟨rfl, hX⟩
set_option maxHeartbeats 400000 in
theorem iapply22 (a b : Int) (ha0 : 0 ≤ a) (ha1 : a ≤ 4294967295) (hb0 : 0 ≤ b) (hb1 : b ≤ 4294967295) (w : World) :
    Calls Try.prog 5 #[.int .i64 22, .int .u32 a, .int .u32 b] w fun x w' => x = .returned (.tuple #[.int .u32 (apF 22 a b).1, .int .i64 (apF 22 a b).2]) ∧ Ext w w' := by
  have hlk := comb_look w 22 (.func (.func 34) #[] #[]) rfl
  have hX : Ext w (w.alloc (tblObj combT)) := (Ext.refl w).alloc _
  rw [apF_in (by omega) (by omega) (by omega)]
  by_cases hb : b = 0
  · subst hb
    go_enter Try.func5, Try.ntmps5
    go_wp2_with fail
    refine (comb_any _).mono ?_
    rintro e w1 ⟨rfl, rfl⟩
    obtain ⟨W, hW⟩ : ∃ W, w.alloc (tblObj combT) = W := ⟨_, rfl⟩
    rw [hW] at hlk hX ⊢
    clear hW
    go_wp2_with fail
    refine (cl22 a 0 ha0 ha1 (by omega) (by omega) _).mono ?_
    rintro e w1 ⟨rfl, rfl⟩
    go_wp2_with fail
    go_ret2
    exact ⟨rfl, hX⟩
  · have hb' : (b == 0) = false := by simp [hb]
    clear hb
    go_enter Try.func5, Try.ntmps5
    go_wp2_with fail
    refine (comb_any _).mono ?_
    rintro e w1 ⟨rfl, rfl⟩
    obtain ⟨W, hW⟩ : ∃ W, w.alloc (tblObj combT) = W := ⟨_, rfl⟩
    rw [hW] at hlk hX ⊢
    clear hW
    go_wp2_with fail
    refine (cl22 a b ha0 ha1 hb0 hb1 _).mono ?_
    rintro e w1 ⟨rfl, rfl⟩
    go_wp2_with fail
    go_ret2
    exact ⟨rfl, hX⟩
set_option maxHeartbeats 400000 in
theorem iapply23 (a b : Int) (ha0 : 0 ≤ a) (ha1 : a ≤ 4294967295) (hb0 : 0 ≤ b) (hb1 : b ≤ 4294967295) (w : World) :
    Calls Try.prog 5 #[.int .i64 23, .int .u32 a, .int .u32 b] w fun x w' => x = .returned (.tuple #[.int .u32 (apF 23 a b).1, .int .i64 (apF 23 a b).2]) ∧ Ext w w' := by
  have hlk := comb_look w 23 (.func (.func 35) #[] #[]) rfl
  have hX : Ext w (w.alloc (tblObj combT)) := (Ext.refl w).alloc _
  rw [apF_in (by omega) (by omega) (by omega)]
  by_cases hb : b = 0
  · subst hb
    go_enter Try.func5, Try.ntmps5
    go_wp2_with fail
    refine (comb_any _).mono ?_
    rintro e w1 ⟨rfl, rfl⟩
    obtain ⟨W, hW⟩ : ∃ W, w.alloc (tblObj combT) = W := ⟨_, rfl⟩
    rw [hW] at hlk hX ⊢
    clear hW
    go_wp2_with fail
    refine (cl23 a 0 ha0 ha1 (by omega) (by omega) _).mono ?_
    rintro e w1 ⟨rfl, rfl⟩
    go_wp2_with fail
    go_ret2
    exact ⟨rfl, hX⟩
  · have hb' : (b == 0) = false := by simp [hb]
    clear hb
    go_enter Try.func5, Try.ntmps5
    go_wp2_with fail
    refine (comb_any _).mono ?_
    rintro e w1 ⟨rfl, rfl⟩
    obtain ⟨W, hW⟩ : ∃ W, w.alloc (tblObj combT) = W := ⟨_, rfl⟩
    rw [hW] at hlk hX ⊢
    clear hW
    go_wp2_with fail
    refine (cl23 a b ha0 ha1 hb0 hb1 _).mono ?_
    rintro e w1 ⟨rfl, rfl⟩
    go_wp2_with fail
    go_ret2
    exact ⟨rfl, hX⟩
set_option maxHeartbeats 400000 in
theorem iapply24 (a b : Int) (ha0 : 0 ≤ a) (ha1 : a ≤ 4294967295) (hb0 : 0 ≤ b) (hb1 : b ≤ 4294967295) (w : World) :
    Calls Try.prog 5 #[.int .i64 24, .int .u32 a, .int .u32 b] w fun x w' => x = .returned (.tuple #[.int .u32 (apF 24 a b).1, .int .i64 (apF 24 a b).2]) ∧ Ext w w' := by
  have hlk := comb_look w 24 (.func (.func 36) #[] #[]) rfl
  have hX : Ext w (w.alloc (tblObj combT)) := (Ext.refl w).alloc _
  rw [apF_in (by omega) (by omega) (by omega)]
  by_cases hb : b = 0
  · subst hb
    go_enter Try.func5, Try.ntmps5
    go_wp2_with fail
    refine (comb_any _).mono ?_
    rintro e w1 ⟨rfl, rfl⟩
    obtain ⟨W, hW⟩ : ∃ W, w.alloc (tblObj combT) = W := ⟨_, rfl⟩
    rw [hW] at hlk hX ⊢
    clear hW
    go_wp2_with fail
    refine (cl24 a 0 ha0 ha1 (by omega) (by omega) _).mono ?_
    rintro e w1 ⟨rfl, rfl⟩
    go_wp2_with fail
    go_ret2
    exact ⟨rfl, hX⟩
  · have hb' : (b == 0) = false := by simp [hb]
    clear hb
    go_enter Try.func5, Try.ntmps5
    go_wp2_with fail
    refine (comb_any _).mono ?_
    rintro e w1 ⟨rfl, rfl⟩
    obtain ⟨W, hW⟩ : ∃ W, w.alloc (tblObj combT) = W := ⟨_, rfl⟩
    rw [hW] at hlk hX ⊢
    clear hW
    go_wp2_with fail
    refine (cl24 a b ha0 ha1 hb0 hb1 _).mono ?_
    rintro e w1 ⟨rfl, rfl⟩
    go_wp2_with fail
    go_ret2
    exact ⟨rfl, hX⟩
set_option maxHeartbeats 400000 in
theorem iapply25 (a b : Int) (ha0 : 0 ≤ a) (ha1 : a ≤ 4294967295) (hb0 : 0 ≤ b) (hb1 : b ≤ 4294967295) (w : World) :
    Calls Try.prog 5 #[.int .i64 25, .int .u32 a, .int .u32 b] w fun x w' => x = .returned (.tuple #[.int .u32 (apF 25 a b).1, .int .i64 (apF 25 a b).2]) ∧ Ext w w' := by
  have hlk := comb_look w 25 (.func (.func 37) #[] #[]) rfl
  have hX : Ext w (w.alloc (tblObj combT)) := (Ext.refl w).alloc _
  rw [apF_in (by omega) (by omega) (by omega)]
  by_cases hb : b = 0
  · subst hb
    go_enter Try.func5, Try.ntmps5
    go_wp2_with fail
    refine (comb_any _).mono ?_
    rintro e w1 ⟨rfl, rfl⟩
    obtain ⟨W, hW⟩ : ∃ W, w.alloc (tblObj combT) = W := ⟨_, rfl⟩
    rw [hW] at hlk hX ⊢
    clear hW
    go_wp2_with fail
    refine (cl25 a 0 ha0 ha1 (by omega) (by omega) _).mono ?_
    rintro e w1 ⟨rfl, rfl⟩
    go_wp2_with fail
    go_ret2
    exact ⟨rfl, hX⟩
  · have hb' : (b == 0) = false := by simp [hb]
    clear hb
    go_enter Try.func5, Try.ntmps5
    go_wp2_with fail
    refine (comb_any _).mono ?_
    rintro e w1 ⟨rfl, rfl⟩
    obtain ⟨W, hW⟩ : ∃ W, w.alloc (tblObj combT) = W := ⟨_, rfl⟩
    rw [hW] at hlk hX ⊢
    clear hW
    go_wp2_with fail
    refine (cl25 a b ha0 ha1 hb0 hb1 _).mono ?_
    rintro e w1 ⟨rfl, rfl⟩
    go_wp2_with fail
    go_ret2
    exact ⟨rfl, hX⟩
set_option maxHeartbeats 400000 in
theorem iapply26 (a b : Int) (ha0 : 0 ≤ a) (ha1 : a ≤ 4294967295) (hb0 : 0 ≤ b) (hb1 : b ≤ 4294967295) (w : World) :
    Calls Try.prog 5 #[.int .i64 26, .int .u32 a, .int .u32 b] w fun x w' => x = .returned (.tuple #[.int .u32 (apF 26 a b).1, .int .i64 (apF 26 a b).2]) ∧ Ext w w' := by
  have hlk := comb_look w 26 (.func (.func 38) #[] #[]) rfl
  have hX : Ext w (w.alloc (tblObj combT)) := (Ext.refl w).alloc _
  rw [apF_in (by omega) (by omega) (by omega)]
  by_cases hb : b = 0
  · subst hb
    go_enter Try.func5, Try.ntmps5
    go_wp2_with fail
    refine (comb_any _).mono ?_
    rintro e w1 ⟨rfl, rfl⟩
    obtain ⟨W, hW⟩ : ∃ W, w.alloc (tblObj combT) = W := ⟨_, rfl⟩
    rw [hW] at hlk hX ⊢
    clear hW
    go_wp2_with fail
    refine (cl26 a 0 ha0 ha1 (by omega) (by omega) _).mono ?_
    rintro e w1 ⟨rfl, rfl⟩
    go_wp2_with fail
    go_ret2
    exact ⟨rfl, hX⟩
  · have hb' : (b == 0) = false := by simp [hb]
    clear hb
    go_enter Try.func5, Try.ntmps5
    go_wp2_with fail
    refine (comb_any _).mono ?_
    rintro e w1 ⟨rfl, rfl⟩
    obtain ⟨W, hW⟩ : ∃ W, w.alloc (tblObj combT) = W := ⟨_, rfl⟩
    rw [hW] at hlk hX ⊢
    clear hW
    go_wp2_with fail
    refine (cl26 a b ha0 ha1 hb0 hb1 _).mono ?_
    rintro e w1 ⟨rfl, rfl⟩
    go_wp2_with fail
    go_ret2
    exact ⟨rfl, hX⟩
end Go.Proofs.Ytgjjklajipekdaa

/- Apply of layer 15. -/
namespace Go.Proofs.Ytgjjklajipekdaa
open Go.RowKit
set_option linter.unusedVariables false


set_option maxHeartbeats 400000 in
theorem iapply_any (op a b : Int) (ha0 : 0 ≤ a) (ha1 : a ≤ 4294967295) (hb0 : 0 ≤ b) (hb1 : b ≤ 4294967295) (w : World) :
    Calls Try.prog 5 #[.int .i64 op, .int .u32 a, .int .u32 b] w fun x w' => x = .returned (.tuple #[.int .u32 (apF op a b).1, .int .i64 (apF op a b).2]) ∧ Ext w w' := by
  by_cases h : op < 8 ∨ 26 < op
  · rw [apF_out h]
    have hlk := comb_none w op h
    have hX : Ext w (w.alloc (tblObj combT)) := (Ext.refl w).alloc _
    clear h
    go_enter Try.func5, Try.ntmps5
    go_wp2_with fail
    refine (comb_any _).mono ?_
    rintro e w1 ⟨rfl, rfl⟩
    obtain ⟨W, hW⟩ : ∃ W, w.alloc (tblObj combT) = W := ⟨_, rfl⟩
    rw [hW] at hlk hX ⊢
    clear hW
    go_wp2_with fail
    go_ret2
    exact ⟨rfl, hX⟩
  · have hc : op = 8 ∨ op = 9 ∨ op = 10 ∨ op = 11 ∨ op = 12 ∨ op = 13 ∨ op = 14 ∨ op = 15 ∨ op = 16 ∨ op = 17 ∨ op = 18 ∨ op = 19 ∨ op = 20 ∨ op = 21 ∨ op = 22 ∨ op = 23 ∨ op = 24 ∨ op = 25 ∨ op = 26 := by omega
    rcases hc with rfl | rfl | rfl | rfl | rfl | rfl | rfl | rfl | rfl | rfl | rfl | rfl | rfl | rfl | rfl | rfl | rfl | rfl | rfl
    · exact iapply8 a b ha0 ha1 hb0 hb1 w
    · exact iapply9 a b ha0 ha1 hb0 hb1 w
    · exact iapply10 a b ha0 ha1 hb0 hb1 w
    · exact iapply11 a b ha0 ha1 hb0 hb1 w
    · exact iapply12 a b ha0 ha1 hb0 hb1 w
    · exact iapply13 a b ha0 ha1 hb0 hb1 w
    · exact iapply14 a b ha0 ha1 hb0 hb1 w
    · exact iapply15 a b ha0 ha1 hb0 hb1 w
    · exact iapply16 a b ha0 ha1 hb0 hb1 w
    · exact iapply17 a b ha0 ha1 hb0 hb1 w
    · exact iapply18 a b ha0 ha1 hb0 hb1 w
    · exact iapply19 a b ha0 ha1 hb0 hb1 w
    · exact iapply20 a b ha0 ha1 hb0 hb1 w
    · exact iapply21 a b ha0 ha1 hb0 hb1 w
    · exact iapply22 a b ha0 ha1 hb0 hb1 w
    · exact iapply23 a b ha0 ha1 hb0 hb1 w
    · exact iapply24 a b ha0 ha1 hb0 hb1 w
    · exact iapply25 a b ha0 ha1 hb0 hb1 w
    · exact iapply26 a b ha0 ha1 hb0 hb1 w
end Go.Proofs.Ytgjjklajipekdaa
