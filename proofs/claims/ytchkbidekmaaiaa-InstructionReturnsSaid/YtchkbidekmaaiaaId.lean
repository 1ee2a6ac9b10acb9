/- Apply of layer 15, operation by operation. -/
import Derived.Test.YtchkbidekmaaiaaIb
namespace Go.Proofs.Ytchkbidekmaaiaa
open Go.RowKit
set_option linter.unusedVariables false


set_option maxHeartbeats 400000 in
theorem iapply15 (a b : Int) (ha0 : 0 ≤ a) (ha1 : a ≤ 4294967295) (hb0 : 0 ≤ b) (hb1 : b ≤ 4294967295) (w : World) :
    Calls Try.prog 11 #[.int .i64 15, .int .u32 a, .int .u32 b] w fun x w' => x = .returned (.tuple #[.int .u32 (apF 15 a b).1, .int .i64 (apF 15 a b).2]) ∧ Ext w w' := by
  have hlk := comb_look w 15 (.func (.func 55) #[] #[]) rfl
  have hX : Ext w (w.alloc (tblObj combT)) := (Ext.refl w).alloc _
  rw [apF_in (by omega) (by omega) (by omega)]
  by_cases hb : b = 0
  · subst hb
    go_enter Try.func11, Try.ntmps11
    go_wp2_with fail
    refine (comb_any _).mono ?_
    rintro e w1 ⟨rfl, rfl⟩
    obtain ⟨W, hW⟩ : ∃ W, w.alloc (tblObj combT) = W := ⟨_, rfl⟩
    rw [hW] at hlk hX ⊢
    clear hW
    go_wp2_with fail
    refine (cl15 a 0 ha0 ha1 (by omega) (by omega) _).mono ?_
    rintro e w1 ⟨rfl, rfl⟩
    go_wp2_with fail
    go_ret2
    exact ⟨rfl, hX⟩
  · have hb' : (b == 0) = false := by simp [hb]
    clear hb
    go_enter Try.func11, Try.ntmps11
    go_wp2_with fail
    refine (comb_any _).mono ?_
    rintro e w1 ⟨rfl, rfl⟩
    obtain ⟨W, hW⟩ : ∃ W, w.alloc (tblObj combT) = W := ⟨_, rfl⟩
    rw [hW] at hlk hX ⊢
    clear hW
    go_wp2_with fail
    refine (cl15 a b ha0 ha1 hb0 hb1 _).mono ?_
    rintro e w1 ⟨rfl, rfl⟩
    go_wp2_with fail
    go_ret2
    exact ⟨rfl, hX⟩
set_option maxHeartbeats 400000 in
theorem iapply16 (a b : Int) (ha0 : 0 ≤ a) (ha1 : a ≤ 4294967295) (hb0 : 0 ≤ b) (hb1 : b ≤ 4294967295) (w : World) :
    Calls Try.prog 11 #[.int .i64 16, .int .u32 a, .int .u32 b] w fun x w' => x = .returned (.tuple #[.int .u32 (apF 16 a b).1, .int .i64 (apF 16 a b).2]) ∧ Ext w w' := by
  have hlk := comb_look w 16 (.func (.func 56) #[] #[]) rfl
  have hX : Ext w (w.alloc (tblObj combT)) := (Ext.refl w).alloc _
  rw [apF_in (by omega) (by omega) (by omega)]
  by_cases hb : b = 0
  · subst hb
    go_enter Try.func11, Try.ntmps11
    go_wp2_with fail
    refine (comb_any _).mono ?_
    rintro e w1 ⟨rfl, rfl⟩
    obtain ⟨W, hW⟩ : ∃ W, w.alloc (tblObj combT) = W := ⟨_, rfl⟩
    rw [hW] at hlk hX ⊢
    clear hW
    go_wp2_with fail
    refine (cl16 a 0 ha0 ha1 (by omega) (by omega) _).mono ?_
    rintro e w1 ⟨rfl, rfl⟩
    go_wp2_with fail
    go_ret2
    exact ⟨rfl, hX⟩
  · have hb' : (b == 0) = false := by simp [hb]
    clear hb
    go_enter Try.func11, Try.ntmps11
    go_wp2_with fail
    refine (comb_any _).mono ?_
    rintro e w1 ⟨rfl, rfl⟩
    obtain ⟨W, hW⟩ : ∃ W, w.alloc (tblObj combT) = W := ⟨_, rfl⟩
    rw [hW] at hlk hX ⊢
    clear hW
    go_wp2_with fail
    refine (cl16 a b ha0 ha1 hb0 hb1 _).mono ?_
    rintro e w1 ⟨rfl, rfl⟩
    go_wp2_with fail
    go_ret2
    exact ⟨rfl, hX⟩
set_option maxHeartbeats 400000 in
theorem iapply17 (a b : Int) (ha0 : 0 ≤ a) (ha1 : a ≤ 4294967295) (hb0 : 0 ≤ b) (hb1 : b ≤ 4294967295) (w : World) :
    Calls Try.prog 11 #[.int .i64 17, .int .u32 a, .int .u32 b] w fun x w' => x = .returned (.tuple #[.int .u32 (apF 17 a b).1, .int .i64 (apF 17 a b).2]) ∧ Ext w w' := by
  have hlk := comb_look w 17 (.func (.func 57) #[] #[]) rfl
  have hX : Ext w (w.alloc (tblObj combT)) := (Ext.refl w).alloc _
  rw [apF_in (by omega) (by omega) (by omega)]
  by_cases hb : b = 0
  · subst hb
    go_enter Try.func11, Try.ntmps11
    go_wp2_with fail
    refine (comb_any _).mono ?_
    rintro e w1 ⟨rfl, rfl⟩
    obtain ⟨W, hW⟩ : ∃ W, w.alloc (tblObj combT) = W := ⟨_, rfl⟩
    rw [hW] at hlk hX ⊢
    clear hW
    go_wp2_with fail
    refine (cl17 a 0 ha0 ha1 (by omega) (by omega) _).mono ?_
    rintro e w1 ⟨rfl, rfl⟩
    go_wp2_with fail
    go_ret2
    exact ⟨rfl, hX⟩
  · have hb' : (b == 0) = false := by simp [hb]
    clear hb
    go_enter Try.func11, Try.ntmps11
    go_wp2_with fail
    refine (comb_any _).mono ?_
    rintro e w1 ⟨rfl, rfl⟩
    obtain ⟨W, hW⟩ : ∃ W, w.alloc (tblObj combT) = W := ⟨_, rfl⟩
    rw [hW] at hlk hX ⊢
    clear hW
    go_wp2_with fail
    refine (cl17 a b ha0 ha1 hb0 hb1 _).mono ?_
    rintro e w1 ⟨rfl, rfl⟩
    go_wp2_with fail
    go_ret2
    exact ⟨rfl, hX⟩
set_option maxHeartbeats 400000 in
theorem iapply18 (a b : Int) (ha0 : 0 ≤ a) (ha1 : a ≤ 4294967295) (hb0 : 0 ≤ b) (hb1 : b ≤ 4294967295) (w : World) :
    Calls Try.prog 11 #[.int .i64 18, .int .u32 a, .int .u32 b] w fun x w' => x = .returned (.tuple #[.int .u32 (apF 18 a b).1, .int .i64 (apF 18 a b).2]) ∧ Ext w w' := by
  have hlk := comb_look w 18 (.func (.func 58) #[] #[]) rfl
  have hX : Ext w (w.alloc (tblObj combT)) := (Ext.refl w).alloc _
  rw [apF_in (by omega) (by omega) (by omega)]
  by_cases hb : b = 0
  · subst hb
    go_enter Try.func11, Try.ntmps11
    go_wp2_with fail
    refine (comb_any _).mono ?_
    rintro e w1 ⟨rfl, rfl⟩
    obtain ⟨W, hW⟩ : ∃ W, w.alloc (tblObj combT) = W := ⟨_, rfl⟩
    rw [hW] at hlk hX ⊢
    clear hW
    go_wp2_with fail
    refine (cl18 a 0 ha0 ha1 (by omega) (by omega) _).mono ?_
    rintro e w1 ⟨rfl, rfl⟩
    go_wp2_with fail
    go_ret2
    exact ⟨rfl, hX⟩
  · have hb' : (b == 0) = false := by simp [hb]
    clear hb
    go_enter Try.func11, Try.ntmps11
    go_wp2_with fail
    refine (comb_any _).mono ?_
    rintro e w1 ⟨rfl, rfl⟩
    obtain ⟨W, hW⟩ : ∃ W, w.alloc (tblObj combT) = W := ⟨_, rfl⟩
    rw [hW] at hlk hX ⊢
    clear hW
    go_wp2_with fail
    refine (cl18 a b ha0 ha1 hb0 hb1 _).mono ?_
    rintro e w1 ⟨rfl, rfl⟩
    go_wp2_with fail
    go_ret2
    exact ⟨rfl, hX⟩
set_option maxHeartbeats 400000 in
theorem iapply19 (a b : Int) (ha0 : 0 ≤ a) (ha1 : a ≤ 4294967295) (hb0 : 0 ≤ b) (hb1 : b ≤ 4294967295) (w : World) :
    Calls Try.prog 11 #[.int .i64 19, .int .u32 a, .int .u32 b] w fun x w' => x = .returned (.tuple #[.int .u32 (apF 19 a b).1, .int .i64 (apF 19 a b).2]) ∧ Ext w w' := by
  have hlk := comb_look w 19 (.func (.func 59) #[] #[]) rfl
  have hX : Ext w (w.alloc (tblObj combT)) := (Ext.refl w).alloc _
  rw [apF_in (by omega) (by omega) (by omega)]
  by_cases hb : b = 0
  · subst hb
    go_enter Try.func11, Try.ntmps11
    go_wp2_with fail
    refine (comb_any _).mono ?_
    rintro e w1 ⟨rfl, rfl⟩
    obtain ⟨W, hW⟩ : ∃ W, w.alloc (tblObj combT) = W := ⟨_, rfl⟩
    rw [hW] at hlk hX ⊢
    clear hW
    go_wp2_with fail
    refine (cl19 a 0 ha0 ha1 (by omega) (by omega) _).mono ?_
    rintro e w1 ⟨rfl, rfl⟩
    go_wp2_with fail
    go_ret2
    exact ⟨rfl, hX⟩
  · have hb' : (b == 0) = false := by simp [hb]
    clear hb
    go_enter Try.func11, Try.ntmps11
    go_wp2_with fail
    refine (comb_any _).mono ?_
    rintro e w1 ⟨rfl, rfl⟩
    obtain ⟨W, hW⟩ : ∃ W, w.alloc (tblObj combT) = W := ⟨_, rfl⟩
    rw [hW] at hlk hX ⊢
    clear hW
    go_wp2_with fail
    refine (cl19 a b ha0 ha1 hb0 hb1 _).mono ?_
    rintro e w1 ⟨rfl, rfl⟩
    go_wp2_with fail
    go_ret2
    exact ⟨rfl, hX⟩
set_option maxHeartbeats 400000 in
theorem iapply20 (a b : Int) (ha0 : 0 ≤ a) (ha1 : a ≤ 4294967295) (hb0 : 0 ≤ b) (hb1 : b ≤ 4294967295) (w : World) :
    Calls Try.prog 11 #[.int .i64 20, .int .u32 a, .int .u32 b] w fun x w' => x = .returned (.tuple #[.int .u32 (apF 20 a b).1, .int .i64 (apF 20 a b).2]) ∧ Ext w w' := by
  have hlk := comb_look w 20 (.func (.func 60) #[] #[]) rfl
  have hX : Ext w (w.alloc (tblObj combT)) := (Ext.refl w).alloc _
  rw [apF_in (by omega) (by omega) (by omega)]
  by_cases hb : b = 0
  · subst hb
    go_enter Try.func11, Try.ntmps11
    go_wp2_with fail
    refine (comb_any _).mono ?_
    rintro e w1 ⟨rfl, rfl⟩
    obtain ⟨W, hW⟩ : ∃ W, w.alloc (tblObj combT) = W := ⟨_, rfl⟩
    rw [hW] at hlk hX ⊢
    clear hW
    go_wp2_with fail
    refine (cl20 a 0 ha0 ha1 (by omega) (by omega) _).mono ?_
    rintro e w1 ⟨rfl, rfl⟩
    go_wp2_with fail
    go_ret2
    exact ⟨rfl, hX⟩
  · have hb' : (b == 0) = false := by simp [hb]
    clear hb
    go_enter Try.func11, Try.ntmps11
    go_wp2_with fail
    refine (comb_any _).mono ?_
    rintro e w1 ⟨rfl, rfl⟩
    obtain ⟨W, hW⟩ : ∃ W, w.alloc (tblObj combT) = W := ⟨_, rfl⟩
    rw [hW] at hlk hX ⊢
    clear hW
    go_wp2_with fail
    refine (cl20 a b ha0 ha1 hb0 hb1 _).mono ?_
    rintro e w1 ⟨rfl, rfl⟩
    go_wp2_with fail
    go_ret2
    exact ⟨rfl, hX⟩
end Go.Proofs.Ytchkbidekmaaiaa
