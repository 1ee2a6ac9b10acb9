/- Apply of layer 15, operation by operation. -/
import Derived.Test.YtchkbidekmaaiaaIb
namespace Go.Proofs.Ytchkbidekmaaiaa
open Go.RowKit
set_option linter.unusedVariables false


set_option maxHeartbeats 400000 in
theorem iapply21 (a b : Int) (ha0 : 0 ≤ a) (ha1 : a ≤ 4294967295) (hb0 : 0 ≤ b) (hb1 : b ≤ 4294967295) (w : World) :
    Calls Try.prog 11 #[.int .i64 21, .int .u32 a, .int .u32 b] w fun x w' => x = .returned (.tuple #[.int .u32 (apF 21 a b).1, .int .i64 (apF 21 a b).2]) ∧ Ext w w' := by
  have hlk := comb_look w 21 (.func (.func 61) #[] #[]) rfl
  have hX : Ext w (w.alloc (tblObj combT)) := (Ext.refl w).alloc _
  rw [apF_in (by omega) (by omega) (by omega)]
  by_cases hb : b = 0
  · subst hb
    go_enter Try.func11, Try.ntmps11
    go_wp2_with fail
    refine (comb_any _).mono ?_
    rintro e w1 ⟨rfl, rfl⟩
    obtain ⟨W, hW⟩ : ∃ W, w.alloc (tblObj combT) = W := ⟨_, rfl⟩
    rw [hW] at hlk hX ⊢
    clear hW
    go_wp2_with fail
    refine (cl21 a 0 ha0 ha1 (by omega) (by omega) _).mono ?_
    rintro e w1 ⟨rfl, rfl⟩
    go_wp2_with fail
    go_ret2
    exact ⟨rfl, hX⟩
  · have hb' : (b == 0) = false := by simp [hb]
    clear hb
    go_enter Try.func11, Try.ntmps11
    go_wp2_with fail
    refine (comb_any _).mono ?_
    rintro e w1 ⟨rfl, rfl⟩
    obtain ⟨W, hW⟩ : ∃ W, w.alloc (tblObj combT) = W := ⟨_, rfl⟩
    rw [hW] at hlk hX ⊢
    clear hW
    go_wp2_with fail
    refine (cl21 a b ha0 ha1 hb0 hb1 _).mono ?_
    rintro e w1 ⟨rfl, rfl⟩
    go_wp2_with fail
    go_ret2
    exact ⟨rfl, hX⟩
set_option maxHeartbeats 400000 in
theorem iapply22 (a b : Int) (ha0 : 0 ≤ a) (ha1 : a ≤ 4294967295) (hb0 : 0 ≤ b) (hb1 : b ≤ 4294967295) (w : World) :
    Calls Try.prog 11 #[.int .i64 22, .int .u32 a, .int .u32 b] w fun x w' => x = .returned (.tuple #[.int .u32 (apF 22 a b).1, .int .i64 (apF 22 a b).2]) ∧ Ext w w' := by
  have hlk := comb_look w 22 (.func (.func 62) #[] #[]) rfl
  have hX : Ext w (w.alloc (tblObj combT)) := (Ext.refl w).alloc _
  rw [apF_in (by omega) (by omega) (by omega)]
  by_cases hb : b = 0
  · subst hb
    go_enter Try.func11, Try.ntmps11
    go_wp2_with fail
    refine (comb_any _).mono ?_
    rintro e w1 ⟨rfl, rfl⟩
    obtain ⟨W, hW⟩ : ∃ W, w.alloc (tblObj combT) = W := ⟨_, rfl⟩
    rw [hW] at hlk hX ⊢
    clear hW
    go_wp2_with fail
    refine (cl22 a 0 ha0 ha1 (by omega) (by omega) _).mono ?_
    rintro e w1 ⟨rfl, rfl⟩
    go_wp2_with fail
    go_ret2
    exact ⟨rfl, hX⟩
  · have hb' : (b == 0) = false := by simp [hb]
    clear hb
    go_enter Try.func11, Try.ntmps11
    go_wp2_with fail
    refine (comb_any _).mono ?_
    rintro e w1 ⟨rfl, rfl⟩
    obtain ⟨W, hW⟩ : ∃ W, w.alloc (tblObj combT) = W := ⟨_, rfl⟩
    rw [hW] at hlk hX ⊢
    clear hW
    go_wp2_with fail
    refine (cl22 a b ha0 ha1 hb0 hb1 _).mono ?_
    rintro e w1 ⟨rfl, rfl⟩
    go_wp2_with fail
    go_ret2
    exact ⟨rfl, hX⟩
set_option maxHeartbeats 400000 in
theorem iapply23 (a b : Int) (ha0 : 0 ≤ a) (ha1 : a ≤ 4294967295) (hb0 : 0 ≤ b) (hb1 : b ≤ 4294967295) (w : World) :
    Calls Try.prog 11 #[.int .i64 23, .int .u32 a, .int .u32 b] w fun x w' => x = .returned (.tuple #[.int .u32 (apF 23 a b).1, .int .i64 (apF 23 a b).2]) ∧ Ext w w' := by
  have hlk := comb_look w 23 (.func (.func 63) #[] #[]) rfl
  have hX : Ext w (w.alloc (tblObj combT)) := (Ext.refl w).alloc _
  rw [apF_in (by omega) (by omega) (by omega)]
  by_cases hb : b = 0
  · subst hb
    go_enter Try.func11, Try.ntmps11
    go_wp2_with fail
    refine (comb_any _).mono ?_
    rintro e w1 ⟨rfl, rfl⟩
    obtain ⟨W, hW⟩ : ∃ W, w.alloc (tblObj combT) = W := ⟨_, rfl⟩
    rw [hW] at hlk hX ⊢
    clear hW
    go_wp2_with fail
    refine (cl23 a 0 ha0 ha1 (by omega) (by omega) _).mono ?_
    rintro e w1 ⟨rfl, rfl⟩
    go_wp2_with fail
    go_ret2
    exact ⟨rfl, hX⟩
  · have hb' : (b == 0) = false := by simp [hb]
    clear hb
    go_enter Try.func11, Try.ntmps11
    go_wp2_with fail
    refine (comb_any _).mono ?_
    rintro e w1 ⟨rfl, rfl⟩
    obtain ⟨W, hW⟩ : ∃ W, w.alloc (tblObj combT) = W := ⟨_, rfl⟩
    rw [hW] at hlk hX ⊢
    clear hW
    go_wp2_with fail
    refine (cl23 a b ha0 ha1 hb0 hb1 _).mono ?_
    rintro e w1 ⟨rfl, rfl⟩
    go_wp2_with fail
    go_ret2
    exact ⟨rfl, hX⟩
set_option maxHeartbeats 400000 in
theorem iapply24 (a b : Int) (ha0 : 0 ≤ a) (ha1 : a ≤ 4294967295) (hb0 : 0 ≤ b) (hb1 : b ≤ 4294967295) (w : World) :
    Calls Try.prog 11 #[.int .i64 24, .int .u32 a, .int .u32 b] w fun x w' => x = .returned (.tuple #[.int .u32 (apF 24 a b).1, .int .i64 (apF 24 a b).2]) ∧ Ext w w' := by
  have hlk := comb_look w 24 (.func (.func 64) #[] #[]) rfl
  have hX : Ext w (w.alloc (tblObj combT)) := (Ext.refl w).alloc _
  rw [apF_in (by omega) (by omega) (by omega)]
  by_cases hb : b = 0
  · subst hb
    go_enter Try.func11, Try.ntmps11
    go_wp2_with fail
    refine (comb_any _).mono ?_
    rintro e w1 ⟨rfl, rfl⟩
    obtain ⟨W, hW⟩ : ∃ W, w.alloc (tblObj combT) = W := ⟨_, rfl⟩
    rw [hW] at hlk hX ⊢
    clear hW
    go_wp2_with fail
    refine (cl24 a 0 ha0 ha1 (by omega) (by omega) _).mono ?_
    rintro e w1 ⟨rfl, rfl⟩
    go_wp2_with fail
    go_ret2
    exact ⟨rfl, hX⟩
  · have hb' : (b == 0) = false := by simp [hb]
    clear hb
    go_enter Try.func11, Try.ntmps11
    go_wp2_with fail
    refine (comb_any _).mono ?_
    rintro e w1 ⟨rfl, rfl⟩
    obtain ⟨W, hW⟩ : ∃ W, w.alloc (tblObj combT) = W := ⟨_, rfl⟩
    rw [hW] at hlk hX ⊢
    clear hW
    go_wp2_with fail
    refine (cl24 a b ha0 ha1 hb0 hb1 _).mono ?_
    rintro e w1 ⟨rfl, rfl⟩
    go_wp2_with fail
    go_ret2
    exact ⟨rfl, hX⟩
set_option maxHeartbeats 400000 in
theorem iapply25 (a b : Int) (ha0 : 0 ≤ a) (ha1 : a ≤ 4294967295) (hb0 : 0 ≤ b) (hb1 : b ≤ 4294967295) (w : World) :
    Calls Try.prog 11 #[.int .i64 25, .int .u32 a, .int .u32 b] w fun x w' => x = .returned (.tuple #[.int .u32 (apF 25 a b).1, .int .i64 (apF 25 a b).2]) ∧ Ext w w' := by
  have hlk := comb_look w 25 (.func (.func 65) #[] #[]) rfl
  have hX : Ext w (w.alloc (tblObj combT)) := (Ext.refl w).alloc _
  rw [apF_in (by omega) (by omega) (by omega)]
  by_cases hb : b = 0
  · subst hb
    go_enter Try.func11, Try.ntmps11
    go_wp2_with fail
    refine (comb_any _).mono ?_
    rintro e w1 ⟨rfl, rfl⟩
    obtain ⟨W, hW⟩ : ∃ W, w.alloc (tblObj combT) = W := ⟨_, rfl⟩
    rw [hW] at hlk hX ⊢
    clear hW
    go_wp2_with fail
    refine (cl25 a 0 ha0 ha1 (by omega) (by omega) _).mono ?_
    rintro e w1 ⟨rfl, rfl⟩
    go_wp2_with fail
    go_ret2
    exact ⟨rfl, hX⟩
  · have hb' : (b == 0) = false := by simp [hb]
    clear hb
    go_enter Try.func11, Try.ntmps11
    go_wp2_with fail
    refine (comb_any _).mono ?_
    rintro e w1 ⟨rfl, rfl⟩
    obtain ⟨W, hW⟩ : ∃ W, w.alloc (tblObj combT) = W := ⟨_, rfl⟩
    rw [hW] at hlk hX ⊢
    clear hW
    go_wp2_with fail
    refine (cl25 a b ha0 ha1 hb0 hb1 _).mono ?_
    rintro e w1 ⟨rfl, rfl⟩
    go_wp2_with fail
    go_ret2
    exact ⟨rfl, hX⟩
set_option maxHeartbeats 400000 in
theorem iapply26 (a b : Int) (ha0 : 0 ≤ a) (ha1 : a ≤ 4294967295) (hb0 : 0 ≤ b) (hb1 : b ≤ 4294967295) (w : World) :
    Calls Try.prog 11 #[.int .i64 26, .int .u32 a, .int .u32 b] w fun x w' => x = .returned (.tuple #[.int .u32 (apF 26 a b).1, .int .i64 (apF 26 a b).2]) ∧ Ext w w' := by
  have hlk := comb_look w 26 (.func (.func 66) #[] #[]) rfl
  have hX : Ext w (w.alloc (tblObj combT)) := (Ext.refl w).alloc _
  rw [apF_in (by omega) (by omega) (by omega)]
  by_cases hb : b = 0
  · subst hb
    go_enter Try.func11, Try.ntmps11
    go_wp2_with fail
    refine (comb_any _).mono ?_
    rintro e w1 ⟨rfl, rfl⟩
    obtain ⟨W, hW⟩ : ∃ W, w.alloc (tblObj combT) = W := ⟨_, rfl⟩
    rw [hW] at hlk hX ⊢
    clear hW
    go_wp2_with fail
    refine (cl26 a 0 ha0 ha1 (by omega) (by omega) _).mono ?_
    rintro e w1 ⟨rfl, rfl⟩
    go_wp2_with fail
    go_ret2
    exact ⟨rfl, hX⟩
  · have hb' : (b == 0) = false := by simp [hb]
    clear hb
    go_enter Try.func11, Try.ntmps11
    go_wp2_with fail
    refine (comb_any _).mono ?_
    rintro e w1 ⟨rfl, rfl⟩
    obtain ⟨W, hW⟩ : ∃ W, w.alloc (tblObj combT) = W := ⟨_, rfl⟩
    rw [hW] at hlk hX ⊢
    clear hW
    go_wp2_with fail
    refine (cl26 a b ha0 ha1 hb0 hb1 _).mono ?_
    rintro e w1 ⟨rfl, rfl⟩
    go_wp2_with fail
    go_ret2
    exact ⟨rfl, hX⟩
end Go.Proofs.Ytchkbidekmaaiaa
