/- Apply of layer 15, operation by operation. -/
import Derived.Test.YtchkbidekmaaiaaIb
namespace Go.Proofs.Ytchkbidekmaaiaa
open Go.RowKit
set_option linter.unusedVariables false


set_option maxHeartbeats 400000 in
theorem iapply8 (a b : Int) (ha0 : 0 ≤ a) (ha1 : a ≤ 4294967295) (hb0 : 0 ≤ b) (hb1 : b ≤ 4294967295) (w : World) :
    Calls Try.prog 11 #[.int .i64 8, .int .u32 a, .int .u32 b] w fun x w' => x = .returned (.tuple #[.int .u32 (apF 8 a b).1, .int .i64 (apF 8 a b).2]) ∧ Ext w w' := by
  have hlk := comb_look w 8 (.func (.func 48) #[] #[]) rfl
  have hX : Ext w (w.alloc (tblObj combT)) := (Ext.refl w).alloc _
  rw [apF_in (by omega) (by omega) (by omega)]
  by_cases hb : b = 0
  · subst hb
    go_enter Try.func11, Try.ntmps11
    go_wp2_with fail
    refine (comb_any _).mono ?_
    rintro e w1 ⟨rfl, rfl⟩
    obtain ⟨W, hW⟩ : ∃ W, w.alloc (tblObj combT) = W := ⟨_, rfl⟩
    rw [hW] at hlk hX ⊢
    clear hW
    go_wp2_with fail
    refine (cl8 a 0 ha0 ha1 (by omega) (by omega) _).mono ?_
    rintro e w1 ⟨rfl, rfl⟩
    go_wp2_with fail
    go_ret2
    exact ⟨rfl, hX⟩
  · have hb' : (b == 0) = false := by simp [hb]
    clear hb
    go_enter Try.func11, Try.ntmps11
    go_wp2_with fail
    refine (comb_any _).mono ?_
    rintro e w1 ⟨rfl, rfl⟩
    obtain ⟨W, hW⟩ : ∃ W, w.alloc (tblObj combT) = W := ⟨_, rfl⟩
    rw [hW] at hlk hX ⊢
    clear hW
    go_wp2_with fail
    refine (cl8 a b ha0 ha1 hb0 hb1 _).mono ?_
    rintro e w1 ⟨rfl, rfl⟩
    go_wp2_with fail
    go_ret2
    exact ⟨rfl, hX⟩
set_option maxHeartbeats 400000 in
theorem iapply9 (a b : Int) (ha0 : 0 ≤ a) (ha1 : a ≤ 4294967295) (hb0 : 0 ≤ b) (hb1 : b ≤ 4294967295) (w : World) :
    Calls Try.prog 11 #[.int .i64 9, .int .u32 a, .int .u32 b] w fun x w' => x = .returned (.tuple #[.int .u32 (apF 9 a b).1, .int .i64 (apF 9 a b).2]) ∧ Ext w w' := by
  have hlk := comb_look w 9 (.func (.func 49) #[] #[]) rfl
  have hX : Ext w (w.alloc (tblObj combT)) := (Ext.refl w).alloc _
  rw [apF_in (by omega) (by omega) (by omega)]
  by_cases hb : b = 0
  · subst hb
    go_enter Try.func11, Try.ntmps11
    go_wp2_with fail
    refine (comb_any _).mono ?_
    rintro e w1 ⟨rfl, rfl⟩
    obtain ⟨W, hW⟩ : ∃ W, w.alloc (tblObj combT) = W := ⟨_, rfl⟩
    rw [hW] at hlk hX ⊢
    clear hW
    go_wp2_with fail
    refine (cl9 a 0 ha0 ha1 (by omega) (by omega) _).mono ?_
    rintro e w1 ⟨rfl, rfl⟩
    go_wp2_with fail
    go_ret2
    exact ⟨rfl, hX⟩
  · have hb' : (b == 0) = false := by simp [hb]
    clear hb
    go_enter Try.func11, Try.ntmps11
    go_wp2_with fail
    refine (comb_any _).mono ?_
    rintro e w1 ⟨rfl, rfl⟩
    obtain ⟨W, hW⟩ : ∃ W, w.alloc (tblObj combT) = W := ⟨_, rfl⟩
    rw [hW] at hlk hX ⊢
    clear hW
    go_wp2_with fail
    refine (cl9 a b ha0 ha1 hb0 hb1 _).mono ?_
    rintro e w1 ⟨rfl, rfl⟩
    go_wp2_with fail
    go_ret2
    exact ⟨rfl, hX⟩
set_option maxHeartbeats 400000 in
theorem iapply10 (a b : Int) (ha0 : 0 ≤ a) (ha1 : a ≤ 4294967295) (hb0 : 0 ≤ b) (hb1 : b ≤ 4294967295) (w : World) :
    Calls Try.prog 11 #[.int .i64 10, .int .u32 a, .int .u32 b] w fun x w' => x = .returned (.tuple #[.int .u32 (apF 10 a b).1, .int .i64 (apF 10 a b).2]) ∧ Ext w w' := by
  have hlk := comb_look w 10 (.func (.func 50) #[] #[]) rfl
  have hX : Ext w (w.alloc (tblObj combT)) := (Ext.refl w).alloc _
  rw [apF_in (by omega) (by omega) (by omega)]
  by_cases hb : b = 0
  · subst hb
    go_enter Try.func11, Try.ntmps11
    go_wp2_with fail
    refine (comb_any _).mono ?_
    rintro e w1 ⟨rfl, rfl⟩
    obtain ⟨W, hW⟩ : ∃ W, w.alloc (tblObj combT) = W := ⟨_, rfl⟩
    rw [hW] at hlk hX ⊢
    clear hW
    go_wp2_with fail
    refine (cl10 a 0 ha0 ha1 (by omega) (by omega) _).mono ?_
    rintro e w1 ⟨rfl, rfl⟩
    go_wp2_with fail
    go_ret2
    exact ⟨rfl, hX⟩
  · have hb' : (b == 0) = false := by simp [hb]
    clear hb
    go_enter Try.func11, Try.ntmps11
    go_wp2_with fail
    refine (comb_any _).mono ?_
    rintro e w1 ⟨rfl, rfl⟩
    obtain ⟨W, hW⟩ : ∃ W, w.alloc (tblObj combT) = W := ⟨_, rfl⟩
    rw [hW] at hlk hX ⊢
    clear hW
    go_wp2_with fail
    refine (cl10 a b ha0 ha1 hb0 hb1 _).mono ?_
    rintro e w1 ⟨rfl, rfl⟩
    go_wp2_with fail
    go_ret2
    exact ⟨rfl, hX⟩
set_option maxHeartbeats 400000 in
theorem iapply11 (a b : Int) (ha0 : 0 ≤ a) (ha1 : a ≤ 4294967295) (hb0 : 0 ≤ b) (hb1 : b ≤ 4294967295) (w : World) :
    Calls Try.prog 11 #[.int .i64 11, .int .u32 a, .int .u32 b] w fun x w' => x = .returned (.tuple #[.int .u32 (apF 11 a b).1, .int .i64 (apF 11 a b).2]) ∧ Ext w w' := by
  have hlk := comb_look w 11 (.func (.func 51) #[] #[]) rfl
  have hX : Ext w (w.alloc (tblObj combT)) := (Ext.refl w).alloc _
  by_cases hb : b = 0
  · rw [apF_div hb (by omega)]
    have hb' : (b == 0) = true := by simp [hb]
    clear hb
    go_enter Try.func11, Try.ntmps11
    go_wp2_with fail
    refine (comb_any _).mono ?_
    rintro e w1 ⟨rfl, rfl⟩
    obtain ⟨W, hW⟩ : ∃ W, w.alloc (tblObj combT) = W := ⟨_, rfl⟩
    rw [hW] at hlk hX ⊢
    clear hW
    go_wp2_with fail
    go_ret2
    exact ⟨rfl, hX⟩
  · rw [apF_in (by omega) (by omega) (by omega)]
    have hb' : (b == 0) = false := by simp [hb]
    have hp : 0 < b := by omega
    clear hb
    go_enter Try.func11, Try.ntmps11
    go_wp2_with fail
    refine (comb_any _).mono ?_
    rintro e w1 ⟨rfl, rfl⟩
    obtain ⟨W, hW⟩ : ∃ W, w.alloc (tblObj combT) = W := ⟨_, rfl⟩
    rw [hW] at hlk hX ⊢
    clear hW
    go_wp2_with fail
    refine (cl11 _ _ ha0 ha1 (by omega) (by omega) hp _).mono ?_
    rintro e w1 ⟨rfl, rfl⟩
    go_wp2_with fail
    go_ret2
    exact ⟨rfl, hX⟩
set_option maxHeartbeats 400000 in
theorem iapply12 (a b : Int) (ha0 : 0 ≤ a) (ha1 : a ≤ 4294967295) (hb0 : 0 ≤ b) (hb1 : b ≤ 4294967295) (w : World) :
    Calls Try.prog 11 #[.int .i64 12, .int .u32 a, .int .u32 b] w fun x w' => x = .returned (.tuple #[.int .u32 (apF 12 a b).1, .int .i64 (apF 12 a b).2]) ∧ Ext w w' := by
  have hlk := comb_look w 12 (.func (.func 52) #[] #[]) rfl
  have hX : Ext w (w.alloc (tblObj combT)) := (Ext.refl w).alloc _
  by_cases hb : b = 0
  · rw [apF_div hb (by omega)]
    have hb' : (b == 0) = true := by simp [hb]
    clear hb
    go_enter Try.func11, Try.ntmps11
    go_wp2_with fail
    refine (comb_any _).mono ?_
    rintro e w1 ⟨rfl, rfl⟩
    obtain ⟨W, hW⟩ : ∃ W, w.alloc (tblObj combT) = W := ⟨_, rfl⟩
    rw [hW] at hlk hX ⊢
    clear hW
    go_wp2_with fail
    go_ret2
    exact ⟨rfl, hX⟩
  · rw [apF_in (by omega) (by omega) (by omega)]
    have hb' : (b == 0) = false := by simp [hb]
    have hp : 0 < b := by omega
    clear hb
    go_enter Try.func11, Try.ntmps11
    go_wp2_with fail
    refine (comb_any _).mono ?_
    rintro e w1 ⟨rfl, rfl⟩
    obtain ⟨W, hW⟩ : ∃ W, w.alloc (tblObj combT) = W := ⟨_, rfl⟩
    rw [hW] at hlk hX ⊢
    clear hW
    go_wp2_with fail
    refine (cl12 _ _ ha0 ha1 (by omega) (by omega) hp _).mono ?_
    rintro e w1 ⟨rfl, rfl⟩
    go_wp2_with fail
    go_ret2
    exact ⟨rfl, hX⟩
set_option maxHeartbeats 400000 in
theorem iapply13 (a b : Int) (ha0 : 0 ≤ a) (ha1 : a ≤ 4294967295) (hb0 : 0 ≤ b) (hb1 : b ≤ 4294967295) (w : World) :
    Calls Try.prog 11 #[.int .i64 13, .int .u32 a, .int .u32 b] w fun x w' => x = .returned (.tuple #[.int .u32 (apF 13 a b).1, .int .i64 (apF 13 a b).2]) ∧ Ext w w' := by
  have hlk := comb_look w 13 (.func (.func 53) #[] #[]) rfl
  have hX : Ext w (w.alloc (tblObj combT)) := (Ext.refl w).alloc _
  rw [apF_in (by omega) (by omega) (by omega)]
  by_cases hb : b = 0
  · subst hb
    go_enter Try.func11, Try.ntmps11
    go_wp2_with fail
    refine (comb_any _).mono ?_
    rintro e w1 ⟨rfl, rfl⟩
    obtain ⟨W, hW⟩ : ∃ W, w.alloc (tblObj combT) = W := ⟨_, rfl⟩
    rw [hW] at hlk hX ⊢
    clear hW
    go_wp2_with fail
    refine (cl13 a 0 ha0 ha1 (by omega) (by omega) _).mono ?_
    rintro e w1 ⟨rfl, rfl⟩
    go_wp2_with fail
    go_ret2
    exact ⟨rfl, hX⟩
  · have hb' : (b == 0) = false := by simp [hb]
    clear hb
    go_enter Try.func11, Try.ntmps11
    go_wp2_with fail
    refine (comb_any _).mono ?_
    rintro e w1 ⟨rfl, rfl⟩
    obtain ⟨W, hW⟩ : ∃ W, w.alloc (tblObj combT) = W := ⟨_, rfl⟩
    rw [hW] at hlk hX ⊢
    clear hW
    go_wp2_with fail
    refine (cl13 a b ha0 ha1 hb0 hb1 _).mono ?_
    rintro e w1 ⟨rfl, rfl⟩
    go_wp2_with fail
    go_ret2
    exact ⟨rfl, hX⟩
set_option maxHeartbeats 400000 in
theorem iapply14 (a b : Int) (ha0 : 0 ≤ a) (ha1 : a ≤ 4294967295) (hb0 : 0 ≤ b) (hb1 : b ≤ 4294967295) (w : World) :
    Calls Try.prog 11 #[.int .i64 14, .int .u32 a, .int .u32 b] w fun x w' => x = .returned (.tuple #[.int .u32 (apF 14 a b).1, .int .i64 (apF 14 a b).2]) ∧ Ext w w' := by
  have hlk := comb_look w 14 (.func (.func 54) #[] #[]) rfl
  have hX : Ext w (w.alloc (tblObj combT)) := (Ext.refl w).alloc _
  rw [apF_in (by omega) (by omega) (by omega)]
  by_cases hb : b = 0
  · subst hb
    go_enter Try.func11, Try.ntmps11
    go_wp2_with fail
    refine (comb_any _).mono ?_
    rintro e w1 ⟨rfl, rfl⟩
    obtain ⟨W, hW⟩ : ∃ W, w.alloc (tblObj combT) = W := ⟨_, rfl⟩
    rw [hW] at hlk hX ⊢
    clear hW
    go_wp2_with fail
    refine (cl14 a 0 ha0 ha1 (by omega) (by omega) _).mono ?_
    rintro e w1 ⟨rfl, rfl⟩
    go_wp2_with fail
    go_ret2
    exact ⟨rfl, hX⟩
  · have hb' : (b == 0) = false := by simp [hb]
    clear hb
    go_enter Try.func11, Try.ntmps11
    go_wp2_with fail
    refine (comb_any _).mono ?_
    rintro e w1 ⟨rfl, rfl⟩
    obtain ⟨W, hW⟩ : ∃ W, w.alloc (tblObj combT) = W := ⟨_, rfl⟩
    rw [hW] at hlk hX ⊢
    clear hW
    go_wp2_with fail
    refine (cl14 a b ha0 ha1 hb0 hb1 _).mono ?_
    rintro e w1 ⟨rfl, rfl⟩
    go_wp2_with fail
    go_ret2
    exact ⟨rfl, hX⟩
end Go.Proofs.Ytchkbidekmaaiaa
