/- Apply of layer 15. -/
import Derived.Test.YtchkbidekmaaiaaIc
import Derived.Test.YtchkbidekmaaiaaId
import Derived.Test.YtchkbidekmaaiaaIe
namespace Go.Proofs.Ytchkbidekmaaiaa
open Go.RowKit
set_option linter.unusedVariables false


set_option maxHeartbeats 400000 in
theorem iapply_any (op a b : Int) (ha0 : 0 ≤ a) (ha1 : a ≤ 4294967295) (hb0 : 0 ≤ b) (hb1 : b ≤ 4294967295) (w : World) :
    Calls Try.prog 11 #[.int .i64 op, .int .u32 a, .int .u32 b] w fun x w' => x = .returned (.tuple #[.int .u32 (apF op a b).1, .int .i64 (apF op a b).2]) ∧ Ext w w' := by
  by_cases h : op < 8 ∨ 26 < op
  · rw [apF_out h]
    have hlk := comb_none w op h
    have hX : Ext w (w.alloc (tblObj combT)) := (Ext.refl w).alloc _
    clear h
    go_enter Try.func11, Try.ntmps11
    go_wp2_with fail
    refine (comb_any _).mono ?_
    rintro e w1 ⟨rfl, rfl⟩
    obtain ⟨W, hW⟩ : ∃ W, w.alloc (tblObj combT) = W := ⟨_, rfl⟩
    rw [hW] at hlk hX ⊢
    clear hW
    go_wp2_with fail
    go_ret2
    exact ⟨rfl, hX⟩
  · have hc : op = 8 ∨ op = 9 ∨ op = 10 ∨ op = 11 ∨ op = 12 ∨ op = 13 ∨ op = 14 ∨ op = 15 ∨ op = 16 ∨ op = 17 ∨ op = 18 ∨ op = 19 ∨ op = 20 ∨ op = 21 ∨ op = 22 ∨ op = 23 ∨ op = 24 ∨ op = 25 ∨ op = 26 := by omega
    rcases hc with rfl | rfl | rfl | rfl | rfl | rfl | rfl | rfl | rfl | rfl | rfl | rfl | rfl | rfl | rfl | rfl | rfl | rfl | rfl
    · exact iapply8 a b ha0 ha1 hb0 hb1 w
    · exact iapply9 a b ha0 ha1 hb0 hb1 w
    · exact iapply10 a b ha0 ha1 hb0 hb1 w
    · exact iapply11 a b ha0 ha1 hb0 hb1 w
    · exact iapply12 a b ha0 ha1 hb0 hb1 w
    · exact iapply13 a b ha0 ha1 hb0 hb1 w
    · exact iapply14 a b ha0 ha1 hb0 hb1 w
    · exact iapply15 a b ha0 ha1 hb0 hb1 w
    · exact iapply16 a b ha0 ha1 hb0 hb1 w
    · exact iapply17 a b ha0 ha1 hb0 hb1 w
    · exact iapply18 a b ha0 ha1 hb0 hb1 w
    · exact iapply19 a b ha0 ha1 hb0 hb1 w
    · exact iapply20 a b ha0 ha1 hb0 hb1 w
    · exact iapply21 a b ha0 ha1 hb0 hb1 w
    · exact iapply22 a b ha0 ha1 hb0 hb1 w
    · exact iapply23 a b ha0 ha1 hb0 hb1 w
    · exact iapply24 a b ha0 ha1 hb0 hb1 w
    · exact iapply25 a b ha0 ha1 hb0 hb1 w
    · exact iapply26 a b ha0 ha1 hb0 hb1 w
end Go.Proofs.Ytchkbidekmaaiaa
