/- The reference's add. -/
import Derived.Test.YtjfdmhdmadnkoaaBs
namespace Go.Proofs.Ytjfdmhdmadnkoaa
open Go.RowKit
set_option linter.unusedVariables false
attribute [local go_sem ↓] Go.wp_at_zero Go.wp_at_succ

/-- What add leaves: a row that holds one bit more. -/
def AddPost (B c : Nat) (v : Value) (D : List Int) (x : Int) (w : World) (e : Ending) (w' : World) : Prop :=
  ∃ v', e = .returned (.agg #[v', .int .i64 ((c : Int) + 1)]) ∧ Own8 w' B v' (psh D c x) ∧ Stays w v v' ∧ Chg v.ownBlock.toList w w'
theorem lset_same (l : List Int) (i : Nat) (h : i < l.length) : l.set i (l.getD i 0) = l := by
  apply List.ext_getElem
  · simp
  · intro j j1 j2
    rw [List.getElem_set]
    split
    · next e => subst e; simp [List.getD, h]
    · rfl
/-- What is added to a byte. -/
def addv (c : Nat) (x : Int) : Int := x * 2 ^ (7 - c % 8)
theorem psh_set {D : List Int} {c : Nat} (h : WF D c) (x : Int) (hx : x = 0 ∨ x = 1) : psh D c x = (pshD D c).set (c / 8) ((pshD D c).getD (c / 8) 0 + addv c x) := by
  unfold psh addv
  rcases hx with rfl | rfl
  · rw [if_neg (by decide), Int.zero_mul, Int.add_zero, lset_same _ _ (psh_room h)]
  · rw [if_pos rfl, Int.one_mul]
theorem addv_bd (c : Nat) (x : Int) (hx : x = 0 ∨ x = 1) : 0 ≤ addv c x ∧ addv c x ≤ 2 ^ (7 - c % 8) := by
  have := pow2_pos (7 - c % 8)
  unfold addv
  rcases hx with rfl | rfl <;> simp <;> omega

end Go.Proofs.Ytjfdmhdmadnkoaa
