/- The program's put, and copies. -/
import Derived.Test.YtlnlffmlficjnaaBc
import Derived.Test.YtlnlffmlficjnaaB8
import Derived.Laws.BitsAllLaws
namespace Go.Proofs.Ytlnlffmlficjnaa
open Go.RowKit
set_option linter.unusedVariables false
attribute [local go_sem ↓] Go.wp_at_zero Go.wp_at_succ

theorem u32_and1 (y : Int) (h0 : 0 ≤ y) (h1 : y ≤ 4294967295) : bits BinOp.and IntKind.u32 y 1 = y % 2 := by
  rw [u32_and y 1 h0 (by omega) (by decide) (by decide)]
  show ((y.toNat &&& 1 : Nat) : Int) = _
  rw [Nat.and_one_is_mod]
  omega
theorem div_bd (v : Int) (k : Nat) (h0 : 0 ≤ v) (h1 : v ≤ 4294967295) : 0 ≤ v / 2 ^ k ∧ v / 2 ^ k ≤ 4294967295 := by
  have hp := pow2_pos k
  refine ⟨Int.ediv_nonneg h0 (by omega), ?_⟩
  have := Int.ediv_le_self (2 ^ k) h0
  omega
theorem low_take (v : Int) (n k : Nat) (hk : k < n) : (low v n).take (k + 1) = (low v n).take k ++ [v / 2 ^ (n - 1 - k) % 2] := by
  rw [List.take_succ_eq_append_getElem (by rw [low_len]; exact hk)]
  simp [low]

def PutPost (p B c : Nat) (v : Value) (D : List Int) (xs : List Int) (w : World) (e : Ending) (w' : World) : Prop :=
  e = .returned (.tuple #[]) ∧ ∃ v', Tape w' p B v' (pshs D c xs) (c + xs.length) ∧ Stays w v v' ∧ Chg (p :: v.ownBlock.toList) w w'

end Go.Proofs.Ytlnlffmlficjnaa
