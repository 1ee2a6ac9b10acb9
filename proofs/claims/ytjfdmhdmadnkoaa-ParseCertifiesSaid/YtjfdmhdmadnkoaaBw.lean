/- The reference's Append, the good case and the whole. -/
import Derived.Test.YtjfdmhdmadnkoaaBu
import Derived.Test.YtjfdmhdmadnkoaaBo
namespace Go.Proofs.Ytjfdmhdmadnkoaa
open Go.RowKit
set_option linter.unusedVariables false
attribute [local go_sem ↓] Go.wp_at_zero Go.wp_at_succ

theorem i64_and_one (y : Int) (h0 : 0 ≤ y) (h1 : y ≤ 4294967295) : bits BinOp.and IntKind.i64 y 1 = y % 2 := by
  obtain ⟨a, rfl⟩ := Int.eq_ofNat_of_zero_le h0
  have hb : bits BinOp.and IntKind.i64 (a : Int) ((1 : Nat) : Int) = ((a &&& 1 : Nat) : Int) := by
    show IntKind.i64.wrap ((BitVec.ofInt 64 (a : Int) &&& BitVec.ofInt 64 ((1 : Nat) : Int)).toNat : Int) = _
    rw [BitVec.toNat_and, ofInt_u64 a (by omega), ofInt_u64 1 (by omega), Nat.and_one_is_mod, IntWalk.i64_in _ (by omega)]
  have e : ((1 : Nat) : Int) = 1 := rfl
  rw [e] at hb
  rw [hb, Nat.and_one_is_mod]
  omega

end Go.Proofs.Ytjfdmhdmadnkoaa
