/- The bit operations on numbers of 32 bits, as those of natural numbers; bounds of the arithmetic of layer 15. -/
import Derived.Test.YtbpnagamcohlnaaIh
namespace Go.Proofs.Ytbpnagamcohlnaa
open Go.RowKit

theorem ofInt32 (a : Int) (h0 : 0 ≤ a) (h1 : a ≤ 4294967295) : (BitVec.ofInt 32 a).toNat = a.toNat := by
  rw [BitVec.toNat_ofInt]
  have : a % ((2 ^ 32 : Nat) : Int) = a := Int.emod_eq_of_lt h0 (by simp; omega)
  rw [this]
theorem wrap32u (n : Nat) (h : n < 4294967296) : IntKind.u32.wrap (n : Int) = n := IntWalk.u32_in _ (by omega)
theorem bits_and32 (a b : Int) (a0 : 0 ≤ a) (a1 : a ≤ 4294967295) (b0 : 0 ≤ b) (b1 : b ≤ 4294967295) : bits .and .u32 a b = ((a.toNat &&& b.toNat : Nat) : Int) := by
  show IntKind.u32.wrap (((BitVec.ofInt 32 a) &&& (BitVec.ofInt 32 b)).toNat : Int) = _
  rw [BitVec.toNat_and, ofInt32 a a0 a1, ofInt32 b b0 b1]
  exact wrap32u _ (Nat.and_lt_two_pow (n := 32) _ (by omega))
theorem bits_or32 (a b : Int) (a0 : 0 ≤ a) (a1 : a ≤ 4294967295) (b0 : 0 ≤ b) (b1 : b ≤ 4294967295) : bits .or .u32 a b = ((a.toNat ||| b.toNat : Nat) : Int) := by
  show IntKind.u32.wrap (((BitVec.ofInt 32 a) ||| (BitVec.ofInt 32 b)).toNat : Int) = _
  rw [BitVec.toNat_or, ofInt32 a a0 a1, ofInt32 b b0 b1]
  exact wrap32u _ (Nat.or_lt_two_pow (n := 32) (by omega) (by omega))
theorem bits_xor32 (a b : Int) (a0 : 0 ≤ a) (a1 : a ≤ 4294967295) (b0 : 0 ≤ b) (b1 : b ≤ 4294967295) : bits .xor .u32 a b = ((a.toNat ^^^ b.toNat : Nat) : Int) := by
  show IntKind.u32.wrap (((BitVec.ofInt 32 a) ^^^ (BitVec.ofInt 32 b)).toNat : Int) = _
  rw [BitVec.toNat_xor, ofInt32 a a0 a1, ofInt32 b b0 b1]
  exact wrap32u _ (Nat.xor_lt_two_pow (n := 32) (by omega) (by omega))
theorem bits32_bd (op : BinOp) (a b : Int) : 0 ≤ bits op .u32 a b ∧ bits op .u32 a b ≤ 4294967295 := by
  have : ∀ n : Int, 0 ≤ IntKind.u32.wrap n ∧ IntKind.u32.wrap n ≤ 4294967295 := fun n => by rw [IntKind.wrap_u32]; omega
  exact this _
def Bd32 (x : Int) : Prop := 0 ≤ x ∧ x ≤ 4294967295
theorem ite_bd {c : Prop} [Decidable c] {x y : Int} (hx : Bd32 x) (hy : Bd32 y) : Bd32 (if c then x else y) := by split <;> assumption
theorem fl_bd32 (p : Bool) : Bd32 (fl p) := by have := fl_bd p; exact ⟨this.1, by omega⟩
theorem div_bd32 (a b : Int) (a0 : 0 ≤ a) (a1 : a ≤ 4294967295) (b0 : 0 ≤ b) : Bd32 (a / b) := ⟨Int.ediv_nonneg a0 b0, Int.le_trans (Int.ediv_le_self _ a0) a1⟩
theorem mod_bd32 (a b : Int) (a0 : 0 ≤ a) (a1 : a ≤ 4294967295) (b0 : 0 ≤ b) (b1 : b ≤ 4294967295) : Bd32 (a % b) := by
  rcases Int.lt_or_eq_of_le b0 with h | h
  · have h1 := Int.emod_nonneg a (show b ≠ 0 by omega)
    have h2 := Int.emod_lt_of_pos a h
    exact ⟨h1, by omega⟩
  · rw [← h, Int.emod_zero]; exact ⟨a0, a1⟩
theorem wr_bd32 (a : Int) : Bd32 (a % 4294967296) := ⟨by omega, by omega⟩
theorem apV_bd (op a b : Int) (a0 : 0 ≤ a) (a1 : a ≤ 4294967295) (b0 : 0 ≤ b) (b1 : b ≤ 4294967295) : 0 ≤ apV op a b ∧ apV op a b ≤ 4294967295 := by
  have h : Bd32 (apV op a b) := by
    unfold apV
    refine ite_bd (wr_bd32 _) <| ite_bd (wr_bd32 _) <| ite_bd (wr_bd32 _) <| ite_bd (div_bd32 a b a0 a1 b0) <| ite_bd (mod_bd32 a b a0 a1 b0 b1) <| ite_bd (bits32_bd _ _ _) <| ite_bd (bits32_bd _ _ _) <| ite_bd (bits32_bd _ _ _) <| ite_bd (wr_bd32 _) <| ite_bd (div_bd32 a _ a0 a1 (Int.pow_nonneg (by decide))) <| ite_bd ?_ <| ite_bd ?_ <| ite_bd (bits32_bd _ _ _) <| ite_bd (fl_bd32 _) <| ite_bd (fl_bd32 _) <| ite_bd (fl_bd32 _) <| ite_bd (fl_bd32 _) <| ite_bd (fl_bd32 _) <| ite_bd (fl_bd32 _) ?_
    · exact ⟨by omega, by omega⟩
    · exact ⟨by omega, by omega⟩
    · exact ⟨by omega, by omega⟩
  exact h
end Go.Proofs.Ytbpnagamcohlnaa
