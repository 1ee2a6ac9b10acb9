/- The program's Append. -/
import Derived.Test.YtlnlffmlficjnaaBd
import Derived.Test.YtlnlffmlficjnaaShelf
import Derived.Deep.RegionHeld3
import Derived.Lib.ItoaNum
namespace Go.Proofs.Ytlnlffmlficjnaa
open Go.RowKit
set_option linter.unusedVariables false
attribute [local go_sem ↓] Go.wp_at_zero Go.wp_at_succ

/-- What an operation leaves that returns a bit string and an error. -/
def BitsPost (w : World) (r : Int × List Int × Nat) (x : Ending) (w' : World) : Prop :=
  ∃ a k, x = .returned (.tuple #[.agg #[.slice a r.2.1.length k, .int .i64 (r.2.2 : Int)], .int .i64 r.1]) ∧ Rd8 w' (.slice a r.2.1.length k) r.2.1 ∧ Fresh w (.slice a r.2.1.length k) ∧ Ext w w'

/-- What Append leaves. -/
def appF (D : List Int) (c : Int) (y n : Int) : Int × List Int × Nat :=
  if chkb D c ≠ 0 then (chkb D c, [], 0) else if n < 0 ∨ 32 < n then (2, [], 0) else if 2 ^ n.toNat ≤ y then (1, [], 0)
  else if 524288 < c + n then (5, [], 0) else (0, pshs D c.toNat (low y n.toNat), c.toNat + n.toNat)
theorem bitLen_le_iff (y n : Nat) (hy : y < 4294967296) : Lib.bitLen y ≤ n ↔ y < 2 ^ n := by
  by_cases h0 : y = 0
  · subst h0
    have e : Lib.bitLen 0 = 0 := by decide
    rw [e]
    simp [Nat.pow_pos]
  · obtain ⟨b1, b2, b3⟩ : 1 ≤ Lib.bitLen y ∧ 2 ^ (Lib.bitLen y - 1) ≤ y ∧ y < 2 ^ Lib.bitLen y := Lib.bitLenAux_bounds 64 y (by omega) (by omega)
    constructor
    · intro h
      exact Nat.lt_of_lt_of_le b3 (Nat.pow_le_pow_right (by decide) h)
    · intro h
      rcases Nat.lt_or_ge n (Lib.bitLen y) with hl | hl
      · exfalso
        have : 2 ^ n ≤ 2 ^ (Lib.bitLen y - 1) := Nat.pow_le_pow_right (by decide) (by omega)
        omega
      · exact hl
theorem bitLen_cmp (y n : Int) (hy0 : 0 ≤ y) (hy1 : y ≤ 4294967295) (hn : 0 ≤ n) : ((Lib.bitLen y.toNat : Int) ≤ n) ↔ y < 2 ^ n.toNat := by
  have h := bitLen_le_iff y.toNat n.toNat (by omega)
  have e : ((2 ^ n.toNat : Nat) : Int) = (2 : Int) ^ n.toNat := by simp
  rw [← e]
  omega

end Go.Proofs.Ytlnlffmlficjnaa
