/- The program's Gamma. -/
import Derived.Test.YtlnlffmlficjnaaBe
namespace Go.Proofs.Ytlnlffmlficjnaa
open Go.RowKit
set_option linter.unusedVariables false
attribute [local go_sem ↓] Go.wp_at_zero Go.wp_at_succ

/-- The bits of a gamma code. -/
def gam (n : Int) : List Int := low 0 (Lib.bitLen n.toNat - 1) ++ low n (Lib.bitLen n.toNat)
/-- What Gamma leaves. -/
def gamF (D : List Int) (c n : Int) : Int × List Int × Nat :=
  if chkb D c ≠ 0 then (chkb D c, [], 0) else if n < 1 ∨ 2147483647 < n then (2, [], 0)
  else if 524288 < c + 2 * (Lib.bitLen n.toNat : Int) - 1 then (5, [], 0) else (0, pshs D c.toNat (gam n), c.toNat + (2 * Lib.bitLen n.toNat - 1))
theorem len_ex (n : Int) (h0 : 1 ≤ n) (h1 : n ≤ 2147483647) : ∃ m, Lib.bitLen n.toNat = m + 1 ∧ m ≤ 30 := by
  obtain ⟨b1, b2, b3⟩ : 1 ≤ Lib.bitLen n.toNat ∧ 2 ^ (Lib.bitLen n.toNat - 1) ≤ n.toNat ∧ n.toNat < 2 ^ Lib.bitLen n.toNat := Lib.bitLenAux_bounds 64 n.toNat (by omega) (by omega)
  refine ⟨Lib.bitLen n.toNat - 1, by omega, ?_⟩
  rcases Nat.lt_or_ge 30 (Lib.bitLen n.toNat - 1) with h | h
  · exfalso
    have : 2 ^ 31 ≤ 2 ^ (Lib.bitLen n.toNat - 1) := Nat.pow_le_pow_right (by decide) (by omega)
    omega
  · exact h
theorem gam_len (n : Int) (m : Nat) (h : Lib.bitLen n.toNat = m + 1) : (gam n).length = 2 * m + 1 := by
  unfold gam
  rw [h, List.length_append, low_len, low_len]
  omega
theorem gam_01 (n : Int) : Bits01 (gam n) := by
  intro x hx
  rcases List.mem_append.1 hx with h | h
  · exact low_01 _ _ x h
  · exact low_01 _ _ x h

end Go.Proofs.Ytlnlffmlficjnaa
