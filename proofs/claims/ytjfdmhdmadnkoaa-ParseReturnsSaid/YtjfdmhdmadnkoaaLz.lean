/- Layer 35: the statements LzChecks, LzPrices, LzGrows. -/
import Derived.Test.YtjfdmhdmadnkoaaLx
import Derived.Test.YtjfdmhdmadnkoaaLl
import Derived.Test.YtjfdmhdmadnkoaaLr
import Derived.Test.YtjfdmhdmadnkoaaLg
namespace Go.Proofs.Ytjfdmhdmadnkoaa
open Go.RowKit
set_option linter.unusedVariables false
attribute [local go_sem ↓] Go.wp_at_zero Go.wp_at_succ

theorem bl_mono (m n : Int) (h0 : 1 ≤ m) (h1 : m ≤ n) (h2 : n ≤ 2147483647) : (Lib.bitLen m.toNat : Int) ≤ Lib.bitLen n.toNat := by
  obtain ⟨i, hi, -⟩ := len_ex m h0 (by omega)
  obtain ⟨j, hj, -⟩ := len_ex n (by omega) h2
  obtain ⟨a1, a2⟩ := bitLen_int m h0 (by omega) i hi
  obtain ⟨b1, b2⟩ := bitLen_int n (by omega) h2 j hj
  rw [hi, hj]
  rcases Nat.lt_or_ge j i with g | g
  · exfalso
    have : (2 : Int) ^ (j + 1) ≤ 2 ^ i := by
      have := Nat.pow_le_pow_right (show 0 < 2 by decide) (show j + 1 ≤ i by omega)
      have h3 : ((2 ^ (j + 1) : Nat) : Int) ≤ ((2 ^ i : Nat) : Int) := Int.ofNat_le.mpr this
      simpa using h3
    omega
  · omega
theorem prc_copy (n d : Int) (h0 : 2 ≤ n) (h1 : n ≤ 255) (h2 : 1 ≤ d) (h3 : d ≤ 4096) : prc (n, d, 0) = 1 + gaB (n - 1) + gaB d := by
  unfold prc
  rw [if_neg (by unfold Wr; simp only; rw [if_neg (by omega)]; omega), if_neg (by simp only; omega)]
theorem prc_mono (n d m c : Int) (h1 : 2 ≤ m) (h2 : m ≤ n) (h3 : n ≤ 255) (h4 : 1 ≤ c) (h5 : c ≤ d) (h6 : d ≤ 4096) : 3 ≤ prc (m, c, 0) ∧ prc (m, c, 0) ≤ prc (n, d, 0) := by
  rw [prc_copy m c h1 (by omega) h4 (by omega), prc_copy n d (by omega) h3 (by omega) h6]
  have a := bl_mono (m - 1) (n - 1) (by omega) (by omega) (by omega)
  have b := bl_mono c d h4 h5 (by omega)
  have e1 := gaB_bd (m - 1) 8 (by omega) (by omega) (by decide)
  have e2 := gaB_bd c 13 (by omega) (by omega) (by decide)
  unfold gaB at *
  omega
theorem prc_lit (B : Int) : prc (0, 0, B) = 9 := by
  unfold prc
  rw [if_neg (by simp [Wr])]
  rfl
theorem prc_21 : prc (2, 1, 0) = 3 := by decide +kernel

end Go.Proofs.Ytjfdmhdmadnkoaa
