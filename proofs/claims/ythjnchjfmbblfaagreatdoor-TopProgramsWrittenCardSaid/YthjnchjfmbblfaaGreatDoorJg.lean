/- The plain law of the encoding of numbers (layer 2). No program is in sight. -/
import Derived.Lib.BitFns
import Derived.Lib.ItoaNum
import Derived.Test.YthjnchjfmbblfaaGreatDoorIp
namespace Go.Proofs.YthjnchjfmbblfaaGreatDoor
open Go.RowKit
set_option linter.unusedVariables false

def wnum (n : Int) : Int := if n < 0 ∨ 9007199254740991 < n then 0 else n
theorem wnum_bd (n : Int) : 0 ≤ wnum n ∧ wnum n ≤ 9007199254740991 := by unfold wnum; split <;> omega
theorem wnum_id {n : Int} (h0 : 0 ≤ n) (h1 : n ≤ 9007199254740991) : wnum n = n := by unfold wnum; exact if_neg (by omega)
/-- How many further bytes. -/
def fur (n : Int) : Nat := (Lib.bitLen n.toNat - 1) / 7
theorem bl_iff (y n : Nat) (hy : y < 18446744073709551616) : Lib.bitLen y ≤ n ↔ y < 2 ^ n := by
  by_cases h0 : y = 0
  · subst h0
    have e : Lib.bitLen 0 = 0 := by decide
    rw [e]
    simp [Nat.pow_pos]
  · obtain ⟨b1, b2, b3⟩ : 1 ≤ Lib.bitLen y ∧ 2 ^ (Lib.bitLen y - 1) ≤ y ∧ y < 2 ^ Lib.bitLen y := Lib.bitLenAux_bounds 64 y (by omega) (by omega)
    constructor
    · intro h
      exact Nat.lt_of_lt_of_le b3 (Nat.pow_le_pow_right (by decide) h)
    · intro h
      rcases Nat.lt_or_ge n (Lib.bitLen y) with hl | hl
      · exfalso
        have : 2 ^ n ≤ 2 ^ (Lib.bitLen y - 1) := Nat.pow_le_pow_right (by decide) (by omega)
        omega
      · exact hl
/-- k further bytes are enough, exactly when the number has at most 7 (k + 1) digits. -/
theorem fur_le (n : Int) (h0 : 0 ≤ n) (h1 : n ≤ 9007199254740991) (k : Nat) : fur n ≤ k ↔ n < 2 ^ (7 * (k + 1)) := by
  have h := bl_iff n.toNat (7 * (k + 1)) (by omega)
  have e : ((2 ^ (7 * (k + 1)) : Nat) : Int) = (2 : Int) ^ (7 * (k + 1)) := by simp
  unfold fur
  have hp : 0 < 2 ^ (7 * (k + 1)) := Nat.pow_pos (by decide)
  constructor
  · intro hk
    have : Lib.bitLen n.toNat ≤ 7 * (k + 1) := by omega
    have := h.1 this
    omega
  · intro hn
    have := h.2 (by omega)
    omega
theorem fur_7 (n : Int) (h0 : 0 ≤ n) (h1 : n ≤ 9007199254740991) : fur n ≤ 7 := by
  have e : (2 : Int) ^ (7 * (7 + 1)) = 72057594037927936 := by decide
  exact (fur_le n h0 h1 7).2 (by rw [e]; omega)
/-- The bytes behind the first one: k of them. -/
def wtail (n : Int) : Nat → List Int
  | 0 => []
  | k + 1 => n / 2 ^ (8 * k) % 256 :: wtail n k
def whead (n : Int) : Int := 256 - 2 ^ (8 - fur n) + n / 2 ^ (8 * fur n)
/-- The encoding of a number. -/
def wenc (n : Int) : List Int := whead n :: wtail n (fur n)
theorem wtail_len (n : Int) (k : Nat) : (wtail n k).length = k := by
  induction k with
  | zero => rfl
  | succ k ih => simp [wtail, ih]
theorem wenc_len (n : Int) : (wenc n).length = fur n + 1 := by simp [wenc, wtail_len]
theorem whigh (n : Int) (h0 : 0 ≤ n) (h1 : n ≤ 9007199254740991) : 0 ≤ n / 2 ^ (8 * fur n) ∧ n / 2 ^ (8 * fur n) < 2 ^ (7 - fur n) := by
  have h7 := fur_7 n h0 h1
  have hn := (fur_le n h0 h1 (fur n)).1 (Nat.le_refl _)
  have hp : (0 : Int) < 2 ^ (8 * fur n) := Int.pow_pos (by decide)
  refine ⟨Int.ediv_nonneg h0 (by omega), Int.ediv_lt_of_lt_mul hp ?_⟩
  rw [← Int.pow_add, show 7 - fur n + 8 * fur n = 7 * (fur n + 1) by omega]
  exact hn
end Go.Proofs.YthjnchjfmbblfaaGreatDoor
