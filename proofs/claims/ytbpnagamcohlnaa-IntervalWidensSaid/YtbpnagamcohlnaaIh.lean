/- The plain law of intervals. No program is in sight. -/
import Derived.Lib.BitFns
import Derived.Lib.ItoaNum
import Derived.Test.YtbpnagamcohlnaaIp
namespace Go.Proofs.Ytbpnagamcohlnaa

/-- The error of an interval. -/
def chk (l h : Int) : Int := if l < 0 ∨ 4294967295 < l ∨ h < 0 ∨ 4294967295 < h then 2 else if h < l then 29 else 0
def Ivl (l h : Int) : Prop := 0 ≤ l ∧ l ≤ h ∧ h ≤ 4294967295
instance (l h : Int) : Decidable (Ivl l h) := by unfold Ivl; exact inferInstance
theorem chk_iff (l h : Int) : chk l h = 0 ↔ Ivl l h := by
  unfold chk Ivl
  split
  · omega
  · split <;> omega
theorem chk_range {l h : Int} (x : l < 0 ∨ 4294967295 < l ∨ h < 0 ∨ 4294967295 < h) : chk l h = 2 := by unfold chk; exact if_pos x
theorem chk_order {l h : Int} (x : ¬ (l < 0 ∨ 4294967295 < l ∨ h < 0 ∨ 4294967295 < h)) (y : h < l) : chk l h = 29 := by unfold chk; rw [if_neg x, if_pos y]
theorem chk_ok {l h : Int} (x : Ivl l h) : chk l h = 0 := (chk_iff l h).2 x
theorem chk_bd (l h : Int) : 0 ≤ chk l h ∧ chk l h ≤ 29 := by unfold chk; split; omega; split <;> omega
def ordB (a b c d : Int) : Bool := decide (Ivl a b) && decide (Ivl c d)
def conB (a b n : Int) : Bool := decide (Ivl a b) && (decide (a ≤ n) && decide (n ≤ b))
def witB (a b c d : Int) : Bool := ordB a b c d && (decide (c ≤ a) && decide (b ≤ d))
def joinL (a b c d : Int) : Int := if ordB a b c d then min a c else 0
def joinH (a b c d : Int) : Int := if ordB a b c d then max b d else 0
def lim (n : Int) : Int := if n ≤ 255 then 255 else if n ≤ 65535 then 65535 else 4294967295
def widL (a b c d : Int) : Int := if ordB a b c d then (if c < a then 0 else a) else 0
def widH (a b c d : Int) : Int := if ordB a b c d then (if b < d then lim d else b) else 0
theorem ord_iff (a b c d : Int) : ordB a b c d = true ↔ Ivl a b ∧ Ivl c d := by simp [ordB]
theorem ord_false {a b c d : Int} (h : ¬ Ivl a b ∨ ¬ Ivl c d) : ordB a b c d = false := by
  cases e : ordB a b c d
  · rfl
  · rw [ord_iff] at e; rcases h with h | h
    · exact absurd e.1 h
    · exact absurd e.2 h

theorem bitLen_iff (y n : Nat) (hy : y < 4294967296) : Lib.bitLen y ≤ n ↔ y < 2 ^ n := by
  by_cases h0 : y = 0
  · subst h0
    have e : Lib.bitLen 0 = 0 := by decide
    rw [e]
    simp [Nat.pow_pos]
  · obtain ⟨b1, b2, b3⟩ : 1 ≤ Lib.bitLen y ∧ 2 ^ (Lib.bitLen y - 1) ≤ y ∧ y < 2 ^ Lib.bitLen y := Lib.bitLenAux_bounds 64 y (by omega) (by omega)
    constructor
    · intro h
      exact Nat.lt_of_lt_of_le b3 (Nat.pow_le_pow_right (by decide) h)
    · intro h
      rcases Nat.lt_or_ge n (Lib.bitLen y) with hl | hl
      · exfalso
        have : 2 ^ n ≤ 2 ^ (Lib.bitLen y - 1) := Nat.pow_le_pow_right (by decide) (by omega)
        omega
      · exact hl
theorem bitLen_le (n : Int) (h0 : 0 ≤ n) (h1 : n ≤ 4294967295) : Lib.bitLen n.toNat ≤ 32 := (bitLen_iff n.toNat 32 (by omega)).2 (by omega)
theorem pow_bd (L : Nat) (h : L ≤ 32) : 1 ≤ (2 : Int) ^ L ∧ (2 : Int) ^ L ≤ 4294967296 := by
  have h1 : 2 ^ L ≤ 2 ^ 32 := Nat.pow_le_pow_right (by decide) h
  have h2 : 0 < 2 ^ L := Nat.pow_pos (by decide)
  have e : ((2 ^ L : Nat) : Int) = (2 : Int) ^ L := by simp
  rw [← e]
  omega

/-- The greatest number with as many binary digits. -/
def ones (n : Int) : Int := 2 ^ (Lib.bitLen n.toNat) - 1
def shL (l h : Int) : Int := if 0 ≤ l ∧ h ≤ 4294967295 then l else if 4294967295 < l then l - 4294967296 else if h < 0 then l + 4294967296 else 0
def shH (l h : Int) : Int := if 0 ≤ l ∧ h ≤ 4294967295 then h else if 4294967295 < l then h - 4294967296 else if h < 0 then h + 4294967296 else 4294967295
/-- The rules: the low and the high number. -/
def rulL (op a b c d : Int) : Int :=
  if op = 8 then shL (a + c) (b + d) else
  if op = 9 then shL (a - d) (b - c) else
  if op = 10 then (if 0 < d ∧ 4294967295 / d < b then 0 else a * c) else
  if op = 11 then a / d else
  if op = 12 then (if b < c then a else 0) else
  if op = 14 then max a c else
  if op = 16 then (if c ≠ d ∨ 4294967295 / 2 ^ (c % 32).toNat < b then 0 else a * 2 ^ (c % 32).toNat) else
  if op = 17 then (if d ≤ 31 then a / 2 ^ d.toNat else if c = d then a / 2 ^ (c % 32).toNat else 0) else
  if op = 18 then min a c else
  if op = 19 then max a c else 0
def rulH (op a b c d : Int) : Int :=
  if op = 8 then shH (a + c) (b + d) else
  if op = 9 then shH (a - d) (b - c) else
  if op = 10 then (if 0 < d ∧ 4294967295 / d < b then 4294967295 else b * d) else
  if op = 11 then b / c else
  if op = 12 then (if b < c then b else min b (d - 1)) else
  if op = 13 then min b d else
  if op = 14 then ones (max b d) else
  if op = 15 then ones (max b d) else
  if op = 16 then (if c ≠ d ∨ 4294967295 / 2 ^ (c % 32).toNat < b then 4294967295 else b * 2 ^ (c % 32).toNat) else
  if op = 17 then (if d ≤ 31 then b / 2 ^ c.toNat else if c = d then b / 2 ^ (c % 32).toNat else b) else
  if op = 18 then min b d else
  if op = 19 then max b d else
  4294967295
/-- Apply of layer 19: low, high, error. -/
def iaF (op a b c d : Int) : Int × Int × Int :=
  if chk a b ≠ 0 then (0, 0, chk a b) else if chk c d ≠ 0 then (0, 0, chk c d) else
  if op < 8 ∨ 26 < op then (0, 0, 1) else
  if c = 0 ∧ (op = 11 ∨ op = 12) then (0, 0, 17) else
  if 20 < op then (0, 1, 0) else
  if a = b ∧ c = d then (apV op a c, apV op a c, 0) else
  (rulL op a b c d, rulH op a b c d, 0)
end Go.Proofs.Ytbpnagamcohlnaa
