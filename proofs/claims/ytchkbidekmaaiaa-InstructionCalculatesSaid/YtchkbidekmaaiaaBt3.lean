/- The bit operations on numbers of 32 bits, as those of natural numbers. -/
import Derived.Test.YtchkbidekmaaiaaE
namespace Go.Proofs.Ytchkbidekmaaiaa
open Go.RowKit

theorem ofInt32 (a : Int) (h0 : 0 ≤ a) (h1 : a ≤ 4294967295) : (BitVec.ofInt 32 a).toNat = a.toNat := by
  rw [BitVec.toNat_ofInt]
  have : a % ((2 ^ 32 : Nat) : Int) = a := Int.emod_eq_of_lt h0 (by simp; omega)
  rw [this]
theorem wrap32u (n : Nat) (h : n < 4294967296) : IntKind.u32.wrap (n : Int) = n := IntWalk.u32_in _ (by omega)
theorem bits_and32 (a b : Int) (a0 : 0 ≤ a) (a1 : a ≤ 4294967295) (b0 : 0 ≤ b) (b1 : b ≤ 4294967295) : bits .and .u32 a b = ((a.toNat &&& b.toNat : Nat) : Int) := by
  show IntKind.u32.wrap (((BitVec.ofInt 32 a) &&& (BitVec.ofInt 32 b)).toNat : Int) = _
  rw [BitVec.toNat_and, ofInt32 a a0 a1, ofInt32 b b0 b1]
  exact wrap32u _ (Nat.and_lt_two_pow (n := 32) _ (by omega))
theorem bits_or32 (a b : Int) (a0 : 0 ≤ a) (a1 : a ≤ 4294967295) (b0 : 0 ≤ b) (b1 : b ≤ 4294967295) : bits .or .u32 a b = ((a.toNat ||| b.toNat : Nat) : Int) := by
  show IntKind.u32.wrap (((BitVec.ofInt 32 a) ||| (BitVec.ofInt 32 b)).toNat : Int) = _
  rw [BitVec.toNat_or, ofInt32 a a0 a1, ofInt32 b b0 b1]
  exact wrap32u _ (Nat.or_lt_two_pow (n := 32) (by omega) (by omega))
theorem bits_xor32 (a b : Int) (a0 : 0 ≤ a) (a1 : a ≤ 4294967295) (b0 : 0 ≤ b) (b1 : b ≤ 4294967295) : bits .xor .u32 a b = ((a.toNat ^^^ b.toNat : Nat) : Int) := by
  show IntKind.u32.wrap (((BitVec.ofInt 32 a) ^^^ (BitVec.ofInt 32 b)).toNat : Int) = _
  rw [BitVec.toNat_xor, ofInt32 a a0 a1, ofInt32 b b0 b1]
  exact wrap32u _ (Nat.xor_lt_two_pow (n := 32) (by omega) (by omega))
theorem bits32_bd (op : BinOp) (a b : Int) : 0 ≤ bits op .u32 a b ∧ bits op .u32 a b ≤ 4294967295 := by
  have : ∀ n : Int, 0 ≤ IntKind.u32.wrap n ∧ IntKind.u32.wrap n ≤ 4294967295 := fun n => by rw [IntKind.wrap_u32]; omega
  exact this _
theorem two_or : ∀ x, x < 2 → ∀ y, y < 2 → (x ||| y) + (x &&& y) = x + y := by decide
theorem two_xor : ∀ x, x < 2 → ∀ y, y < 2 → (x ^^^ y) + 2 * (x &&& y) = x + y := by decide
theorem nat_or_and (a : Nat) : ∀ b, (a ||| b) + (a &&& b) = a + b := by
  induction a using Nat.strongRecOn with
  | ind a ih =>
    intro b
    by_cases h0 : a = 0
    · subst h0; simp
    · have h := ih (a / 2) (by omega) (b / 2)
      have e1 := Nat.or_div_two (a := a) (b := b)
      have e2 := Nat.and_div_two (a := a) (b := b)
      have m1 : (a ||| b) % 2 = (a % 2) ||| (b % 2) := by rw [show (2 : Nat) = 2 ^ 1 from rfl, Nat.or_mod_two_pow]
      have m2 : (a &&& b) % 2 = (a % 2) &&& (b % 2) := by rw [show (2 : Nat) = 2 ^ 1 from rfl, Nat.and_mod_two_pow]
      have k := two_or (a % 2) (by omega) (b % 2) (by omega)
      rw [← m1, ← m2] at k
      omega
theorem nat_xor_and (a : Nat) : ∀ b, (a ^^^ b) + 2 * (a &&& b) = a + b := by
  induction a using Nat.strongRecOn with
  | ind a ih =>
    intro b
    by_cases h0 : a = 0
    · subst h0; simp
    · have h := ih (a / 2) (by omega) (b / 2)
      have e1 := Nat.xor_div_two (a := a) (b := b)
      have e2 := Nat.and_div_two (a := a) (b := b)
      have m1 : (a ^^^ b) % 2 = (a % 2) ^^^ (b % 2) := by rw [show (2 : Nat) = 2 ^ 1 from rfl, Nat.xor_mod_two_pow]
      have m2 : (a &&& b) % 2 = (a % 2) &&& (b % 2) := by rw [show (2 : Nat) = 2 ^ 1 from rfl, Nat.and_mod_two_pow]
      have k := two_xor (a % 2) (by omega) (b % 2) (by omega)
      rw [← m1, ← m2] at k
      omega
/-- Of two numbers: their union and intersection have their sum; their difference is that of these. -/
theorem bits_sum (a b : Int) (a0 : 0 ≤ a) (a1 : a ≤ 4294967295) (b0 : 0 ≤ b) (b1 : b ≤ 4294967295) :
    bits .or .u32 a b + bits .and .u32 a b = a + b ∧ bits .xor .u32 a b = bits .or .u32 a b - bits .and .u32 a b ∧ 0 ≤ bits .and .u32 a b ∧ bits .and .u32 a b ≤ 4294967295 ∧ 0 ≤ bits .or .u32 a b ∧ bits .or .u32 a b ≤ 4294967295 := by
  have h1 := nat_or_and a.toNat b.toNat
  have h2 := nat_xor_and a.toNat b.toNat
  have c1 := bits32_bd .and a b
  have c2 := bits32_bd .or a b
  rw [bits_and32 a b a0 a1 b0 b1, bits_or32 a b a0 a1 b0 b1, bits_xor32 a b a0 a1 b0 b1] at *
  omega
end Go.Proofs.Ytchkbidekmaaiaa
