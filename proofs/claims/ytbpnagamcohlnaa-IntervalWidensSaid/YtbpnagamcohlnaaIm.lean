/- The plain law of IntervalSound and IntervalMonotone. -/
import Derived.Test.YtbpnagamcohlnaaIs
import Derived.Test.YtbpnagamcohlnaaIw
namespace Go.Proofs.Ytbpnagamcohlnaa
open Go.RowKit
set_option linter.unusedVariables false

theorem int_pow_cast (k : Nat) : ((2 ^ k : Nat) : Int) = (2 : Int) ^ k := by simp
theorem lt_ones {n m : Int} (h0 : 0 ≤ n) (h1 : n ≤ m) (h2 : m ≤ 4294967295) : n.toNat < 2 ^ (Lib.bitLen m.toNat) := by
  have := (bitLen_iff m.toNat _ (by omega)).1 (Nat.le_refl _)
  omega
theorem ones_nat {m : Int} (n : Nat) (h : n < 2 ^ (Lib.bitLen m.toNat)) : (n : Int) ≤ ones m := by
  unfold ones
  have := int_pow_cast (Lib.bitLen m.toNat)
  omega
theorem ones_mono {n m : Int} (h0 : 0 ≤ n) (h1 : n ≤ m) (h2 : m ≤ 4294967295) : ones n ≤ ones m := by
  unfold ones
  have a1 := lt_ones h0 h1 h2
  have a2 := (bitLen_iff n.toNat _ (by omega)).2 a1
  have a3 : 2 ^ (Lib.bitLen n.toNat) ≤ 2 ^ (Lib.bitLen m.toNat) := Nat.pow_le_pow_right (by decide) a2
  have := int_pow_cast (Lib.bitLen m.toNat)
  have := int_pow_cast (Lib.bitLen n.toNat)
  omega
theorem div_mono_l {a b p : Int} (h : a ≤ b) (hp : 0 < p) : a / p ≤ b / p := Int.ediv_le_ediv hp h
theorem div_anti {a p q : Int} (h0 : 0 ≤ a) (hp : 0 < p) (h : p ≤ q) : a / q ≤ a / p := by
  have h1 : a / q * q ≤ a := Int.ediv_mul_le _ (by omega)
  have h2 : 0 ≤ a / q := Int.ediv_nonneg h0 (by omega)
  have h3 : a / q * p ≤ a / q * q := Int.mul_le_mul_of_nonneg_left h h2
  exact (Int.le_ediv_iff_mul_le hp).2 (by omega)
theorem div_mid {a b c d A B : Int} (h0 : 0 ≤ a) (ha : a ≤ A) (hb : A ≤ b) (hc0 : 0 < c) (hc : c ≤ B) (hd : B ≤ d) : a / d ≤ A / B ∧ A / B ≤ b / c := by
  constructor
  · exact Int.le_trans (div_anti h0 (by omega) hd) (div_mono_l ha (by omega))
  · exact Int.le_trans (div_mono_l hb (by omega)) (div_anti (by omega) hc0 hc)
theorem mul_mid {a b c d A B : Int} (h0 : 0 ≤ a) (ha : a ≤ A) (hb : A ≤ b) (hc0 : 0 ≤ c) (hc : c ≤ B) (hd : B ≤ d) : a * c ≤ A * B ∧ A * B ≤ b * d :=
  ⟨Int.mul_le_mul ha hc hc0 (by omega), Int.mul_le_mul hb hd (by omega) (by omega)⟩
theorem pow_pos_int (k : Nat) : (0 : Int) < 2 ^ k := Int.pow_pos (by decide)
theorem pow_mono_int {j k : Nat} (h : j ≤ k) : (2 : Int) ^ j ≤ 2 ^ k := by
  have := Nat.pow_le_pow_right (n := 2) (by decide) h
  have := int_pow_cast j
  have := int_pow_cast k
  omega

/-- A number in the interval of each operand: the result is in the rule's interval. -/
def In (zl zh n : Int) : Prop := 0 ≤ zl ∧ zl ≤ n ∧ n ≤ zh ∧ zh ≤ 4294967295
section
variable {a b c d A B : Int}
theorem s8 (h0 : 0 ≤ a) (ha : a ≤ A) (hb : A ≤ b) (h1 : b ≤ 4294967295) (k0 : 0 ≤ c) (hc : c ≤ B) (hd : B ≤ d) (k1 : d ≤ 4294967295) : In (rulL 8 a b c d) (rulH 8 a b c d) (apV 8 A B) := by
  rw [rulL_8, rulH_8, apV_8]; unfold In shL shH; (repeat' split) <;> omega
theorem s9 (h0 : 0 ≤ a) (ha : a ≤ A) (hb : A ≤ b) (h1 : b ≤ 4294967295) (k0 : 0 ≤ c) (hc : c ≤ B) (hd : B ≤ d) (k1 : d ≤ 4294967295) : In (rulL 9 a b c d) (rulH 9 a b c d) (apV 9 A B) := by
  rw [rulL_9, rulH_9, apV_9]; unfold In shL shH; (repeat' split) <;> omega
theorem s10 (h0 : 0 ≤ a) (ha : a ≤ A) (hb : A ≤ b) (h1 : b ≤ 4294967295) (k0 : 0 ≤ c) (hc : c ≤ B) (hd : B ≤ d) (k1 : d ≤ 4294967295) : In (rulL 10 a b c d) (rulH 10 a b c d) (apV 10 A B) := by
  rw [rulL_10, rulH_10, apV_10]
  by_cases k : 0 < d ∧ 4294967295 / d < b
  · rw [if_pos k, if_pos k]; unfold In; omega
  · rw [if_neg k, if_neg k]
    obtain ⟨m1, m2⟩ := mul_mid h0 ha hb k0 hc hd
    have hbd : b * d ≤ 4294967295 := by
      by_cases z : 0 < d
      · exact (mul_bd2 a b c d h0 (by omega) k0 (by omega) z (fun h => k ⟨z, h⟩)).2.2.2
      · have : d = 0 := by omega
        rw [this, Int.mul_zero]; omega
    have hac : 0 ≤ a * c := Int.mul_nonneg h0 k0
    have e : A * B % 4294967296 = A * B := Int.emod_eq_of_lt (by omega) (by omega)
    rw [e]
    unfold In; omega
theorem s11 (h0 : 0 ≤ a) (ha : a ≤ A) (hb : A ≤ b) (h1 : b ≤ 4294967295) (k0 : 1 ≤ c) (hc : c ≤ B) (hd : B ≤ d) (k1 : d ≤ 4294967295) : In (rulL 11 a b c d) (rulH 11 a b c d) (apV 11 A B) := by
  rw [rulL_11, rulH_11, apV_11]
  obtain ⟨m1, m2⟩ := div_mid h0 ha hb (by omega) hc hd
  have x := div_bd32 a d h0 (by omega) (by omega)
  have y := div_bd32 b c (by omega) h1 (by omega)
  unfold Bd32 at x y
  unfold In; omega
theorem s12 (h0 : 0 ≤ a) (ha : a ≤ A) (hb : A ≤ b) (h1 : b ≤ 4294967295) (k0 : 1 ≤ c) (hc : c ≤ B) (hd : B ≤ d) (k1 : d ≤ 4294967295) : In (rulL 12 a b c d) (rulH 12 a b c d) (apV 12 A B) := by
  rw [rulL_12, rulH_12, apV_12]
  have m1 := Int.emod_nonneg A (show B ≠ 0 by omega)
  have m2 := Int.emod_lt_of_pos A (show 0 < B by omega)
  have m3 : A % B ≤ A := by
    have := Int.ediv_nonneg (show 0 ≤ A by omega) (show 0 ≤ B by omega)
    have := Int.mul_ediv_add_emod A B
    have := Int.mul_nonneg (show 0 ≤ B by omega) (show 0 ≤ A / B by assumption)
    omega
  by_cases k : b < c
  · rw [if_pos k, if_pos k, Int.emod_eq_of_lt (by omega) (by omega)]; unfold In; omega
  · rw [if_neg k, if_neg k]; unfold In; omega
theorem s13 (h0 : 0 ≤ a) (ha : a ≤ A) (hb : A ≤ b) (h1 : b ≤ 4294967295) (k0 : 0 ≤ c) (hc : c ≤ B) (hd : B ≤ d) (k1 : d ≤ 4294967295) : In (rulL 13 a b c d) (rulH 13 a b c d) (apV 13 A B) := by
  rw [rulL_13, rulH_13, apV_13, bits_and32 A B (by omega) (by omega) (by omega) (by omega)]
  have m1 : A.toNat &&& B.toNat ≤ A.toNat := Nat.and_le_left
  have m2 : A.toNat &&& B.toNat ≤ B.toNat := Nat.and_le_right
  unfold In; omega
theorem s14 (h0 : 0 ≤ a) (ha : a ≤ A) (hb : A ≤ b) (h1 : b ≤ 4294967295) (k0 : 0 ≤ c) (hc : c ≤ B) (hd : B ≤ d) (k1 : d ≤ 4294967295) : In (rulL 14 a b c d) (rulH 14 a b c d) (apV 14 A B) := by
  rw [rulL_14, rulH_14, apV_14, bits_or32 A B (by omega) (by omega) (by omega) (by omega)]
  have m1 : A.toNat ≤ A.toNat ||| B.toNat := Nat.left_le_or
  have m2 : B.toNat ≤ A.toNat ||| B.toNat := Nat.right_le_or
  have m3 := ones_nat (m := max b d) _ (Nat.or_lt_two_pow (lt_ones (n := A) (m := max b d) (by omega) (by omega) (by omega)) (lt_ones (n := B) (m := max b d) (by omega) (by omega) (by omega)))
  have m4 := ones_bd (max b d) (by omega) (by omega)
  unfold In; omega
theorem s15 (h0 : 0 ≤ a) (ha : a ≤ A) (hb : A ≤ b) (h1 : b ≤ 4294967295) (k0 : 0 ≤ c) (hc : c ≤ B) (hd : B ≤ d) (k1 : d ≤ 4294967295) : In (rulL 15 a b c d) (rulH 15 a b c d) (apV 15 A B) := by
  rw [rulL_15, rulH_15, apV_15, bits_xor32 A B (by omega) (by omega) (by omega) (by omega)]
  have m3 := ones_nat (m := max b d) _ (Nat.xor_lt_two_pow (lt_ones (n := A) (m := max b d) (by omega) (by omega) (by omega)) (lt_ones (n := B) (m := max b d) (by omega) (by omega) (by omega)))
  have m4 := ones_bd (max b d) (by omega) (by omega)
  unfold In; omega
theorem s16 (h0 : 0 ≤ a) (ha : a ≤ A) (hb : A ≤ b) (h1 : b ≤ 4294967295) (k0 : 0 ≤ c) (hc : c ≤ B) (hd : B ≤ d) (k1 : d ≤ 4294967295) : In (rulL 16 a b c d) (rulH 16 a b c d) (apV 16 A B) := by
  rw [rulL_16, rulH_16, apV_16]
  by_cases k : c ≠ d ∨ 4294967295 / 2 ^ (c % 32).toNat < b
  · rw [if_pos k, if_pos k]; unfold In; omega
  · rw [if_neg k, if_neg k]
    have e : c = d := by
      rcases Classical.em (c = d) with h | h
      · exact h
      · exact absurd (Or.inl h) k
    have e2 : B = c := by omega
    rw [e2]
    have hf := shl_full b (c % 32).toNat (by omega)
    have hb2 : ¬ 4294967295 < b * 2 ^ (c % 32).toNat := fun h => k (Or.inr (hf.2 h))
    have p := pow_pos_int (c % 32).toNat
    have m1 : a * 2 ^ (c % 32).toNat ≤ A * 2 ^ (c % 32).toNat := Int.mul_le_mul_of_nonneg_right ha (by omega)
    have m2 : A * 2 ^ (c % 32).toNat ≤ b * 2 ^ (c % 32).toNat := Int.mul_le_mul_of_nonneg_right hb (by omega)
    have m3 : 0 ≤ a * 2 ^ (c % 32).toNat := Int.mul_nonneg h0 (by omega)
    rw [Int.emod_eq_of_lt (a := A * 2 ^ (c % 32).toNat) (b := 4294967296) (by omega) (by omega)]
    unfold In; omega
theorem s17 (h0 : 0 ≤ a) (ha : a ≤ A) (hb : A ≤ b) (h1 : b ≤ 4294967295) (k0 : 0 ≤ c) (hc : c ≤ B) (hd : B ≤ d) (k1 : d ≤ 4294967295) : In (rulL 17 a b c d) (rulH 17 a b c d) (apV 17 A B) := by
  rw [rulL_17, rulH_17, apV_17]
  have ub := div_pow_bd A (B % 32).toNat (by omega) (by omega)
  by_cases k : d ≤ 31
  · rw [if_pos k, if_pos k, show B % 32 = B by omega]
    obtain ⟨m1, m2⟩ := div_mid (a := a) (b := b) (c := 2 ^ c.toNat) (d := 2 ^ d.toNat) (A := A) (B := 2 ^ B.toNat) h0 ha hb (pow_pos_int _) (pow_mono_int (by omega)) (pow_mono_int (by omega))
    have x := div_pow_bd a d.toNat h0 (by omega)
    have y := div_pow_bd b c.toNat (by omega) h1
    unfold In; omega
  · rw [if_neg k, if_neg k]
    by_cases e : c = d
    · rw [if_pos e, if_pos e, show B = c by omega]
      have m1 := div_mono_l ha (pow_pos_int (c % 32).toNat)
      have m2 := div_mono_l hb (pow_pos_int (c % 32).toNat)
      have x := div_pow_bd a (c % 32).toNat h0 (by omega)
      have y := div_pow_bd b (c % 32).toNat (by omega) h1
      unfold In; omega
    · rw [if_neg e, if_neg e]
      have m : A / 2 ^ (B % 32).toNat ≤ A := Int.ediv_le_self _ (by omega)
      unfold In; omega
theorem s18 (h0 : 0 ≤ a) (ha : a ≤ A) (hb : A ≤ b) (h1 : b ≤ 4294967295) (k0 : 0 ≤ c) (hc : c ≤ B) (hd : B ≤ d) (k1 : d ≤ 4294967295) : In (rulL 18 a b c d) (rulH 18 a b c d) (apV 18 A B) := by
  rw [rulL_18, rulH_18, apV_18]; unfold In; omega
theorem s19 (h0 : 0 ≤ a) (ha : a ≤ A) (hb : A ≤ b) (h1 : b ≤ 4294967295) (k0 : 0 ≤ c) (hc : c ≤ B) (hd : B ≤ d) (k1 : d ≤ 4294967295) : In (rulL 19 a b c d) (rulH 19 a b c d) (apV 19 A B) := by
  rw [rulL_19, rulH_19, apV_19]; unfold In; omega
theorem s20 (h0 : 0 ≤ a) (ha : a ≤ A) (hb : A ≤ b) (h1 : b ≤ 4294967295) (k0 : 0 ≤ c) (hc : c ≤ B) (hd : B ≤ d) (k1 : d ≤ 4294967295) : In (rulL 20 a b c d) (rulH 20 a b c d) (apV 20 A B) := by
  rw [rulL_20, rulH_20]
  have := apV_bd 20 A B (by omega) (by omega) (by omega) (by omega)
  unfold In; omega
theorem cmp_bd (op : Int) (h0 : 21 ≤ op) (h1 : op ≤ 26) : 0 ≤ apV op A B ∧ apV op A B ≤ 1 := by
  have hc : op = 21 ∨ op = 22 ∨ op = 23 ∨ op = 24 ∨ op = 25 ∨ op = 26 := by omega
  rcases hc with rfl | rfl | rfl | rfl | rfl | rfl
  · rw [apV_21]; exact fl_bd _
  · rw [apV_22]; exact fl_bd _
  · rw [apV_23]; exact fl_bd _
  · rw [apV_24]; exact fl_bd _
  · rw [apV_25]; exact fl_bd _
  · rw [apV_26]; exact fl_bd _
theorem rule_sound (op : Int) (p0 : 8 ≤ op) (p1 : op ≤ 20) (hz : c = 0 → op ≠ 11 ∧ op ≠ 12) (h0 : 0 ≤ a) (ha : a ≤ A) (hb : A ≤ b) (h1 : b ≤ 4294967295) (k0 : 0 ≤ c) (hc : c ≤ B) (hd : B ≤ d) (k1 : d ≤ 4294967295) : In (rulL op a b c d) (rulH op a b c d) (apV op A B) := by
  have hcs : op = 8 ∨ op = 9 ∨ op = 10 ∨ op = 11 ∨ op = 12 ∨ op = 13 ∨ op = 14 ∨ op = 15 ∨ op = 16 ∨ op = 17 ∨ op = 18 ∨ op = 19 ∨ op = 20 := by omega
  rcases hcs with rfl | rfl | rfl | rfl | rfl | rfl | rfl | rfl | rfl | rfl | rfl | rfl | rfl
  · exact s8 h0 ha hb h1 k0 hc hd k1
  · exact s9 h0 ha hb h1 k0 hc hd k1
  · exact s10 h0 ha hb h1 k0 hc hd k1
  · exact s11 h0 ha hb h1 (by omega) hc hd k1
  · exact s12 h0 ha hb h1 (by omega) hc hd k1
  · exact s13 h0 ha hb h1 k0 hc hd k1
  · exact s14 h0 ha hb h1 k0 hc hd k1
  · exact s15 h0 ha hb h1 k0 hc hd k1
  · exact s16 h0 ha hb h1 k0 hc hd k1
  · exact s17 h0 ha hb h1 k0 hc hd k1
  · exact s18 h0 ha hb h1 k0 hc hd k1
  · exact s19 h0 ha hb h1 k0 hc hd k1
  · exact s20 h0 ha hb h1 k0 hc hd k1
/-- Apply of layer 19 is sound. -/
theorem iaF_sound (op : Int) (p0 : 8 ≤ op) (p1 : op ≤ 26) (hz : c = 0 → op ≠ 11 ∧ op ≠ 12) (h0 : 0 ≤ a) (ha : a ≤ A) (hb : A ≤ b) (h1 : b ≤ 4294967295) (k0 : 0 ≤ c) (hc : c ≤ B) (hd : B ≤ d) (k1 : d ≤ 4294967295) :
    (iaF op a b c d).2.2 = 0 ∧ In (iaF op a b c d).1 (iaF op a b c d).2.1 (apV op A B) := by
  have e1 := chk_ok (l := a) (h := b) ⟨h0, by omega, h1⟩
  have e2 := chk_ok (l := c) (h := d) ⟨k0, by omega, k1⟩
  unfold iaF
  rw [if_neg (by omega), if_neg (by omega), if_neg (by omega), if_neg (by rintro ⟨x, y⟩; have := hz x; omega)]
  by_cases k : 20 < op
  · rw [if_pos k]
    have := cmp_bd (A := A) (B := B) op (by omega) p1
    exact ⟨rfl, by show In 0 1 _; unfold In; omega⟩
  · rw [if_neg k]
    by_cases x : a = b ∧ c = d
    · rw [if_pos x, show A = a by omega, show B = c by omega]
      have := apV_bd op a c h0 (by omega) k0 (by omega)
      exact ⟨rfl, by unfold In; exact ⟨this.1, Int.le_refl _, Int.le_refl _, this.2⟩⟩
    · rw [if_neg x]
      exact ⟨rfl, rule_sound op p0 (by omega) hz h0 ha hb h1 k0 hc hd k1⟩
end
/-- The rules are monotone. -/
def Wi (zl zh yl yh : Int) : Prop := yl ≤ zl ∧ zh ≤ yh
section
variable {a b c d a' b' c' d' : Int}
theorem m10 (h0 : 0 ≤ a') (h1 : a' ≤ a) (h2 : a ≤ b) (h3 : b ≤ b') (h4 : b' ≤ 4294967295) (k0 : 0 ≤ c') (k1 : c' ≤ c) (k2 : c ≤ d) (k3 : d ≤ d') (k4 : d' ≤ 4294967295) : Wi (rulL 10 a b c d) (rulH 10 a b c d) (rulL 10 a' b' c' d') (rulH 10 a' b' c' d') := by
  have hin := s10 (a := a) (b := b) (c := c) (d := d) (A := a) (B := c) (by omega) (Int.le_refl _) h2 (by omega) (by omega) (Int.le_refl _) k2 (by omega)
  rw [rulL_10, rulH_10] at hin ⊢
  rw [rulL_10, rulH_10]
  by_cases k : 0 < d' ∧ 4294967295 / d' < b'
  · rw [if_pos k, if_pos k]; unfold In at hin; unfold Wi; omega
  · rw [if_neg k, if_neg k]
    have hbd : b' * d' ≤ 4294967295 := by
      by_cases z : 0 < d'
      · exact (mul_bd2 a' b' c' d' h0 (by omega) k0 (by omega) z (fun h => k ⟨z, h⟩)).2.2.2
      · have : d' = 0 := by omega
        rw [this, Int.mul_zero]; omega
    have q1 : b * d ≤ b' * d' := Int.mul_le_mul h3 k3 (by omega) (by omega)
    have q2 : a' * c' ≤ a * c := Int.mul_le_mul h1 k1 k0 (by omega)
    have kk : ¬ (0 < d ∧ 4294967295 / d < b) := by
      rintro ⟨x, y⟩
      have := (Int.ediv_lt_iff_lt_mul x).1 y
      omega
    rw [if_neg kk, if_neg kk]
    exact ⟨q2, q1⟩
theorem m16 (h0 : 0 ≤ a') (h1 : a' ≤ a) (h2 : a ≤ b) (h3 : b ≤ b') (h4 : b' ≤ 4294967295) (k0 : 0 ≤ c') (k1 : c' ≤ c) (k2 : c ≤ d) (k3 : d ≤ d') (k4 : d' ≤ 4294967295) : Wi (rulL 16 a b c d) (rulH 16 a b c d) (rulL 16 a' b' c' d') (rulH 16 a' b' c' d') := by
  have hin := s16 (a := a) (b := b) (c := c) (d := d) (A := a) (B := c) (by omega) (Int.le_refl _) h2 (by omega) (by omega) (Int.le_refl _) k2 (by omega)
  rw [rulL_16, rulH_16] at hin ⊢
  rw [rulL_16, rulH_16]
  by_cases k : c' ≠ d' ∨ 4294967295 / 2 ^ (c' % 32).toNat < b'
  · rw [if_pos k, if_pos k]; unfold In at hin; unfold Wi; omega
  · rw [if_neg k, if_neg k]
    have e : c' = d' := by
      rcases Classical.em (c' = d') with h | h
      · exact h
      · exact absurd (Or.inl h) k
    have e1 : c = c' := by omega
    have e2 : d = c' := by omega
    have kk : ¬ (c ≠ d ∨ 4294967295 / 2 ^ (c % 32).toNat < b) := by
      rintro (x | y)
      · omega
      · rw [e1] at y; exact k (Or.inr (by omega))
    rw [if_neg kk, if_neg kk, e1]
    have p := pow_pos_int (c' % 32).toNat
    exact ⟨Int.mul_le_mul_of_nonneg_right h1 (by omega), Int.mul_le_mul_of_nonneg_right h3 (by omega)⟩
theorem m17 (h0 : 0 ≤ a') (h1 : a' ≤ a) (h2 : a ≤ b) (h3 : b ≤ b') (h4 : b' ≤ 4294967295) (k0 : 0 ≤ c') (k1 : c' ≤ c) (k2 : c ≤ d) (k3 : d ≤ d') (k4 : d' ≤ 4294967295) : Wi (rulL 17 a b c d) (rulH 17 a b c d) (rulL 17 a' b' c' d') (rulH 17 a' b' c' d') := by
  have hin := s17 (a := a) (b := b) (c := c) (d := d) (A := a) (B := c) (by omega) (Int.le_refl _) h2 (by omega) (by omega) (Int.le_refl _) k2 (by omega)
  rw [rulL_17, rulH_17] at hin ⊢
  rw [rulL_17, rulH_17]
  have v1 := div_pow_bd b c.toNat (by omega) (by omega)
  by_cases k : d' ≤ 31
  · rw [if_pos k, if_pos k, if_pos (show d ≤ 31 by omega), if_pos (show d ≤ 31 by omega)]
    exact ⟨Int.le_trans (div_anti h0 (pow_pos_int _) (pow_mono_int (by omega))) (div_mono_l h1 (pow_pos_int _)), Int.le_trans (div_mono_l h3 (pow_pos_int _)) (div_anti (by omega) (pow_pos_int _) (pow_mono_int (by omega)))⟩
  · rw [if_neg k, if_neg k]
    by_cases e : c' = d'
    · have e1 : c = c' := by omega
      have e2 : d = c' := by omega
      rw [if_pos e, if_pos e, if_neg (show ¬ d ≤ 31 by omega), if_neg (show ¬ d ≤ 31 by omega), if_pos (show c = d by omega), if_pos (show c = d by omega), e1]
      exact ⟨div_mono_l h1 (pow_pos_int _), div_mono_l h3 (pow_pos_int _)⟩
    · rw [if_neg e, if_neg e]
      refine ⟨hin.1, ?_⟩
      split
      · exact Int.le_trans (Int.ediv_le_self _ (by omega)) h3
      · split
        · exact Int.le_trans (Int.ediv_le_self _ (by omega)) h3
        · exact h3
theorem rule_mono (op : Int) (p0 : 8 ≤ op) (p1 : op ≤ 20) (hz : c' = 0 → op ≠ 11 ∧ op ≠ 12) (h0 : 0 ≤ a') (h1 : a' ≤ a) (h2 : a ≤ b) (h3 : b ≤ b') (h4 : b' ≤ 4294967295) (k0 : 0 ≤ c') (k1 : c' ≤ c) (k2 : c ≤ d) (k3 : d ≤ d') (k4 : d' ≤ 4294967295) :
    Wi (rulL op a b c d) (rulH op a b c d) (rulL op a' b' c' d') (rulH op a' b' c' d') := by
  have hcs : op = 8 ∨ op = 9 ∨ op = 10 ∨ op = 11 ∨ op = 12 ∨ op = 13 ∨ op = 14 ∨ op = 15 ∨ op = 16 ∨ op = 17 ∨ op = 18 ∨ op = 19 ∨ op = 20 := by omega
  rcases hcs with rfl | rfl | rfl | rfl | rfl | rfl | rfl | rfl | rfl | rfl | rfl | rfl | rfl
  · simp only [rulL_8, rulH_8]; unfold Wi shL shH; (repeat' split) <;> omega
  · simp only [rulL_9, rulH_9]; unfold Wi shL shH; (repeat' split) <;> omega
  · exact m10 h0 h1 h2 h3 h4 k0 k1 k2 k3 k4
  · simp only [rulL_11, rulH_11]
    have e : 1 ≤ c' := by omega
    exact ⟨Int.le_trans (div_anti h0 (by omega) k3) (div_mono_l h1 (by omega)), Int.le_trans (div_mono_l h3 (by omega)) (div_anti (by omega) (by omega) k1)⟩
  · simp only [rulL_12, rulH_12]; unfold Wi; (repeat' split) <;> omega
  · simp only [rulL_13, rulH_13]; unfold Wi; omega
  · simp only [rulL_14, rulH_14]; exact ⟨by omega, ones_mono (by omega) (by omega) (by omega)⟩
  · simp only [rulL_15, rulH_15]; exact ⟨by omega, ones_mono (by omega) (by omega) (by omega)⟩
  · exact m16 h0 h1 h2 h3 h4 k0 k1 k2 k3 k4
  · exact m17 h0 h1 h2 h3 h4 k0 k1 k2 k3 k4
  · simp only [rulL_18, rulH_18]; unfold Wi; omega
  · simp only [rulL_19, rulH_19]; unfold Wi; omega
  · simp only [rulL_20, rulH_20]; unfold Wi; omega
/-- Apply of layer 19 is monotone. -/
theorem iaF_mono (op : Int) (p0 : 8 ≤ op) (p1 : op ≤ 26) (hz : c' = 0 → op ≠ 11 ∧ op ≠ 12) (h0 : 0 ≤ a') (h1 : a' ≤ a) (h2 : a ≤ b) (h3 : b ≤ b') (h4 : b' ≤ 4294967295) (k0 : 0 ≤ c') (k1 : c' ≤ c) (k2 : c ≤ d) (k3 : d ≤ d') (k4 : d' ≤ 4294967295) :
    (iaF op a b c d).2.2 = 0 ∧ (iaF op a' b' c' d').2.2 = 0 ∧ Ivl (iaF op a b c d).1 (iaF op a b c d).2.1 ∧ Ivl (iaF op a' b' c' d').1 (iaF op a' b' c' d').2.1 ∧ Wi (iaF op a b c d).1 (iaF op a b c d).2.1 (iaF op a' b' c' d').1 (iaF op a' b' c' d').2.1 := by
  obtain ⟨e1, i1⟩ := iaF_sound (a := a) (b := b) (c := c) (d := d) (A := a) (B := c) op p0 p1 (by intro x; exact hz (by omega)) (by omega) (Int.le_refl _) h2 (by omega) (by omega) (Int.le_refl _) k2 (by omega)
  obtain ⟨e2, i2⟩ := iaF_sound (a := a') (b := b') (c := c') (d := d') (A := a) (B := c) op p0 p1 hz h0 h1 (by omega) h4 k0 k1 (by omega) k4
  refine ⟨e1, e2, ⟨i1.1, by unfold In at i1; omega, i1.2.2.2⟩, ⟨i2.1, by unfold In at i2; omega, i2.2.2.2⟩, ?_⟩
  have f1 := chk_ok (l := a) (h := b) ⟨by omega, h2, by omega⟩
  have f2 := chk_ok (l := c) (h := d) ⟨by omega, k2, by omega⟩
  have f3 := chk_ok (l := a') (h := b') ⟨h0, by omega, h4⟩
  have f4 := chk_ok (l := c') (h := d') ⟨k0, by omega, k4⟩
  have z1 : ¬ (c = 0 ∧ (op = 11 ∨ op = 12)) := by rintro ⟨x, y⟩; have := hz (by omega); omega
  have z2 : ¬ (c' = 0 ∧ (op = 11 ∨ op = 12)) := by rintro ⟨x, y⟩; have := hz (by omega); omega
  by_cases k : 20 < op
  · have g1 : iaF op a b c d = (0, 1, 0) := by unfold iaF; rw [if_neg (by omega), if_neg (by omega), if_neg (by omega), if_neg z1, if_pos k]
    have g2 : iaF op a' b' c' d' = (0, 1, 0) := by unfold iaF; rw [if_neg (by omega), if_neg (by omega), if_neg (by omega), if_neg z2, if_pos k]
    rw [g1, g2]; exact ⟨Int.le_refl _, Int.le_refl _⟩
  · by_cases x : a = b ∧ c = d
    · have g1 : iaF op a b c d = (apV op a c, apV op a c, 0) := by unfold iaF; rw [if_neg (by omega), if_neg (by omega), if_neg (by omega), if_neg z1, if_neg k, if_pos x]
      rw [g1]
      exact ⟨i2.2.1, i2.2.2.1⟩
    · have x' : ¬ (a' = b' ∧ c' = d') := by omega
      have g1 : iaF op a b c d = (rulL op a b c d, rulH op a b c d, 0) := by unfold iaF; rw [if_neg (by omega), if_neg (by omega), if_neg (by omega), if_neg z1, if_neg k, if_neg x]
      have g2 : iaF op a' b' c' d' = (rulL op a' b' c' d', rulH op a' b' c' d', 0) := by unfold iaF; rw [if_neg (by omega), if_neg (by omega), if_neg (by omega), if_neg z2, if_neg k, if_neg x']
      rw [g1, g2]
      exact rule_mono op p0 (by omega) hz h0 h1 h2 h3 h4 k0 k1 k2 k3 k4
end
theorem iaF_div (op a b c d : Int) (p0 : 8 ≤ op) (p1 : op ≤ 26) (h1 : Ivl a b) (h2 : Ivl c d) (hz : c = 0) (ho : op = 11 ∨ op = 12) : iaF op a b c d = (0, 0, 17) := by
  have e1 := chk_ok h1
  have e2 := chk_ok h2
  unfold iaF
  rw [if_neg (by omega), if_neg (by omega), if_neg (by omega), if_pos ⟨hz, ho⟩]
end Go.Proofs.Ytbpnagamcohlnaa
