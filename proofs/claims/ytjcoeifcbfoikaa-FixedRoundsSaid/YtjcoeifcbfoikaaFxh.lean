/- Plain laws of layer 6: monotony, doubling, the nearest quotient. -/
import Derived.Test.YtjcoeifcbfoikaaFxf
namespace Go.Proofs.Ytjcoeifcbfoikaa

theorem pow2_pos (k : Nat) : (0 : Int) < 2 ^ k := Int.pow_pos (by omega)
theorem lg_mono (a b : Int) (h : a ≤ b) : lg a ≤ lg b := by
  have hm := cl_mono 1 mx a b (by decide) h
  obtain ⟨a1, a2, a3, -⟩ := lgk_facts a
  obtain ⟨b1, b2, b3, -⟩ := lgk_facts b
  have pa := pow2_pos (lgk a)
  have pb := pow2_pos (lgk b)
  have qa : cl 1 mx a * 256 / 2 ^ lgk a < 512 := Int.ediv_lt_of_lt_mul pa (by rw [Int.pow_succ] at a3; omega)
  have qb : 256 ≤ cl 1 mx b * 256 / 2 ^ lgk b := Int.le_ediv_of_mul_le pb (by omega)
  rcases Nat.lt_trichotomy (lgk a) (lgk b) with h1 | h1 | h1
  · unfold lg; omega
  · unfold lg
    rw [h1]
    have : cl 1 mx a * 256 / 2 ^ lgk b ≤ cl 1 mx b * 256 / 2 ^ lgk b := Int.ediv_le_ediv pb (by omega)
    omega
  · have := pow2_le (show lgk b + 1 ≤ lgk a by omega)
    omega
/-- The logarithm of a number with a known power of 2 below it. -/
theorem lgk_of (n : Int) (k : Nat) (h1 : 2 ^ k ≤ n) (h2 : n < 2 ^ (k + 1)) (h3 : n ≤ mx) : lgk n = k := by
  have p1 := pow2_pos k
  have e : cl 1 mx n = n := cl_id _ _ _ (by omega) h3
  obtain ⟨-, a2, a3, -⟩ := lgk_facts n
  rw [e] at a2 a3
  rcases Nat.lt_trichotomy (lgk n) k with h | h | h
  · have := pow2_le (show lgk n + 1 ≤ k by omega); omega
  · exact h
  · have := pow2_le (show k + 1 ≤ lgk n by omega); omega
theorem lg_of (n : Int) (k : Nat) (h1 : 2 ^ k ≤ n) (h2 : n < 2 ^ (k + 1)) (h3 : n ≤ mx) : lg n = 256 * (k : Int) + n * 256 / 2 ^ k - 256 := by
  have p1 := pow2_pos k
  unfold lg
  rw [lgk_of n k h1 h2 h3, cl_id 1 mx n (by omega) h3]
theorem lg_double (n : Int) (h1 : 1 ≤ n) (h2 : 2 * n ≤ mx) : lg (2 * n) = lg n + 256 := by
  have e : cl 1 mx n = n := cl_id _ _ _ h1 (by omega)
  obtain ⟨-, a2, a3, -⟩ := lgk_facts n
  rw [e] at a2 a3
  have p1 := pow2_pos (lgk n)
  rw [lg_of n (lgk n) a2 a3 (by omega), lg_of (2 * n) (lgk n + 1) (by rw [Int.pow_succ]; omega) (by rw [Int.pow_succ]; omega) h2]
  have : 2 * n * 256 / 2 ^ (lgk n + 1) = n * 256 / 2 ^ lgk n := by
    rw [Int.pow_succ, Int.mul_assoc, Int.mul_comm _ 2, Int.mul_ediv_mul_of_pos _ _ (by omega)]
  rw [this]; omega
theorem lg_pow (k : Nat) (h : k ≤ 12) : lg (2 ^ k) = 256 * (k : Int) := by
  have p1 := pow2_pos k
  have h3 : (2 : Int) ^ k ≤ mx := by have := pow2_le h; have e : (2 : Int) ^ 12 = 4096 := by decide
                                     have e2 : mx = 9007199254740991 := rfl
                                     omega
  rw [lg_of (2 ^ k) k (Int.le_refl _) (by rw [Int.pow_succ]; omega) h3, Int.mul_ediv_cancel_left _ (by omega)]
  omega
theorem lg_small (n : Int) (h : n ≤ 4096) : lg n ≤ 3072 := by
  have := lg_mono n 4096 h
  have e := lg_pow 12 (by omega)
  have : (2 : Int) ^ 12 = 4096 := by decide
  rw [this] at e
  omega
theorem cst_nonneg (p b : Int) : 0 ≤ cst p b := by
  have := cl_bd 1 4095 p (by omega)
  have a := lg_small (cl 1 4095 p) (by omega)
  have b := lg_small (4096 - cl 1 4095 p) (by omega)
  unfold cst
  split <;> omega
theorem cst_le (p b : Int) : cst p b ≤ 3072 := by
  have a := lg_bd (cl 1 4095 p)
  have b := lg_bd (4096 - cl 1 4095 p)
  unfold cst
  split <;> omega
theorem cst_one (x y : Int) (h : x ≤ y) : cst y 1 ≤ cst x 1 := by
  have := lg_mono _ _ (cl_mono 1 4095 x y (by omega) h)
  unfold cst; simp; omega
theorem cst_zero (x y : Int) (h : x ≤ y) : cst x 0 ≤ cst y 0 := by
  have := lg_mono (4096 - cl 1 4095 y) (4096 - cl 1 4095 x) (by have := cl_mono 1 4095 x y (by omega) h; omega)
  unfold cst; simp; omega
theorem cst_pow (k : Nat) (h : k < 12) : cst (2 ^ k) 1 = 256 * (12 - (k : Int)) ∧ cst (4096 - 2 ^ k) 0 = 256 * (12 - (k : Int)) := by
  have p1 := pow2_pos k
  have h3 := pow2_le (show k ≤ 11 by omega)
  have e : (2 : Int) ^ 11 = 2048 := by decide
  rw [e] at h3
  have l := lg_pow k (by omega)
  unfold cst
  rw [if_pos rfl, if_neg (by omega), cl_id 1 4095 (2 ^ k) (by omega) (by omega), cl_id 1 4095 (4096 - 2 ^ k) (by omega) (by omega)]
  rw [show 4096 - (4096 - (2 : Int) ^ k) = 2 ^ k by omega, l]
  omega

/-! The nearest quotient. -/
theorem rpos_near (n d : Int) (hd : 0 < d) : -d ≤ 2 * (n - rpos n d * d) ∧ 2 * (n - rpos n d * d) ≤ d := by
  unfold rpos
  have e := Int.mul_ediv_add_emod (2 * n + d) (2 * d)
  have h0 := Int.emod_nonneg (2 * n + d) (show 2 * d ≠ 0 by omega)
  have h1 := Int.emod_lt_of_pos (2 * n + d) (show 0 < 2 * d by omega)
  have m : 2 * d * ((2 * n + d) / (2 * d)) = 2 * ((2 * n + d) / (2 * d) * d) := by rw [Int.mul_assoc, Int.mul_comm d]
  omega
theorem rsg_near (n d : Int) (hd : 0 < d) : -d ≤ 2 * (n - rsg n d * d) ∧ 2 * (n - rsg n d * d) ≤ d := by
  unfold rsg
  split
  · have := rpos_near (-n) d hd
    rw [Int.neg_mul]; omega
  · exact rpos_near n d hd
theorem rsg_neg (n d : Int) (hd : 0 < d) : rsg (-n) d = -rsg n d := by
  have hz : rpos 0 d = 0 := by
    unfold rpos; exact Int.ediv_eq_zero_of_lt (by omega) (by omega)
  unfold rsg
  rcases Int.lt_trichotomy n 0 with h | h | h
  · rw [if_neg (by omega), if_pos h]; omega
  · subst h; simp [hz]
  · rw [if_pos (by omega), if_neg (by omega), Int.neg_neg]
theorem rn_neg_left (n d : Int) : rn (-n) d = -rn n d := by
  unfold rn
  split
  · rfl
  · split
    · rw [rsg_neg _ _ (by omega)]
    · rw [rsg_neg _ _ (by omega)]
theorem rn_neg_right (n d : Int) : rn n (-d) = -rn n d := by
  unfold rn
  rcases Int.lt_trichotomy d 0 with h | h | h
  · rw [if_neg (by omega), if_neg (by omega), if_neg (by omega), if_pos h, rsg_neg _ _ (by omega)]; omega
  · subst h; simp
  · rw [if_neg (by omega), if_pos (by omega), if_neg (by omega), if_neg (by omega), rsg_neg _ _ (by omega), Int.neg_neg]
theorem rn_near (n d : Int) (hd : d ≠ 0) : (0 < d → -d ≤ 2 * (n - rn n d * d) ∧ 2 * (n - rn n d * d) ≤ d) ∧ (d < 0 → d ≤ 2 * (n - rn n d * d) ∧ 2 * (n - rn n d * d) ≤ -d) := by
  unfold rn
  rw [if_neg hd]
  refine ⟨fun h => ?_, fun h => ?_⟩
  · rw [if_neg (by omega)]; exact rsg_near n d h
  · rw [if_pos h]
    have := rsg_near (-n) (-d) (by omega)
    rw [Int.mul_neg] at this
    omega
theorem rnd_small (n d : Int) (h1 : -9007199254740991 ≤ n) (h2 : n ≤ 9007199254740991) (h3 : -9007199254740991 ≤ d) (h4 : d ≤ 9007199254740991) : rnd n d = rn n d := by
  unfold rnd; rw [cl_idm n h1 h2, cl_idm d h3 h4]
theorem st_sq (x : Int) (h1 : -3071 ≤ x) (h2 : x ≤ 3071) : st (sq x) ≤ x := by
  obtain ⟨a, b, c, d⟩ := st_is (sq x)
  have hb := sq_bd x
  rw [cl_id 1 4095 (sq x) hb.1 hb.2] at c d
  rcases Int.lt_or_le x (st (sq x)) with h | h
  · have := sq_mono x (st (sq x) - 1) (by omega); omega
  · exact h
end Go.Proofs.Ytjcoeifcbfoikaa
