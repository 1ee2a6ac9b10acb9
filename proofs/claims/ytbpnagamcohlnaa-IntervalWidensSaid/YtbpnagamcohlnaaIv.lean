/- The small functions of the reference's Apply. -/
import Derived.Test.YtbpnagamcohlnaaIj
import Derived.Test.YtbpnagamcohlnaaIs
namespace Go.Proofs.Ytbpnagamcohlnaa
open Go.RowKit
set_option linter.unusedVariables false


def btL (l h : Int) : Int := if l < 0 ∨ 4294967295 < h then 0 else l
def btH (l h : Int) : Int := if l < 0 ∨ 4294967295 < h then 4294967295 else h
theorem between_any (l h : Int) (w : World) : Calls Try.prog 51 #[.int .i64 l, .int .i64 h] w fun x w' => x = .returned (.agg #[.int .i64 (btL l h), .int .i64 (btH l h)]) ∧ Ext w w' := by
  by_cases k1 : l < 0
  · rw [show btL l h = 0 by unfold btL; exact if_pos (Or.inl k1), show btH l h = 4294967295 by unfold btH; exact if_pos (Or.inl k1)]
    go_enter Try.func51, Try.ntmps51
    go_wp2_with fail
    refine (rfull_any _).mono ?_
    rintro e1 w1 ⟨rfl, hE1⟩
    obtain ⟨hc1, hf1⟩ := Ext.rules hE1
    have hz1 := hE1.size
    try simp at hz1
    try have hl1 : w.heap.size < w1.heap.size := by omega
    try have hm1 : w.heap.size + 1 < w1.heap.size := by omega
    go_wp2_with fail
    refine bodyPost_ret (v := .agg #[.int .i64 0, .int .i64 4294967295]) (by simp [results, Try.results51, go_sem, *]) rfl ⟨rfl, ?_⟩
    repeat' (first | exact Ext.refl _ | assumption | (with_reducible refine Ext.alloc ?_ _) | (with_reducible refine Ext.drew ?_) | (with_reducible refine Ext.drewN _ ?_) | (refine Ext.setCell ?_ (by first | exact Nat.le_refl _ | (simp; done) | (simp; omega) | omega) _) | (refine Ext.trans ?_ (by assumption)))
  · by_cases k2 : 4294967295 < h
    · rw [show btL l h = 0 by unfold btL; exact if_pos (Or.inr k2), show btH l h = 4294967295 by unfold btH; exact if_pos (Or.inr k2)]
      go_enter Try.func51, Try.ntmps51
      go_wp2_with fail
      refine (rfull_any _).mono ?_
      rintro e1 w1 ⟨rfl, hE1⟩
      obtain ⟨hc1, hf1⟩ := Ext.rules hE1
      have hz1 := hE1.size
      try simp at hz1
      try have hl1 : w.heap.size < w1.heap.size := by omega
      try have hm1 : w.heap.size + 1 < w1.heap.size := by omega
      go_wp2_with fail
      refine bodyPost_ret (v := .agg #[.int .i64 0, .int .i64 4294967295]) (by simp [results, Try.results51, go_sem, *]) rfl ⟨rfl, ?_⟩
      repeat' (first | exact Ext.refl _ | assumption | (with_reducible refine Ext.alloc ?_ _) | (with_reducible refine Ext.drew ?_) | (with_reducible refine Ext.drewN _ ?_) | (refine Ext.setCell ?_ (by first | exact Nat.le_refl _ | (simp; done) | (simp; omega) | omega) _) | (refine Ext.trans ?_ (by assumption)))
    · rw [show btL l h = l by unfold btL; exact if_neg (by omega), show btH l h = h by unfold btH; exact if_neg (by omega)]
      go_enter Try.func51, Try.ntmps51
      go_wp2_with fail
      refine bodyPost_ret (v := .agg #[.int .i64 l, .int .i64 h]) (by simp [results, Try.results51, go_sem, *]) rfl ⟨rfl, ?_⟩
      repeat' (first | exact Ext.refl _ | assumption | (with_reducible refine Ext.alloc ?_ _) | (with_reducible refine Ext.drew ?_) | (with_reducible refine Ext.drewN _ ?_) | (refine Ext.setCell ?_ (by first | exact Nat.le_refl _ | (simp; done) | (simp; omega) | omega) _) | (refine Ext.trans ?_ (by assumption)))
theorem pow_succ_int (n : Int) (k : Nat) : n * 2 ^ (k + 1) = 2 * (n * 2 ^ k) := by
  rw [Int.pow_succ, ← Int.mul_assoc, Int.mul_comm]
theorem mul_pow_bd (n : Int) (k : Nat) (h0 : 0 ≤ n) (h1 : n ≤ 4294967295) (hk : k ≤ 31) : 0 ≤ n * 2 ^ k ∧ n * 2 ^ k ≤ 4294967295 * 2147483648 := by
  have e : (2 : Int) ^ k ≤ 2147483648 := by
    have h2 : 2 ^ k ≤ 2 ^ 31 := Nat.pow_le_pow_right (by decide) hk
    have e : ((2 ^ k : Nat) : Int) = (2 : Int) ^ k := by simp
    rw [← e]; omega
  have p := (pow_bd k (by omega)).1
  exact ⟨Int.mul_nonneg h0 (by omega), Int.mul_le_mul h1 e (by omega) (by omega)⟩
theorem rshifted_any (n s : Int) (h0 : 0 ≤ n) (h1 : n ≤ 4294967295) (hs0 : 0 ≤ s) (hs1 : s ≤ 31) (w : World) : Calls Try.prog 53 #[.int .i64 n, .int .i64 s] w fun x w' => x = .returned (.int .i64 (n * 2 ^ s.toNat)) ∧ w = w' := by
  obtain ⟨m, rfl⟩ := Int.eq_ofNat_of_zero_le hs0
  rw [Int.toNat_natCast]
  have hm : m ≤ 31 := by omega
  have ht := hidden (mul_pow_bd n m h0 h1 hm)
  go_enter Try.func53, Try.ntmps53
  go_wp2_with fail
  go_loop [0, 5] (fun x i => ∃ k : Nat, k ≤ m ∧ i = .int .i64 k ∧ x = .int .i64 (n * 2 ^ k)) (fun _ i => (m - intOf i).toNat)
  case atStart => exact ⟨0, by omega, rfl, by simp⟩
  case round =>
    obtain ⟨k, hk, rfl, rfl⟩ := hrel
    obtain ⟨b0, b1⟩ := mul_pow_bd n k h0 h1 (by omega)
    by_cases hlt : k < m
    · have hn := hidden (pow_succ_int n k)
      have hlt' : (k : Int) < (m : Int) := by omega
      obtain ⟨c0, c1⟩ := mul_pow_bd n (k + 1) h0 h1 (by omega)
      rw [hn.out] at c0 c1
      obtain ⟨X, hX⟩ : ∃ X, n * 2 ^ k = X := ⟨_, rfl⟩
      rw [hX] at b0 b1 c0 c1 hn ⊢
      clear hX
      go_wp2_with fail
      go_round
      case rel => exact ⟨k + 1, by omega, by go_num, by rw [hn.out]⟩
      case measure => simp [intOf]; omega
    · obtain rfl : k = m := by omega
      go_wp2_with fail
      go_ret
      exact ⟨rfl, rfl⟩
theorem div_pow_succ (n : Int) (k : Nat) : n / 2 ^ (k + 1) = n / 2 ^ k / 2 := by
  rw [Int.pow_succ, Int.ediv_ediv_of_nonneg (Int.pow_nonneg (by decide))]
theorem div_pow_bd (n : Int) (k : Nat) (h0 : 0 ≤ n) (h1 : n ≤ 4294967295) : 0 ≤ n / 2 ^ k ∧ n / 2 ^ k ≤ 4294967295 :=
  ⟨Int.ediv_nonneg h0 (Int.pow_nonneg (by decide)), Int.le_trans (Int.ediv_le_self _ h0) h1⟩
theorem lowered_any (n s : Int) (h0 : 0 ≤ n) (h1 : n ≤ 4294967295) (hs0 : 0 ≤ s) (hs1 : s ≤ 31) (w : World) : Calls Try.prog 54 #[.int .i64 n, .int .i64 s] w fun x w' => x = .returned (.int .i64 (n / 2 ^ s.toNat)) ∧ w = w' := by
  obtain ⟨m, rfl⟩ := Int.eq_ofNat_of_zero_le hs0
  rw [Int.toNat_natCast]
  have hm : m ≤ 31 := by omega
  go_enter Try.func54, Try.ntmps54
  go_wp2_with fail
  go_loop [0, 5] (fun x i => ∃ k : Nat, k ≤ m ∧ i = .int .i64 k ∧ x = .int .i64 (n / 2 ^ k)) (fun _ i => (m - intOf i).toNat)
  case atStart => exact ⟨0, by omega, rfl, by simp⟩
  case round =>
    obtain ⟨k, hk, rfl, rfl⟩ := hrel
    obtain ⟨b0, b1⟩ := div_pow_bd n k h0 h1
    by_cases hlt : k < m
    · have hn := hidden (div_pow_succ n k)
      have hlt' : (k : Int) < (m : Int) := by omega
      obtain ⟨X, hX⟩ : ∃ X, n / 2 ^ k = X := ⟨_, rfl⟩
      rw [hX] at b0 b1 hn ⊢
      clear hX
      go_wp2_with fail
      go_round
      case rel => exact ⟨k + 1, by omega, by go_num, by rw [hn.out]⟩
      case measure => simp [intOf]; omega
    · obtain rfl : k = m := by omega
      go_wp2_with fail
      go_ret
      exact ⟨rfl, rfl⟩
theorem ones_of (n : Int) (j : Nat) (h0 : 0 ≤ n) (h1 : n ≤ 4294967295) (hj : j = 0 ∨ (2 : Int) ^ (j - 1) - 1 < n) (hge : ¬ (2 : Int) ^ j - 1 < n) : ones n = 2 ^ j - 1 := by
  have e : ∀ i : Nat, ((2 ^ i : Nat) : Int) = (2 : Int) ^ i := fun i => by simp
  have u1 : Lib.bitLen n.toNat ≤ j := (bitLen_iff n.toNat j (by omega)).2 (by have := e j; omega)
  have u2 : j ≤ Lib.bitLen n.toNat := by
    rcases hj with rfl | hj
    · omega
    · rcases Nat.lt_or_ge (Lib.bitLen n.toNat) j with h | h
      · have := (bitLen_iff n.toNat (j - 1) (by omega)).1 (by omega)
        have := e (j - 1)
        omega
      · exact h
  unfold ones
  rw [show Lib.bitLen n.toNat = j by omega]
theorem rones_any (n : Int) (h0 : 0 ≤ n) (h1 : n ≤ 4294967295) (w : World) : Calls Try.prog 52 #[.int .i64 n] w fun x w' => x = .returned (.int .i64 (ones n)) ∧ w = w' := by
  go_enter Try.func52, Try.ntmps52
  go_wp2_with fail
  go_loop [3] (fun x => ∃ j : Nat, j ≤ 32 ∧ x = .int .i64 (2 ^ j - 1) ∧ Hid (j = 0 ∨ (2 : Int) ^ (j - 1) - 1 < n)) (fun x => (4294967295 - intOf x).toNat)
  case atStart => exact ⟨0, by omega, by simp, Or.inl rfl⟩
  case round =>
    obtain ⟨j, hj, rfl, hh⟩ := hrel
    obtain ⟨p0, p1⟩ := pow_bd j hj
    by_cases hlt : (2 : Int) ^ j - 1 < n
    · have hj2 : j < 32 := by
        rcases Nat.lt_or_ge j 32 with h | h
        · exact h
        · obtain rfl : j = 32 := by omega
          have e : (2 : Int) ^ 32 = 4294967296 := by decide
          rw [e] at hlt
          omega
      have hn : Hid ((2 : Int) ^ (j + 1) - 1 = 2 * (2 ^ j - 1) + 1) := by
        refine hidden ?_
        rw [Int.pow_succ]; omega
      have hl := hidden hlt
      obtain ⟨X, hX⟩ : ∃ X, (2 : Int) ^ j - 1 = X := ⟨_, rfl⟩
      have x0 : 0 ≤ X := by omega
      have x1 : X ≤ 4294967295 := by omega
      rw [hX] at hlt hn ⊢
      clear hX p0 p1
      go_wp2_with fail
      go_round
      case rel => exact ⟨j + 1, by omega, by rw [hn.out], Or.inr (by simpa using hl.out)⟩
      case measure => simp [intOf]; omega
    · have hfin := hidden (ones_of n j h0 h1 hh.out hlt)
      obtain ⟨X, hX⟩ : ∃ X, (2 : Int) ^ j - 1 = X := ⟨_, rfl⟩
      rw [hX] at hlt hfin ⊢
      clear hX p0 p1
      go_wp2_with fail
      go_ret
      exact ⟨ret_int hfin.out.symm, rfl⟩
end Go.Proofs.Ytbpnagamcohlnaa
