/- The reference of layer 2: power, number, Size. -/
import Derived.Test.YtchkbidekmaaiaaJl
import Derived.Test.YtchkbidekmaaiaaM
import Derived.Outline
namespace Go.Proofs.Ytchkbidekmaaiaa
open Go.RowKit
set_option linter.unusedVariables false
attribute [local go_sem ↓] Go.wp_at_zero Go.wp_at_succ

theorem pow_62 (i : Nat) (h : i ≤ 62) : 1 ≤ (2 : Int) ^ i ∧ (2 : Int) ^ i ≤ 4611686018427387904 := by
  have h1 : 0 < (2 : Int) ^ i := Int.pow_pos (by decide)
  have h2 : (2 : Int) ^ i ≤ 2 ^ 62 := by exact_mod_cast Nat.pow_le_pow_right (by decide : 0 < 2) h
  have e : (2 : Int) ^ 62 = 4611686018427387904 := by decide
  omega
theorem rpower_nat (k : Nat) (hk : k ≤ 62) (w : World) : Calls Try.prog 72 #[.int .i64 (k : Int)] w fun x w' => x = .returned (.int .i64 (2 ^ k)) ∧ w = w' := by
  obtain ⟨R, hR⟩ : ∃ R : Int, 2 ^ k = R := ⟨_, rfl⟩
  rw [hR]
  replace hR := hidden hR
  go_enter Try.func72, Try.ntmps72
  go_wp2_with fail
  go_loop [3, 4] (fun p i => ∃ (j : Nat) (P : Int), j ≤ k ∧ i = .int .i64 (j : Int) ∧ p = .int .i64 P ∧ Hid (P = 2 ^ j)) (fun _ i => k - (intOf i).toNat)
  case atStart => exact ⟨0, 1, by omega, rfl, rfl, rfl⟩
  case round =>
    obtain ⟨j, P, hj, rfl, rfl, hP⟩ := hrel
    by_cases hlt : j < k
    · have hb := pow_62 (j + 1) (by omega)
      have he : 2 * P = 2 ^ (j + 1) := by rw [hP.out, Int.pow_succ, Int.mul_comm]
      rw [← he] at hb
      replace he := hidden he
      obtain ⟨b0, b1⟩ := hb
      go_wp2_with fail
      go_round
      case rel => exact ⟨j + 1, 2 * P, by omega, by go_num, rfl, he⟩
      case measure => simp [intOf]; omega
    · obtain rfl : j = k := by omega
      go_wp2_with fail
      go_ret
      exact ⟨ret_int (hP.out.trans hR.out), rfl⟩
theorem rpower_any (a : Int) (k : Nat) (ha : a = (k : Int)) (hk : k ≤ 62) (w : World) : Calls Try.prog 72 #[.int .i64 a] w fun x w' => x = .returned (.int .i64 (2 ^ k)) ∧ w = w' := by
  subst ha
  exact rpower_nat k hk w
theorem rnumber_any (n : Int) (w : World) : Calls Try.prog 70 #[.int .i64 n] w fun x w' => x = .returned (.int .i64 (wnum n)) ∧ w = w' := by
  by_cases k1 : n < 0
  · rw [show wnum n = 0 by unfold wnum; exact if_pos (Or.inl k1)]
    go_enter Try.func70, Try.ntmps70
    go_wp2_with fail
    go_ret
    exact ⟨rfl, rfl⟩
  · by_cases k2 : 9007199254740991 < n
    · rw [show wnum n = 0 by unfold wnum; exact if_pos (Or.inr k2)]
      go_enter Try.func70, Try.ntmps70
      go_wp2_with fail
      go_ret
      exact ⟨rfl, rfl⟩
    · rw [show wnum n = n by unfold wnum; exact if_neg (by omega)]
      go_enter Try.func70, Try.ntmps70
      go_wp2_with fail
      go_ret
      exact ⟨rfl, rfl⟩
theorem rsize_any (n : Int) (w : World) : Calls Try.prog 71 #[.int .i64 n] w fun x w' => x = .returned (.int .i64 ((fur (wnum n) : Int) + 1)) ∧ w = w' := by
  have hnum := rnumber_any n
  have hb := wnum_bd n
  obtain ⟨m, hm⟩ : ∃ m, wnum n = m := ⟨_, rfl⟩
  rw [hm] at hnum hb
  rw [hm]
  have h7 := fur_7 m hb.1 hb.2
  have hle := fur_le m hb.1 hb.2
  obtain ⟨q, hq⟩ : ∃ q, fur m = q := ⟨_, rfl⟩
  rw [hq] at h7 hle ⊢
  have hpw := rpower_any
  replace hpw := hidden hpw
  replace hnum := hidden hnum
  replace hle := hidden hle
  clear hm hq
  go_enter Try.func71, Try.ntmps71
  go_wp2_with fail
  go_loop [3] (fun i => ∃ j : Nat, j ≤ q ∧ i = .int .i64 (j : Int)) (fun i => q - (intOf i).toNat)
  case atStart => exact ⟨0, by omega, rfl⟩
  case round =>
    obtain ⟨j, hj, rfl⟩ := hrel
    have hp := pow_62 (7 * (j + 1)) (by omega)
    have hl := hle.out j
    go_wp2_with fail
    refine (hnum.out _).mono ?_
    rintro e _ ⟨rfl, rfl⟩
    go_wp2_with fail
    refine (hpw.out _ (7 * (j + 1)) (by omega) (by omega) _).mono ?_
    obtain ⟨P, hP⟩ : ∃ P : Int, 2 ^ (7 * (j + 1)) = P := ⟨_, rfl⟩
    rw [hP] at hp hl
    rw [hP]
    replace hP := hidden hP
    rintro e _ ⟨rfl, rfl⟩
    by_cases hlt : j < q
    · have hge : P ≤ m := by omega
      clear hl
      go_wp2_with fail
      go_round
      case rel => exact ⟨j + 1, by omega, by go_num⟩
      case measure => simp [intOf]; omega
    · have hge : m < P := by omega
      obtain rfl : j = q := by omega
      clear hl
      go_wp2_with fail
      go_ret
      exact ⟨rfl, rfl⟩
end Go.Proofs.Ytchkbidekmaaiaa
