/- Two more laws of layer 6: doubling, and the nearest quotient. -/
import Derived.Test.YtjcoeifcbfoikaaFxg
namespace Go.Proofs.Ytjcoeifcbfoikaa
open Go.RowKit

theorem rsg_bd (n d : Int) (h1 : -mx ≤ n) (h2 : n ≤ mx) (hd : 0 < d) (hd1 : d ≤ mx) : -(mx + 1) ≤ rsg n d ∧ rsg n d ≤ mx + 1 := by
  unfold rsg
  split
  · have := rpos_bd (-n) d (by omega) (by omega) hd hd1; omega
  · have := rpos_bd n d (by omega) (by omega) hd hd1; omega
theorem rn_bd (n d : Int) (h1 : -mx ≤ n) (h2 : n ≤ mx) (h3 : -mx ≤ d) (h4 : d ≤ mx) : -(mx + 1) ≤ rn n d ∧ rn n d ≤ mx + 1 := by
  unfold rn
  have : (0 : Int) < mx := by decide
  split
  · omega
  · split
    · exact rsg_bd _ _ (by omega) (by omega) (by omega) (by omega)
    · exact rsg_bd _ _ (by omega) (by omega) (by omega) (by omega)
theorem rnd_facts (n d : Int) (b1 : -2147483648 ≤ n) (b2 : n ≤ 2147483647) (b3 : -2147483648 ≤ d) (b4 : d ≤ 2147483647) (hd : d ≠ 0) :
    ∃ q, rnd n d = q ∧ rnd (-n) d = -q ∧ rnd n (-d) = -q ∧ -9007199254740992 ≤ q ∧ q ≤ 9007199254740992 ∧ -4294967296 ≤ q * d ∧ q * d ≤ 4294967296 ∧ max (2 * (n - q * d)) (-(2 * (n - q * d))) ≤ max d (-d) := by
  have e := rnd_small n d (by omega) (by omega) (by omega) (by omega)
  have e1 := rnd_small (-n) d (by omega) (by omega) (by omega) (by omega)
  have e2 := rnd_small n (-d) (by omega) (by omega) (by omega) (by omega)
  have hm : mx = 9007199254740991 := rfl
  have hb := rn_bd n d (by omega) (by omega) (by omega) (by omega)
  obtain ⟨n1, n2⟩ := rn_near n d hd
  refine ⟨rn n d, e, by rw [e1, rn_neg_left], by rw [e2, rn_neg_right], by omega, by omega, ?_⟩
  rcases Int.lt_or_le 0 d with h | h
  · have := n1 h; omega
  · have := n2 (by omega); omega

theorem lawNearest (n d : Int) (b1 : -2147483648 ≤ n) (b2 : n ≤ 2147483647) (b3 : -2147483648 ≤ d) (b4 : d ≤ 2147483647) (w : World) :
    Calls Try.prog 11 #[.int .i32 n, .int .i32 d] w fun x w' => x = .returned (.bool true) ∧ Ext w w' := by
  by_cases h : d = 0
  · subst h
    go_enter Try.func11, Try.ntmps11
    go_wp2_with fail
    refine (round_v _ 0 0 (by unfold rnd rn; rw [cl_idm 0 (by omega) (by omega)]; rfl) _).mono ?_
    rintro x w1 ⟨rfl, g1⟩
    go_wp2_with fail
    refine (awake_any _).mono ?_
    rintro x w2 ⟨rfl, g2⟩
    go_wp2_with fail
    go_ret
    exact ⟨ret_bool rfl, (g1.trans g2)⟩
  · obtain ⟨q, h1, h2, h3, h4, h5, h6, h7, h8⟩ := rnd_facts n d b1 b2 b3 b4 h
    have hz : (d == 0) = false := by simp [h]
    clear h
    have H1 := hidden h1
    have H2 := hidden h2
    have H3 := hidden h3
    clear h1 h2 h3
    go_enter Try.func11, Try.ntmps11
    go_wp2_with fail
    refine (round_v _ _ q H1.out _).mono ?_
    rintro x w1 ⟨rfl, g1⟩
    go_wp2_with fail
    refine (round_v _ _ (-q) H2.out _).mono ?_
    rintro x w2 ⟨rfl, g2⟩
    go_wp2_with fail
    refine (round_v _ _ (-q) H3.out _).mono ?_
    rintro x w3 ⟨rfl, g3⟩
    go_wp2_with fail
    refine (awake_any _).mono ?_
    rintro x w4 ⟨rfl, g4⟩
    go_wp2_with fail
    go_ret
    exact ⟨ret_bool rfl, (((g1.trans g2).trans g3).trans g4)⟩

theorem lawDoubles (n k : Int) (b1 : 0 ≤ k) (b2 : k ≤ 255) (w : World) :
    Calls Try.prog 10 #[.int .i64 n, .int .u8 k] w fun x w' => x = .returned (.bool true) ∧ Ext w w' := by
  by_cases h : 1 ≤ n ∧ n ≤ 4503599627370495
  · obtain ⟨h1, h2⟩ := h
    have h2' : 2 * n ≤ mx := by show _ ≤ (9007199254740991 : Int); omega
    have d1 := lg_double n (by omega) h2'
    have hf := lgk_facts n
    rw [cl_id 1 mx n (by omega) (by omega)] at hf
    obtain ⟨f1, f2, f3, -⟩ := hf
    have hl := lg_of n (lgk n) f2 f3 (by omega)
    have hp := pow2_pos (lgk n)
    have q0 : 256 ≤ n * 256 / 2 ^ lgk n := Int.le_ediv_of_mul_le hp (by omega)
    have q1 : n * 256 / 2 ^ lgk n < 512 := Int.ediv_lt_of_lt_mul hp (by rw [Int.pow_succ] at f3; omega)
    obtain ⟨z, hz⟩ : ∃ z, lgk n = z := ⟨_, rfl⟩
    rw [hz] at hl hp q0 q1 f1 f2 f3
    have hi2 : (k % 12).toNat < 12 := by omega
    have hki : ((k % 12).toNat : Int) = k % 12 := by omega
    obtain ⟨c1, c2⟩ := cst_pow (k % 12).toNat hi2
    have c3 := lg_pow (k % 12).toNat (by omega)
    rw [hki] at c1 c2 c3
    have c4 := pow2_le (show (k % 12).toNat ≤ 11 by omega)
    have c5 : (2 : Int) ^ 11 = 2048 := by decide
    have c6 := pow2_pos (k % 12).toNat
    rw [c5] at c4
    obtain ⟨x, hx⟩ : ∃ x, lg n = x := ⟨_, rfl⟩
    have x1 : 256 * (z : Int) ≤ x := by omega
    have x2 : x < 256 * (z : Int) + 256 := by omega
    have X := hidden hx
    have D := hidden d1
    have C1 := hidden c1
    have C2 := hidden c2
    have C3 := hidden c3
    have F2 := hidden f2
    have F3 := hidden f3
    clear hx d1 c1 c2 c3 hki hl hz c5 h2' hp q0 q1 f2 f3
    go_enter Try.func10, Try.ntmps10
    go_wp2_with fail
    refine (log_v _ x X.out _).mono ?_
    rintro x w1 ⟨rfl, g1⟩
    go_wp2_with fail
    refine (log_v _ (x + 256) (by rw [D.out, X.out]) _).mono ?_
    rintro x w2 ⟨rfl, g2⟩
    go_wp2_with fail
    refine (log_v _ (256 * (k % 12)) C3.out _).mono ?_
    rintro x w3 ⟨rfl, g3⟩
    go_wp2_with fail
    refine (cost_v _ 1 (256 * (12 - k % 12)) C1.out _).mono ?_
    rintro x w4 ⟨rfl, g4⟩
    go_wp2_with fail
    refine (cost_v _ 0 (256 * (12 - k % 12)) C2.out _).mono ?_
    rintro x w5 ⟨rfl, g5⟩
    go_wp2_with fail
    go_loop [7] (fun s => ∃ j : Nat, j ≤ z ∧ s = .int .i64 j) (fun s => z - (intOf s).toNat)
    case atStart => exact ⟨0, by omega, rfl⟩
    case round =>
      obtain ⟨j, hj, rfl⟩ := hrel
      have hjp : (0 : Int) < 2 ^ (j + 1) := pow2_pos (j + 1)
      by_cases hlt : j < z
      · have hq : 0 < n / 2 ^ (j + 1) := by
          have := pow2_le (show j + 1 ≤ z by omega)
          have h := F2.out
          have : 1 ≤ n / 2 ^ (j + 1) := Int.le_ediv_of_mul_le hjp (by omega)
          omega
        go_wp2_with fail
        go_round
        case rel => exact ⟨j + 1, by omega, by go_num⟩
        case measure => simp [intOf]; omega
      · obtain rfl : j = z := by omega
        have hq : n / 2 ^ (j + 1) ≤ 0 := by
          have := Int.ediv_eq_zero_of_lt (show 0 ≤ n by omega) F3.out
          omega
        go_wp2_with fail
        refine (awake_any _).mono ?_
        rintro x w9 ⟨rfl, g9⟩
        go_wp2_with fail
        go_ret
        exact ⟨ret_bool rfl, (((((g1.trans g2).trans g3).trans g4).trans g5).trans g9)⟩
  · rcases Int.lt_or_le n 1 with h1 | h1
    · go_enter Try.func10, Try.ntmps10
      go_wp2_with fail
      refine (awake_any _).mono ?_
      rintro x w1 ⟨rfl, g1⟩
      go_wp2_with fail
      go_ret
      exact ⟨ret_bool rfl, g1⟩
    · have h2 : 4503599627370495 < n := by omega
      go_enter Try.func10, Try.ntmps10
      go_wp2_with fail
      refine (awake_any _).mono ?_
      rintro x w1 ⟨rfl, g1⟩
      go_wp2_with fail
      go_ret
      exact ⟨ret_bool rfl, g1⟩

end Go.Proofs.Ytjcoeifcbfoikaa
