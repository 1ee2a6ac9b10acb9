/- What the reference of Round, and Log and Cost with their references compute. -/
import Derived.Test.YtjcoeifcbfoikaaFxd
namespace Go.Proofs.Ytjcoeifcbfoikaa
open Go.RowKit

theorem pow2_le {j k : Nat} (h : j ≤ k) : (2 : Int) ^ j ≤ 2 ^ k := by
  have := Nat.pow_le_pow_right (show 0 < 2 by omega) h
  have h2 : ((2 ^ j : Nat) : Int) ≤ ((2 ^ k : Nat) : Int) := Int.ofNat_le.mpr this
  rw [Int.natCast_pow, Int.natCast_pow] at h2
  exact h2

set_option maxHeartbeats 400000 in
theorem rround_any (n d : Int) (w : World) :
    Calls Try.prog 20 #[.int .i64 n, .int .i64 d] w fun x w' => x = .returned (.int .i64 (rnd n d)) ∧ w = w' := by
  have hbn := cl_bdm n
  have hbd := cl_bdm d
  obtain ⟨c, hc⟩ : ∃ c, cl (-mx) mx n = c := ⟨_, rfl⟩
  obtain ⟨e, he⟩ : ∃ e, cl (-mx) mx d = e := ⟨_, rfl⟩
  have hres : Hid (rnd n d = rn c e) := by unfold rnd; rw [hc, he]; rfl
  rw [hc] at hbn
  rw [he] at hbd
  have Hc := hidden hc
  have He := hidden he
  clear hc he
  obtain ⟨hn1, hn2⟩ := hbn
  obtain ⟨hd1, hd2⟩ := hbd
  rcases Int.lt_trichotomy e 0 with h | h | h
  · have hz : (e == 0) = false := by simp; omega
    by_cases hp : 0 < c
    · have hb := rpos_bd c (-e) (by omega) hn2 (by omega) (by show _ ≤ (9007199254740991 : Int); omega)
      have hq0 : 0 ≤ (-2 * -c + -e) / (2 * -e) := by have := hb.1; unfold rpos at this; rwa [show 2 * c = -2 * -c by omega] at this
      have hq1 : (-2 * -c + -e) / (2 * -e) ≤ 9007199254740992 := by have := hb.2; unfold rpos at this; rwa [show 2 * c = -2 * -c by omega] at this
      clear hb
      have hfin : Hid (rnd n d = -((-2 * -c + -e) / (2 * -e))) := by
        rw [hres.out]; unfold rn rsg; rw [if_neg (by omega), if_pos h, if_pos (by omega), Int.neg_neg]; unfold rpos; rw [show 2 * c = -2 * -c by omega]; rfl
      go_enter Try.func20, Try.ntmps20
      go_wp2_with fail
      refine (between2c n c Hc _).mono ?_
      rintro x w1 ⟨rfl, rfl⟩
      go_wp2_with fail
      refine (between2c d e He _).mono ?_
      rintro x w2 ⟨rfl, rfl⟩
      go_wp2_with fail
      go_ret
      exact ⟨ret_int (by rw [hfin.out]), rfl⟩
    · have hb := rpos_bd (-c) (-e) (by omega) (by show _ ≤ (9007199254740991 : Int); omega) (by omega) (by show _ ≤ (9007199254740991 : Int); omega)
      have hq0 : 0 ≤ (2 * -c + -e) / (2 * -e) := hb.1
      have hq1 : (2 * -c + -e) / (2 * -e) ≤ 9007199254740992 := hb.2
      clear hb
      have hfin : Hid (rnd n d = (2 * -c + -e) / (2 * -e)) := by
        rw [hres.out]; unfold rn rsg; rw [if_neg (by omega), if_pos h, if_neg (by omega)]; rfl
      go_enter Try.func20, Try.ntmps20
      go_wp2_with fail
      refine (between2c n c Hc _).mono ?_
      rintro x w1 ⟨rfl, rfl⟩
      go_wp2_with fail
      refine (between2c d e He _).mono ?_
      rintro x w2 ⟨rfl, rfl⟩
      go_wp2_with fail
      go_ret
      exact ⟨ret_int (by rw [hfin.out]), rfl⟩
  · subst h
    go_enter Try.func20, Try.ntmps20
    go_wp2_with fail
    refine (between2c n c Hc _).mono ?_
    rintro x w1 ⟨rfl, rfl⟩
    go_wp2_with fail
    refine (between2c d 0 He _).mono ?_
    rintro x w2 ⟨rfl, rfl⟩
    go_wp2_with fail
    go_ret
    exact ⟨ret_int (by rw [hres.out]; rfl), rfl⟩
  · have hz : (e == 0) = false := by simp; omega
    by_cases hp : 0 ≤ c
    · have hb := rpos_bd c e (by omega) hn2 (by omega) hd2
      have hq0 : 0 ≤ (2 * c + e) / (2 * e) := hb.1
      have hq1 : (2 * c + e) / (2 * e) ≤ 9007199254740992 := hb.2
      clear hb
      have hfin : Hid (rnd n d = (2 * c + e) / (2 * e)) := by
        rw [hres.out]; unfold rn rsg; rw [if_neg (by omega), if_neg (by omega), if_neg (by omega)]; rfl
      go_enter Try.func20, Try.ntmps20
      go_wp2_with fail
      refine (between2c n c Hc _).mono ?_
      rintro x w1 ⟨rfl, rfl⟩
      go_wp2_with fail
      refine (between2c d e He _).mono ?_
      rintro x w2 ⟨rfl, rfl⟩
      go_wp2_with fail
      go_ret
      exact ⟨ret_int (by rw [hfin.out]), rfl⟩
    · have hb := rpos_bd (-c) e (by omega) (by show _ ≤ (9007199254740991 : Int); omega) (by omega) hd2
      have hq0 : 0 ≤ (-2 * c + e) / (2 * e) := by have := hb.1; unfold rpos at this; rwa [show 2 * -c = -2 * c by omega] at this
      have hq1 : (-2 * c + e) / (2 * e) ≤ 9007199254740992 := by have := hb.2; unfold rpos at this; rwa [show 2 * -c = -2 * c by omega] at this
      clear hb
      have hfin : Hid (rnd n d = -((-2 * c + e) / (2 * e))) := by
        rw [hres.out]; unfold rn rsg; rw [if_neg (by omega), if_neg (by omega), if_pos (by omega)]; unfold rpos; rw [show 2 * -c = -2 * c by omega]; rfl
      go_enter Try.func20, Try.ntmps20
      go_wp2_with fail
      refine (between2c n c Hc _).mono ?_
      rintro x w1 ⟨rfl, rfl⟩
      go_wp2_with fail
      refine (between2c d e He _).mono ?_
      rintro x w2 ⟨rfl, rfl⟩
      go_wp2_with fail
      go_ret
      exact ⟨ret_int (by rw [hfin.out]), rfl⟩

theorem len_c (c : Int) (k : Nat) (h0 : 0 ≤ c) (h1 : c ≤ 9007199254740991) (h : Hid ((Lib.bitLen c.toNat : Int) = k + 1)) (w : World) :
    Calls Try.prog 30 #[.int .u64 c] w fun e w' => e = .returned (.int .i64 ((k : Int) + 1)) ∧ w = w' :=
  (Try.bits_Len c w h0 (by omega)).mono fun e w' ⟨he, hw⟩ => ⟨by rw [he, h.out], hw.symm⟩

set_option maxHeartbeats 400000 in
theorem log_any (n : Int) (w : World) :
    Calls Try.prog 21 #[.int .i64 n] w fun x w' => x = .returned (.int .i64 (lg n)) ∧ Ext w w' := by
  have hf := lgk_facts n
  have hbn := cl_bd 1 mx n (by decide)
  obtain ⟨c, hc⟩ : ∃ c, cl 1 mx n = c := ⟨_, rfl⟩
  obtain ⟨k, hk⟩ : ∃ k, lgk n = k := ⟨_, rfl⟩
  have hres : Hid (lg n = 256 * (k : Int) + c * 256 / 2 ^ k - 256) := by unfold lg; rw [hc, hk]; rfl
  rw [hc, hk] at hf
  rw [hc] at hbn
  have Hc := hidden hc
  clear hc hk
  obtain ⟨hn1, hn2⟩ := hbn
  have hn3 : c ≤ 9007199254740991 := hn2
  clear hn2
  obtain ⟨hk1, hk2, hk3, hk4⟩ := hf
  have hp : (0 : Int) < 2 ^ k := Int.pow_pos (by omega)
  have hq0 : 256 ≤ c * 256 / 2 ^ k := Int.le_ediv_of_mul_le hp (by omega)
  have hq1 : c * 256 / 2 ^ k < 512 := Int.ediv_lt_of_lt_mul hp (by rw [Int.pow_succ] at hk3; omega)
  have Hk := hidden hk4
  clear hk4
  go_enter Try.func21, Try.ntmps21
  go_wp2_with fail
  refine (limit3c n c Hc _).mono ?_
  rintro x w1 ⟨rfl, hg1⟩
  go_wp2_with fail
  refine (len_c c k (by omega) (by omega) Hk _).mono ?_
  rintro x w2 ⟨rfl, rfl⟩
  go_wp2_with fail
  go_ret
  exact ⟨ret_int hres.out.symm, hg1⟩

/-- 256 n / p, bit by bit. -/
theorem part_any (n p : Int) (h0 : 0 ≤ n) (h1 : n < p) (hp : p ≤ 9007199254740991) (w : World) :
    Calls Try.prog 31 #[.int .i64 n, .int .i64 p] w fun x w' => x = .returned (.int .i64 (n * 256 / p)) ∧ w = w' := by
  go_enter Try.func31, Try.ntmps31
  go_wp2
  go_loop [0, 5, 6] (fun s t i => ∃ (j : Nat) (a b : Int), j ≤ 8 ∧ i = .int .i64 j ∧ s = .int .i64 a ∧ t = .int .i64 b ∧ 0 ≤ a ∧ a < p ∧ 0 ≤ b ∧ b ≤ 256 ∧ Hid (n * 2 ^ j = b * p + a ∧ b < 2 ^ j)) (fun _ _ i => (8 - intOf i).toNat)
  case atStart => exact ⟨0, n, 0, by omega, rfl, rfl, rfl, h0, h1, by omega, by omega, ⟨by simp, by simp⟩⟩
  case round =>
    obtain ⟨j, a, b, hj, rfl, rfl, rfl, ha0, ha1, hb0, hb1, hq⟩ := hrel
    by_cases hlt : j < 8
    · by_cases hd : p ≤ 2 * a
      · have hq2 : Hid (n * 2 ^ (j + 1) = (2 * b + 1) * p + (2 * a - p) ∧ 2 * b + 1 < 2 ^ (j + 1) ∧ 2 * b + 1 ≤ 256) := by
          obtain ⟨e1, e2⟩ := hq.out
          have e3 : (2 : Int) ^ (j + 1) ≤ 2 ^ 8 := pow2_le (by omega)
          refine ⟨?_, by rw [Int.pow_succ]; omega, ?_⟩
          · rw [Int.pow_succ, ← Int.mul_assoc, e1, Int.add_mul, Int.mul_assoc, Int.mul_comm p 2, ← Int.mul_assoc, Int.add_mul, Int.mul_comm b 2]; omega
          · have : 2 * b + 1 < 2 ^ (j + 1) := by rw [Int.pow_succ]; omega
            omega
        go_wp2
        go_round
        case rel => exact ⟨j + 1, 2 * a - p, 2 * b + 1, by omega, by go_num, rfl, rfl, by omega, by omega, by omega, hq2.out.2.2, ⟨hq2.out.1, hq2.out.2.1⟩⟩
        case measure => simp [intOf]; omega
      · have hq2 : Hid (n * 2 ^ (j + 1) = (2 * b) * p + 2 * a ∧ 2 * b < 2 ^ (j + 1) ∧ 2 * b ≤ 256) := by
          obtain ⟨e1, e2⟩ := hq.out
          have e3 : (2 : Int) ^ (j + 1) ≤ 2 ^ 8 := pow2_le (by omega)
          refine ⟨?_, by rw [Int.pow_succ]; omega, ?_⟩
          · rw [Int.pow_succ, ← Int.mul_assoc, e1, Int.add_mul, Int.mul_assoc, Int.mul_comm p 2, ← Int.mul_assoc, Int.mul_comm b 2]; omega
          · have : 2 * b < 2 ^ (j + 1) := by rw [Int.pow_succ]; omega
            omega
        go_wp2
        go_round
        case rel => exact ⟨j + 1, 2 * a, 2 * b, by omega, by go_num, rfl, rfl, by omega, by omega, by omega, hq2.out.2.2, ⟨hq2.out.1, hq2.out.2.1⟩⟩
        case measure => simp [intOf]; omega
    · obtain rfl : j = 8 := by omega
      go_wp2
      go_ret
      refine ⟨ret_int ?_, rfl⟩
      obtain ⟨e1, e2⟩ := hq.out
      have e3 : n * 256 = a + b * p := by have : (2 : Int) ^ 8 = 256 := by decide
                                          rw [this] at e1; omega
      rw [e3, Int.add_mul_ediv_right _ _ (by omega), Int.ediv_eq_zero_of_lt ha0 ha1]; omega

end Go.Proofs.Ytjcoeifcbfoikaa
