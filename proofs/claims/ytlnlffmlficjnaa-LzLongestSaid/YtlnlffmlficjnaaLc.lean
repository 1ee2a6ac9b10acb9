/- Layer 35: the error of a token, and the price, of the program and of the reference. -/
import Derived.Test.YtlnlffmlficjnaaLb
namespace Go.Proofs.Ytlnlffmlficjnaa
open Go.RowKit
set_option linter.unusedVariables false
attribute [local go_sem ↓] Go.wp_at_zero Go.wp_at_succ

set_option maxHeartbeats 1000000 in
theorem lcheck_any (L D B n : Int) (hn0 : 0 ≤ n) (hn1 : n ≤ 65536) (hD0 : -9223372036854775808 ≤ D) (w : World) : Calls Try.prog 31 #[tkv (L, D, B), .int .i64 n] w fun x w' => x = .returned (.int .i64 (ckT (L, D, B) n)) ∧ Ext w w' := by
  have hs := lsize_any L D B
  have hr := right_any L D B
  have hsz : ¬ Wr (L, D, B) → szT (L, D, B) ≤ 255 := szT_le
  have hsz0 := szT_pos (L, D, B)
  obtain ⟨z, hz⟩ : ∃ z, szT (L, D, B) = z := ⟨_, rfl⟩
  have hE : Hid (ckT (L, D, B) n = if Wr (L, D, B) then 3 else if n < D then 2 else if 65536 < n + z then 5 else 0) := hidden (by rw [← hz]; rfl)
  simp only [hz] at hs hsz hsz0
  replace hs := hidden hs
  replace hr := hidden hr
  clear hz
  have T : ∀ w', Ext (w.alloc (.cells #[.int .i64 L, .int .i64 D, .int .u8 B] 27)) w' → Hid ((w'.cell? ⟨w.heap.size, 0, none⟩ = some (.int .i64 L) ∧ w'.cell? ⟨w.heap.size, 1, none⟩ = some (.int .i64 D) ∧ w'.cell? ⟨w.heap.size, 2, none⟩ = some (.int .u8 B)) ∧ Ext w w') := fun w' g => hidden (tk_box g)
  replace T := hidden T
  obtain ⟨⟨c0, c1, c2⟩, -⟩ := (T.out _ (Ext.refl _)).out
  show Calls _ _ #[.agg #[.int .i64 L, .int .i64 D, .int .u8 B], .int .i64 n] _ _
  by_cases k : Wr (L, D, B)
  · have e1 : Hid (decide (¬ Wr (L, D, B)) = false) := hidden (by simp [k])
    replace hE : Hid (ckT (L, D, B) n = 3) := hidden (by rw [hE.out, if_pos k])
    clear k hsz
    go_enter Try.func31, Try.ntmps31
    go_wp2_with fail
    refine (hr.out _).mono ?_
    rw [e1.out]
    rintro e w1 ⟨rfl, g1⟩
    obtain ⟨⟨d0, d1, d2⟩, hX⟩ := (T.out _ g1).out
    go_wp2_with fail
    go_ret
    exact ⟨ret_int hE.out.symm, hX⟩
  · have e1 : Hid (decide (¬ Wr (L, D, B)) = true) := hidden (by simp [k])
    replace hE : Hid (ckT (L, D, B) n = if n < D then 2 else if 65536 < n + z then 5 else 0) := hidden (by rw [hE.out, if_neg k])
    have hz1 := hsz k
    clear k hsz
    by_cases k2 : n < D
    · replace hE : Hid (ckT (L, D, B) n = 2) := hidden (by rw [hE.out, if_pos k2])
      go_enter Try.func31, Try.ntmps31
      go_wp2_with fail
      refine (hr.out _).mono ?_
      rw [e1.out]
      rintro e w1 ⟨rfl, g1⟩
      obtain ⟨⟨d0, d1, d2⟩, hX⟩ := (T.out _ g1).out
      go_wp2_with fail
      go_ret
      exact ⟨ret_int hE.out.symm, hX⟩
    · by_cases k3 : 65536 < n + z
      · replace hE : Hid (ckT (L, D, B) n = 5) := hidden (by rw [hE.out, if_neg k2, if_pos k3])
        go_enter Try.func31, Try.ntmps31
        go_wp2_with fail
        refine (hr.out _).mono ?_
        rw [e1.out]
        rintro e w1 ⟨rfl, g1⟩
        obtain ⟨⟨d0, d1, d2⟩, hX⟩ := (T.out _ g1).out
        go_wp2_with fail
        refine (hs.out _).mono ?_
        rintro e w2 ⟨rfl, g2⟩
        go_wp2_with fail
        go_ret
        exact ⟨ret_int hE.out.symm, hX.trans g2⟩
      · replace hE : Hid (ckT (L, D, B) n = 0) := hidden (by rw [hE.out, if_neg k2, if_neg k3])
        go_enter Try.func31, Try.ntmps31
        go_wp2_with fail
        refine (hr.out _).mono ?_
        rw [e1.out]
        rintro e w1 ⟨rfl, g1⟩
        obtain ⟨⟨d0, d1, d2⟩, hX⟩ := (T.out _ g1).out
        go_wp2_with fail
        refine (hs.out _).mono ?_
        rintro e w2 ⟨rfl, g2⟩
        go_wp2_with fail
        go_ret
        exact ⟨ret_int hE.out.symm, hX.trans g2⟩

set_option maxHeartbeats 1000000 in
theorem rtoken_any (L D B n : Int) (hn0 : 0 ≤ n) (hn1 : n ≤ 65536) (hD0 : -9223372036854775808 ≤ D) (w : World) : Calls Try.prog 33 #[tkv (L, D, B), .int .i64 n] w fun x w' => x = .returned (.int .i64 (ckT (L, D, B) n)) ∧ Ext w w' := by
  have hs := rsize_any L D B
  have hr := wrong_any L D B
  have hsz : ¬ Wr (L, D, B) → szT (L, D, B) ≤ 255 := szT_le
  have hsz0 := szT_pos (L, D, B)
  obtain ⟨z, hz⟩ : ∃ z, szT (L, D, B) = z := ⟨_, rfl⟩
  have hE : Hid (ckT (L, D, B) n = if Wr (L, D, B) then 3 else if n < D then 2 else if 65536 < n + z then 5 else 0) := hidden (by rw [← hz]; rfl)
  simp only [hz] at hs hsz hsz0
  replace hs := hidden hs
  replace hr := hidden hr
  clear hz
  have T : ∀ w', Ext (w.alloc (.cells #[.int .i64 L, .int .i64 D, .int .u8 B] 27)) w' → Hid ((w'.cell? ⟨w.heap.size, 0, none⟩ = some (.int .i64 L) ∧ w'.cell? ⟨w.heap.size, 1, none⟩ = some (.int .i64 D) ∧ w'.cell? ⟨w.heap.size, 2, none⟩ = some (.int .u8 B)) ∧ Ext w w') := fun w' g => hidden (tk_box g)
  replace T := hidden T
  obtain ⟨⟨c0, c1, c2⟩, -⟩ := (T.out _ (Ext.refl _)).out
  show Calls _ _ #[.agg #[.int .i64 L, .int .i64 D, .int .u8 B], .int .i64 n] _ _
  by_cases k : Wr (L, D, B)
  · have e1 : Hid (decide (Wr (L, D, B)) = true) := hidden (by simp [k])
    replace hE : Hid (ckT (L, D, B) n = 3) := hidden (by rw [hE.out, if_pos k])
    clear k hsz
    go_enter Try.func33, Try.ntmps33
    go_wp2_with fail
    refine (hr.out _).mono ?_
    rw [e1.out]
    rintro e w1 ⟨rfl, g1⟩
    obtain ⟨⟨d0, d1, d2⟩, hX⟩ := (T.out _ g1).out
    go_wp2_with fail
    go_ret
    exact ⟨ret_int hE.out.symm, hX⟩
  · have e1 : Hid (decide (Wr (L, D, B)) = false) := hidden (by simp [k])
    replace hE : Hid (ckT (L, D, B) n = if n < D then 2 else if 65536 < n + z then 5 else 0) := hidden (by rw [hE.out, if_neg k])
    have hz1 := hsz k
    clear k hsz
    by_cases k2 : n < D
    · replace hE : Hid (ckT (L, D, B) n = 2) := hidden (by rw [hE.out, if_pos k2])
      go_enter Try.func33, Try.ntmps33
      go_wp2_with fail
      refine (hr.out _).mono ?_
      rw [e1.out]
      rintro e w1 ⟨rfl, g1⟩
      obtain ⟨⟨d0, d1, d2⟩, hX⟩ := (T.out _ g1).out
      go_wp2_with fail
      go_ret
      exact ⟨ret_int hE.out.symm, hX⟩
    · by_cases k3 : 65536 < n + z
      · replace hE : Hid (ckT (L, D, B) n = 5) := hidden (by rw [hE.out, if_neg k2, if_pos k3])
        go_enter Try.func33, Try.ntmps33
        go_wp2_with fail
        refine (hr.out _).mono ?_
        rw [e1.out]
        rintro e w1 ⟨rfl, g1⟩
        obtain ⟨⟨d0, d1, d2⟩, hX⟩ := (T.out _ g1).out
        go_wp2_with fail
        refine (hs.out _).mono ?_
        rintro e w2 ⟨rfl, g2⟩
        go_wp2_with fail
        go_ret
        exact ⟨ret_int hE.out.symm, hX.trans g2⟩
      · replace hE : Hid (ckT (L, D, B) n = 0) := hidden (by rw [hE.out, if_neg k2, if_neg k3])
        go_enter Try.func33, Try.ntmps33
        go_wp2_with fail
        refine (hr.out _).mono ?_
        rw [e1.out]
        rintro e w1 ⟨rfl, g1⟩
        obtain ⟨⟨d0, d1, d2⟩, hX⟩ := (T.out _ g1).out
        go_wp2_with fail
        refine (hs.out _).mono ?_
        rintro e w2 ⟨rfl, g2⟩
        go_wp2_with fail
        go_ret
        exact ⟨ret_int hE.out.symm, hX.trans g2⟩

set_option maxHeartbeats 1000000 in
theorem gammaBits_any (n : Int) (h0 : 1 ≤ n) (h1 : n ≤ 65536) (w : World) : Calls Try.prog 28 #[.int .i64 n] w fun x w' => x = .returned (.int .i64 (gaB n)) ∧ w' = w := by
  have hlen := Try.bits_Len n
  obtain ⟨m, hm, hm2⟩ := bl_bd n 17 h0 (by omega) (by decide)
  have hE : Hid (gaB n = 2 * ((m : Int) + 1) - 1) := hidden (by unfold gaB; rw [hm]; rfl)
  simp only [hm] at hlen
  replace hlen := hidden hlen
  clear hm
  go_enter Try.func28, Try.ntmps28
  go_wp2_with fail
  refine (hlen.out _ (by omega) (by omega)).mono ?_
  rintro e w1 ⟨rfl, rfl⟩
  go_wp2_with fail
  go_ret
  exact ⟨ret_int (by rw [hE.out]), rfl⟩

set_option maxHeartbeats 1000000 in
theorem digits_any (n : Int) (h0 : 1 ≤ n) (h1 : n ≤ 65536) (w : World) : Calls Try.prog 30 #[.int .i64 n] w fun x w' => x = .returned (.int .i64 (Lib.bitLen n.toNat : Int)) ∧ w' = w := by
  obtain ⟨m, hm, hm2⟩ := bl_bd n 17 h0 (by omega) (by decide)
  obtain ⟨c1, c2⟩ := bitLen_int n h0 (by omega) m hm
  rw [hm]
  have Hdiv : Hid (∀ k : Nat, 0 < n / 2 ^ k ↔ k < m + 1) := by
    refine hidden (fun k => ?_)
    have hp := pow2_pos k
    constructor
    · intro hh
      rcases Nat.lt_or_ge k (m + 1) with hkm | hkm
      · exact hkm
      · exfalso
        have h2 : (2 : Int) ^ (m + 1) ≤ 2 ^ k := by
          have := Nat.pow_le_pow_right (show 0 < 2 by decide) (show m + 1 ≤ k by omega)
          have h3 : ((2 ^ (m + 1) : Nat) : Int) ≤ ((2 ^ k : Nat) : Int) := Int.ofNat_le.mpr this
          simpa using h3
        rw [Int.ediv_eq_zero_of_lt (by omega) (by omega)] at hh
        exact absurd hh (by decide)
    · intro hkm
      have h2 : (2 : Int) ^ k ≤ 2 ^ m := by
        have := Nat.pow_le_pow_right (show 0 < 2 by decide) (show k ≤ m by omega)
        have h3 : ((2 ^ k : Nat) : Int) ≤ ((2 ^ m : Nat) : Int) := Int.ofNat_le.mpr this
        simpa using h3
      exact Int.le_ediv_of_mul_le hp (by omega)
  have Hbd : Hid (∀ k : Nat, 0 ≤ n / 2 ^ k ∧ n / 2 ^ k ≤ 65536 ∧ n / 2 ^ k / 2 = n / 2 ^ (k + 1)) := by
    refine hidden (fun k => ?_)
    have hp := pow2_pos k
    refine ⟨Int.ediv_nonneg (by omega) (by omega), ?_, ?_⟩
    · have := Int.ediv_le_self (2 ^ k) (show 0 ≤ n by omega); omega
    · rw [Int.ediv_ediv_of_nonneg (by omega), Int.pow_succ]
  clear c1 c2 hm
  go_enter Try.func30, Try.ntmps30
  go_wp2_with fail
  go_loop [0, 3] (fun s0 s3 => ∃ (k : Nat) (y : Int), k ≤ m + 1 ∧ s3 = .int .i64 (k : Int) ∧ s0 = .int .i64 y ∧ Hid (y = n / 2 ^ k)) (fun _ s3 => m + 1 - (intOf s3).toNat)
  case atStart => exact ⟨0, n, by omega, rfl, rfl, hidden (by simp)⟩
  case round =>
    obtain ⟨k, y, hkm, rfl, rfl, hy⟩ := hrel
    have hX := Hdiv.out k
    obtain ⟨b0, b1, b2⟩ := Hbd.out k
    rw [← hy.out] at hX b0 b1 b2
    replace b2 := hidden b2
    by_cases hlt : k < m + 1
    · have hp := hX.2 hlt
      clear hX
      go_wp2_with fail
      go_round
      case rel => exact ⟨k + 1, y / 2, by omega, by go_num, by go_num, hidden b2.out⟩
      case measure => simp [intOf]; omega
    · have hp : ¬ 0 < y := fun e => hlt (hX.1 e)
      clear hX
      obtain rfl : k = m + 1 := by omega
      go_wp2_with fail
      go_ret
      exact ⟨ret_int (by omega), rfl⟩
end Go.Proofs.Ytlnlffmlficjnaa
