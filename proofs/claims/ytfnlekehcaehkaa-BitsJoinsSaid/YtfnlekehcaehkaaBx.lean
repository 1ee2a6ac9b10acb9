/- The reference's Read. -/
import Derived.Test.YtfnlekehcaehkaaBw
namespace Go.Proofs.Ytfnlekehcaehkaa
open Go.RowKit
set_option linter.unusedVariables false
attribute [local go_sem ↓] Go.wp_at_zero Go.wp_at_succ

theorem cut_succ' (D : List Int) (a k : Nat) : cut D a (k + 1) = cut D a k ++ [gb D (a + k)] := by simp [cut, List.range_succ]
set_option maxHeartbeats 1000000 in
theorem rread_good (v : Value) (D : List Int) (c a n : Nat) (hb : Bytes D) (hwf : WF D c) (hc : c ≤ 524288) (hn : n ≤ 32) (han : a + n ≤ c) (w : World) (h : Rd8 w v D) :
    Calls Try.prog 30 #[.agg #[v, .int .i64 (c : Int)], .int .i64 (a : Int), .int .i64 (n : Int)] w (RdPost w (0, num (cut D a n))) := by
  have hk := hidden (wf_chkb hwf (by omega))
  have hlen := hwf.len
  have hl : D.length ≤ 65536 := by omega
  have hy8 : a + n ≤ 8 * D.length := by omega
  obtain ⟨ad, cap, rfl, q1, q2, q3⟩ := Rd.shape h
  have k1 : ¬ (n : Int) < 0 := by omega
  have k2 : ¬ 32 < (n : Int) := by omega
  have k3 : ¬ (a : Int) < 0 := by omega
  have k4 : ¬ (c : Int) - (n : Int) < (a : Int) := by omega
  have W0B := Blk.new w [.slice ad D.length cap, .int .i64 (c : Int)] 24
  have W0R : Rd8 (w.alloc (.cells #[.slice ad D.length cap, .int .i64 (c : Int)] 24)) (.slice ad D.length cap) D := Rd.alloc h _
  have W0E : Ext w (w.alloc (.cells #[.slice ad D.length cap, .int .i64 (c : Int)] 24)) := (Ext.refl w).alloc _
  have p0 := W0B.cell 0 _ rfl
  have p1 := W0B.cell 1 _ rfl
  clear hlen
  go_enter Try.func30, Try.ntmps30
  go_wp2_with fail
  refine (rcheck_any _ D (c : Int) hb (by omega) (by omega) (by omega) _ W0R).mono ?_
  rw [hk.out]
  rintro e w1 ⟨rfl, g1⟩
  have pb0 := (W0B.ext g1).cell 0 _ rfl
  have pb1 := (W0B.ext g1).cell 1 _ rfl
  clear p0 p1
  go_wp2_with fail
  go_loopw [9, 10] (fun s9 i wr => ∃ k : Nat, k ≤ n ∧ i = .int .i64 ((a : Int) + (k : Int)) ∧ s9 = .int .u32 (num (cut D a k)) ∧ Ext w1 wr) (fun _ i _ => ((a : Int) + (n : Int) - intOf i).toNat)
  case atStart => exact ⟨0, by omega, by go_num, by simp [cut, num], Ext.refl _⟩
  case round =>
    obtain ⟨k, hkn, rfl, rfl, hX⟩ := hrel
    have d0 := hX.cell pb0
    have d1 := hX.cell pb1
    have hR := Rd.ext W0R (g1.trans hX)
    by_cases hlt : k < n
    · have hlt' : (a : Int) + (k : Int) < (a : Int) + (n : Int) := by omega
      have hnb := num_bd (cut_01 D a k)
      rw [cut_len] at hnb
      have hp : (2 : Int) ^ k ≤ 2 ^ 31 := by
        have := Nat.pow_le_pow_right (show 0 < 2 by decide) (show k ≤ 31 by omega)
        have h3 : ((2 ^ k : Nat) : Int) ≤ ((2 ^ 31 : Nat) : Int) := Int.ofNat_le.mpr this
        simpa using h3
      have hsn : num (cut D a (k + 1)) = num (cut D a k) * 2 + gb D (a + k) := by rw [cut_succ', num_snoc]
      have hg01 := gb_01 D (a + k)
      obtain ⟨N, hN⟩ : ∃ N, num (cut D a k) = N := ⟨_, rfl⟩
      obtain ⟨z, hz⟩ : ∃ z, gb D (a + k) = z := ⟨_, rfl⟩
      rw [hN] at hnb hsn ⊢
      rw [hz] at hsn hg01
      obtain ⟨n0, n1⟩ := hnb
      have n2 : N ≤ 2147483647 := by omega
      have z0 : 0 ≤ z := by omega
      have z1 : z ≤ 1 := by omega
      have HS := hidden hsn
      have HZ := hidden hz
      have HG := hidden hg01
      clear hN n1 hp hsn hz hg01
      go_wp2_with fail
      refine (get_any _ _ D (a + k) hb (by omega) (by omega) _ hR).mono ?_
      rw [HZ.out]
      rintro e w5 ⟨rfl, g5⟩
      go_wp2_with fail
      refine ⟨⟨k + 1, by omega, by go_num, by rw [HS.out], hX.trans g5⟩, by simp [intOf]; omega⟩
    · obtain rfl : k = n := by omega
      have hge : ¬ (a : Int) + (k : Int) < (a : Int) + (k : Int) := by omega
      go_wp2_with fail
      go_ret2
      exact ⟨rfl, (W0E.trans g1).trans hX⟩

set_option maxHeartbeats 1000000 in
theorem rread_bad0 (v : Value) (D : List Int) (c a n : Int) (hb : Bytes D) (hl : D.length ≤ 60000) (hc0 : -9223372036854775808 ≤ c) (hc1 : c ≤ 9223372036854775807) (w : World) (h : Rd8 w v D) (hk : chkb D c ≠ 0) :
    Calls Try.prog 30 #[.agg #[v, .int .i64 c], .int .i64 a, .int .i64 n] w (RdPost w (rdF D c a n)) := by
  have hE : rdF D c a n = (chkb D c, 0) := by unfold rdF; rw [if_pos hk]
  rw [hE]
  obtain ⟨k, hk'⟩ : ∃ k, chkb D c = k := ⟨_, rfl⟩
  have hz : (k != 0) = true := by rw [← hk']; simp [hk]
  rw [hk']
  have Hk := hidden hk'
  clear hk hE hk'
  obtain ⟨ad, cap, rfl, q1, q2, q3⟩ := Rd.shape h
  have W0B := Blk.new w [.slice ad D.length cap, .int .i64 c] 24
  have W0R : Rd8 (w.alloc (.cells #[.slice ad D.length cap, .int .i64 c] 24)) (.slice ad D.length cap) D := Rd.alloc h _
  have W0E : Ext w (w.alloc (.cells #[.slice ad D.length cap, .int .i64 c] 24)) := (Ext.refl w).alloc _
  have p0 := W0B.cell 0 _ rfl
  have p1 := W0B.cell 1 _ rfl
  go_enter Try.func30, Try.ntmps30
  go_wp2_with fail
  refine (rcheck_any _ D c hb (by omega) hc0 hc1 _ W0R).mono ?_
  rw [Hk.out]
  rintro e w1 ⟨rfl, g1⟩
  have pb0 := (W0B.ext g1).cell 0 _ rfl
  have pb1 := (W0B.ext g1).cell 1 _ rfl
  go_wp2_with fail
  go_ret2
  exact ⟨rfl, W0E.trans g1⟩

set_option maxHeartbeats 1000000 in
theorem rread_bad1 (v : Value) (D : List Int) (c a n : Int) (hb : Bytes D) (hl : D.length ≤ 60000) (hc0 : -9223372036854775808 ≤ c) (hc1 : c ≤ 9223372036854775807) (w : World) (h : Rd8 w v D) (hk : chkb D c = 0) (hn : n < 0 ∨ 32 < n ∨ a < 0) :
    Calls Try.prog 30 #[.agg #[v, .int .i64 c], .int .i64 a, .int .i64 n] w (RdPost w (rdF D c a n)) := by
  have hE : rdF D c a n = (2, 0) := by unfold rdF; rw [if_neg (by simp [hk]), if_pos hn]
  rw [hE]
  have Hk := hidden hk
  clear hk hE
  obtain ⟨ad, cap, rfl, q1, q2, q3⟩ := Rd.shape h
  have W0B := Blk.new w [.slice ad D.length cap, .int .i64 c] 24
  have W0R : Rd8 (w.alloc (.cells #[.slice ad D.length cap, .int .i64 c] 24)) (.slice ad D.length cap) D := Rd.alloc h _
  have W0E : Ext w (w.alloc (.cells #[.slice ad D.length cap, .int .i64 c] 24)) := (Ext.refl w).alloc _
  have p0 := W0B.cell 0 _ rfl
  have p1 := W0B.cell 1 _ rfl
  by_cases n1 : n < 0
  · go_enter Try.func30, Try.ntmps30
    go_wp2_with fail
    refine (rcheck_any _ D c hb (by omega) hc0 hc1 _ W0R).mono ?_
    rw [Hk.out]
    rintro e w1 ⟨rfl, g1⟩
    have pb0 := (W0B.ext g1).cell 0 _ rfl
    have pb1 := (W0B.ext g1).cell 1 _ rfl
    go_wp2_with fail
    go_ret2
    exact ⟨rfl, W0E.trans g1⟩
  · by_cases n2 : 32 < n
    · go_enter Try.func30, Try.ntmps30
      go_wp2_with fail
      refine (rcheck_any _ D c hb (by omega) hc0 hc1 _ W0R).mono ?_
      rw [Hk.out]
      rintro e w1 ⟨rfl, g1⟩
      have pb0 := (W0B.ext g1).cell 0 _ rfl
      have pb1 := (W0B.ext g1).cell 1 _ rfl
      go_wp2_with fail
      go_ret2
      exact ⟨rfl, W0E.trans g1⟩
    · have n3 : a < 0 := by omega
      go_enter Try.func30, Try.ntmps30
      go_wp2_with fail
      refine (rcheck_any _ D c hb (by omega) hc0 hc1 _ W0R).mono ?_
      rw [Hk.out]
      rintro e w1 ⟨rfl, g1⟩
      have pb0 := (W0B.ext g1).cell 0 _ rfl
      have pb1 := (W0B.ext g1).cell 1 _ rfl
      go_wp2_with fail
      go_ret2
      exact ⟨rfl, W0E.trans g1⟩

set_option maxHeartbeats 1000000 in
theorem rread_bad2 (v : Value) (D : List Int) (c a n : Int) (hb : Bytes D) (hl : D.length ≤ 60000) (hc0 : -9223372036854775808 ≤ c) (hc1 : c ≤ 9223372036854775807) (w : World) (h : Rd8 w v D) (hk : chkb D c = 0) (hn : 0 ≤ n ∧ n ≤ 32 ∧ 0 ≤ a) (hr : c - n < a) :
    Calls Try.prog 30 #[.agg #[v, .int .i64 c], .int .i64 a, .int .i64 n] w (RdPost w (rdF D c a n)) := by
  have hE : rdF D c a n = (9, 0) := by unfold rdF; rw [if_neg (by simp [hk]), if_neg (by omega), if_pos hr]
  rw [hE]
  obtain ⟨hk0, hk1, -⟩ := chkb_wf hb hk
  have Hk := hidden hk
  clear hk hE
  obtain ⟨n0, n3, n2⟩ := hn
  have n4 : ¬ n < 0 := by omega
  have n5 : ¬ 32 < n := by omega
  have n6 : ¬ a < 0 := by omega
  obtain ⟨ad, cap, rfl, q1, q2, q3⟩ := Rd.shape h
  have W0B := Blk.new w [.slice ad D.length cap, .int .i64 c] 24
  have W0R : Rd8 (w.alloc (.cells #[.slice ad D.length cap, .int .i64 c] 24)) (.slice ad D.length cap) D := Rd.alloc h _
  have W0E : Ext w (w.alloc (.cells #[.slice ad D.length cap, .int .i64 c] 24)) := (Ext.refl w).alloc _
  have p0 := W0B.cell 0 _ rfl
  have p1 := W0B.cell 1 _ rfl
  go_enter Try.func30, Try.ntmps30
  go_wp2_with fail
  refine (rcheck_any _ D c hb (by omega) hc0 hc1 _ W0R).mono ?_
  rw [Hk.out]
  rintro e w1 ⟨rfl, g1⟩
  have pb0 := (W0B.ext g1).cell 0 _ rfl
  have pb1 := (W0B.ext g1).cell 1 _ rfl
  go_wp2_with fail
  go_ret2
  exact ⟨rfl, W0E.trans g1⟩

theorem rread_any (v : Value) (D : List Int) (c a n : Int) (hb : Bytes D) (hl : D.length ≤ 60000) (hc0 : -9223372036854775808 ≤ c) (hc1 : c ≤ 9223372036854775807) (w : World) (h : Rd8 w v D) :
    Calls Try.prog 30 #[.agg #[v, .int .i64 c], .int .i64 a, .int .i64 n] w (RdPost w (rdF D c a n)) := by
  by_cases hk : chkb D c = 0
  · by_cases hn : 0 ≤ n ∧ n ≤ 32 ∧ 0 ≤ a
    · by_cases hr : a ≤ c - n
      · obtain ⟨k0, k1, hwf⟩ := chkb_wf hb hk
        have hE : rdF D c a n = (0, num (cut D a.toNat n.toNat)) := by unfold rdF; rw [if_neg (by simp [hk]), if_neg (by omega), if_neg (by omega)]
        rw [hE]
        have := rread_good v D c.toNat a.toNat n.toNat hb hwf (by omega) (by omega) (by omega) w h
        rw [Int.toNat_of_nonneg k0, Int.toNat_of_nonneg hn.2.2, Int.toNat_of_nonneg hn.1] at this
        exact this
      · exact rread_bad2 v D c a n hb hl hc0 hc1 w h hk hn (by omega)
    · exact rread_bad1 v D c a n hb hl hc0 hc1 w h hk (by omega)
  · exact rread_bad0 v D c a n hb hl hc0 hc1 w h hk
end Go.Proofs.Ytfnlekehcaehkaa
