/- The reference's ReadGamma. -/
import Derived.Test.YtfnlekehcaehkaaBz
import Derived.Test.YtfnlekehcaehkaaBj
namespace Go.Proofs.Ytfnlekehcaehkaa
open Go.RowKit
set_option linter.unusedVariables false
attribute [local go_sem ↓] Go.wp_at_zero Go.wp_at_succ

set_option maxHeartbeats 2000000 in
theorem rrg_good (v : Value) (D : List Int) (c a : Nat) (hb : Bytes D) (hl6 : D.length ≤ 60000) (hwf : WF D c) (hc : c ≤ 524288) (ha : (a : Int) ≤ 9223372036854775807) (w : World) (h : Rd8 w v D) :
    Calls Try.prog 13 #[.agg #[v, .int .i64 (c : Int)], .int .i64 (a : Int)] w (RgPost w (rgF D c a)) := by
  have hck := wf_chkb hwf hc
  obtain ⟨z, hz⟩ : ∃ z, zr D a (c - a) = z := ⟨_, rfl⟩
  have hzs := zr_spec D (c - a) a
  rw [hz] at hzs
  have hR : rgF D c a = if (c : Int) ≤ (a : Int) + (z : Int) then (9, 0, 0) else if 30 < z then (2, 0, 0) else if (c : Int) < (a : Int) + 2 * (z : Int) + 1 then (9, 0, 0) else (0, num (cut D (a + z) (z + 1)), (a : Int) + 2 * (z : Int) + 1) := by
    unfold rgF
    rw [if_neg (by simp [hck]), if_neg (by omega)]
    simp only [Int.toNat_natCast, hz]
  obtain ⟨R, hRR⟩ : ∃ R, rgF D c a = R := ⟨_, rfl⟩
  rw [hRR]
  have HR := hidden (hRR.symm.trans hR)
  clear hRR hR
  have hk := hidden hck
  have hlen := hwf.len
  have hy8 : c ≤ 8 * D.length := by omega
  obtain ⟨ad, cap, rfl, q1, q2, q3⟩ := Rd.shape h
  have k3 : ¬ (a : Int) < 0 := by omega
  have W0B := Blk.new w [.slice ad D.length cap, .int .i64 (c : Int)] 24
  have W0R : Rd8 (w.alloc (.cells #[.slice ad D.length cap, .int .i64 (c : Int)] 24)) (.slice ad D.length cap) D := Rd.alloc h _
  have W0E : Ext w (w.alloc (.cells #[.slice ad D.length cap, .int .i64 (c : Int)] 24)) := (Ext.refl w).alloc _
  have p0 := W0B.cell 0 _ rfl
  have p1 := W0B.cell 1 _ rfl
  have hz6 : z ≤ 524288 := by omega
  have Hzs := hidden hzs
  clear hzs hz hlen hck
  go_enter Try.func13, Try.ntmps13
  go_wp2_with fail
  refine (rcheck_any _ D (c : Int) hb (by omega) (by omega) (by omega) _ W0R).mono ?_
  rw [hk.out]
  rintro e w1 ⟨rfl, g1⟩
  have pb0 := (W0B.ext g1).cell 0 _ rfl
  have pb1 := (W0B.ext g1).cell 1 _ rfl
  clear p0 p1
  go_wp2_with fail
  go_loopw [8] (fun i wr => ∃ k : Nat, k ≤ z ∧ i = .int .i64 (k : Int) ∧ Ext w1 wr) (fun i _ => z - (intOf i).toNat)
  case atStart => exact ⟨0, by omega, rfl, Ext.refl _⟩
  case round =>
    obtain ⟨k, hkz, rfl, hX⟩ := hrel
    have d0 := hX.cell pb0
    have d1 := hX.cell pb1
    have hR := Rd.ext W0R (g1.trans hX)
    have hak : (a : Int) + (k : Int) ≤ 9223372036854775807 := by have := Hzs.out.1; omega
    have haw : IntKind.i64.wrap ((a : Int) + (k : Int)) = (a : Int) + (k : Int) := IntWalk.i64_in _ (by omega)
    have haw2 : wrap64 ((a : Int) + (k : Int)) = (a : Int) + (k : Int) := by unfold wrap64; omega
    by_cases hac : a + k < c
    · have hac' : (a : Int) + (k : Int) < (c : Int) := by omega
      obtain ⟨x, hx⟩ : ∃ x, gb D (a + k) = x := ⟨_, rfl⟩
      have HX := hidden hx
      by_cases hlt : k < z
      · have hx0 : x = 0 := by rw [← hx]; exact Hzs.out.2.1 k hlt
        have hxe : (x == 0) = true := by simp [hx0]
        have hx0 := hidden hx0
        clear hx
        go_wp2_with fail
        refine (get_any _ _ D (a + k) hb (by omega) (by omega) _ hR).mono ?_
        rw [HX.out]
        rintro e w5 ⟨rfl, g5⟩
        go_wp2_with fail
        refine ⟨⟨k + 1, by omega, by go_num, hX.trans g5⟩, by simp [intOf]; omega⟩
      · obtain rfl : k = z := by omega
        have hx0 : x = 1 := by rw [← hx]; exact Hzs.out.2.2 (by omega)
        have hxe : (x == 0) = false := by simp [hx0]
        have hx0 := hidden hx0
        clear hx
        go_wp2_with fail
        refine (get_any _ _ D (a + k) hb (by omega) (by omega) _ hR).mono ?_
        rw [HX.out]
        rintro e w5 ⟨rfl, g5⟩
        have d50 := g5.cell d0
        have d51 := g5.cell d1
        have hRd := Rd.ext hR g5
        have hE5 : Ext w w5 := (W0E.trans g1).trans (hX.trans g5)
        have hac3 : ¬ (c : Int) ≤ (a : Int) + (k : Int) := by omega
        have hca : ¬ c ≤ a := by omega
        by_cases h30 : 30 < k
        · have h31 : (30 : Int) < (k : Int) := by omega
          have HR2 : Hid (R = (2, 0, 0)) := hidden (by rw [HR.out, if_neg hac3, if_pos h30])
          go_wp2_with fail
          go_ret3
          rw [HR2.out]
          exact ⟨rfl, hE5⟩
        · have h31 : ¬ (30 : Int) < (k : Int) := by omega
          have hrd0 : rdF D c ((a : Int) + (k : Int)) ((k : Int) + 1) = if (c : Int) < (a : Int) + 2 * (k : Int) + 1 then (9, 0) else (0, num (cut D (a + k) (k + 1))) := by
            unfold rdF
            rw [if_neg (by have := hk.out; omega), if_neg (by omega)]
            by_cases hh : (c : Int) < (a : Int) + 2 * (k : Int) + 1
            · rw [if_pos (by omega), if_pos hh]
            · rw [if_neg (by omega), if_neg hh, show ((a : Int) + (k : Int)).toNat = a + k by omega, show ((k : Int) + 1).toNat = k + 1 by omega]
          have hcn := cut_num_bd D (a + k) (k + 1) (by omega)
          obtain ⟨N, hN⟩ : ∃ N, num (cut D (a + k) (k + 1)) = N := ⟨_, rfl⟩
          rw [hN] at hrd0 hcn
          obtain ⟨n0, n1⟩ := hcn
          have HN := hidden hN
          clear hN
          by_cases hcc : (c : Int) < (a : Int) + 2 * (k : Int) + 1
          · have HR2 : Hid (R = (9, 0, 0)) := hidden (by rw [HR.out, if_neg hac3, if_neg h30, if_pos hcc])
            rw [if_pos hcc] at hrd0
            have HRD := hidden hrd0
            clear hcc hrd0
            go_wp2_with fail
            refine (rread_any _ D (c : Int) _ _ hb (by omega) (by omega) (by omega) _ hRd).mono ?_
            rw [HRD.out]
            rintro e w6 ⟨rfl, g6⟩
            go_wp2_with fail
            go_ret3
            rw [HR2.out]
            exact ⟨rfl, hE5.trans g6⟩
          · have HR2 : Hid (R = (0, N, (a : Int) + 2 * (k : Int) + 1)) := hidden (by rw [HR.out, if_neg hac3, if_neg h30, if_neg hcc, HN.out])
            rw [if_neg hcc] at hrd0
            have HRD := hidden hrd0
            clear hcc hrd0
            go_wp2_with fail
            refine (rread_any _ D (c : Int) _ _ hb (by omega) (by omega) (by omega) _ hRd).mono ?_
            rw [HRD.out]
            rintro e w6 ⟨rfl, g6⟩
            go_wp2_with fail
            go_ret3
            rw [HR2.out]
            exact ⟨rfl, hE5.trans g6⟩
    · have hkz : k = z := by
        have := Hzs.out.1
        omega
      subst hkz
      have hac' : ¬ (a : Int) + (k : Int) < (c : Int) := by omega
      have hac2 : (c : Int) ≤ (a : Int) + (k : Int) := by omega
      have HR9 : Hid (R = (9, 0, 0)) := hidden (by rw [HR.out, if_pos hac2])
      go_wp2_with fail
      all_goals
        go_ret3
        rw [HR9.out]
        exact ⟨rfl, (W0E.trans g1).trans hX⟩
set_option maxHeartbeats 1000000 in
theorem rrg_bad0 (v : Value) (D : List Int) (c a : Int) (hb : Bytes D) (hl : D.length ≤ 60000) (hc0 : -9223372036854775808 ≤ c) (hc1 : c ≤ 9223372036854775807) (w : World) (h : Rd8 w v D) (hk : chkb D c ≠ 0) :
    Calls Try.prog 13 #[.agg #[v, .int .i64 c], .int .i64 a] w (RgPost w (rgF D c a)) := by
  have hE : rgF D c a = (chkb D c, 0, 0) := by unfold rgF; rw [if_pos hk]
  rw [hE]
  obtain ⟨k, hk'⟩ : ∃ k, chkb D c = k := ⟨_, rfl⟩
  have hz : (k != 0) = true := by rw [← hk']; simp [hk]
  rw [hk']
  have Hk := hidden hk'
  clear hk hE hk'
  obtain ⟨ad, cap, rfl, q1, q2, q3⟩ := Rd.shape h
  have W0B := Blk.new w [.slice ad D.length cap, .int .i64 c] 24
  have W0R : Rd8 (w.alloc (.cells #[.slice ad D.length cap, .int .i64 c] 24)) (.slice ad D.length cap) D := Rd.alloc h _
  have W0E : Ext w (w.alloc (.cells #[.slice ad D.length cap, .int .i64 c] 24)) := (Ext.refl w).alloc _
  have p0 := W0B.cell 0 _ rfl
  have p1 := W0B.cell 1 _ rfl
  go_enter Try.func13, Try.ntmps13
  go_wp2_with fail
  refine (rcheck_any _ D c hb (by omega) hc0 hc1 _ W0R).mono ?_
  rw [Hk.out]
  rintro e w1 ⟨rfl, g1⟩
  have pb0 := (W0B.ext g1).cell 0 _ rfl
  have pb1 := (W0B.ext g1).cell 1 _ rfl
  go_wp2_with fail
  go_ret3
  exact ⟨rfl, W0E.trans g1⟩

set_option maxHeartbeats 1000000 in
theorem rrg_bad1 (v : Value) (D : List Int) (c a : Int) (hb : Bytes D) (hl : D.length ≤ 60000) (hc0 : -9223372036854775808 ≤ c) (hc1 : c ≤ 9223372036854775807) (w : World) (h : Rd8 w v D) (hk : chkb D c = 0) (hn : a < 0) :
    Calls Try.prog 13 #[.agg #[v, .int .i64 c], .int .i64 a] w (RgPost w (rgF D c a)) := by
  have hE : rgF D c a = (2, 0, 0) := by unfold rgF; rw [if_neg (by simp [hk]), if_pos hn]
  rw [hE]
  have Hk := hidden hk
  clear hk hE
  obtain ⟨ad, cap, rfl, q1, q2, q3⟩ := Rd.shape h
  have W0B := Blk.new w [.slice ad D.length cap, .int .i64 c] 24
  have W0R : Rd8 (w.alloc (.cells #[.slice ad D.length cap, .int .i64 c] 24)) (.slice ad D.length cap) D := Rd.alloc h _
  have W0E : Ext w (w.alloc (.cells #[.slice ad D.length cap, .int .i64 c] 24)) := (Ext.refl w).alloc _
  have p0 := W0B.cell 0 _ rfl
  have p1 := W0B.cell 1 _ rfl
  go_enter Try.func13, Try.ntmps13
  go_wp2_with fail
  refine (rcheck_any _ D c hb (by omega) hc0 hc1 _ W0R).mono ?_
  rw [Hk.out]
  rintro e w1 ⟨rfl, g1⟩
  have pb0 := (W0B.ext g1).cell 0 _ rfl
  have pb1 := (W0B.ext g1).cell 1 _ rfl
  go_wp2_with fail
  go_ret3
  exact ⟨rfl, W0E.trans g1⟩

theorem rrgam_any (v : Value) (D : List Int) (c a : Int) (hb : Bytes D) (hl : D.length ≤ 60000) (hc0 : -9223372036854775808 ≤ c) (hc1 : c ≤ 9223372036854775807) (ha : a ≤ 9223372036854775807) (w : World) (h : Rd8 w v D) :
    Calls Try.prog 13 #[.agg #[v, .int .i64 c], .int .i64 a] w (RgPost w (rgF D c a)) := by
  by_cases hk : chkb D c = 0
  · by_cases hn : a < 0
    · exact rrg_bad1 v D c a hb hl hc0 hc1 w h hk hn
    · obtain ⟨k0, k1, hwf⟩ := chkb_wf hb hk
      have := rrg_good v D c.toNat a.toNat hb hl hwf (by omega) (by omega) w h
      rw [Int.toNat_of_nonneg k0, Int.toNat_of_nonneg (by omega)] at this
      exact this
  · exact rrg_bad0 v D c a hb hl hc0 hc1 w h hk

end Go.Proofs.Ytfnlekehcaehkaa
