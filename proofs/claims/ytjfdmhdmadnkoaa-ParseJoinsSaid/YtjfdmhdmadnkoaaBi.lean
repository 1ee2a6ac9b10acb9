/- The program's Read, for every bit string. -/
import Derived.Test.YtjfdmhdmadnkoaaBh
namespace Go.Proofs.Ytjfdmhdmadnkoaa
open Go.RowKit
set_option linter.unusedVariables false
attribute [local go_sem ↓] Go.wp_at_zero Go.wp_at_succ


set_option maxHeartbeats 1000000 in
theorem read_bad0 (v : Value) (D : List Int) (c a n : Int) (hb : Bytes D) (hl : D.length ≤ 900000) (hc0 : -9223372036854775808 ≤ c) (hc1 : c ≤ 9223372036854775807) (w : World) (h : Rd8 w v D) (hk : chkb D c ≠ 0) :
    Calls Try.prog 68 #[.agg #[v, .int .i64 c], .int .i64 a, .int .i64 n] w (RdPost w (rdF D c a n)) := by
  have hE : rdF D c a n = (chkb D c, 0) := by unfold rdF; rw [if_pos hk]
  rw [hE]
  obtain ⟨k, hk'⟩ : ∃ k, chkb D c = k := ⟨_, rfl⟩
  have hz : (k != 0) = true := by rw [← hk']; simp [hk]
  rw [hk']
  have Hk := hidden hk'
  clear hk hE hk'
  obtain ⟨ad, cap, rfl, q1, q2, q3⟩ := Rd.shape h
  have W0B := Blk.new w [.slice ad D.length cap, .int .i64 c] 91
  have W0R : Rd8 (w.alloc (.cells #[.slice ad D.length cap, .int .i64 c] 91)) (.slice ad D.length cap) D := Rd.alloc h _
  have W0E : Ext w (w.alloc (.cells #[.slice ad D.length cap, .int .i64 c] 91)) := (Ext.refl w).alloc _
  have p0 := W0B.cell 0 _ rfl
  have p1 := W0B.cell 1 _ rfl
  go_enter Try.func68, Try.ntmps68
  go_wp2_with fail
  refine (check_any _ D c hb (by omega) hc0 hc1 _ W0R).mono ?_
  rw [Hk.out]
  rintro e w1 ⟨rfl, g1⟩
  have pb0 := (W0B.ext g1).cell 0 _ rfl
  have pb1 := (W0B.ext g1).cell 1 _ rfl
  go_wp2_with fail
  go_ret2
  exact ⟨rfl, W0E.trans g1⟩

set_option maxHeartbeats 1000000 in
theorem read_bad1 (v : Value) (D : List Int) (c a n : Int) (hb : Bytes D) (hl : D.length ≤ 900000) (hc0 : -9223372036854775808 ≤ c) (hc1 : c ≤ 9223372036854775807) (w : World) (h : Rd8 w v D) (hk : chkb D c = 0) (hn : n < 0 ∨ 32 < n ∨ a < 0) :
    Calls Try.prog 68 #[.agg #[v, .int .i64 c], .int .i64 a, .int .i64 n] w (RdPost w (rdF D c a n)) := by
  have hE : rdF D c a n = (2, 0) := by unfold rdF; rw [if_neg (by simp [hk]), if_pos hn]
  rw [hE]
  have Hk := hidden hk
  clear hk hE
  obtain ⟨ad, cap, rfl, q1, q2, q3⟩ := Rd.shape h
  have W0B := Blk.new w [.slice ad D.length cap, .int .i64 c] 91
  have W0R : Rd8 (w.alloc (.cells #[.slice ad D.length cap, .int .i64 c] 91)) (.slice ad D.length cap) D := Rd.alloc h _
  have W0E : Ext w (w.alloc (.cells #[.slice ad D.length cap, .int .i64 c] 91)) := (Ext.refl w).alloc _
  have p0 := W0B.cell 0 _ rfl
  have p1 := W0B.cell 1 _ rfl
  by_cases n1 : n < 0
  · go_enter Try.func68, Try.ntmps68
    go_wp2_with fail
    refine (check_any _ D c hb (by omega) hc0 hc1 _ W0R).mono ?_
    rw [Hk.out]
    rintro e w1 ⟨rfl, g1⟩
    have pb0 := (W0B.ext g1).cell 0 _ rfl
    have pb1 := (W0B.ext g1).cell 1 _ rfl
    go_wp2_with fail
    go_ret2
    exact ⟨rfl, W0E.trans g1⟩
  · by_cases n2 : 32 < n
    · go_enter Try.func68, Try.ntmps68
      go_wp2_with fail
      refine (check_any _ D c hb (by omega) hc0 hc1 _ W0R).mono ?_
      rw [Hk.out]
      rintro e w1 ⟨rfl, g1⟩
      have pb0 := (W0B.ext g1).cell 0 _ rfl
      have pb1 := (W0B.ext g1).cell 1 _ rfl
      go_wp2_with fail
      go_ret2
      exact ⟨rfl, W0E.trans g1⟩
    · have n3 : a < 0 := by omega
      go_enter Try.func68, Try.ntmps68
      go_wp2_with fail
      refine (check_any _ D c hb (by omega) hc0 hc1 _ W0R).mono ?_
      rw [Hk.out]
      rintro e w1 ⟨rfl, g1⟩
      have pb0 := (W0B.ext g1).cell 0 _ rfl
      have pb1 := (W0B.ext g1).cell 1 _ rfl
      go_wp2_with fail
      go_ret2
      exact ⟨rfl, W0E.trans g1⟩

set_option maxHeartbeats 1000000 in
theorem read_bad2 (v : Value) (D : List Int) (c a n : Int) (hb : Bytes D) (hl : D.length ≤ 900000) (hc0 : -9223372036854775808 ≤ c) (hc1 : c ≤ 9223372036854775807) (w : World) (h : Rd8 w v D) (hk : chkb D c = 0) (hn : 0 ≤ n ∧ n ≤ 32 ∧ 0 ≤ a) (hr : c - n < a) :
    Calls Try.prog 68 #[.agg #[v, .int .i64 c], .int .i64 a, .int .i64 n] w (RdPost w (rdF D c a n)) := by
  have hE : rdF D c a n = (9, 0) := by unfold rdF; rw [if_neg (by simp [hk]), if_neg (by omega), if_pos hr]
  rw [hE]
  obtain ⟨hk0, hk1, -⟩ := chkb_wf hb hk
  have Hk := hidden hk
  clear hk hE
  obtain ⟨n0, n3, n2⟩ := hn
  have n4 : ¬ n < 0 := by omega
  have n5 : ¬ 32 < n := by omega
  have n6 : ¬ a < 0 := by omega
  obtain ⟨ad, cap, rfl, q1, q2, q3⟩ := Rd.shape h
  have W0B := Blk.new w [.slice ad D.length cap, .int .i64 c] 91
  have W0R : Rd8 (w.alloc (.cells #[.slice ad D.length cap, .int .i64 c] 91)) (.slice ad D.length cap) D := Rd.alloc h _
  have W0E : Ext w (w.alloc (.cells #[.slice ad D.length cap, .int .i64 c] 91)) := (Ext.refl w).alloc _
  have p0 := W0B.cell 0 _ rfl
  have p1 := W0B.cell 1 _ rfl
  go_enter Try.func68, Try.ntmps68
  go_wp2_with fail
  refine (check_any _ D c hb (by omega) hc0 hc1 _ W0R).mono ?_
  rw [Hk.out]
  rintro e w1 ⟨rfl, g1⟩
  have pb0 := (W0B.ext g1).cell 0 _ rfl
  have pb1 := (W0B.ext g1).cell 1 _ rfl
  go_wp2_with fail
  go_ret2
  exact ⟨rfl, W0E.trans g1⟩

theorem read_any (v : Value) (D : List Int) (c a n : Int) (hb : Bytes D) (hl : D.length ≤ 900000) (hc0 : -9223372036854775808 ≤ c) (hc1 : c ≤ 9223372036854775807) (w : World) (h : Rd8 w v D) :
    Calls Try.prog 68 #[.agg #[v, .int .i64 c], .int .i64 a, .int .i64 n] w (RdPost w (rdF D c a n)) := by
  by_cases hk : chkb D c = 0
  · by_cases hn : 0 ≤ n ∧ n ≤ 32 ∧ 0 ≤ a
    · by_cases hr : a ≤ c - n
      · obtain ⟨k0, k1, hwf⟩ := chkb_wf hb hk
        have hE : rdF D c a n = (0, num (cut D a.toNat n.toNat)) := by unfold rdF; rw [if_neg (by simp [hk]), if_neg (by omega), if_neg (by omega)]
        rw [hE]
        have := read_good v D c.toNat a.toNat n.toNat hb hwf (by omega) (by omega) (by omega) w h
        rw [Int.toNat_of_nonneg k0, Int.toNat_of_nonneg hn.2.2, Int.toNat_of_nonneg hn.1] at this
        exact this
      · exact read_bad2 v D c a n hb hl hc0 hc1 w h hk hn (by omega)
    · exact read_bad1 v D c a n hb hl hc0 hc1 w h hk (by omega)
  · exact read_bad0 v D c a n hb hl hc0 hc1 w h hk
end Go.Proofs.Ytjfdmhdmadnkoaa
