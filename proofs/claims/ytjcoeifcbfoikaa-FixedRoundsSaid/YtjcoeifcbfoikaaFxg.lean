/- The laws of layer 6: each law's function returns true. -/
import Derived.Test.YtjcoeifcbfoikaaFxh
namespace Go.Proofs.Ytjcoeifcbfoikaa
open Go.RowKit

theorem lawSquashes (n : Int) (w : World) :
    Calls Try.prog 3 #[.int .i64 n] w fun x w' => x = .returned (.bool true) ∧ Ext w w' := by
  go_enter Try.func3, Try.ntmps3
  go_wp2_with fail
  refine (clip_any _ _).mono ?_
  rintro x w1 ⟨rfl, g1⟩
  go_wp2_with fail
  refine (rclip_any _ _).mono ?_
  rintro x w2 ⟨rfl, rfl⟩
  go_wp2_with fail
  refine (squash_any _ _).mono ?_
  rintro x w3 ⟨rfl, g3⟩
  go_wp2_with fail
  refine (rsquash_any _ _).mono ?_
  rintro x w4 ⟨rfl, rfl⟩
  go_wp2_with fail
  refine (awake_any _).mono ?_
  rintro x w5 ⟨rfl, g5⟩
  go_wp2_with fail
  go_ret
  exact ⟨ret_bool rfl, ((g1.trans g3).trans g5)⟩

theorem lawStretches (n : Int) (w : World) :
    Calls Try.prog 4 #[.int .i64 n] w fun x w' => x = .returned (.bool true) ∧ Ext w w' := by
  go_enter Try.func4, Try.ntmps4
  go_wp2_with fail
  refine (stretch_any _ _).mono ?_
  rintro x w1 ⟨rfl, g1⟩
  go_wp2_with fail
  refine (rstretch_any _ _).mono ?_
  rintro x w2 ⟨rfl, rfl⟩
  go_wp2_with fail
  refine (awake_any _).mono ?_
  rintro x w3 ⟨rfl, g3⟩
  go_wp2_with fail
  go_ret
  exact ⟨ret_bool rfl, (g1.trans g3)⟩

theorem lawRounds (n d : Int) (w : World) :
    Calls Try.prog 5 #[.int .i64 n, .int .i64 d] w fun x w' => x = .returned (.bool true) ∧ Ext w w' := by
  go_enter Try.func5, Try.ntmps5
  go_wp2_with fail
  refine (round_any _ _ _).mono ?_
  rintro x w1 ⟨rfl, g1⟩
  go_wp2_with fail
  refine (rround_any _ _ _).mono ?_
  rintro x w2 ⟨rfl, rfl⟩
  go_wp2_with fail
  refine (awake_any _).mono ?_
  rintro x w3 ⟨rfl, g3⟩
  go_wp2_with fail
  go_ret
  exact ⟨ret_bool rfl, (g1.trans g3)⟩

theorem lawCosts (n p b : Int) (w : World) :
    Calls Try.prog 6 #[.int .i64 n, .int .i64 p, .int .i64 b] w fun x w' => x = .returned (.bool true) ∧ Ext w w' := by
  go_enter Try.func6, Try.ntmps6
  go_wp2_with fail
  refine (log_any _ _).mono ?_
  rintro x w1 ⟨rfl, g1⟩
  go_wp2_with fail
  refine (rlog_any _ _).mono ?_
  rintro x w2 ⟨rfl, g2⟩
  go_wp2_with fail
  refine (cost_any _ _ _).mono ?_
  rintro x w3 ⟨rfl, g3⟩
  go_wp2_with fail
  refine (rcost_any _ _ _).mono ?_
  rintro x w4 ⟨rfl, g4⟩
  go_wp2_with fail
  refine (awake_any _).mono ?_
  rintro x w5 ⟨rfl, g5⟩
  go_wp2_with fail
  go_ret
  exact ⟨ret_bool rfl, ((((g1.trans g2).trans g3).trans g4).trans g5)⟩

theorem lawMirrors (n : Int) (b1 : -2147483648 ≤ n) (b2 : n ≤ 2147483647) (w : World) :
    Calls Try.prog 7 #[.int .i32 n] w fun x w' => x = .returned (.bool true) ∧ Ext w w' := by
  have h1 := sq_neg n
  have h2 := sq_bd n
  obtain ⟨h3, h4⟩ := h2
  have h5 := sq_bd (-n)
  obtain ⟨h6, h7⟩ := h5
  have h8 : (sq n + sq (-n) == 4096) = true := by simp [h1]
  have h9 := cl_bd (-3071) 3071 (-n) (by omega)
  obtain ⟨h10, h11⟩ := h9
  have h12 : (cl (-3071) 3071 n == -cl (-3071) 3071 (-n)) = true := by
    have := cl_neg 3071 n (by omega)
    rw [this]; simp
  clear h1
  go_enter Try.func7, Try.ntmps7
  go_wp2_with fail
  refine (squash_any _ _).mono ?_
  rintro x w1 ⟨rfl, g1⟩
  go_wp2_with fail
  refine (squash_any _ _).mono ?_
  rintro x w2 ⟨rfl, g2⟩
  go_wp2_with fail
  refine (clip_any _ _).mono ?_
  rintro x w3 ⟨rfl, g3⟩
  go_wp2_with fail
  refine (clip_any _ _).mono ?_
  rintro x w4 ⟨rfl, g4⟩
  go_wp2_with fail
  refine (awake_any _).mono ?_
  rintro x w5 ⟨rfl, g5⟩
  go_wp2_with fail
  go_ret
  exact ⟨ret_bool rfl, ((((g1.trans g2).trans g3).trans g4).trans g5)⟩

set_option maxHeartbeats 1000000 in
theorem lawRises (a b : Int) (w : World) :
    Calls Try.prog 8 #[.int .i64 a, .int .i64 b] w fun x w' => x = .returned (.bool true) ∧ Ext w w' := by
  obtain ⟨x, hx⟩ : ∃ x, min a b = x := ⟨_, rfl⟩
  obtain ⟨y, hy⟩ : ∃ y, max a b = y := ⟨_, rfl⟩
  have h : x ≤ y := by omega
  have m1 := sq_mono x y (by omega)
  have m2 := st_mono x y (by omega)
  have m3 := lg_mono x y (by omega)
  have m4 := cl_mono (-3071) 3071 x y (by omega) (by omega)
  have m5 := cst_one x y (by omega)
  have m6 := cst_zero x y (by omega)
  have m7 := cst_nonneg x 1
  have m8 := cst_nonneg y 0
  have m9 : 0 ≤ min (cst x 1) (cst y 0) := by omega
  go_enter Try.func8, Try.ntmps8
  go_wp2_with fail
  refine (squash_any _ _).mono ?_
  rintro x w1 ⟨rfl, g1⟩
  go_wp2_with fail
  refine (squash_any _ _).mono ?_
  rintro x w2 ⟨rfl, g2⟩
  go_wp2_with fail
  refine (stretch_any _ _).mono ?_
  rintro x w3 ⟨rfl, g3⟩
  go_wp2_with fail
  refine (stretch_any _ _).mono ?_
  rintro x w4 ⟨rfl, g4⟩
  go_wp2_with fail
  refine (log_any _ _).mono ?_
  rintro x w5 ⟨rfl, g5⟩
  go_wp2_with fail
  refine (log_any _ _).mono ?_
  rintro x w6 ⟨rfl, g6⟩
  go_wp2_with fail
  refine (clip_any _ _).mono ?_
  rintro x w7 ⟨rfl, g7⟩
  go_wp2_with fail
  refine (clip_any _ _).mono ?_
  rintro x w8 ⟨rfl, g8⟩
  go_wp2_with fail
  refine (cost_any _ _ _).mono ?_
  rintro x w9 ⟨rfl, g9⟩
  go_wp2_with fail
  refine (cost_any _ _ _).mono ?_
  rintro x w10 ⟨rfl, g10⟩
  go_wp2_with fail
  refine (cost_any _ _ _).mono ?_
  rintro x w11 ⟨rfl, g11⟩
  go_wp2_with fail
  refine (cost_any _ _ _).mono ?_
  rintro x w12 ⟨rfl, g12⟩
  go_wp2_with fail
  refine (cost_any _ _ _).mono ?_
  rintro x w13 ⟨rfl, g13⟩
  go_wp2_with fail
  refine (cost_any _ _ _).mono ?_
  rintro x w14 ⟨rfl, g14⟩
  go_wp2_with fail
  refine (awake_any _).mono ?_
  rintro x w15 ⟨rfl, g15⟩
  go_wp2_with fail
  go_ret
  exact ⟨ret_bool rfl, ((((((((((((((g1.trans g2).trans g3).trans g4).trans g5).trans g6).trans g7).trans g8).trans g9).trans g10).trans g11).trans g12).trans g13).trans g14).trans g15)⟩

set_option maxHeartbeats 1000000 in
theorem lawInverts (n : Int) (b1 : 0 ≤ n) (b2 : n ≤ 65535) (w : World) :
    Calls Try.prog 9 #[.int .u16 n] w fun x w' => x = .returned (.bool true) ∧ Ext w w' := by
  have h1 := st_is (1 + n % 4095)
  rw [cl_id 1 4095 (1 + n % 4095) (by omega) (by omega)] at h1
  obtain ⟨h2, h3, h4, h5⟩ := h1
  have h6 := st_sq (st (1 + n % 4095)) h2 h3
  rcases h5 with h5 | h5
  · have h7 : (st (1 + n % 4095) == -3071) = true := by simp [h5]
    clear h5
    go_enter Try.func9, Try.ntmps9
    go_wp2_with fail
    refine (stretch_any _ _).mono ?_
    rintro x w1 ⟨rfl, g1⟩
    go_wp2_with fail
    refine (squash_any _ _).mono ?_
    rintro x w2 ⟨rfl, g2⟩
    go_wp2_with fail
    refine (squash_any _ _).mono ?_
    rintro x w3 ⟨rfl, g3⟩
    go_wp2_with fail
    refine (stretch_any _ _).mono ?_
    rintro x w4 ⟨rfl, g4⟩
    go_wp2_with fail
    refine (awake_any _).mono ?_
    rintro x w5 ⟨rfl, g5⟩
    go_wp2_with fail
    go_ret
    exact ⟨ret_bool rfl, ((((g1.trans g2).trans g3).trans g4).trans g5)⟩
  · by_cases h8 : st (1 + n % 4095) = -3071
    · have h7 : (st (1 + n % 4095) == -3071) = true := by simp [h8]
      clear h8
      go_enter Try.func9, Try.ntmps9
      go_wp2_with fail
      refine (stretch_any _ _).mono ?_
      rintro x w1 ⟨rfl, g1⟩
      go_wp2_with fail
      refine (squash_any _ _).mono ?_
      rintro x w2 ⟨rfl, g2⟩
      go_wp2_with fail
      refine (squash_any _ _).mono ?_
      rintro x w3 ⟨rfl, g3⟩
      go_wp2_with fail
      refine (stretch_any _ _).mono ?_
      rintro x w4 ⟨rfl, g4⟩
      go_wp2_with fail
      refine (awake_any _).mono ?_
      rintro x w5 ⟨rfl, g5⟩
      go_wp2_with fail
      go_ret
      exact ⟨ret_bool rfl, ((((g1.trans g2).trans g3).trans g4).trans g5)⟩
    · have h7 : (st (1 + n % 4095) == -3071) = false := by simp [h8]
      clear h8
      go_enter Try.func9, Try.ntmps9
      go_wp2_with fail
      refine (stretch_any _ _).mono ?_
      rintro x w1 ⟨rfl, g1⟩
      go_wp2_with fail
      refine (squash_any _ _).mono ?_
      rintro x w2 ⟨rfl, g2⟩
      go_wp2_with fail
      refine (squash_any _ _).mono ?_
      rintro x w3 ⟨rfl, g3⟩
      go_wp2_with fail
      refine (squash_any _ _).mono ?_
      rintro x w4 ⟨rfl, g4⟩
      go_wp2_with fail
      refine (stretch_any _ _).mono ?_
      rintro x w5 ⟨rfl, g5⟩
      go_wp2_with fail
      refine (awake_any _).mono ?_
      rintro x w6 ⟨rfl, g6⟩
      go_wp2_with fail
      go_ret
      exact ⟨ret_bool rfl, (((((g1.trans g2).trans g3).trans g4).trans g5).trans g6)⟩

end Go.Proofs.Ytjcoeifcbfoikaa
