/- The reference's logarithm, the costs, and the chapter's examples. -/
import Derived.Test.YtjcoeifcbfoikaaFxe
namespace Go.Proofs.Ytjcoeifcbfoikaa
open Go.RowKit

theorem part_q (n p : Int) (h0 : 0 ≤ n) (h1 : n < p) (hp : p ≤ 9007199254740991) (w : World) :
    Calls Try.prog 31 #[.int .i64 n, .int .i64 p] w fun x w' => x = .returned (.int .i64 (n * 256 / p)) ∧ w' = w :=
  (part_any n p h0 h1 hp w).mono fun _ _ ⟨a, b⟩ => ⟨a, b.symm⟩

set_option maxHeartbeats 400000 in
theorem rlog_any (n : Int) (w : World) :
    Calls Try.prog 22 #[.int .i64 n] w fun x w' => x = .returned (.int .i64 (lg n)) ∧ Ext w w' := by
  have hf := lgk_facts n
  have hbn := cl_bd 1 mx n (by decide)
  obtain ⟨c, hc⟩ : ∃ c, cl 1 mx n = c := ⟨_, rfl⟩
  obtain ⟨k, hk⟩ : ∃ k, lgk n = k := ⟨_, rfl⟩
  have hres : Hid (lg n = 256 * (k : Int) + c * 256 / 2 ^ k - 256) := by unfold lg; rw [hc, hk]; rfl
  rw [hc, hk] at hf
  rw [hc] at hbn
  have Hc := hidden hc
  clear hc hk
  obtain ⟨hn1, hn2⟩ := hbn
  have hn3 : c ≤ 9007199254740991 := hn2
  clear hn2
  obtain ⟨hk1, hk2, hk3, hk4⟩ := hf
  clear hk4
  go_enter Try.func22, Try.ntmps22
  go_wp2_with fail
  refine (between3c n c Hc _).mono ?_
  rintro x w1 ⟨rfl, rfl⟩
  go_wp2_with fail
  go_loop [3, 4] (fun s t => ∃ (j : Nat) (p : Int), j ≤ k ∧ s = .int .i64 j ∧ t = .int .i64 p ∧ Hid (p = 2 ^ j) ∧ 1 ≤ p ∧ p ≤ c) (fun s _ => (k - (intOf s).toNat))
  case atStart => exact ⟨0, 1, by omega, rfl, rfl, rfl, by omega, by omega⟩
  case round =>
    obtain ⟨j, p, hj, rfl, rfl, hp, hp1, hp2⟩ := hrel
    by_cases hlt : j < k
    · have hle : 2 * p ≤ c := by
        have := pow2_le (show j + 1 ≤ k by omega)
        rw [Int.pow_succ, ← hp.out] at this; omega
      go_wp2
      go_round
      case rel => exact ⟨j + 1, 2 * p, by omega, by go_num, rfl, by rw [hp.out]; show _ = (2 : Int) ^ (j + 1); rw [Int.pow_succ]; omega, by omega, by omega⟩
      case measure => simp [intOf]; omega
    · obtain rfl : j = k := by omega
      have hle : c < 2 * p := by rw [Int.pow_succ, ← hp.out] at hk3; omega
      have hk2' := hidden hk2
      have hk3' := hidden hk3
      clear hk2 hk3
      have e1 : c.tdiv p = 1 := by
        rw [Int.tdiv_eq_ediv_of_nonneg (by omega)]
        have : c = (c - p) + 1 * p := by omega
        rw [this, Int.add_mul_ediv_right _ _ (by omega), Int.ediv_eq_zero_of_lt (by omega) (by omega)]; omega
      have e2 : c.tmod p = c - p := by
        rw [Int.tmod_eq_emod_of_nonneg (by omega)]
        have : c = (c - p) + 1 * p := by omega
        rw [this, Int.add_mul_emod_self_right, Int.emod_eq_of_lt (by omega) (by omega)]; omega
      have e3 : IntKind.i64.wrap 1 = 1 := IntWalk.i64_in _ (by omega)
      have e4 : IntKind.i64.wrap (c - p) = c - p := IntWalk.i64_in _ (by omega)
      have e5 : IntKind.i64.wrap (256 * (j : Int)) = 256 * (j : Int) := IntWalk.i64_in _ (by omega)
      have e6 : IntKind.i64.wrap (256 * (j : Int) + 256) = 256 * (j : Int) + 256 := IntWalk.i64_in _ (by omega)
      have hq0 : 0 ≤ (c - p) * 256 / p := Int.ediv_nonneg (by omega) (by omega)
      have hq1 : (c - p) * 256 / p < 256 := Int.ediv_lt_of_lt_mul (by omega) (by omega)
      have hfin : Hid (lg n = 256 * (j : Int) + 256 + (c - p) * 256 / p - 256) := by
        rw [hres.out, ← hp.out]
        have : c * 256 = (c - p) * 256 + 256 * p := by omega
        rw [this, Int.add_mul_ediv_right _ _ (by omega)]
        show _ = _
        omega
      go_wp2
      go_quiet ((go_at_call 31; exact Calls.quiet_of_same (part_q _ _ (by omega) (by omega) (by omega) _)))
      go_wp2
      go_ret
      exact ⟨ret_int (by rw [hfin.out]), (Ext.refl _).drewN _⟩

theorem lg_bd (n : Int) : 0 ≤ lg n ∧ lg n ≤ 14000 := by
  obtain ⟨a, b, c, -⟩ := lgk_facts n
  have hp : (0 : Int) < 2 ^ lgk n := Int.pow_pos (by omega)
  have hq0 : 256 ≤ cl 1 mx n * 256 / 2 ^ lgk n := Int.le_ediv_of_mul_le hp (by omega)
  have hq1 : cl 1 mx n * 256 / 2 ^ lgk n < 512 := Int.ediv_lt_of_lt_mul hp (by rw [Int.pow_succ] at c; omega)
  unfold lg
  omega

/-- The cost of a bit. -/
def cst (p bit : Int) : Int := if bit = 1 then 3072 - lg (cl 1 4095 p) else 3072 - lg (4096 - cl 1 4095 p)
theorem cost_any (p bit : Int) (w : World) :
    Calls Try.prog 23 #[.int .i64 p, .int .i64 bit] w fun x w' => x = .returned (.int .i64 (cst p bit)) ∧ Ext w w' := by
  have hb := cl_bd 1 4095 p (by omega)
  obtain ⟨hb1, hb2⟩ := hb
  have hl1 := lg_bd (cl 1 4095 p)
  obtain ⟨l1, l2⟩ := hl1
  have hl2 := lg_bd (4096 - cl 1 4095 p)
  obtain ⟨l3, l4⟩ := hl2
  by_cases h : bit = 1
  · subst h
    go_enter Try.func23, Try.ntmps23
    go_wp2_with fail
    refine (chance_any _ _).mono ?_
    rintro x w1 ⟨rfl, hg1⟩
    go_wp2_with fail
    refine (log_any _ _).mono ?_
    rintro x w2 ⟨rfl, hg2⟩
    go_wp2_with fail
    go_ret
    exact ⟨ret_int rfl, hg1.trans hg2⟩
  · have hne : (bit != 1) = true := by simp [h]
    go_enter Try.func23, Try.ntmps23
    go_wp2_with fail
    refine (chance_any _ _).mono ?_
    rintro x w1 ⟨rfl, hg1⟩
    go_wp2_with fail
    refine (log_any _ _).mono ?_
    rintro x w2 ⟨rfl, hg2⟩
    go_wp2_with fail
    go_ret
    exact ⟨ret_int (by unfold cst; rw [if_neg h]), hg1.trans hg2⟩
theorem rcost_any (p bit : Int) (w : World) :
    Calls Try.prog 24 #[.int .i64 p, .int .i64 bit] w fun x w' => x = .returned (.int .i64 (cst p bit)) ∧ Ext w w' := by
  have hb := cl_bd 1 4095 p (by omega)
  obtain ⟨hb1, hb2⟩ := hb
  have hl1 := lg_bd (cl 1 4095 p)
  obtain ⟨l1, l2⟩ := hl1
  have hl2 := lg_bd (4096 - cl 1 4095 p)
  obtain ⟨l3, l4⟩ := hl2
  by_cases h : bit = 1
  · subst h
    go_enter Try.func24, Try.ntmps24
    go_wp2_with fail
    refine (between_any _ _ _ _).mono ?_
    rintro x w1 ⟨rfl, rfl⟩
    go_wp2_with fail
    refine (rlog_any _ _).mono ?_
    rintro x w2 ⟨rfl, hg2⟩
    go_wp2_with fail
    go_ret
    exact ⟨ret_int rfl, hg2⟩
  · have hne : (bit == 1) = false := by simp [h]
    go_enter Try.func24, Try.ntmps24
    go_wp2_with fail
    refine (between_any _ _ _ _).mono ?_
    rintro x w1 ⟨rfl, rfl⟩
    go_wp2_with fail
    refine (rlog_any _ _).mono ?_
    rintro x w2 ⟨rfl, hg2⟩
    go_wp2_with fail
    go_ret
    exact ⟨ret_int (by unfold cst; rw [if_neg h]), hg2⟩

theorem squash_v (n v : Int) (h : sq n = v) (w : World) :
    Calls Try.prog 14 #[.int .i64 n] w fun x w' => x = .returned (.int .i64 v) ∧ Ext w w' := h ▸ squash_any n w
theorem stretch_v (n v : Int) (h : st n = v) (w : World) :
    Calls Try.prog 17 #[.int .i64 n] w fun x w' => x = .returned (.int .i64 v) ∧ Ext w w' := h ▸ stretch_any n w
theorem round_v (n d v : Int) (h : rnd n d = v) (w : World) :
    Calls Try.prog 19 #[.int .i64 n, .int .i64 d] w fun x w' => x = .returned (.int .i64 v) ∧ Ext w w' := h ▸ round_any n d w
theorem log_v (n v : Int) (h : lg n = v) (w : World) :
    Calls Try.prog 21 #[.int .i64 n] w fun x w' => x = .returned (.int .i64 v) ∧ Ext w w' := h ▸ log_any n w
theorem cost_v (n b v : Int) (h : cst n b = v) (w : World) :
    Calls Try.prog 23 #[.int .i64 n, .int .i64 b] w fun x w' => x = .returned (.int .i64 v) ∧ Ext w w' := h ▸ cost_any n b w

set_option maxHeartbeats 1000000 in
theorem awake_any (w : World) :
    Calls Try.prog 16 #[] w fun x w' => x = .returned (.bool true) ∧ Ext w w' := by
  go_enter Try.func16, Try.ntmps16
  go_wp2_with fail
  refine (squash_v 0 2048 (by decide +kernel) _).mono ?_
  rintro x w1 ⟨rfl, g1⟩
  go_wp2_with fail
  refine (squash_v 256 2730 (by decide +kernel) _).mono ?_
  rintro x w2 ⟨rfl, g2⟩
  go_wp2_with fail
  refine (squash_v (-256) 1366 (by decide +kernel) _).mono ?_
  rintro x w3 ⟨rfl, g3⟩
  go_wp2_with fail
  refine (squash_v 128 2340 (by decide +kernel) _).mono ?_
  rintro x w4 ⟨rfl, g4⟩
  go_wp2_with fail
  refine (squash_v 3071 4095 (by decide +kernel) _).mono ?_
  rintro x w5 ⟨rfl, g5⟩
  go_wp2_with fail
  refine (squash_v (-3071) 1 (by decide +kernel) _).mono ?_
  rintro x w6 ⟨rfl, g6⟩
  go_wp2_with fail
  refine (stretch_v 2048 0 (by decide +kernel) _).mono ?_
  rintro x w7 ⟨rfl, g7⟩
  go_wp2_with fail
  refine (stretch_v 2049 1 (by decide +kernel) _).mono ?_
  rintro x w8 ⟨rfl, g8⟩
  go_wp2_with fail
  refine (round_v 5 2 3 (by decide +kernel) _).mono ?_
  rintro x w9 ⟨rfl, g9⟩
  go_wp2_with fail
  refine (round_v (-5) 2 (-3) (by decide +kernel) _).mono ?_
  rintro x w10 ⟨rfl, g10⟩
  go_wp2_with fail
  refine (round_v 4 3 1 (by decide +kernel) _).mono ?_
  rintro x w11 ⟨rfl, g11⟩
  go_wp2_with fail
  refine (log_v 1 0 (by decide +kernel) _).mono ?_
  rintro x w12 ⟨rfl, g12⟩
  go_wp2_with fail
  refine (log_v 3 384 (by decide +kernel) _).mono ?_
  rintro x w13 ⟨rfl, g13⟩
  go_wp2_with fail
  refine (log_v 1000 2548 (by decide +kernel) _).mono ?_
  rintro x w14 ⟨rfl, g14⟩
  go_wp2_with fail
  refine (cost_v 2048 1 256 (by decide +kernel) _).mono ?_
  rintro x w15 ⟨rfl, g15⟩
  go_wp2_with fail
  refine (cost_v 3072 1 128 (by decide +kernel) _).mono ?_
  rintro x w16 ⟨rfl, g16⟩
  go_wp2_with fail
  refine (cost_v 3072 0 512 (by decide +kernel) _).mono ?_
  rintro x w17 ⟨rfl, g17⟩
  go_wp2_with fail
  go_ret
  exact ⟨ret_bool rfl, ((((((((((((((((g1.trans g2).trans g3).trans g4).trans g5).trans g6).trans g7).trans g8).trans g9).trans g10).trans g11).trans g12).trans g13).trans g14).trans g15).trans g16).trans g17)⟩

end Go.Proofs.Ytjcoeifcbfoikaa
