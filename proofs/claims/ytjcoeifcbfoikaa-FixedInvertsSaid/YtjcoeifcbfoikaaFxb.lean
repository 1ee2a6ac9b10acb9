/- What the functions of package fixed and of its reference compute: limits, the squash curve, its inverse. -/
import Derived.Test.YtjcoeifcbfoikaaRows
import Derived.Test.YtjcoeifcbfoikaaFxa
import Derived.Test.YtjcoeifcbfoikaaE
import Derived.Deep.QuietTactic
import Derived.BigQuiet
namespace Go.Proofs.Ytjcoeifcbfoikaa
open Go.RowKit

set_option maxHeartbeats 400000 in
theorem limit0 (n : Int) (w : World) :
    Calls Try.prog 25 #[.int .i64 n, .int .i64 0] w fun e w' => e = .returned (.int .i64 (cl (-3071) 3071 n)) ∧ Ext w w' := by
  go_enter Try.func25, Try.ntmps25
  go_wp2
  go_region
  go_wp2
  all_goals
    go_ret
    exact ⟨ret_int (by unfold cl; (repeat' split) <;> omega), ((Ext.refl _).alloc _).drew⟩

set_option maxHeartbeats 400000 in
theorem limit1 (n : Int) (w : World) :
    Calls Try.prog 25 #[.int .i64 n, .int .i64 1] w fun e w' => e = .returned (.int .i64 (cl 1 4095 n)) ∧ Ext w w' := by
  go_enter Try.func25, Try.ntmps25
  go_wp2
  go_region
  go_wp2
  all_goals
    go_ret
    exact ⟨ret_int (by unfold cl; (repeat' split) <;> omega), ((Ext.refl _).alloc _).drew⟩

set_option maxHeartbeats 400000 in
theorem limit2 (n : Int) (w : World) :
    Calls Try.prog 25 #[.int .i64 n, .int .i64 2] w fun e w' => e = .returned (.int .i64 (cl (-mx) mx n)) ∧ Ext w w' := by
  go_enter Try.func25, Try.ntmps25
  go_wp2
  go_region
  go_wp2
  all_goals
    go_ret
    exact ⟨ret_int (by unfold cl mx; (repeat' split) <;> omega), ((Ext.refl _).alloc _).drew⟩

set_option maxHeartbeats 400000 in
theorem limit3 (n : Int) (w : World) :
    Calls Try.prog 25 #[.int .i64 n, .int .i64 3] w fun e w' => e = .returned (.int .i64 (cl 1 mx n)) ∧ Ext w w' := by
  go_enter Try.func25, Try.ntmps25
  go_wp2
  go_region
  go_wp2
  all_goals
    go_ret
    exact ⟨ret_int (by unfold cl mx; (repeat' split) <;> omega), ((Ext.refl _).alloc _).drew⟩

theorem between_any (n lo hi : Int) (w : World) :
    Calls Try.prog 26 #[.int .i64 n, .int .i64 lo, .int .i64 hi] w fun e w' => e = .returned (.int .i64 (cl lo hi n)) ∧ w = w' := by
  go_enter Try.func26, Try.ntmps26
  go_wp2
  all_goals
    go_ret
    exact ⟨ret_int (by unfold cl; (repeat' split) <;> omega), rfl⟩

theorem clip_any (n : Int) (w : World) :
    Calls Try.prog 12 #[.int .i64 n] w fun e w' => e = .returned (.int .i64 (cl (-3071) 3071 n)) ∧ Ext w w' := by
  go_enter Try.func12, Try.ntmps12
  go_wp2_with (go_at_call 25; refine (limit0 _ _).mono ?_; rintro e w1 ⟨rfl, hg⟩)
  go_ret
  exact ⟨ret_int rfl, hg⟩
theorem rclip_any (n : Int) (w : World) :
    Calls Try.prog 13 #[.int .i64 n] w fun e w' => e = .returned (.int .i64 (cl (-3071) 3071 n)) ∧ w = w' := by
  go_enter Try.func13, Try.ntmps13
  go_wp2_with (go_at_call 26; refine (between_any _ _ _ _).mono ?_; rintro e w1 ⟨rfl, rfl⟩)
  go_ret
  exact ⟨ret_int rfl, rfl⟩
theorem chance_any (n : Int) (w : World) :
    Calls Try.prog 27 #[.int .i64 n] w fun e w' => e = .returned (.int .i64 (cl 1 4095 n)) ∧ Ext w w' := by
  go_enter Try.func27, Try.ntmps27
  go_wp2_with (go_at_call 25; refine (limit1 _ _).mono ?_; rintro e w1 ⟨rfl, hg⟩)
  go_ret
  exact ⟨ret_int rfl, hg⟩

theorem squash_nn (n : Int) (w : World) (h0 : 0 ≤ cl (-3071) 3071 n) :
    Calls Try.prog 14 #[.int .i64 n] w fun e w' => e = .returned (.int .i64 (sq n)) ∧ Ext w w' := by
  have hb := cl_bd (-3071) 3071 n (by omega)
  obtain ⟨hb1, hb2⟩ := hb
  obtain ⟨hc1, hc2, -⟩ := sq_facts _ h0 hb2
  have hd1 : 0 ≤ (65536 - 128 * (cl (-3071) 3071 n % 256)) / 2 ^ (cl (-3071) 3071 n / 256).toNat := hc1
  have hd2 : (65536 - 128 * (cl (-3071) 3071 n % 256)) / 2 ^ (cl (-3071) 3071 n / 256).toNat ≤ 65536 := hc2
  go_enter Try.func14, Try.ntmps14
  go_wp2_with (go_at_call 12; refine (clip_any _ _).mono ?_; rintro e w1 ⟨rfl, hg⟩)
  go_ret
  exact ⟨ret_int (by unfold sq; rw [if_neg (by omega)]; rfl), hg⟩
theorem squash_any (n : Int) (w : World) :
    Calls Try.prog 14 #[.int .i64 n] w fun e w' => e = .returned (.int .i64 (sq n)) ∧ Ext w w' := by
  by_cases h0 : 0 ≤ cl (-3071) 3071 n
  · exact squash_nn n w h0
  · have hb := cl_bd (-3071) 3071 n (by omega)
    obtain ⟨hb1, hb2⟩ := hb
    have hs := sq_bd (-cl (-3071) 3071 n)
    obtain ⟨hs1, hs2⟩ := hs
    have hp : 0 ≤ cl (-3071) 3071 (-cl (-3071) 3071 n) := by rw [cl_id _ _ (-cl (-3071) 3071 n) (by omega) (by omega)]; omega
    have hfin : sq n = 4096 - sq (-cl (-3071) 3071 n) := by
      have := sq_neg (cl (-3071) 3071 n); rw [sq_cl] at this; omega
    have Hfin := hidden hfin
    clear hfin
    go_enter Try.func14, Try.ntmps14
    go_wp2_with (first | (go_at_call 12; refine (clip_any _ _).mono ?_; rintro e w1 ⟨rfl, hg⟩) | (go_at_call 14; refine (squash_nn _ _ hp).mono ?_; rintro e w2 ⟨rfl, hg2⟩))
    go_ret
    exact ⟨ret_int (by rw [Hfin.out]), hg.trans hg2⟩

theorem rsquash_nn (n : Int) (w : World) (h0 : 0 ≤ cl (-3071) 3071 n) :
    Calls Try.prog 15 #[.int .i64 n] w fun e w' => e = .returned (.int .i64 (sq n)) ∧ w = w' := by
  have hb := cl_bd (-3071) 3071 n (by omega)
  obtain ⟨hb1, hb2⟩ := hb
  obtain ⟨hc1, hc2, -⟩ := sq_facts _ h0 hb2
  go_enter Try.func15, Try.ntmps15
  go_wp2_with (go_at_call 13; refine (rclip_any _ _).mono ?_; rintro e w1 ⟨rfl, rfl⟩)
  go_loop [3, 4] (fun t i => ∃ k : Nat, (k : Int) ≤ cl (-3071) 3071 n / 256 ∧ i = .int .i64 k ∧ t = .int .i64 ((65536 - 128 * (cl (-3071) 3071 n % 256)) / 2 ^ k)) (fun _ i => (12 - intOf i).toNat)
  case atStart => exact ⟨0, by omega, rfl, by simp⟩
  case round =>
    obtain ⟨k, hk, rfl, rfl⟩ := hrel
    have hk2 : k ≤ 11 := by omega
    have hp : (0 : Int) < 2 ^ k := Int.pow_pos (by omega)
    have he0 : 0 ≤ (65536 - 128 * (cl (-3071) 3071 n % 256)) / 2 ^ k := Int.ediv_nonneg (by omega) (by omega)
    have he1 : (65536 - 128 * (cl (-3071) 3071 n % 256)) / 2 ^ k ≤ 65536 := Int.le_trans (Int.ediv_le_self _ (by omega)) (by omega)
    by_cases hlt : (k : Int) < cl (-3071) 3071 n / 256
    · go_wp2
      go_round
      case rel => exact ⟨k + 1, by omega, by go_num, by rw [Int.pow_succ, Int.ediv_ediv_of_nonneg (by omega)]⟩
      case measure => simp [intOf]; omega
    · have hkk : k = (cl (-3071) 3071 n / 256).toNat := by omega
      have Hk := hidden hkk
      clear hkk
      go_wp2
      go_ret
      exact ⟨ret_int (by unfold sq; rw [if_neg (by omega)]; unfold sqn sqE; rw [← Hk.out]), rfl⟩
theorem rsquash_any (n : Int) (w : World) :
    Calls Try.prog 15 #[.int .i64 n] w fun e w' => e = .returned (.int .i64 (sq n)) ∧ w = w' := by
  by_cases h0 : 0 ≤ cl (-3071) 3071 n
  · exact rsquash_nn n w h0
  · have hb := cl_bd (-3071) 3071 n (by omega)
    obtain ⟨hb1, hb2⟩ := hb
    have hs := sq_bd (-cl (-3071) 3071 n)
    obtain ⟨hs1, hs2⟩ := hs
    have hp : 0 ≤ cl (-3071) 3071 (-cl (-3071) 3071 n) := by rw [cl_id _ _ (-cl (-3071) 3071 n) (by omega) (by omega)]; omega
    have hfin : sq n = 4096 - sq (-cl (-3071) 3071 n) := by
      have := sq_neg (cl (-3071) 3071 n); rw [sq_cl] at this; omega
    have Hfin := hidden hfin
    clear hfin
    go_enter Try.func15, Try.ntmps15
    go_wp2_with (first | (go_at_call 13; refine (rclip_any _ _).mono ?_; rintro e w1 ⟨rfl, rfl⟩) | (go_at_call 15; refine (rsquash_nn _ _ hp).mono ?_; rintro e w2 ⟨rfl, rfl⟩))
    go_ret
    exact ⟨ret_int (by rw [Hfin.out]), rfl⟩

end Go.Proofs.Ytjcoeifcbfoikaa
