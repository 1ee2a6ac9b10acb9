/- What Cost of package fixed computes. -/
import Derived.Test.YtnodnfmgklkjeaaFxa
import Derived.Test.YtnodnfmgklkjeaaE
import Derived.Test.YtnodnfmgklkjeaaShelf
import Derived.Deep.QuietTactic
import Derived.BigQuiet
namespace Go.Proofs.Ytnodnfmgklkjeaa
open Go.RowKit

set_option maxHeartbeats 400000 in
theorem limit1 (n : Int) (w : World) :
    Calls Try.prog 54 #[.int .i64 n, .int .i64 1] w fun e w' => e = .returned (.int .i64 (cl 1 4095 n)) ∧ Ext w w' := by
  go_enter Try.func54, Try.ntmps54
  go_wp2
  go_region
  go_wp2
  all_goals
    go_ret
    exact ⟨ret_int (by unfold cl; (repeat' split) <;> omega), ((Ext.refl _).alloc _).drew⟩

set_option maxHeartbeats 400000 in
theorem limit3 (n : Int) (w : World) :
    Calls Try.prog 54 #[.int .i64 n, .int .i64 3] w fun e w' => e = .returned (.int .i64 (cl 1 mx n)) ∧ Ext w w' := by
  go_enter Try.func54, Try.ntmps54
  go_wp2
  go_region
  go_wp2
  all_goals
    go_ret
    exact ⟨ret_int (by unfold cl mx; (repeat' split) <;> omega), ((Ext.refl _).alloc _).drew⟩

theorem limit3c (n c : Int) (h : Hid (cl 1 mx n = c)) (w : World) :
    Calls Try.prog 54 #[.int .i64 n, .int .i64 3] w fun e w' => e = .returned (.int .i64 c) ∧ Ext w w' := by
  have := limit3 n w; rw [h.out] at this; exact this

theorem chance_any (n : Int) (w : World) :
    Calls Try.prog 46 #[.int .i64 n] w fun e w' => e = .returned (.int .i64 (cl 1 4095 n)) ∧ Ext w w' := by
  go_enter Try.func46, Try.ntmps46
  go_wp2_with (go_at_call 54; refine (limit1 _ _).mono ?_; rintro e w1 ⟨rfl, hg⟩)
  go_ret
  exact ⟨ret_int rfl, hg⟩

theorem len_c (c : Int) (k : Nat) (h0 : 0 ≤ c) (h1 : c ≤ 9007199254740991) (h : Hid ((Lib.bitLen c.toNat : Int) = k + 1)) (w : World) :
    Calls Try.prog 55 #[.int .u64 c] w fun e w' => e = .returned (.int .i64 ((k : Int) + 1)) ∧ w = w' :=
  (Try.bits_Len c w h0 (by omega)).mono fun e w' ⟨he, hw⟩ => ⟨by rw [he, h.out], hw.symm⟩

set_option maxHeartbeats 400000 in
theorem log_any (n : Int) (w : World) :
    Calls Try.prog 47 #[.int .i64 n] w fun x w' => x = .returned (.int .i64 (lg n)) ∧ Ext w w' := by
  have hf := lgk_facts n
  have hbn := cl_bd 1 mx n (by decide)
  obtain ⟨c, hc⟩ : ∃ c, cl 1 mx n = c := ⟨_, rfl⟩
  obtain ⟨k, hk⟩ : ∃ k, lgk n = k := ⟨_, rfl⟩
  have hres : Hid (lg n = 256 * (k : Int) + c * 256 / 2 ^ k - 256) := by unfold lg; rw [hc, hk]; rfl
  rw [hc, hk] at hf
  rw [hc] at hbn
  have Hc := hidden hc
  clear hc hk
  obtain ⟨hn1, hn2⟩ := hbn
  have hn3 : c ≤ 9007199254740991 := hn2
  clear hn2
  obtain ⟨hk1, hk2, hk3, hk4⟩ := hf
  have hp : (0 : Int) < 2 ^ k := Int.pow_pos (by omega)
  have hq0 : 256 ≤ c * 256 / 2 ^ k := Int.le_ediv_of_mul_le hp (by omega)
  have hq1 : c * 256 / 2 ^ k < 512 := Int.ediv_lt_of_lt_mul hp (by rw [Int.pow_succ] at hk3; omega)
  have Hk := hidden hk4
  clear hk4
  go_enter Try.func47, Try.ntmps47
  go_wp2_with fail
  refine (limit3c n c Hc _).mono ?_
  rintro x w1 ⟨rfl, hg1⟩
  go_wp2_with fail
  refine (len_c c k (by omega) (by omega) Hk _).mono ?_
  rintro x w2 ⟨rfl, rfl⟩
  go_wp2_with fail
  go_ret
  exact ⟨ret_int hres.out.symm, hg1⟩

theorem lg_bd (n : Int) : 0 ≤ lg n ∧ lg n ≤ 14000 := by
  obtain ⟨a, b, c, -⟩ := lgk_facts n
  have hp : (0 : Int) < 2 ^ lgk n := Int.pow_pos (by omega)
  have hq0 : 256 ≤ cl 1 mx n * 256 / 2 ^ lgk n := Int.le_ediv_of_mul_le hp (by omega)
  have hq1 : cl 1 mx n * 256 / 2 ^ lgk n < 512 := Int.ediv_lt_of_lt_mul hp (by rw [Int.pow_succ] at c; omega)
  unfold lg
  omega

/-- The cost of a bit. -/
def cst (p bit : Int) : Int := if bit = 1 then 3072 - lg (cl 1 4095 p) else 3072 - lg (4096 - cl 1 4095 p)

theorem cost_any (p bit : Int) (w : World) :
    Calls Try.prog 34 #[.int .i64 p, .int .i64 bit] w fun x w' => x = .returned (.int .i64 (cst p bit)) ∧ Ext w w' := by
  have hb := cl_bd 1 4095 p (by omega)
  obtain ⟨hb1, hb2⟩ := hb
  have hl1 := lg_bd (cl 1 4095 p)
  obtain ⟨l1, l2⟩ := hl1
  have hl2 := lg_bd (4096 - cl 1 4095 p)
  obtain ⟨l3, l4⟩ := hl2
  by_cases h : bit = 1
  · subst h
    go_enter Try.func34, Try.ntmps34
    go_wp2_with fail
    refine (chance_any _ _).mono ?_
    rintro x w1 ⟨rfl, hg1⟩
    go_wp2_with fail
    refine (log_any _ _).mono ?_
    rintro x w2 ⟨rfl, hg2⟩
    go_wp2_with fail
    go_ret
    exact ⟨ret_int rfl, hg1.trans hg2⟩
  · have hne : (bit != 1) = true := by simp [h]
    go_enter Try.func34, Try.ntmps34
    go_wp2_with fail
    refine (chance_any _ _).mono ?_
    rintro x w1 ⟨rfl, hg1⟩
    go_wp2_with fail
    refine (log_any _ _).mono ?_
    rintro x w2 ⟨rfl, hg2⟩
    go_wp2_with fail
    go_ret
    exact ⟨ret_int (by unfold cst; rw [if_neg h]), hg1.trans hg2⟩

end Go.Proofs.Ytnodnfmgklkjeaa
