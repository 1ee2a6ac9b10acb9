/- The program's put, and copies. -/
import Derived.Test.YtfnlekehcaehkaaBc
import Derived.Test.YtfnlekehcaehkaaB8c
import Derived.Laws.BitsAllLaws
namespace Go.Proofs.Ytfnlekehcaehkaa
open Go.RowKit
set_option linter.unusedVariables false
attribute [local go_sem ↓] Go.wp_at_zero Go.wp_at_succ

theorem u32_and1 (y : Int) (h0 : 0 ≤ y) (h1 : y ≤ 4294967295) : bits BinOp.and IntKind.u32 y 1 = y % 2 := by
  rw [u32_and y 1 h0 (by omega) (by decide) (by decide)]
  show ((y.toNat &&& 1 : Nat) : Int) = _
  rw [Nat.and_one_is_mod]
  omega
theorem div_bd (v : Int) (k : Nat) (h0 : 0 ≤ v) (h1 : v ≤ 4294967295) : 0 ≤ v / 2 ^ k ∧ v / 2 ^ k ≤ 4294967295 := by
  have hp := pow2_pos k
  refine ⟨Int.ediv_nonneg h0 (by omega), ?_⟩
  have := Int.ediv_le_self (2 ^ k) h0
  omega
theorem low_take (v : Int) (n k : Nat) (hk : k < n) : (low v n).take (k + 1) = (low v n).take k ++ [v / 2 ^ (n - 1 - k) % 2] := by
  rw [List.take_succ_eq_append_getElem (by rw [low_len]; exact hk)]
  simp [low]

def PutPost (p B c : Nat) (v : Value) (D : List Int) (xs : List Int) (w : World) (e : Ending) (w' : World) : Prop :=
  e = .returned (.tuple #[]) ∧ ∃ v', Tape w' p B v' (pshs D c xs) (c + xs.length) ∧ Stays w v v' ∧ Chg (p :: v.ownBlock.toList) w w'

set_option maxHeartbeats 1000000 in
theorem put_any (p B c n : Nat) (v : Value) (D : List Int) (y : Int) (hn : n ≤ 32) (hc : c ≤ 599000) (hy0 : 0 ≤ y) (hy1 : y ≤ 4294967295) (w : World) (hBw : B ≤ w.heap.size) (h : Tape w p B v D c) :
    Calls Try.prog 25 #[.pointer (some ⟨p, 0, none⟩), .int .u32 y, .int .i64 (n : Int)] w (PutPost p B c v D (low y n) w) := by
  have hll := low_len y n
  go_enter Try.func25, Try.ntmps25
  go_wp2_with fail
  go_loopw [6] (fun i wr => ∃ (k : Nat) (v' : Value), k ≤ n ∧ i = .int .i64 ((n : Int) - 1 - (k : Int)) ∧ Tape wr p B v' (pshs D c ((low y n).take k)) (c + k) ∧ Stays w v v' ∧ Chg (p :: v.ownBlock.toList) w wr) (fun i _ => (intOf i + 1).toNat)
  case atStart => exact ⟨0, v, by omega, by go_num, by simpa [pshs] using h, Stays.refl _ _, Chg.refl _ _⟩
  case round =>
    obtain ⟨k, v', hk, rfl, hT, hS, hC⟩ := hrel
    have hsz := hC.size
    by_cases hlt : k < n
    · have i0 : (0 : Int) ≤ (n : Int) - 1 - (k : Int) := by omega
      have hdb := div_bd y (n - 1 - k) hy0 hy1
      have htn : min (n - 1 - k) 32 = n - 1 - k := by omega
      have htk := low_take y n k hlt
      have hb1 := u32_and1 _ hdb.1 hdb.2
      have hbit : Hid (b2i (bits BinOp.and IntKind.u32 (y / 2 ^ (n - 1 - k)) 1 != 0) = y / 2 ^ (n - 1 - k) % 2) := by
        refine hidden ?_
        rw [hb1]
        rcases (show y / 2 ^ (n - 1 - k) % 2 = 0 ∨ y / 2 ^ (n - 1 - k) % 2 = 1 by omega) with e | e <;> rw [e] <;> rfl
      have htk := hidden htk
      clear hb1 htn hdb
      go_wp2_with fail
      refine (push_any p B (c + k) v' _ _ (by omega) _ (by omega) hT).mono ?_
      rw [hbit.out]
      rintro e w5 ⟨rfl, v5, hT5, hS5, hC5⟩
      go_wp2_with fail
      go_roundw
      case rel =>
        refine ⟨k + 1, v5, by omega, by go_num, ?_, hS.trans hS5 hsz, hS.chg hC hC5⟩
        rw [htk.out, pshs_snoc, List.length_take, hll, Nat.min_eq_left (by omega), show c + (k + 1) = c + k + 1 by omega]
        exact hT5
      case measure => simp [intOf]; omega
    · obtain rfl : k = n := by omega
      have i0 : (k : Int) - 1 - (k : Int) = -1 := by omega
      go_wp2_with fail
      go_end0
      refine ⟨rfl, v', ?_, hS, hC⟩
      rw [List.take_of_length_le (by rw [hll]; omega)] at hT
      rw [hll]
      exact hT
end Go.Proofs.Ytfnlekehcaehkaa
