/- What the functions of package fixed and of its reference compute: the least evidence, the rounded quotient, the logarithm, the cost. -/
import Derived.Test.YtjcoeifcbfoikaaFxb
import Derived.Test.YtjcoeifcbfoikaaShelf
import Derived.Deep.RegionWith
import Derived.IntWalk
namespace Go.Proofs.Ytjcoeifcbfoikaa
open Go.RowKit

/-- The closure of Stretch: its captured probability lies in a cell. -/
theorem enough_any (i p : Int) (b : Nat) (w : World) (h0 : 0 ≤ i) (h1 : i ≤ 6142) (hc : w.cell? ⟨b, 0, none⟩ = some (.int .i64 p)) :
    Calls Try.prog 28 #[.int .i64 i, .pointer (some ⟨b, 0, none⟩)] w fun e w' => e = .returned (.bool (decide (p ≤ sq (i - 3071)))) ∧ Ext w w' := by
  have hw : IntKind.i64.wrap (i - 3071) = i - 3071 := IntWalk.i64_in _ (by omega)
  go_enter Try.func28, Try.ntmps28
  go_wp2
  go_region_with (go_at_call 14; refine (squash_any _ _).mono ?_; rintro e w1 ⟨rfl, hg⟩; have hc1 := hg.cell (b := b) (o := 0) (v := .int .i64 p) hc)
  all_goals
    go_wp2
    go_ret
    exact ⟨ret_bool rfl, (Ext.refl w).drew.trans hg⟩

/-- The search over the closure. -/
theorem search_any (p : Int) (hp : p ≤ 4095) (b : Nat) (w : World) (hc : w.cell? ⟨b, 0, none⟩ = some (.int .i64 p)) :
    Calls Try.prog 29 #[.int .i64 6142, .func (.func 28) #[] #[.pointer (some ⟨b, 0, none⟩)]] w fun e w' => (∃ x : Int, IsSt p (x - 3071) ∧ e = .returned (.int .i64 x)) ∧ Ext w w' := by
  go_enter Try.func29, Try.ntmps29
  go_wp2
  go_loopw [5, 6] (fun s t wr => ∃ i j : Int, 0 ≤ i ∧ i ≤ j ∧ j ≤ 6142 ∧ s = .int .i64 i ∧ t = .int .i64 j ∧ Hid (p ≤ sq (j - 3071) ∧ (i = 0 ∨ sq (i - 1 - 3071) < p)) ∧ Ext w wr) (fun s t _ => (intOf t - intOf s).toNat)
  case atStart => exact ⟨0, 6142, by omega, by omega, by omega, rfl, rfl, ⟨by rw [show (6142 : Int) - 3071 = 3071 by omega, sq_top]; exact hp, Or.inl rfl⟩, Ext.refl _⟩
  case round =>
    obtain ⟨i, j, hi, hij, hj, rfl, rfl, hq, hx⟩ := hrel
    have hcr := hx.cell hc
    by_cases hlt : i < j
    · by_cases hd : p ≤ sq ((i + j) / 2 - 3071)
      · have hdd : decide (p ≤ sq ((i + j) / 2 - 3071)) = true := by simp [hd]
        go_wp2_with (go_at_call 28; refine (enough_any _ _ _ _ (by omega) (by omega) hcr).mono ?_; rintro e w1 ⟨rfl, hg⟩)
        go_roundw
        case rel => exact ⟨i, (i + j) / 2, hi, by omega, by omega, rfl, rfl, ⟨hd, hq.out.2⟩, hx.trans hg⟩
        case measure => simp [intOf]; omega
      · have hdd : decide (p ≤ sq ((i + j) / 2 - 3071)) = false := by simp [hd]
        go_wp2_with (go_at_call 28; refine (enough_any _ _ _ _ (by omega) (by omega) hcr).mono ?_; rintro e w1 ⟨rfl, hg⟩)
        go_roundw
        case rel => exact ⟨(i + j) / 2 + 1, j, by omega, by omega, hj, by go_num, rfl, ⟨hq.out.1, Or.inr (by rw [show (i + j) / 2 + 1 - 1 - 3071 = (i + j) / 2 - 3071 by omega]; omega)⟩, hx.trans hg⟩
        case measure => simp [intOf]; omega
    · go_wp2
      go_ret
      have hij2 : i = j := by omega
      exact ⟨⟨i, ⟨by omega, by omega, by have := hq.out.1; rw [hij2]; exact this, by have := hq.out.2; rw [show i - 3071 - 1 = i - 1 - 3071 by omega]; omega⟩, rfl⟩, hx⟩

theorem stretch_any (p : Int) (w : World) :
    Calls Try.prog 17 #[.int .i64 p] w fun e w' => e = .returned (.int .i64 (st p)) ∧ Ext w w' := by
  have hb := cl_bd 1 4095 p (by omega)
  obtain ⟨hb1, hb2⟩ := hb
  go_enter Try.func17, Try.ntmps17
  go_wp2_with (first | (go_at_call 27; refine (chance_any _ _).mono ?_; rintro e w1 ⟨rfl, hg⟩; obtain ⟨k1, k2, k3⟩ := hg.box 0 (.int .i64 p) rfl) | (go_at_call 29; refine (search_any _ hb2 _ _ (set_same k1)).mono ?_; rintro e w2 ⟨⟨x, hx, rfl⟩, hg2⟩; obtain ⟨hx1, hx2⟩ : 0 ≤ x ∧ x ≤ 6142 := ⟨by have := hx.1; omega, by have := hx.2.1; omega⟩))
  go_ret
  exact ⟨ret_int (st_of hx), (hg.past.setCell (Nat.le_refl _) _).trans hg2⟩

theorem rstretch_any (p : Int) (w : World) :
    Calls Try.prog 18 #[.int .i64 p] w fun e w' => e = .returned (.int .i64 (st p)) ∧ w = w' := by
  have hb := cl_bd 1 4095 p (by omega)
  obtain ⟨hb1, hb2⟩ := hb
  go_enter Try.func18, Try.ntmps18
  go_wp2_with (go_at_call 26; refine (between_any _ _ _ _).mono ?_; rintro e w1 ⟨rfl, rfl⟩)
  go_loop [3, 4] (fun s t => ∃ i j : Int, -3071 ≤ i ∧ i ≤ j ∧ j ≤ 3071 ∧ s = .int .i64 i ∧ t = .int .i64 j ∧ Hid (cl 1 4095 p ≤ sq j ∧ (i = -3071 ∨ sq (i - 1) < cl 1 4095 p))) (fun s t => (intOf t - intOf s).toNat)
  case atStart => exact ⟨-3071, 3071, by omega, by omega, by omega, rfl, rfl, ⟨by rw [sq_top]; exact hb2, Or.inl rfl⟩⟩
  case round =>
    obtain ⟨i, j, hi, hij, hj, rfl, rfl, hq⟩ := hrel
    by_cases hlt : i < j
    · by_cases hd : sq (i + (j - i) / 2) < cl 1 4095 p
      · have hd2 : Hid (sq (i + (j - i) / 2) < cl 1 4095 p) := hd
        go_wp2_with (go_at_call 15; refine (rsquash_any _ _).mono ?_; rintro e w1 ⟨rfl, rfl⟩)
        go_round
        case rel => exact ⟨i + (j - i) / 2 + 1, j, by omega, by omega, hj, by go_num, rfl, ⟨hq.out.1, Or.inr (by rw [show i + (j - i) / 2 + 1 - 1 = i + (j - i) / 2 by omega]; exact hd2)⟩⟩
        case measure => simp [intOf]; omega
      · go_wp2_with (go_at_call 15; refine (rsquash_any _ _).mono ?_; rintro e w1 ⟨rfl, rfl⟩)
        go_round
        case rel => exact ⟨i, i + (j - i) / 2, hi, by omega, by omega, rfl, rfl, ⟨by omega, hq.out.2⟩⟩
        case measure => simp [intOf]; omega
    · have hij2 : i = j := by omega
      have H2 := hidden hij2
      clear hij2
      go_wp2
      go_ret
      exact ⟨ret_int (st_of ⟨by omega, by omega, by have := hq.out.1; rw [H2.out]; exact this, hq.out.2⟩), rfl⟩

end Go.Proofs.Ytjcoeifcbfoikaa
