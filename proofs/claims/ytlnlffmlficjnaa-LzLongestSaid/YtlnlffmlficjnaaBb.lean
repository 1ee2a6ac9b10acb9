/- The program's Check, one, push, put. -/
import Derived.Test.YtlnlffmlficjnaaBa
import Derived.BigRegion
namespace Go.Proofs.Ytlnlffmlficjnaa
open Go.RowKit
set_option linter.unusedVariables false
attribute [local go_sem ↓] Go.wp_at_zero Go.wp_at_succ

/-- The error of a bit string. -/
def chkb (D : List Int) (c : Int) : Int :=
  if c < 0 ∨ 524288 < c then 2 else if (D.length : Int) ≠ (c + 7) / 8 then 3 else if c % 8 ≠ 0 ∧ D.getD (D.length - 1) 0 * 2 ^ (c % 8).toNat % 256 ≠ 0 then 3 else 0
theorem chkb_wf {D : List Int} {c : Int} (hb : Bytes D) (h : chkb D c = 0) : 0 ≤ c ∧ c ≤ 524288 ∧ WF D c.toNat := by
  unfold chkb at h
  split at h
  · cases h
  · next h1 =>
    split at h
    · cases h
    · next h2 =>
      split at h
      · cases h
      · next h3 =>
        refine ⟨by omega, by omega, hb, by omega, ?_⟩
        intro i hi hl
        by_cases hm : c % 8 = 0
        · omega
        · have h4 : D.getD (D.length - 1) 0 * 2 ^ (c % 8).toNat % 256 = 0 := by
            rcases Classical.em (D.getD (D.length - 1) 0 * 2 ^ (c % 8).toNat % 256 = 0) with h | h
            · exact h
            · exact absurd ⟨hm, h⟩ h3
          have hx := getD_bd8 hb (D.length - 1)
          rw [tail_byte _ _ hx.1 hx.2 (by omega)] at h4
          have := h4 (i % 8) (by omega) (by omega)
          rw [gb_bt, show i / 8 = D.length - 1 by omega]
          exact this
theorem wf_chkb {D : List Int} {c : Nat} (h : WF D c) (hc : c ≤ 524288) : chkb D c = 0 := by
  have hl := h.len
  unfold chkb
  rw [if_neg (by omega), if_neg (by omega), if_neg ?_]
  rintro ⟨h1, h2⟩
  apply h2
  have hx := getD_bd8 h.bytes (D.length - 1)
  rw [tail_byte _ _ hx.1 hx.2 (by omega)]
  intro j hj hj8
  have := h.past (8 * (D.length - 1) + j) (by omega)
  rw [gb_bt, show (8 * (D.length - 1) + j) / 8 = D.length - 1 by omega, show (8 * (D.length - 1) + j) % 8 = j by omega] at this
  exact this

set_option maxHeartbeats 1000000 in
theorem check_any (v : Value) (D : List Int) (c : Int) (hb : Bytes D) (hl : D.length ≤ 1000000) (hc0 : -9223372036854775808 ≤ c) (hc1 : c ≤ 9223372036854775807) (w : World) (h : Rd8 w v D) :
    Calls Try.prog 57 #[.agg #[v, .int .i64 c]] w fun x w' => x = .returned (.int .i64 (chkb D c)) ∧ Ext w w' := by
  obtain ⟨a, cap, rfl, h1, h2, h3⟩ := Rd.shape h
  have B0 := Blk.new w [.slice a D.length cap, .int .i64 c] 57
  have c0 := B0.cell 0 _ rfl
  have c1 := B0.cell 1 _ rfl
  by_cases k1 : c < 0
  · have hr : Hid (chkb D c = 2) := by unfold chkb; exact if_pos (Or.inl k1)
    go_enter Try.func57, Try.ntmps57
    go_wp2_with fail
    go_ret
    exact ⟨ret_int hr.out.symm, (Ext.refl _).alloc _⟩
  · by_cases k2 : 524288 < c
    · have hr : Hid (chkb D c = 2) := by unfold chkb; exact if_pos (Or.inr k2)
      go_enter Try.func57, Try.ntmps57
      go_wp2_with fail
      go_ret
      exact ⟨ret_int hr.out.symm, (Ext.refl _).alloc _⟩
    · have k3 : 0 ≤ c := by omega
      have k4 : c ≤ 524288 := by omega
      have k5 : (c + 7) / 8 ≤ 70000 := by omega
      have k6 : 0 ≤ (c + 7) / 8 := by omega
      by_cases k7 : (D.length : Int) = (c + 7) / 8
      · have k8 : ((D.length : Int) != (c + 7) / 8) = false := by simp [k7]
        have k9 : ((D.length : Int) == (c + 7) / 8) = true := by simp [k7]
        have K7 := hidden k7
        clear k7
        by_cases k10 : c % 8 = 0
        · have hr : Hid (chkb D c = 0) := by
            unfold chkb
            rw [if_neg (by omega), if_neg (by have := K7.out; omega), if_neg (fun e => e.1 k10)]
            trivial
          have k11 : (c % 8 != 0) = false := by simp [k10]
          have k12 : decide (c % 8 = 0) = true := by simp [k10]
          clear k10
          go_enter Try.func57, Try.ntmps57
          go_wp2_with fail
          go_quiet (fail)
          go_wp2_with fail
          go_ret
          exact ⟨ret_int hr.out.symm, ((Ext.refl _).alloc _).drewN _⟩
        · have hpos : 0 < D.length := by have := K7.out; omega
          obtain ⟨b, off, rfl, -⟩ := Rd8.some h hpos
          have hx := getD_bd8 hb (D.length - 1)
          have hcx := Rd8.at h (D.length - 1) (by omega)
          obtain ⟨x, hx'⟩ : ∃ x, D.getD (D.length - 1) 0 = x := ⟨_, rfl⟩
          have hr : Hid (chkb D c = if x * 2 ^ (c % 8).toNat % 256 ≠ 0 then 3 else 0) := by
            unfold chkb
            rw [if_neg (by omega), if_neg (by have := K7.out; omega), hx']
            simp only [ne_eq, k10, not_false_eq_true, true_and]
            trivial
          rw [hx'] at hx hcx
          clear hx'
          obtain ⟨hx0, hx1⟩ := hx
          have hcx' := (Ext.alloc (Ext.refl w) (.cells #[.slice (some ⟨b, off, none⟩) D.length cap, .int .i64 c] 57)).cell hcx
          have k11 : (c % 8 != 0) = true := by simp [k10]
          have k13 : 0 ≤ c % 8 := by omega
          have k14 : c % 8 < 8 := by omega
          have k15 : (0 : Int) ≤ (D.length : Int) - 1 := by omega
          have k16 : (D.length : Int) - 1 < (D.length : Int) := by omega
          have k17 : ((D.length : Int) - 1).toNat = D.length - 1 := by omega
          clear k10 h hcx
          go_enter Try.func57, Try.ntmps57
          go_wp2_with fail
          go_quiet (fail)
          go_wp2_with fail
          · have hz : (x * 2 ^ (c % 8).toNat % 256 != 0) = true := by assumption
            go_ret
            exact ⟨ret_int (by rw [hr.out, if_pos (by simpa using hz)]), ((Ext.refl _).alloc _).drewN _⟩
          · have hz : (x * 2 ^ (c % 8).toNat % 256 != 0) = false := by assumption
            go_ret
            exact ⟨ret_int (by rw [hr.out, if_neg (by simpa using hz)]), ((Ext.refl _).alloc _).drewN _⟩
      · have k8 : ((D.length : Int) != (c + 7) / 8) = true := by simp [k7]
        have k9 : ((D.length : Int) == (c + 7) / 8) = false := by simp [k7]
        have hr : Hid (chkb D c = 3) := by
          unfold chkb
          rw [if_neg (by omega), if_pos k7]
          trivial
        clear k7
        go_enter Try.func57, Try.ntmps57
        go_wp2_with fail
        go_ret
        exact ⟨ret_int hr.out.symm, (Ext.refl _).alloc _⟩

/-- A bit is read. -/
theorem one_any (p : Nat) (v c : Value) (D : List Int) (k : Int) (hb : Bytes D) (hk : 0 ≤ k) (hk2 : k ≤ 600000) (hin : k / 8 < D.length) (w : World) (hB : Blk w p 91 [v, c]) (h : Rd8 w v D) :
    Calls Try.prog 62 #[.pointer (some ⟨p, 0, none⟩), .int .i64 k] w fun e w' => e = .returned (.bool (decide (gb D k.toNat = 1))) ∧ Ext w w' := by
  obtain ⟨a, cap, rfl, h1, h2, h3⟩ := Rd.shape h
  obtain ⟨b, off, rfl, -⟩ := Rd8.some h (by omega)
  have hx := getD_bd8 hb (k / 8).toNat
  have hcx := Rd8.at h (k / 8).toNat (by omega)
  have hg : Hid (gb D k.toNat = bt (D.getD (k / 8).toNat 0) (k % 8).toNat) := by
    refine hidden ?_
    rw [gb_bt, show k.toNat / 8 = (k / 8).toNat by omega, show k.toNat % 8 = (k % 8).toNat by omega]
  obtain ⟨x, hx'⟩ : ∃ x, D.getD (k / 8).toNat 0 = x := ⟨_, rfl⟩
  rw [hx'] at hx hcx hg
  clear hx' h
  obtain ⟨hx0, hx1⟩ := hx
  have c0 := hB.cell 0 _ rfl
  have h8 : 0 ≤ k / 8 := by omega
  have h9 : k / 8 ≤ 75000 := by omega
  have h10 : 0 ≤ k % 8 := by omega
  have h11 : k % 8 < 8 := by omega
  have hfin := hidden (and_byte x (k % 8).toNat hx0 hx1 (by omega))
  go_enter Try.func62, Try.ntmps62
  go_wp2_with fail
  go_quiet (fail)
  go_wp2_with fail
  go_ret
  exact ⟨ret_bool (by rw [hfin.out, hg.out]), (Ext.refl _).drewN _⟩
end Go.Proofs.Ytlnlffmlficjnaa
