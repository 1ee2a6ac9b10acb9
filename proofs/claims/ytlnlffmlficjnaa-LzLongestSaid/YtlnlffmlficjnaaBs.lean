/- The reference's Few, get, Check. -/
import Derived.Test.YtlnlffmlficjnaaBq
namespace Go.Proofs.Ytlnlffmlficjnaa
open Go.RowKit
set_option linter.unusedVariables false
attribute [local go_sem ↓] Go.wp_at_zero Go.wp_at_succ

theorem and1_tab : ∀ (i : Fin 256), bits BinOp.and IntKind.i64 (i.val : Int) 1 = (i.val : Int) % 2 := by decide +kernel
theorem i64_and1 (y : Int) (h0 : 0 ≤ y) (h1 : y ≤ 255) : bits BinOp.and IntKind.i64 y 1 = y % 2 := by
  obtain ⟨i, rfl⟩ := byte_of y h0 h1
  exact and1_tab i

set_option maxHeartbeats 1000000 in
theorem get_any (v : Value) (c : Int) (D : List Int) (k : Nat) (hb : Bytes D) (hk2 : k ≤ 600000) (hin : k / 8 < D.length) (w : World) (h : Rd8 w v D) :
    Calls Try.prog 60 #[.agg #[v, .int .i64 c], .int .i64 (k : Int)] w fun e w' => e = .returned (.int .i64 (gb D k)) ∧ Ext w w' := by
  obtain ⟨a, cap, rfl, h1, h2, h3⟩ := Rd.shape h
  have C0 := Blk.new w [.slice a D.length cap, .int .i64 c] 57
  have c0 := C0.cell 0 _ rfl
  obtain ⟨b, off, rfl, -⟩ := Rd8.some h (by omega)
  have hx := getD_bd8 hb (k / 8)
  have hcx := Rd8.at (Rd.alloc h (.cells #[.slice (some ⟨b, off, none⟩) D.length cap, .int .i64 c] 57)) (k / 8) hin
  have hg : Hid (gb D k = D.getD (k / 8) 0 / 2 ^ (7 - k % 8) % 2) := hidden rfl
  obtain ⟨x, hx'⟩ : ∃ x, D.getD (k / 8) 0 = x := ⟨_, rfl⟩
  rw [hx'] at hx hcx hg
  clear hx' h
  obtain ⟨hx0, hx1⟩ := hx
  have e1 : ((k : Int) / 8).toNat = k / 8 := by omega
  have e2 : (0 : Int) ≤ (k : Int) / 8 := by omega
  have e3 : (k : Int) / 8 < (D.length : Int) := by omega
  have e4 : (7 - (k : Int) % 8).toNat = 7 - k % 8 := by omega
  have e5 : (0 : Int) ≤ 7 - (k : Int) % 8 := by omega
  have e6 : (7 - (k : Int) % 8) ≤ 7 := by omega
  have hdb : 0 ≤ x / 2 ^ (7 - k % 8) ∧ x / 2 ^ (7 - k % 8) ≤ 255 := ⟨Int.ediv_nonneg hx0 (Int.le_of_lt (pow2_pos _)), by have := Int.ediv_le_self (2 ^ (7 - k % 8)) hx0; omega⟩
  have hfin := i64_and1 _ hdb.1 hdb.2
  go_enter Try.func60, Try.ntmps60
  go_wp2_with fail
  go_ret
  exact ⟨ret_int hg.out.symm, (Ext.refl _).alloc _⟩

theorem chkb_bad {D : List Int} {c : Nat} (hb : Bytes D) (hc : c ≤ 524288) (hl : (D.length : Int) = ((c : Int) + 7) / 8) (i : Nat) (h1 : c ≤ i) (h2 : i < 8 * D.length) (h3 : gb D i ≠ 0) : chkb D c = 3 := by
  have hne : chkb D c ≠ 0 := by
    intro e
    obtain ⟨-, -, hwf⟩ := chkb_wf hb e
    exact h3 (hwf.spare i (by simpa using h1) h2)
  unfold chkb at hne ⊢
  rw [if_neg (by omega), if_neg (by simpa using hl)] at hne ⊢
  split
  · rfl
  · next h => rw [if_neg h] at hne; exact absurd rfl hne

set_option maxHeartbeats 1000000 in
theorem rcheck_any (v : Value) (D : List Int) (c : Int) (hb : Bytes D) (hl : D.length ≤ 70000) (hc0 : -9223372036854775808 ≤ c) (hc1 : c ≤ 9223372036854775807) (w : World) (h : Rd8 w v D) :
    Calls Try.prog 53 #[.agg #[v, .int .i64 c]] w fun x w' => x = .returned (.int .i64 (chkb D c)) ∧ Ext w w' := by
  obtain ⟨a, cap, rfl, h1, h2, h3⟩ := Rd.shape h
  have C0 := Blk.new w [.slice a D.length cap, .int .i64 c] 57
  have c0 := C0.cell 0 _ rfl
  have c1 := C0.cell 1 _ rfl
  by_cases k1 : c < 0
  · have hr : Hid (chkb D c = 2) := by unfold chkb; exact if_pos (Or.inl k1)
    go_enter Try.func53, Try.ntmps53
    go_wp2_with fail
    go_ret
    exact ⟨ret_int hr.out.symm, (Ext.refl _).alloc _⟩
  · by_cases k2 : 524288 < c
    · have hr : Hid (chkb D c = 2) := by unfold chkb; exact if_pos (Or.inr k2)
      go_enter Try.func53, Try.ntmps53
      go_wp2_with fail
      go_ret
      exact ⟨ret_int hr.out.symm, (Ext.refl _).alloc _⟩
    · obtain ⟨n, rfl⟩ : ∃ n : Nat, c = (n : Int) := ⟨c.toNat, by omega⟩
      have k4 : n ≤ 524288 := by omega
      by_cases k7 : (D.length : Int) = ((n : Int) + 7) / 8
      · have k8 : ((D.length : Int) != ((n : Int) + 7) / 8) = false := by simp [k7]
        have K7 := hidden k7
        have hE := (Ext.refl w).alloc (.cells #[.slice a D.length cap, .int .i64 (n : Int)] 57)
        clear k7 k1 k2
        go_enter Try.func53, Try.ntmps53
        go_wp2_with fail
        go_loopw [3] (fun i wr => ∃ k : Nat, n ≤ k ∧ k ≤ 8 * D.length ∧ i = .int .i64 (k : Int) ∧ (∀ j, n ≤ j → j < k → gb D j = 0) ∧ Ext (w.alloc (.cells #[.slice a D.length cap, .int .i64 (n : Int)] 57)) wr) (fun i _ => (8 * D.length - intOf i).toNat)
        case atStart => exact ⟨n, by omega, by have := K7.out; omega, rfl, (fun j h1 h2 => by omega), Ext.refl _⟩
        case round =>
          obtain ⟨k, hk1, hk2, rfl, hz, hX⟩ := hrel
          have d0 := hX.cell c0
          have d1 := hX.cell c1
          have Hz := hidden hz
          clear hz
          by_cases hlt : k < 8 * D.length
          · have hlt' : (k : Int) < 8 * (D.length : Int) := by omega
            obtain ⟨z, hg⟩ : ∃ z, gb D k = z := ⟨_, rfl⟩
            have Hg := hidden hg
            have hR := Rd.ext h (hE.trans hX)
            by_cases hz0 : z = 0
            · have hz1 : (z != 0) = false := by simp [hz0]
              have Hz0 := hidden hz0
              clear hg hz0
              go_wp2_with fail
              refine (get_any _ _ D k hb (by omega) (by omega) _ hR).mono ?_
              rw [Hg.out]
              rintro e w5 ⟨rfl, g5⟩
              go_wp2_with fail
              refine ⟨⟨k + 1, by omega, by omega, by go_num, (fun j j1 j2 => ?_), hX.trans g5⟩, by simp [intOf]; omega⟩
              rcases Nat.lt_or_ge j k with hj | hj
              · exact Hz.out j j1 hj
              · obtain rfl : j = k := by omega
                rw [Hg.out, Hz0.out]
            · have hz1 : (z != 0) = true := by simp [hz0]
              have hr : Hid (chkb D n = 3) := hidden (chkb_bad hb k4 K7.out k hk1 hlt (by rw [hg]; exact hz0))
              clear hg hz0
              go_wp2_with fail
              refine (get_any _ _ D k hb (by omega) (by omega) _ hR).mono ?_
              rw [Hg.out]
              rintro e w5 ⟨rfl, g5⟩
              go_wp2_with fail
              go_ret
              exact ⟨ret_int hr.out.symm, (hE.trans hX).trans g5⟩
          · obtain rfl : k = 8 * D.length := by omega
            have hr : Hid (chkb D n = 0) := by
              refine hidden ?_
              have hwf : WF D n := ⟨hb, by have := K7.out; omega, fun i i1 i2 => Hz.out i i1 i2⟩
              exact wf_chkb hwf k4
            have hlt' : ¬ 8 * (D.length : Int) < 8 * (D.length : Int) := by omega
            go_wp2_with fail
            go_ret
            exact ⟨ret_int hr.out.symm, hE.trans hX⟩
      · have k8 : ((D.length : Int) != ((n : Int) + 7) / 8) = true := by simp [k7]
        have hr : Hid (chkb D n = 3) := by unfold chkb; rw [if_neg (by omega), if_pos k7]; trivial
        clear k7 k1 k2
        go_enter Try.func53, Try.ntmps53
        go_wp2_with fail
        go_ret
        exact ⟨ret_int hr.out.symm, (Ext.refl _).alloc _⟩
end Go.Proofs.Ytlnlffmlficjnaa
