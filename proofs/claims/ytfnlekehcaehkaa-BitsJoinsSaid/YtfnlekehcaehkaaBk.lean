/- The reference's Same. -/
import Derived.Test.YtfnlekehcaehkaaBj
namespace Go.Proofs.Ytfnlekehcaehkaa
open Go.RowKit
set_option linter.unusedVariables false
attribute [local go_sem ↓] Go.wp_at_zero Go.wp_at_succ

theorem Rd8.base {w : World} {a : Option Addr} {n cap : Nat} {l : List Int} (h : Rd8 w (.slice a n cap) l) (hn : 0 < l.length) : ∃ b off, a = Option.some ⟨b, off, none⟩ := by
  obtain ⟨b, off, e, _⟩ := Rd8.some h hn
  exact ⟨b, off, e⟩

theorem same_any (va vb : Value) (la lb : List Int) (w : World) (ha : Rd8 w va la) (hb : Rd8 w vb lb) :
    Calls Try.prog 17 #[va, vb] w fun x w' => x = .returned (.bool (decide (la = lb))) ∧ Ext w w' := by
  obtain ⟨a, ca, rfl, a1, a2, a3⟩ := Rd.shape ha
  obtain ⟨b, cb, rfl, b1, b2, b3⟩ := Rd.shape hb
  by_cases hl : la.length = lb.length
  · obtain ⟨n, hn⟩ : ∃ n, la.length = n := ⟨_, rfl⟩
    rw [hn] at hl a1 ⊢
    rw [← hl]
    rw [← hl] at b1
    have HA := hidden ha
    have HB := hidden hb
    have Hn := hidden hn
    have Hl := hidden hl
    clear ha hb hn hl
    by_cases h0 : n = 0
    · subst h0
      go_enter Try.func17, Try.ntmps17
      go_wp2_with fail
      refine wp_loop_rounds 1 ?_
      rw [rounds_succ]
      go_wp2_with fail
      go_ret
      refine ⟨ret_bool ?_, Ext.refl _⟩
      rw [List.eq_nil_of_length_eq_zero Hn.out, List.eq_nil_of_length_eq_zero Hl.out.symm]
      rfl
    · have ha := HA.out
      have hb := HB.out
      have e1 := Hn.out
      have e2 := Hl.out
      obtain ⟨p, oa, rfl⟩ := Rd8.base ha (by omega)
      obtain ⟨q, ob, rfl⟩ := Rd8.base hb (by omega)
      clear ha hb e1 e2
      go_enter Try.func17, Try.ntmps17
      go_wp2_with fail
      go_loopw [5] (fun i wr => ∃ k : Nat, k ≤ n ∧ i = .int .i64 (k : Int) ∧ Hid (la.take k = lb.take k) ∧ Ext w wr) (fun i _ => (n - intOf i).toNat)
      case atStart => exact ⟨0, by omega, rfl, rfl, Ext.refl _⟩
      case round =>
        obtain ⟨k, hk, rfl, hq, hE⟩ := hrel
        by_cases hlt : k < n
        · have hlt' : (k : Int) < (n : Int) := by omega
          have e1 := Hn.out
          have e2 := Hl.out
          have hx := Rd8.at HA.out k (by omega)
          have hy := Rd8.at HB.out k (by omega)
          obtain ⟨x, hxe⟩ : ∃ x, la.getD k 0 = x := ⟨_, rfl⟩
          obtain ⟨y, hye⟩ : ∃ y, lb.getD k 0 = y := ⟨_, rfl⟩
          rw [hxe] at hx
          rw [hye] at hy
          have hx' := hE.cell hx
          have hy' := hE.cell hy
          have Hx := hidden hxe
          have Hy := hidden hye
          clear hx hy hxe hye e1 e2
          go_upto_region 6 with fail
          go_quiet (fail)
          by_cases hxy : x = y
          · have hxy' : (x != y) = false := by simp [hxy]
            have hq2 : Hid (la.take (k + 1) = lb.take (k + 1)) := by
              have h := hq.out
              have e1 := Hn.out
              have e2 := Hl.out
              have k1 : k < la.length := by omega
              have k2 : k < lb.length := by omega
              have f1 := Hx.out
              have f2 := Hy.out
              simp only [List.getD, k1, k2, List.getElem?_eq_getElem, Option.getD_some] at f1 f2
              show la.take (k + 1) = lb.take (k + 1)
              rw [List.take_succ_eq_append_getElem k1, List.take_succ_eq_append_getElem k2, h, f1, f2, hxy]
            clear hxy
            go_wp2_with fail
            go_roundw
            case rel => exact ⟨k + 1, by omega, by go_num, hq2, ((Chg.of_ext [] hE).drewN _).ext⟩
            case measure => simp [intOf]; omega
          · have hxy' : (x != y) = true := by simp [hxy]
            have hq2 : Hid (la ≠ lb) := by
              intro h
              apply hxy
              rw [← Hx.out, ← Hy.out, h]
            clear hxy
            go_wp2_with fail
            go_ret
            exact ⟨ret_bool (by simp [hq2.out]), ((Chg.of_ext [] hE).drewN _).ext⟩
        · have hkn : k = n := by omega
          subst hkn
          go_wp2_with fail
          go_ret
          refine ⟨ret_bool ?_, hE⟩
          have h := hq.out
          rw [List.take_of_length_le (by rw [Hn.out]; omega), List.take_of_length_le (by rw [← Hl.out]; omega)] at h
          simp [h]
  · have hli : ((la.length : Int) != (lb.length : Int)) = true := by simp; omega
    have hne : la ≠ lb := fun h => hl (by rw [h])
    clear ha hb
    have Hne := hidden hne
    clear hne hl
    obtain ⟨n, hn⟩ : ∃ n, la.length = n := ⟨_, rfl⟩
    obtain ⟨m, hm⟩ : ∃ m, lb.length = m := ⟨_, rfl⟩
    rw [hn, hm] at hli
    rw [hn] at a1 ⊢
    rw [hm] at b1 ⊢
    go_enter Try.func17, Try.ntmps17
    go_wp2_with fail
    go_ret
    exact ⟨ret_bool (by simp [Hne.out]), Ext.refl _⟩

theorem rsame_any (x y : Int) (va vb : Value) (la lb : List Int) (w : World) (ha : Rd8 w va la) (hb : Rd8 w vb lb) :
    Calls Try.prog 14 #[.agg #[va, .int .i64 x], .agg #[vb, .int .i64 y]] w fun r w' => r = .returned (.bool (decide (x = y) && decide (la = lb))) ∧ Ext w w' := by
  obtain ⟨a, ca, rfl, a1, a2, a3⟩ := Rd.shape ha
  obtain ⟨b, cb, rfl, b1, b2, b3⟩ := Rd.shape hb
  have ha2 : ∀ o, Rd8 (w.alloc o) (.slice a la.length ca) la := fun o => Rd.alloc ha o
  have hb2 : ∀ o, Rd8 (w.alloc o) (.slice b lb.length cb) lb := fun o => Rd.alloc hb o
  by_cases hxy : x = y
  · have k1 : (x == y) = true := by simp [hxy]
    have k2 : decide (x = y) = true := by simp [hxy]
    have K2 := hidden k2
    clear hxy
    go_enter Try.func14, Try.ntmps14
    go_wp2_with fail
    refine (same_any _ _ la lb _ (Rd.alloc (ha2 _) _) (Rd.alloc (hb2 _) _)).mono ?_
    rintro r w1 ⟨rfl, g1⟩
    go_wp2_with fail
    go_ret
    exact ⟨ret_bool (by rw [K2.out]; rfl), g1.past.past⟩
  · have k1 : (x == y) = false := by simp [hxy]
    have k2 : decide (x = y) = false := by simp [hxy]
    have K2 := hidden k2
    clear hxy
    go_enter Try.func14, Try.ntmps14
    go_wp2_with fail
    go_ret
    exact ⟨ret_bool (by rw [K2.out]; rfl), ((Ext.refl _).alloc _).alloc _⟩
theorem rsame_same (x : Int) (va vb : Value) (l : List Int) (w : World) (ha : Rd8 w va l) (hb : Rd8 w vb l) :
    Calls Try.prog 14 #[.agg #[va, .int .i64 x], .agg #[vb, .int .i64 x]] w fun r w' => r = .returned (.bool true) ∧ Ext w w' := by
  have h := rsame_any x x va vb l l w ha hb
  simpa using h

theorem ev1 : appF [] 0 5 3 = (0, [160], 3) := by decide +kernel
theorem ev2 : appF [160] 3 1 7 = (0, [160, 64], 10) := by decide +kernel
theorem ev3 : rdF [160, 64] 10 6 4 = (0, 1) := by decide +kernel
theorem ev4 : gamF [] 0 1 = (0, [128], 1) := by decide +kernel
theorem ev5 : gamF [128] 1 2 = (0, [160], 4) := by decide +kernel
theorem ev6 : gamF [160] 4 5 = (0, [162, 128], 9) := by decide +kernel
theorem ev7 : rgF [162, 128] 9 4 = (0, 5, 9) := by decide +kernel
end Go.Proofs.Ytfnlekehcaehkaa
