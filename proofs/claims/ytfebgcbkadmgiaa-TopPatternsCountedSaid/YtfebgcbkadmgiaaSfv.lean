/- cmp.Compare of bytes, slices.Compare of bytes: contracts that draw nothing. -/
import Derived.Test.YtfebgcbkadmgiaaSfu
import Derived.Test.YtfebgcbkadmgiaaR
namespace Go.Proofs.Ytfebgcbkadmgiaa
open Go.RowKit
set_option linter.unusedVariables false
set_option linter.unusedSimpArgs false
attribute [local go_sem ↓] Go.wp_at_zero Go.wp_at_succ

theorem isNaN8_any (x : Int) (w : World) : Calls Try.prog 58 #[.int .u8 x] w fun e w' => e = .returned (.bool false) ∧ w' = w := by
  go_enter Try.func58, Try.ntmps58
  go_wp2_with fail
  go_ret
  exact ⟨rfl, rfl⟩
set_option maxRecDepth 100000 in
theorem cmp8_any (x y : Int) (w : World) : Calls Try.prog 41 #[.int .u8 x, .int .u8 y] w fun e w' => e = .returned (.int .i64 (Suf.cmpI x y)) ∧ w' = w := by
  have hn := hidden isNaN8_any
  unfold Suf.cmpI
  obtain ⟨R, hR⟩ : ∃ R, (if x < y then (-1 : Int) else if y < x then 1 else 0) = R := ⟨_, rfl⟩
  rw [hR]
  go_enter Try.func41, Try.ntmps41
  go_wp2_with fail
  refine (hn.out _ _).mono ?_
  rintro e w1 ⟨rfl, rfl⟩
  go_wp2_with fail
  refine (hn.out _ _).mono ?_
  rintro e w2 ⟨rfl, rfl⟩
  by_cases h1 : x < y
  · rw [if_pos h1] at hR
    replace hR := hidden hR
    have d1 : decide (x < y) = true := decide_eq_true h1
    go_wp2_with fail
    go_ret
    exact ⟨by rw [← hR.out]; rfl, rfl⟩
  · rw [if_neg h1] at hR
    have d1 : decide (x < y) = false := decide_eq_false h1
    by_cases h2 : y < x
    · rw [if_pos h2] at hR
      replace hR := hidden hR
      have d2 : decide (y < x) = true := decide_eq_true h2
      go_wp2_with fail
      go_ret
      exact ⟨by rw [← hR.out]; rfl, rfl⟩
    · rw [if_neg h2] at hR
      replace hR := hidden hR
      have d2 : decide (y < x) = false := decide_eq_false h2
      go_wp2_with fail
      go_ret
      exact ⟨by rw [← hR.out]; rfl, rfl⟩

theorem cmpL_drop {a b : List Int} {i : Nat} (ha : i < a.length) (hb : i < b.length) : cmpL (a.drop i) (b.drop i) = if a.getD i 0 < b.getD i 0 then -1 else if b.getD i 0 < a.getD i 0 then 1 else cmpL (a.drop (i + 1)) (b.drop (i + 1)) := by
  rw [Suf.drop_cons ha, Suf.drop_cons hb]; rfl
theorem cmpL_end1 {a b : List Int} {i : Nat} (ha : a.length ≤ i) (hb : i < b.length) : cmpL (a.drop i) (b.drop i) = -1 := by
  rw [List.drop_eq_nil_of_le ha, Suf.drop_cons hb]; rfl
theorem cmpL_end2 {a b : List Int} {i : Nat} (ha : i < a.length) (hb : b.length ≤ i) : cmpL (a.drop i) (b.drop i) = 1 := by
  rw [List.drop_eq_nil_of_le hb, Suf.drop_cons ha]; rfl
theorem cmpL_end0 {a b : List Int} {i : Nat} (ha : a.length ≤ i) (hb : b.length ≤ i) : cmpL (a.drop i) (b.drop i) = 0 := by
  rw [List.drop_eq_nil_of_le hb, List.drop_eq_nil_of_le ha]; rfl
set_option maxRecDepth 100000 in
theorem scompare_any (va vb : Value) (a b : List Int) (hna : a.length ≤ 100000) (w : World) (h1 : Rd8 w va a) (h2 : Rd8 w vb b) :
    Calls Try.prog 27 #[va, vb] w fun e w' => e = .returned (.int .i64 (cmpL a b)) ∧ w' = w := by
  obtain ⟨n, hn⟩ : ∃ n, a.length = n := ⟨_, rfl⟩
  obtain ⟨m, hm⟩ : ∃ m, b.length = m := ⟨_, rfl⟩
  obtain ⟨ad, ca, rfl, p1, p2, p3⟩ := Rd.shape h1
  obtain ⟨bd, cb, rfl, q1, q2, q3⟩ := Rd.shape h2
  have hA : Hid (Rd8 w (.slice ad n ca) a) := hidden (by rw [← hn]; exact h1)
  have hB : Hid (Rd8 w (.slice bd m cb) b) := hidden (by rw [← hm]; exact h2)
  rw [hn] at p1 hna ⊢
  rw [hm] at q1 ⊢
  clear h1 h2
  have hc := hidden cmp8_any
  have h0 : Hid (cmpL (a.drop 0) (b.drop 0) = cmpL a b) := hidden rfl
  obtain ⟨R, hR⟩ : ∃ R, cmpL a b = R := ⟨_, rfl⟩
  rw [hR] at h0 ⊢
  replace hn := hidden hn
  replace hm := hidden hm
  clear hR
  go_enter Try.func27, Try.ntmps27
  go_wp2_with fail
  go_loopw [11] (fun i wr => ∃ k : Nat, i = .int .i64 (k : Int) ∧ k ≤ n ∧ k ≤ m ∧ Hid (cmpL (a.drop k) (b.drop k) = R) ∧ wr = w) (fun i _ => n - (intOf i).toNat)
  case atStart => exact ⟨0, rfl, by omega, by omega, h0, rfl⟩
  case round =>
    clear h0
    obtain ⟨k, rfl, hk1, hk2, hC, rfl⟩ := hrel
    have v1 : IntKind.i64.wrap ((k : Int) + 1) = (k : Int) + 1 := IntWalk.i64_in _ (by omega)
    by_cases hlt : k < n
    · have e1 : (k : Int) < (n : Int) := by omega
      obtain ⟨g, off, rfl, hg⟩ := Rd8.some hA.out (by rw [hn.out]; omega)
      have cA := hA.out.at k (by rw [hn.out]; omega)
      obtain ⟨x, hx⟩ : ∃ x, a.getD k 0 = x := ⟨_, rfl⟩
      rw [hx] at cA
      by_cases hltm : k < m
      · have e2 : (k : Int) < (m : Int) := by omega
        have d1 : decide (m ≤ k) = false := decide_eq_false (by omega)
        obtain ⟨g2, off2, rfl, hg2⟩ := Rd8.some hB.out (by rw [hm.out]; omega)
        have cB := hB.out.at k (by rw [hm.out]; omega)
        obtain ⟨y, hy⟩ : ∃ y, b.getD k 0 = y := ⟨_, rfl⟩
        rw [hy] at cB
        have hst := cmpL_drop (a := a) (b := b) (i := k) (by rw [hn.out]; omega) (by rw [hm.out]; omega)
        rw [hx, hy, hC.out] at hst
        have hcc := hc.out x y
        unfold Suf.cmpI at hcc
        replace hcc := hidden hcc
        clear hx hy hc
        go_wp2_with fail
        refine (hcc.out wr).mono ?_
        rintro e w1 ⟨rfl, rfl⟩
        by_cases c1 : x < y
        · rw [if_pos c1] at hst ⊢
          have hst := hidden hst
          go_wp2_with fail
          go_ret
          exact ⟨by rw [hst.out]; rfl, rfl⟩
        · rw [if_neg c1] at hst ⊢
          by_cases c2 : y < x
          · rw [if_pos c2] at hst ⊢
            have hst := hidden hst
            go_wp2_with fail
            go_ret
            exact ⟨by rw [hst.out]; rfl, rfl⟩
          · rw [if_neg c2] at hst ⊢
            replace hst := hidden hst
            go_wp2_with fail
            go_roundw
            case rel => exact ⟨k + 1, by go_num, by omega, by omega, hidden hst.out.symm, trivial⟩
            case measure => simp [intOf]; omega
      · have d1 : decide (m ≤ k) = true := decide_eq_true (by omega)
        have hst := cmpL_end2 (a := a) (b := b) (i := k) (by rw [hn.out]; omega) (by rw [hm.out]; omega)
        rw [hC.out] at hst
        replace hst := hidden hst
        clear hx
        go_wp2_with fail
        go_ret
        exact ⟨by rw [hst.out]; rfl, rfl⟩
    · have d2 : decide ((k : Int) < (n : Int)) = false := decide_eq_false (by omega)
      by_cases hltm : n < m
      · have hst := cmpL_end1 (a := a) (b := b) (i := k) (by rw [hn.out]; omega) (by rw [hm.out]; omega)
        have e2 : (n : Int) < (m : Int) := by omega
        rw [hC.out] at hst
        replace hst := hidden hst
        go_wp2_with fail
        go_ret
        exact ⟨by rw [hst.out]; rfl, rfl⟩
      · have hst := cmpL_end0 (a := a) (b := b) (i := k) (by rw [hn.out]; omega) (by rw [hm.out]; omega)
        have d3 : decide ((n : Int) < (m : Int)) = false := decide_eq_false (by omega)
        rw [hC.out] at hst
        replace hst := hidden hst
        go_wp2_with fail
        go_ret
        exact ⟨by rw [hst.out]; rfl, rfl⟩
end Go.Proofs.Ytfebgcbkadmgiaa
