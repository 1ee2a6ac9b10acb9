/- The reference's Encode for every encoder; CheckDecoder; equality of bytes. -/
import Derived.Test.YtnodnfmgklkjeaaCk
import Derived.Test.YtnodnfmgklkjeaaCl
import Derived.Test.YtnodnfmgklkjeaaCm
namespace Go.Proofs.Ytnodnfmgklkjeaa
open Go.RowKit
set_option linter.unusedVariables false
attribute [local go_sem ↓] Go.wp_at_zero Go.wp_at_succ

theorem rEncode_any (lo wd bit p : Int) (v : Value) (l : List Int) (hb : Bytes l) (hl0 : 0 ≤ lo) (hl1 : lo ≤ 4294967295) (hw1 : wd ≤ 4294967295) (w : World) (h : Rd8 w v l) :
    Calls Try.prog 13 #[.agg #[.int .u32 lo, .int .u32 wd, v], .int .i64 bit, .int .i64 p] w fun x w' => EncPost w (encF lo wd l bit p) x w' := by
  by_cases hc : chk wd l.length = 0
  · by_cases h0 : bit = 0
    · subst h0
      cases hp : prb p
      · exact rencode_bad3_0 lo wd p v l w h hc hp
      · exact rencode_ok_0 lo wd p v l w h hc hp hb hl0 hl1 hw1
    · by_cases h1 : bit = 1
      · subst h1
        cases hp : prb p
        · exact rencode_bad3_1 lo wd p v l w h hc hp
        · exact rencode_ok_1 lo wd p v l w h hc hp hb hl0 hl1 hw1
      · exact rencode_bad2 lo wd bit p v l w h hc h0 h1
  · exact rencode_bad1 lo wd bit p v l w h hc

theorem rcheckd_any (wd c : Int) (v : Value) (l : List Int) (w : World) (h : Rd8 w v l) :
    Calls Try.prog 25 #[.agg #[.int .u32 wd, .int .u32 c, v]] w fun x w' => x = .returned (.int .i64 (chk wd l.length)) ∧ Ext w w' := by
  obtain ⟨a, cap, rfl, h1, h2, h3⟩ := Rd.shape h
  clear h
  by_cases c1 : wd < 16777216
  · go_enter Try.func25, Try.ntmps25
    go_wp2_with fail
    go_ret
    exact ⟨ret_int (by unfold chk; rw [if_pos c1]), (Ext.refl _).alloc _⟩
  · by_cases c2 : 65536 < l.length
    · have c2' : (65536 : Int) < (l.length : Int) := by omega
      go_enter Try.func25, Try.ntmps25
      go_wp2_with fail
      go_ret
      exact ⟨ret_int (by unfold chk; rw [if_neg (by omega), if_pos c2]), (Ext.refl _).alloc _⟩
    · have c2' : ¬ (65536 : Int) < (l.length : Int) := by omega
      go_enter Try.func25, Try.ntmps25
      go_wp2_with fail
      go_ret
      exact ⟨ret_int (by unfold chk; rw [if_neg (by omega), if_neg c2]), (Ext.refl _).alloc _⟩

/-- One element of bytes that are read. -/
theorem Rd8.at {w : World} {b off n cap : Nat} {l : List Int} (h : Rd8 w (.slice (some ⟨b, off, none⟩) n cap) l) (j : Nat) (hj : j < l.length) :
    w.cell? ⟨b, off + j, none⟩ = some (.int .u8 (l.getD j 0)) := by
  have hn : 0 < l.length := by omega
  obtain ⟨_, a', cap', h2, _, _, _, h6⟩ := h
  simp only [Value.slice.injEq] at h2
  obtain ⟨rfl, -, -⟩ := h2
  obtain ⟨b', off', e, -, hc⟩ := h6 hn
  simp only [Option.some.injEq, Addr.mk.injEq, and_true] at e
  obtain ⟨rfl, rfl⟩ := e
  have := hc j (by rw [bs_len]; exact hj)
  rw [this, bs_get l j hj]

theorem Rd8.base {w : World} {a : Option Addr} {n cap : Nat} {l : List Int} (h : Rd8 w (.slice a n cap) l) (hn : 0 < l.length) : ∃ b off, a = some ⟨b, off, none⟩ := by
  obtain ⟨_, a', cap', h2, _, _, _, h6⟩ := h
  simp only [Value.slice.injEq] at h2
  obtain ⟨rfl, -, -⟩ := h2
  obtain ⟨b', off', e, -, -⟩ := h6 hn
  exact ⟨b', off', e⟩

theorem same_any (va vb : Value) (la lb : List Int) (w : World) (ha : Rd8 w va la) (hb : Rd8 w vb lb) :
    Calls Try.prog 21 #[va, vb] w fun x w' => x = .returned (.bool (decide (la = lb))) ∧ Ext w w' := by
  obtain ⟨a, ca, rfl, a1, a2, a3⟩ := Rd.shape ha
  obtain ⟨b, cb, rfl, b1, b2, b3⟩ := Rd.shape hb
  by_cases hl : la.length = lb.length
  · obtain ⟨n, hn⟩ : ∃ n, la.length = n := ⟨_, rfl⟩
    rw [hn] at hl a1 ⊢
    rw [← hl]
    rw [← hl] at b1
    have HA := hidden ha
    have HB := hidden hb
    have Hn := hidden hn
    have Hl := hidden hl
    clear ha hb hn hl
    by_cases h0 : n = 0
    · subst h0
      go_enter Try.func21, Try.ntmps21
      go_wp2_with fail
      refine wp_loop_rounds 1 ?_
      rw [rounds_succ]
      go_wp2_with fail
      go_ret
      refine ⟨ret_bool ?_, Ext.refl _⟩
      rw [List.eq_nil_of_length_eq_zero Hn.out, List.eq_nil_of_length_eq_zero Hl.out.symm]
      rfl
    · have ha := HA.out
      have hb := HB.out
      have e1 := Hn.out
      have e2 := Hl.out
      obtain ⟨p, oa, rfl⟩ := ha.base (by omega)
      obtain ⟨q, ob, rfl⟩ := hb.base (by omega)
      clear ha hb e1 e2
      go_enter Try.func21, Try.ntmps21
      go_wp2_with fail
      go_loopw [5] (fun i wr => ∃ k : Nat, k ≤ n ∧ i = .int .i64 (k : Int) ∧ Hid (la.take k = lb.take k) ∧ Ext w wr) (fun i _ => (n - intOf i).toNat)
      case atStart => exact ⟨0, by omega, rfl, rfl, Ext.refl _⟩
      case round =>
        obtain ⟨k, hk, rfl, hq, hE⟩ := hrel
        by_cases hlt : k < n
        · have hlt' : (k : Int) < (n : Int) := by omega
          have e1 := Hn.out
          have e2 := Hl.out
          have hx := Rd8.at HA.out k (by omega)
          have hy := Rd8.at HB.out k (by omega)
          obtain ⟨x, hxe⟩ : ∃ x, la.getD k 0 = x := ⟨_, rfl⟩
          obtain ⟨y, hye⟩ : ∃ y, lb.getD k 0 = y := ⟨_, rfl⟩
          rw [hxe] at hx
          rw [hye] at hy
          have hx' := hE.cell hx
          have hy' := hE.cell hy
          have Hx := hidden hxe
          have Hy := hidden hye
          clear hx hy hxe hye e1 e2
          go_upto_region 6 with fail
          go_quiet (fail)
          by_cases hxy : x = y
          · have hxy' : (x != y) = false := by simp [hxy]
            have hq2 : Hid (la.take (k + 1) = lb.take (k + 1)) := by
              have h := hq.out
              have e1 := Hn.out
              have e2 := Hl.out
              have k1 : k < la.length := by omega
              have k2 : k < lb.length := by omega
              have f1 := Hx.out
              have f2 := Hy.out
              simp only [List.getD, k1, k2, List.getElem?_eq_getElem, Option.getD_some] at f1 f2
              show la.take (k + 1) = lb.take (k + 1)
              rw [List.take_succ_eq_append_getElem k1, List.take_succ_eq_append_getElem k2, h, f1, f2, hxy]
            clear hxy
            go_wp2_with fail
            go_roundw
            case rel => exact ⟨k + 1, by omega, by go_num, hq2, ((Chg.of_ext [] hE).drewN _).ext⟩
            case measure => simp [intOf]; omega
          · have hxy' : (x != y) = true := by simp [hxy]
            have hq2 : Hid (la ≠ lb) := by
              intro h
              apply hxy
              rw [← Hx.out, ← Hy.out, h]
            clear hxy
            go_wp2_with fail
            go_ret
            exact ⟨ret_bool (by simp [hq2.out]), ((Chg.of_ext [] hE).drewN _).ext⟩
        · have hkn : k = n := by omega
          subst hkn
          go_wp2_with fail
          go_ret
          refine ⟨ret_bool ?_, hE⟩
          have h := hq.out
          rw [List.take_of_length_le (by rw [Hn.out]; omega), List.take_of_length_le (by rw [← Hl.out]; omega)] at h
          simp [h]
  · have hli : ((la.length : Int) != (lb.length : Int)) = true := by simp; omega
    have hne : la ≠ lb := fun h => hl (by rw [h])
    clear ha hb
    have Hne := hidden hne
    clear hne hl
    obtain ⟨n, hn⟩ : ∃ n, la.length = n := ⟨_, rfl⟩
    obtain ⟨m, hm⟩ : ∃ m, lb.length = m := ⟨_, rfl⟩
    rw [hn, hm] at hli
    rw [hn] at a1 ⊢
    rw [hm] at b1 ⊢
    go_enter Try.func21, Try.ntmps21
    go_wp2_with fail
    go_ret
    exact ⟨ret_bool (by simp [Hne.out]), Ext.refl _⟩

theorem rSame_any (x y x' y' : Int) (va vb : Value) (la lb : List Int) (w : World) (ha : Rd8 w va la) (hb : Rd8 w vb lb) :
    Calls Try.prog 14 #[.agg #[.int .u32 x, .int .u32 y, va], .agg #[.int .u32 x', .int .u32 y', vb]] w fun r w' => r = .returned (.bool (decide (x = x') && decide (y = y') && decide (la = lb))) ∧ Ext w w' := by
  obtain ⟨a, ca, rfl, a1, a2, a3⟩ := Rd.shape ha
  obtain ⟨b, cb, rfl, b1, b2, b3⟩ := Rd.shape hb
  have ha2 : ∀ o, Rd8 (w.alloc o) (.slice a la.length ca) la := fun o => Rd.alloc ha o
  have hb2 : ∀ o, Rd8 (w.alloc o) (.slice b lb.length cb) lb := fun o => Rd.alloc hb o
  go_enter Try.func14, Try.ntmps14
  go_wp2_with fail
  · rename_i e1 e2 _ _
    refine (same_any _ _ la lb _ (Rd.alloc (ha2 _) _) (Rd.alloc (hb2 _) _)).mono ?_
    rintro r w1 ⟨rfl, g1⟩
    go_wp2_with fail
    go_ret
    exact ⟨ret_bool (by simp [e1, e2]), g1.past.past⟩
  · rename_i e1 e2
    go_ret
    exact ⟨ret_bool (by simp [e1, e2]), ((Ext.refl _).alloc _).alloc _⟩
  · rename_i e1
    go_ret
    exact ⟨ret_bool (by simp [e1]), ((Ext.refl _).alloc _).alloc _⟩

theorem rSameDecoder_any (x y x' y' : Int) (va vb : Value) (la lb : List Int) (w : World) (ha : Rd8 w va la) (hb : Rd8 w vb lb) :
    Calls Try.prog 26 #[.agg #[.int .u32 x, .int .u32 y, va], .agg #[.int .u32 x', .int .u32 y', vb]] w fun r w' => r = .returned (.bool (decide (x = x') && decide (y = y') && decide (la = lb))) ∧ Ext w w' := by
  obtain ⟨a, ca, rfl, a1, a2, a3⟩ := Rd.shape ha
  obtain ⟨b, cb, rfl, b1, b2, b3⟩ := Rd.shape hb
  have ha2 : ∀ o, Rd8 (w.alloc o) (.slice a la.length ca) la := fun o => Rd.alloc ha o
  have hb2 : ∀ o, Rd8 (w.alloc o) (.slice b lb.length cb) lb := fun o => Rd.alloc hb o
  go_enter Try.func26, Try.ntmps26
  go_wp2_with fail
  · rename_i e1 e2 _ _
    refine (same_any _ _ la lb _ (Rd.alloc (ha2 _) _) (Rd.alloc (hb2 _) _)).mono ?_
    rintro r w1 ⟨rfl, g1⟩
    go_wp2_with fail
    go_ret
    exact ⟨ret_bool (by simp [e1, e2]), g1.past.past⟩
  · rename_i e1 e2
    go_ret
    exact ⟨ret_bool (by simp [e1, e2]), ((Ext.refl _).alloc _).alloc _⟩
  · rename_i e1
    go_ret
    exact ⟨ret_bool (by simp [e1]), ((Ext.refl _).alloc _).alloc _⟩

end Go.Proofs.Ytnodnfmgklkjeaa
