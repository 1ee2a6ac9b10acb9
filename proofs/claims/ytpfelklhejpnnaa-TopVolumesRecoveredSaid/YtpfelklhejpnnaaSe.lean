/- slices.Equal of bytes. -/
import Derived.Test.YtpfelklhejpnnaaHbd
import Derived.Deep.QuietTactic
import Derived.BigQuiet
import Derived.Outline
import Derived.Deep.CutRange
import Derived.Deep.DeepCutAuto
namespace Go.Proofs.Ytpfelklhejpnnaa
open Go.RowKit
set_option linter.unusedVariables false
attribute [local go_sem ↓] Go.wp_at_zero Go.wp_at_succ

theorem rd_at {w : World} {b off n cap sz : Nat} {cs : List Value} (h : Rd w sz (.slice (some ⟨b, off, none⟩) n cap) n cs) (j : Nat) (v : Value) (hv : cs[j]? = some v) : w.cell? ⟨b, off + j, none⟩ = some v := by
  have := h.news j v hv
  rwa [show (⟨b, off, none⟩ : Addr).add j = ⟨b, off + j, none⟩ by simp [Addr.add]] at this
theorem take_snoc' {α : Type} {l : List α} {k : Nat} {a : α} (h : l[k]? = some a) : l.take (k + 1) = l.take k ++ [a] := by
  rw [List.take_add_one, h]; rfl
theorem eq8_any (va vb : Value) (la lb : List Int) (w : World) (ha : Rd w 1 va la.length (la.map (Value.int .u8))) (hb : Rd w 1 vb lb.length (lb.map (Value.int .u8))) :
    Calls Try.prog 66 #[va, vb] w fun x w' => x = .returned (.bool (decide (la = lb))) ∧ Ext w w' := by
  obtain ⟨a, ca, rfl, a1, a2, a3⟩ := Rd.shape ha
  obtain ⟨b, cb, rfl, b1, b2, b3⟩ := Rd.shape hb
  by_cases hl : la.length = lb.length
  · obtain ⟨n, hn⟩ : ∃ n, la.length = n := ⟨_, rfl⟩
    rw [hn] at hl a1 ha ⊢
    rw [← hl]
    rw [← hl] at b1 hb
    have HA := hidden ha
    have HB := hidden hb
    have Hn := hidden hn
    have Hl := hidden hl
    clear ha hb hn hl
    by_cases h0 : n = 0
    · subst h0
      go_enter Try.func66, Try.ntmps66
      go_wp2_with fail
      refine wp_loop_rounds 1 ?_
      rw [rounds_succ]
      go_wp2_with fail
      go_ret
      refine ⟨ret_bool ?_, Ext.refl _⟩
      rw [List.eq_nil_of_length_eq_zero Hn.out, List.eq_nil_of_length_eq_zero Hl.out.symm]
      rfl
    · obtain ⟨p, oa, rfl, -, -⟩ := Rd.cells (cs := la.map (Value.int .u8)) (w := w) (sz := 1) HA.out (show 0 < n by omega)
      obtain ⟨q, ob, rfl, -, -⟩ := Rd.cells (cs := lb.map (Value.int .u8)) (w := w) (sz := 1) HB.out (show 0 < n by omega)
      go_enter Try.func66, Try.ntmps66
      go_wp2_with fail
      go_loopw [13] (fun i wr => ∃ k : Nat, k ≤ n ∧ i = .int .i64 (k : Int) ∧ Hid (la.take k = lb.take k) ∧ Ext w wr) (fun i _ => (n - intOf i).toNat)
      case atStart => exact ⟨0, by omega, rfl, rfl, Ext.refl _⟩
      case round =>
        obtain ⟨k, hk, rfl, hq, hE⟩ := hrel
        by_cases hlt : k < n
        · have hlt' : (k : Int) < (n : Int) := by omega
          have e1 := Hn.out
          have e2 := Hl.out
          obtain ⟨x, hxe⟩ : ∃ x, la[k]? = some x := ⟨_, List.getElem?_eq_getElem (by omega)⟩
          obtain ⟨y, hye⟩ : ∃ y, lb[k]? = some y := ⟨_, List.getElem?_eq_getElem (by omega)⟩
          have hx' := hE.cell (rd_at HA.out k (.int .u8 x) (by rw [List.getElem?_map, hxe]; rfl))
          have hy' := hE.cell (rd_at HB.out k (.int .u8 y) (by rw [List.getElem?_map, hye]; rfl))
          have Hx := hidden hxe
          have Hy := hidden hye
          have hkw : IntKind.i64.wrap ((k : Int) + 1) = (k : Int) + 1 := IntWalk.i64_in _ (by omega)
          clear hxe hye e1 e2
          go_upto_region 6 with fail
          go_quiet (fail)
          by_cases hxy : x = y
          · have hxy' : (x != y) = false := by simp [hxy]
            have hq2 : Hid (la.take (k + 1) = lb.take (k + 1)) := by
              show la.take (k + 1) = lb.take (k + 1)
              rw [take_snoc' Hx.out, take_snoc' Hy.out, hq.out, hxy]
            clear hxy
            go_wp2_with fail
            go_roundw
            case rel => exact ⟨k + 1, by omega, by go_num, hq2, ((Chg.of_ext [] hE).drewN _).ext⟩
            case measure => simp [intOf]; omega
          · have hxy' : (x != y) = true := by simp [hxy]
            have hq2 : Hid (la ≠ lb) := by
              intro h
              apply hxy
              have h1 := Hx.out
              rw [h, Hy.out] at h1
              exact (Option.some.inj h1).symm
            clear hxy
            go_wp2_with fail
            go_ret
            exact ⟨ret_bool (by simp [hq2.out]), ((Chg.of_ext [] hE).drewN _).ext⟩
        · have hkn : k = n := by omega
          subst hkn
          go_wp2_with fail
          go_ret
          refine ⟨ret_bool ?_, hE⟩
          have h := hq.out
          rw [List.take_of_length_le (by rw [Hn.out]; omega), List.take_of_length_le (by rw [← Hl.out]; omega)] at h
          simp [h]
  · have hli : ((la.length : Int) != (lb.length : Int)) = true := by simp; omega
    have hne : la ≠ lb := fun h => hl (by rw [h])
    clear ha hb
    have Hne := hidden hne
    clear hne hl
    obtain ⟨n, hn⟩ : ∃ n, la.length = n := ⟨_, rfl⟩
    obtain ⟨m, hm⟩ : ∃ m, lb.length = m := ⟨_, rfl⟩
    rw [hn, hm] at hli
    rw [hn] at a1 ⊢
    rw [hm] at b1 ⊢
    go_enter Try.func66, Try.ntmps66
    go_wp2_with fail
    go_ret
    exact ⟨ret_bool (by simp [Hne.out]), Ext.refl _⟩
end Go.Proofs.Ytpfelklhejpnnaa

/- Same of the reference of layer 3. -/
namespace Go.Proofs.Ytpfelklhejpnnaa
open Go.RowKit
set_option linter.unusedVariables false
attribute [local go_sem ↓] Go.wp_at_zero Go.wp_at_succ

theorem Rd8.base {w : World} {a : Option Addr} {n cap : Nat} {l : List Int} (h : Rd8 w (.slice a n cap) l) (hn : 0 < l.length) : ∃ b off, a = Option.some ⟨b, off, none⟩ := by
  obtain ⟨b, off, e, _⟩ := Rd8.some h hn
  exact ⟨b, off, e⟩

theorem rsame_any (va vb : Value) (la lb : List Int) (w : World) (ha : Rd8 w va la) (hb : Rd8 w vb lb) :
    Calls Try.prog 47 #[va, vb] w fun x w' => x = .returned (.bool (decide (la = lb))) ∧ Ext w w' := by
  obtain ⟨a, ca, rfl, a1, a2, a3⟩ := Rd.shape ha
  obtain ⟨b, cb, rfl, b1, b2, b3⟩ := Rd.shape hb
  by_cases hl : la.length = lb.length
  · obtain ⟨n, hn⟩ : ∃ n, la.length = n := ⟨_, rfl⟩
    rw [hn] at hl a1 ⊢
    rw [← hl]
    rw [← hl] at b1
    have HA := hidden ha
    have HB := hidden hb
    have Hn := hidden hn
    have Hl := hidden hl
    clear ha hb hn hl
    by_cases h0 : n = 0
    · subst h0
      go_enter Try.func47, Try.ntmps47
      go_wp2_with fail
      refine wp_loop_rounds 1 ?_
      rw [rounds_succ]
      go_wp2_with fail
      go_ret
      refine ⟨ret_bool ?_, Ext.refl _⟩
      rw [List.eq_nil_of_length_eq_zero Hn.out, List.eq_nil_of_length_eq_zero Hl.out.symm]
      rfl
    · have ha := HA.out
      have hb := HB.out
      have e1 := Hn.out
      have e2 := Hl.out
      obtain ⟨p, oa, rfl⟩ := Rd8.base ha (by omega)
      obtain ⟨q, ob, rfl⟩ := Rd8.base hb (by omega)
      clear ha hb e1 e2
      go_enter Try.func47, Try.ntmps47
      go_wp2_with fail
      go_loopw [5] (fun i wr => ∃ k : Nat, k ≤ n ∧ i = .int .i64 (k : Int) ∧ Hid (la.take k = lb.take k) ∧ Ext w wr) (fun i _ => (n - intOf i).toNat)
      case atStart => exact ⟨0, by omega, rfl, rfl, Ext.refl _⟩
      case round =>
        obtain ⟨k, hk, rfl, hq, hE⟩ := hrel
        by_cases hlt : k < n
        · have hlt' : (k : Int) < (n : Int) := by omega
          have e1 := Hn.out
          have e2 := Hl.out
          have hx := Rd8.at HA.out k (by omega)
          have hy := Rd8.at HB.out k (by omega)
          obtain ⟨x, hxe⟩ : ∃ x, la.getD k 0 = x := ⟨_, rfl⟩
          obtain ⟨y, hye⟩ : ∃ y, lb.getD k 0 = y := ⟨_, rfl⟩
          rw [hxe] at hx
          rw [hye] at hy
          have hx' := hE.cell hx
          have hy' := hE.cell hy
          have Hx := hidden hxe
          have Hy := hidden hye
          clear hx hy hxe hye e1 e2
          go_upto_region 6 with fail
          go_quiet (fail)
          by_cases hxy : x = y
          · have hxy' : (x != y) = false := by simp [hxy]
            have hq2 : Hid (la.take (k + 1) = lb.take (k + 1)) := by
              have h := hq.out
              have e1 := Hn.out
              have e2 := Hl.out
              have k1 : k < la.length := by omega
              have k2 : k < lb.length := by omega
              have f1 := Hx.out
              have f2 := Hy.out
              simp only [List.getD, k1, k2, List.getElem?_eq_getElem, Option.getD_some] at f1 f2
              show la.take (k + 1) = lb.take (k + 1)
              rw [List.take_succ_eq_append_getElem k1, List.take_succ_eq_append_getElem k2, h, f1, f2, hxy]
            clear hxy
            go_wp2_with fail
            go_roundw
            case rel => exact ⟨k + 1, by omega, by go_num, hq2, ((Chg.of_ext [] hE).drewN _).ext⟩
            case measure => simp [intOf]; omega
          · have hxy' : (x != y) = true := by simp [hxy]
            have hq2 : Hid (la ≠ lb) := by
              intro h
              apply hxy
              rw [← Hx.out, ← Hy.out, h]
            clear hxy
            go_wp2_with fail
            go_ret
            exact ⟨ret_bool (by simp [hq2.out]), ((Chg.of_ext [] hE).drewN _).ext⟩
        · have hkn : k = n := by omega
          subst hkn
          go_wp2_with fail
          go_ret
          refine ⟨ret_bool ?_, hE⟩
          have h := hq.out
          rw [List.take_of_length_le (by rw [Hn.out]; omega), List.take_of_length_le (by rw [← Hl.out]; omega)] at h
          simp [h]
  · have hli : ((la.length : Int) != (lb.length : Int)) = true := by simp; omega
    have hne : la ≠ lb := fun h => hl (by rw [h])
    clear ha hb
    have Hne := hidden hne
    clear hne hl
    obtain ⟨n, hn⟩ : ∃ n, la.length = n := ⟨_, rfl⟩
    obtain ⟨m, hm⟩ : ∃ m, lb.length = m := ⟨_, rfl⟩
    rw [hn, hm] at hli
    rw [hn] at a1 ⊢
    rw [hm] at b1 ⊢
    go_enter Try.func47, Try.ntmps47
    go_wp2_with fail
    go_ret
    exact ⟨ret_bool (by simp [Hne.out]), Ext.refl _⟩

end Go.Proofs.Ytpfelklhejpnnaa
