/- The law CoderShort: the walk. -/
import Derived.Test.YtnodnfmgklkjeaaDf
namespace Go.Proofs.Ytnodnfmgklkjeaa
open Go.RowKit
set_option linter.unusedVariables false
attribute [local go_sem ↓] Go.wp_at_zero Go.wp_at_succ

set_option maxHeartbeats 2000000 in
theorem CoderShort_law (v : Value) (l : List (Bool × Int)) (hu : U16 l) (w : World) (h : RdS w v l) :
    Calls Try.prog 10 #[v] w fun x w' => x = .returned (.bool true) ∧ Ext w w' := by
  obtain ⟨a, cap, rfl, h1, h2, h3⟩ := Rd.shape h
  by_cases hlen : 600 < l.length
  · have hlt : (600 : Int) < (l.length : Int) := by omega
    go_enter Try.func10, Try.ntmps10
    go_wp2_with fail
    refine (awake_any _).mono ?_
    rintro e w1 ⟨rfl, g1⟩
    go_wp2_with fail
    go_ret
    exact ⟨rfl, g1⟩
  · have hlt : ¬ (600 : Int) < (l.length : Int) := by omega
    have hl : l.length ≤ 10000 := by omega
    have hcl := codeOf_len l
    go_enter Try.func10, Try.ntmps10
    go_wp2_with fail
    refine (code_any _ l hu hl _ h).mono ?_
    rintro e w1 ⟨a1, k1, rfl, hR1, g1⟩
    go_wp2_with fail
    go_loopw [5, 6] (fun s5 i wr => ∃ (k : Nat), k ≤ l.length ∧ i = .int .i64 k ∧ s5 = .int .i64 ((l.length : Int) + 10240 + costs l k) ∧ Ext w wr) (fun _ i _ => (l.length - intOf i).toNat)
    case atStart => exact ⟨0, by omega, rfl, by simp [costs], g1⟩
    case round =>
      obtain ⟨k, hk, rfl, rfl, hE⟩ := hrel
      have hcb := costs_bd l k
      by_cases hlt : k < l.length
      · have hlt' : (k : Int) < (l.length : Int) := by omega
        obtain ⟨pb, po, rfl⟩ : ∃ b off, a = some ⟨b, off, none⟩ := by
          obtain ⟨_, a', cap', h2, _, _, _, h6⟩ := h
          simp only [Value.slice.injEq] at h2
          obtain ⟨rfl, -, -⟩ := h2
          obtain ⟨b', off', e, -, -⟩ := h6 (by omega)
          exact ⟨b', off', e⟩
        obtain ⟨x1, x2⟩ := RdS.at h k hlt
        have hxu : 0 ≤ (l.getD k (false, 0)).2 ∧ (l.getD k (false, 0)).2 ≤ 65535 := by
          simp only [List.getD, hlt, List.getElem?_eq_getElem, Option.getD_some]
          exact hu _ (List.getElem_mem hlt)
        have hst := step_ok (l.getD k (false, 0))
        have hnext : costs l (k + 1) = costs l k + cst (pOf (l.getD k (false, 0))) (bitOf (l.getD k (false, 0))) := rfl
        obtain ⟨x, hx⟩ : ∃ x, l.getD k (false, 0) = x := ⟨_, rfl⟩
        rw [hx] at x1 x2 hxu hst hnext
        have hcx := cst_bd (pOf x) (bitOf x) hst.2.1 hst.2.2 hst.1
        obtain ⟨cx, hcx'⟩ : ∃ c, cst (pOf x) (bitOf x) = c := ⟨_, rfl⟩
        rw [hcx'] at hcx hnext
        obtain ⟨cx0, cx1⟩ := hcx
        have hcx := hidden hcx'
        obtain ⟨ck, hck⟩ : ∃ c, costs l k = c := ⟨_, rfl⟩
        rw [hck] at hcb hnext ⊢
        obtain ⟨cb0, cb1⟩ := hcb
        have y1 := hE.cell x1
        have y2 := hE.cell x2
        obtain ⟨u0, u1⟩ := hxu
        have hw1 : IntKind.i64.wrap ((l.length : Int) + 10240 + ck + cx) = (l.length : Int) + 10240 + ck + cx := IntWalk.i64_in _ (by omega)
        have hnext := hidden hnext
        clear hcx' hck hx hst
        go_upto_region 8 with fail
        go_region_held3 (fun w' => w'.cell? ⟨pb, po + k * 2, none⟩ = some (.bool x.1) ∧ w'.cell? ⟨pb, po + k * 2 + 1, none⟩ = some (.int .u16 x.2)) (go_keep)
          (first | (go_at_call 30; refine (p_any x u0 u1 _).mono ?_; rintro e w5 ⟨rfl, g5⟩; have gX : Ext wr w5 := (by first | exact Ext.trans gX g5 | exact (Ext.trans gX g5.past) | exact g5.past_drew | exact g5.past_drew.past | exact g5); have j0 : w5.cell? ⟨pb, po + k * 2, none⟩ = some (.bool x.1) := gX.cell y1; have j1 : w5.cell? ⟨pb, po + k * 2 + 1, none⟩ = some (.int .u16 x.2) := gX.cell y2) | (go_at_call 31; refine (bit_any x _).mono ?_; rintro e w5 ⟨rfl, g5⟩; have gX : Ext wr w5 := (by first | exact Ext.trans gX g5 | exact (Ext.trans gX g5.past) | exact g5.past_drew | exact g5.past_drew.past | exact g5); have j0 : w5.cell? ⟨pb, po + k * 2, none⟩ = some (.bool x.1) := gX.cell y1; have j1 : w5.cell? ⟨pb, po + k * 2 + 1, none⟩ = some (.int .u16 x.2) := gX.cell y2) | (go_at_call 34; refine (cost_any (pOf x) (bitOf x) _).mono ?_; rw [hcx.out]; rintro e w5 ⟨rfl, g5⟩; have gX : Ext wr w5 := (by first | exact Ext.trans gX g5 | exact (Ext.trans gX g5.past) | exact g5.past_drew | exact g5.past_drew.past | exact g5); have j0 : w5.cell? ⟨pb, po + k * 2, none⟩ = some (.bool x.1) := gX.cell y1; have j1 : w5.cell? ⟨pb, po + k * 2 + 1, none⟩ = some (.int .u16 x.2) := gX.cell y2))
        all_goals
          clear hw1
          go_wp2_with fail
          go_roundw
          case rel => exact ⟨k + 1, by omega, by go_num, by rw [hnext.out]; go_num, hE.trans gX⟩
          case measure => simp [intOf]; omega
      · obtain rfl : k = l.length := by omega
        have hs := short l
        obtain ⟨ck, hck⟩ : ∃ c, costs l l.length = c := ⟨_, rfl⟩
        rw [hck] at hcb hs ⊢
        clear hck
        have hge : (2048 : Int) * ((codeOf l).length : Int) ≤ (l.length : Int) + 10240 + ck := by omega
        obtain ⟨cb0, cb1⟩ := hcb
        go_wp2_with fail
        refine (awake_any _).mono ?_
        rintro e w5 ⟨rfl, g5⟩
        go_wp2_with fail
        go_ret
        exact ⟨rfl, hE.trans g5⟩

end Go.Proofs.Ytnodnfmgklkjeaa
