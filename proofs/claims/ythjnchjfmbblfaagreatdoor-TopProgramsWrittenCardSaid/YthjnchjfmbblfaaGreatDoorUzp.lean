/- slices.Grow of nothing, slices.Concat: of strings. -/
import Derived.Test.YthjnchjfmbblfaaGreatDoorUzo
import Derived.Test.YthjnchjfmbblfaaGreatDoorMz
import Derived.Test.YthjnchjfmbblfaaGreatDoorUx
import Derived.Test.YthjnchjfmbblfaaGreatDoorKs
namespace Go.Proofs.YthjnchjfmbblfaaGreatDoor
open Go.RowKit
set_option linter.unusedVariables false
set_option linter.unusedSimpArgs false
attribute [local go_sem ↓] Go.wp_at_zero Go.wp_at_succ

/-- The cells of several rows, one behind the other, up to a row. -/
def catL (CS : List (List Value)) (k : Nat) : List Value := (CS.take k).flatten
theorem catL_succ (CS : List (List Value)) (k : Nat) (C : List Value) (h : CS[k]? = some C) : catL CS (k + 1) = catL CS k ++ C := by
  unfold catL
  rw [List.take_add_one, h, List.flatten_append]
  simp
theorem catL_all (CS : List (List Value)) (k : Nat) (h : CS.length ≤ k) : catL CS k = CS.flatten := by unfold catL; rw [List.take_of_length_le h]
theorem catL_len (CS : List (List Value)) (k : Nat) : (catL CS k).length ≤ CS.flatten.length := by
  unfold catL
  have h : CS.flatten = (CS.take k).flatten ++ (CS.drop k).flatten := by rw [← List.flatten_append, List.take_append_drop]
  rw [h, List.length_append]
  omega
theorem own_first {w : World} {base g n cap : Nat} {e : TypeId} {xs : List Value} (h : w.ownsRow base e 1 (.slice (some ⟨g, 0, none⟩) n cap) n xs) : w.ownsRow base e 1 (.slice (some ⟨g, 0, none⟩) 0 cap) 0 [] := by
  refine ⟨rfl, ?_⟩
  rcases h.2 with ⟨h1, _⟩ | ⟨g', cap', cur, hv, hb, hg, h1, h2, h3, h4⟩
  · simp at h1
  · simp only [Value.slice.injEq, Option.some.injEq, Addr.mk.injEq, and_true, true_and] at hv
    obtain ⟨rfl, rfl⟩ := hv
    exact Or.inr ⟨g, cap, cur, rfl, hb, hg, Nat.zero_le _, h2, h3, by simp⟩
theorem own_some {w : World} {base n : Nat} {e : TypeId} {v : Value} {xs : List Value} (h : w.ownsRow base e 1 v n xs) (hn : 0 < n) : ∃ g cap, v = .slice (some ⟨g, 0, none⟩) n cap ∧ n ≤ cap := by
  rcases h.2 with ⟨h1, h2⟩ | ⟨g, cap, cur, rfl, hb, hg, h1, _⟩
  · omega
  · exact ⟨g, cap, rfl, h1⟩
/-- Some rows that are read. -/
def RdC (w : World) (vs : List Value) (CS : List (List Value)) : Prop := vs.length = CS.length ∧ ∀ (i : Nat) (v : Value) (C : List Value), vs[i]? = some v → CS[i]? = some C → Rd w 1 v C.length C
theorem RdC.ext {w w' : World} {vs : List Value} {CS : List (List Value)} (h : RdC w vs CS) (k : Ext w w') : RdC w' vs CS := ⟨h.1, fun i v C hv hC => (h.2 i v C hv hC).ext k⟩

set_option maxRecDepth 100000 in
theorem growT_any (m : Nat) (hm : m ≤ 1000000) (w : World) :
    Calls Tryz.prog 41 #[.slice none 0 0, .int .i64 (m : Int)] w fun e w' => ∃ v, e = .returned v ∧ w'.ownsRow w.heap.size 9 1 v 0 [] ∧ Ext w w' := by
  have hnil := hidden (World.ownsRow_nil w w.heap.size 9 1)
  obtain ⟨i0, hi, hz0, hz1, hz2⟩ := info_parts str_info
  have v0 : ¬ (m : Int) < 0 := by omega
  have v1 : IntKind.i64.wrap (m : Int) = (m : Int) := IntWalk.i64_in _ (by omega)
  replace hi := hidden hi
  by_cases h0 : 0 < m
  · have v2 : (0 : Int) < (m : Int) := by omega
    have v2' : 0 < m := h0
    go_enter Tryz.func41, Tryz.ntmps41
    go_upto_region 5 with fail
    go_wp2_with (at_builtin; refine wpList_append_zeros _ (by rfl) _ _ 31 3 (by rfl) w.heap.size 9 i0 (.string ⟨#[]⟩) 16 Tryz.underlying31 Tryz.underlying3 hi.out hz0 hz1 hz2 rfl rfl (.slice none 0 0) 0 [] (by rfl) hnil.out m (by rfl) (by omega) (by omega) (by unfold maxLen; omega) (by omega) (Nat.le_refl _) ?_; intro v2 w2 hown hgrow hat; rw [Nat.zero_add, List.nil_append] at hown; obtain ⟨gg, cv, rfl, hcv⟩ := own_some hown h0; have hcv0 : ¬ cv = 0 := by omega)
    go_ret
    refine ⟨_, rfl, own_first hown, Chg.ext ((Chg.refl [] w).grown hgrow (fun y hy => by simp [Value.ownBlock] at hy))⟩
  · obtain rfl : m = 0 := by omega
    go_enter Tryz.func41, Tryz.ntmps41
    go_wp2_with fail
    go_ret
    exact ⟨_, rfl, World.ownsRow_nil _ _ _ _, Ext.refl _⟩

set_option maxRecDepth 100000 in
set_option maxHeartbeats 1000000 in
theorem concatT_any (v : Value) (vs : List Value) (CS : List (List Value)) (hl : CS.flatten.length ≤ 900000) (hnl : vs.length ≤ 100000) (w : World) (hv : Rd w 1 v vs.length vs) (hC : RdC w vs CS) (h1 : ∀ C ∈ CS, ∀ u ∈ C, u.oneCell' = true) :
    Calls Tryz.prog 18 #[v] w fun e w' => ∃ v', e = .returned v' ∧ w'.ownsRow w.heap.size 9 1 v' CS.flatten.length CS.flatten ∧ Ext w w' := by
  obtain ⟨ad, cap, rfl, q1, q2, q3⟩ := Rd.shape hv
  have hcl := hC.1
  obtain ⟨n, hn⟩ : ∃ n, vs.length = n := ⟨_, rfl⟩
  have hR : Hid (Rd w 1 (.slice ad n cap) n vs) := hidden (by rw [← hn]; exact hv)
  rw [hn] at q1 hnl hcl ⊢
  have hgr := fun m (hm : m ≤ 1000000) W => growT_any m hm W
  have hcel : ∀ k, k < n → ∃ (a : Option Addr) (c : Nat) (C : List Value) (b off : Nat), ad = some ⟨b, off, none⟩ ∧ CS[k]? = some C ∧ (∀ u ∈ C, u.oneCell' = true) ∧ (∀ W, Ext w W → W.cell? ⟨b, off + k, none⟩ = some (.slice a C.length c)) ∧ (∀ W, Ext w W → Rd W 1 (.slice a C.length c) C.length C) := fun k hk => by
    obtain ⟨b, off, rfl, hb, hcell⟩ := hR.out.cells (by omega)
    have e1 : vs[k]? = some vs[k] := List.getElem?_eq_getElem (by omega)
    have e2 : CS[k]? = some CS[k] := List.getElem?_eq_getElem (by omega)
    have hr := hC.2 k _ _ e1 e2
    obtain ⟨a, c, hs, -, -, -⟩ := Rd.shape hr
    have hce := hcell k (by omega)
    rw [List.getD_eq_getElem?_getD, e1] at hce
    rw [hs] at hr
    refine ⟨a, c, CS[k], b, off, rfl, e2, h1 _ (List.getElem_mem _), fun W hW => ?_, fun W hW => hr.ext hW⟩
    have := hW.cell hce
    rw [show (some vs[k]).getD undef = vs[k] from rfl, hs] at this
    exact this
  replace hgr := hidden hgr
  replace hcel := hidden hcel
  replace hcl := hidden hcl
  clear hC h1 hn hv
  obtain ⟨i0, hi, hz0, hz1, hz2⟩ := info_parts str_info
  replace hi := hidden hi
  go_enter Tryz.func18, Tryz.ntmps18
  go_wp2_with fail
  go_loopw [3, 11] (fun u i wr => ∃ (k : Nat), i = .int .i64 (k : Int) ∧ k ≤ n ∧ u = .int .i64 ((catL CS k).length : Int) ∧ wr = w) (fun _ i _ => n - (intOf i).toNat)
  case atStart => exact ⟨0, rfl, by omega, rfl, rfl⟩
  case round =>
    obtain ⟨k, rfl, hk, rfl, hwr⟩ := hrel
    have v1 : IntKind.i64.wrap ((k : Int) + 1) = (k : Int) + 1 := IntWalk.i64_in _ (by omega)
    rw [hwr]
    clear hwr wr
    have hlk := catL_len CS k
    by_cases hlt : k < n
    · have hlt2 : (k : Int) < (n : Int) := by omega
      obtain ⟨a, c, C, b, off, rfl, hCk, h1C, hce, hrd⟩ := hcel.out k hlt
      have cB := hce w (Ext.refl w)
      have hst := catL_succ CS k C hCk
      have hlk2 := catL_len CS (k + 1)
      rw [hst, List.length_append] at hlk2
      have hst2 : (catL CS (k + 1)).length = (catL CS k).length + C.length := by rw [hst, List.length_append]
      obtain ⟨m1, hm1⟩ : ∃ m, (catL CS k).length = m := ⟨_, rfl⟩
      obtain ⟨m2, hm2⟩ : ∃ m, C.length = m := ⟨_, rfl⟩
      rw [hm1] at hst2 hlk2 hlk ⊢
      rw [hm2] at hst2 hlk2 cB
      have v2 : IntKind.i64.wrap ((m1 : Int) + (m2 : Int)) = (m1 : Int) + (m2 : Int) := IntWalk.i64_in _ (by omega)
      have v3 : ¬ (m1 : Int) + (m2 : Int) < 0 := by omega
      have v4 : decide ((m1 : Int) + (m2 : Int) < 0) = false := decide_eq_false (by omega)
      replace hst2 := hidden hst2
      clear hCk h1C hce hrd hst hm1 hm2
      go_wp2_with fail
      go_roundw
      case rel => exact ⟨k + 1, by go_num, by omega, by rw [hst2.out]; rfl, by trivial⟩
      case measure => simp [intOf]; omega
    · have hke : k = n := by omega
      rw [hke, catL_all CS n (by have := hcl.out; omega)]
      clear hlt hlk v1
      have hk9 : decide ((n : Int) < (n : Int)) = false := by simp
      obtain ⟨M, hM⟩ : ∃ M, CS.flatten.length = M := ⟨_, rfl⟩
      rw [hM] at hl ⊢
      have hg1 := hgr.out M (by omega) w
      replace hg1 := hidden hg1
      replace hM := hidden hM
      clear hgr
      go_wp2_with fail
      refine hg1.out.mono ?_
      rintro e w3 ⟨v3, rfl, hO3, hX3⟩
      have hO3' : Hid (w3.ownsRow w.heap.size 9 1 v3 (catL CS 0).length (catL CS 0)) := hidden hO3
      replace hX3 := hidden hX3
      clear hO3 hg1
      go_wp2_with fail
      go_loopw [6, 27] (fun u i wr => ∃ (k : Nat), i = .int .i64 (k : Int) ∧ k ≤ n ∧ Hid (wr.ownsRow w.heap.size 9 1 u (catL CS k).length (catL CS k)) ∧ Hid (Ext w wr)) (fun _ i _ => n - (intOf i).toNat)
      case atStart => exact ⟨0, rfl, by omega, hO3', hX3⟩
      case round =>
        clear hO3' hX3
        obtain ⟨k, rfl, hk, hO, hX⟩ := hrel
        have v1 : IntKind.i64.wrap ((k : Int) + 1) = (k : Int) + 1 := IntWalk.i64_in _ (by omega)
        obtain ⟨w4, hWW⟩ : ∃ X, X = wr := ⟨_, rfl⟩
        subst hWW
        have hlk := catL_len CS k
        rw [hM.out] at hlk
        by_cases hlt : k < n
        · have hlt2 : (k : Int) < (n : Int) := by omega
          obtain ⟨a, c, C, b, off, rfl, hCk, h1C, hce, hrd⟩ := hcel.out k hlt
          have cB := hce w4 hX.out
          have hrd4 := hrd w4 hX.out
          have hst := catL_succ CS k C hCk
          have hlk2 := catL_len CS (k + 1)
          rw [hst, List.length_append, hM.out] at hlk2
          obtain ⟨D, hD⟩ : ∃ D, catL CS k = D := ⟨_, rfl⟩
          rw [hD] at hO hst hlk hlk2
          obtain ⟨av, cv, rfl, s1, s2, -⟩ := own_shape hO.out
          obtain ⟨m1, hm1⟩ : ∃ m, D.length = m := ⟨_, rfl⟩
          obtain ⟨m2, hm2⟩ : ∃ m, C.length = m := ⟨_, rfl⟩
          have hO' : Hid (w4.ownsRow w.heap.size 9 1 (.slice av m1 cv) m1 D) := hidden (by rw [← hm1]; exact hO.out)
          rw [hm1] at s1 hlk hlk2 ⊢
          rw [hm2] at hlk2 cB hrd4
          have hws := hX.out.size
          replace hst := hidden hst
          replace hrd4 := hidden hrd4
          replace hm1 := hidden hm1
          replace hm2 := hidden hm2
          clear hCk hce hrd hD hO
          go_wp2_with (at_builtin; refine wpList_append_rd (by rfl) _ _ 31 (by rfl) w.heap.size 9 i0 (.string ⟨#[]⟩) 1 16 Tryz.underlying31 hi.out hz0 hz1 hz2 rfl (by decide) (.slice av m1 cv) m1 D (by rfl) hO'.out a m2 c C (by rfl) hrd4.out h1C (by unfold maxLen; omega) (by omega) hws ?_; intro v6 w6 hown hgrow hb3)
          have hX6 : Ext w w6 := Chg.ext ((Chg.of_ext [] hX.out).grown hgrow (fun y hy => Or.inr (own_lt hO'.out hy).1))
          exact ⟨⟨k + 1, by go_num, by omega, hidden (by rw [hst.out, List.length_append, hm1.out, hm2.out]; exact hown), hidden hX6⟩, by simp [intOf]; omega⟩
        · have hke : k = n := by omega
          have hO2 := hO.out
          rw [hke, catL_all CS n (by have := hcl.out; omega)] at hO2
          have hk8 : decide ((k : Int) < (n : Int)) = false := decide_eq_false (by omega)
          replace hO2 := hidden hO2
          clear hO
          go_wp2_with fail
          go_ret
          exact ⟨_, rfl, by rw [← hM.out]; exact hO2.out, hX.out⟩
end Go.Proofs.YthjnchjfmbblfaaGreatDoor
