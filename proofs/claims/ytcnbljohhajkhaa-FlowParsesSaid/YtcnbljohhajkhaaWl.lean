/- Layer 18: equal trees are the same. -/
import Derived.Test.YtcnbljohhajkhaaWk
namespace Go.Proofs.Ytcnbljohhajkhaa
open Go.RowKit
set_option linter.unusedVariables false
set_option linter.unusedSimpArgs false
attribute [local go_sem ↓] Go.wp_at_zero Go.wp_at_succ

def SmOK (t : T) : Prop := ∀ (w : World) (Q Q' : Nat → Prop) (v v' : Value), SubAt w Q v t → SubAt w Q' v' t → Calls Try.prog 13 #[v, v'] w fun x w' => x = .returned (.bool true) ∧ Ext w w'
set_option maxHeartbeats 2000000 in
set_option maxRecDepth 100000 in
theorem same_any (t : T) (ih : ∀ t', nodes t' < nodes t → SmOK t') : SmOK t := by
  intro w Q Q' v v' hv hu
  have hv' := hidden hv
  have hu' := hidden hu
  obtain ⟨ct, hrt, -, -⟩ := hv
  obtain ⟨cu, hru, -, -⟩ := hu
  obtain ⟨av, cpa, rfl, hcpt, hcp2, -⟩ := Rd.shape hrt
  obtain ⟨au, cpb, rfl, hcpu, hcp3, -⟩ := Rd.shape hru
  obtain ⟨n, hn⟩ : ∃ n, t.len = n := ⟨_, rfl⟩
  rw [hn] at hv' hu' hcpt hcpu ⊢
  replace hn := hidden hn
  replace ih := hidden ih
  clear hrt hru
  go_enter Try.func13, Try.ntmps13
  go_wp2_with fail
  go_loopw [5] (fun ix wr => ∃ (k : Nat) (t1 t2 : T), k ≤ n ∧ ix = .int .i64 (k : Int) ∧ Hid (t = t1.app t2) ∧ Hid (t1.len = k) ∧ Hid (Ext w wr)) (fun ix _ => (n - intOf ix).toNat)
  case atStart => exact ⟨0, .nil, t, by omega, rfl, rfl, rfl, Ext.refl w⟩
  case round =>
    obtain ⟨k, t1, t2, hk, rfl, ht, hk1, hX⟩ := hrel
    obtain ⟨W, hWW⟩ : ∃ Z, Z = wr := ⟨_, rfl⟩
    subst hWW
    by_cases hlt : k < n
    · have hlt' : (k : Int) < (n : Int) := by omega
      obtain ⟨op, f, u, b, o, r, rfl⟩ : ∃ op f tt b o r, t2 = .cons op f tt b o r := by
        cases t2 with
        | nil => have h1 := hn.out; rw [ht.out, T.app_nil, hk1.out] at h1; omega
        | cons op f tt b o r => exact ⟨_, _, _, _, _, _, rfl⟩
      obtain ⟨pa, poa, cp, xb, xo, hve, hbS, hoS, -, g0, g1, g2, g3, g4⟩ := fr_at (hv'.out.chg (Chg.of_ext [] hX.out) (by simp) (fun _ _ h => h)) ht.out
      simp only [Value.slice.injEq] at hve
      obtain ⟨rfl, -, rfl⟩ := hve
      rw [hk1.out] at g0 g1 g2 g3 g4
      obtain ⟨pb, pob, cp, yb, yo, hve, hbT, hoT, -, k0, k1, k2, k3, k4⟩ := fr_at (hu'.out.chg (Chg.of_ext [] hX.out) (by simp) (fun _ _ h => h)) ht.out
      simp only [Value.slice.injEq] at hve
      obtain ⟨rfl, -, rfl⟩ := hve
      rw [hk1.out] at k0 k1 k2 k3 k4
      obtain ⟨ab, cab, rfl, -⟩ := Rd.shape hbS.choose_spec.1
      obtain ⟨ao, cao, rfl, -⟩ := Rd.shape hoS.choose_spec.1
      obtain ⟨bb, cbb, rfl, -⟩ := Rd.shape hbT.choose_spec.1
      obtain ⟨bo, cbo, rfl, -⟩ := Rd.shape hoT.choose_spec.1
      have HT : Hid (t = (t1.app (.cons op f u b o .nil)).app r) := by show _ = _; rw [ht.out, T.app_assoc]; rfl
      have HK : Hid ((t1.app (.cons op f u b o .nil)).len = k + 1) := by show _ = _; rw [T.len_app, hk1.out]; rfl
      have hkw : IntKind.i64.wrap ((k : Int) + 1) = (k : Int) + 1 := IntWalk.i64_in _ (by omega)
      obtain ⟨S0, hS0⟩ : ∃ S0 : World → Prop, S0 = fun W' => (W'.cell? ⟨pa, poa + k * 5, none⟩ = some (.int .i64 op) ∧ W'.cell? ⟨pa, poa + k * 5 + 1, none⟩ = some (.int .i64 f) ∧ W'.cell? ⟨pa, poa + k * 5 + 2, none⟩ = some (.int .i64 u) ∧ W'.cell? ⟨pa, poa + k * 5 + 3, none⟩ = some (.slice ab b.len cab) ∧ W'.cell? ⟨pa, poa + k * 5 + 4, none⟩ = some (.slice ao o.len cao)) ∧
        W'.cell? ⟨pb, pob + k * 5, none⟩ = some (.int .i64 op) ∧ W'.cell? ⟨pb, pob + k * 5 + 1, none⟩ = some (.int .i64 f) ∧ W'.cell? ⟨pb, pob + k * 5 + 2, none⟩ = some (.int .i64 u) ∧ W'.cell? ⟨pb, pob + k * 5 + 3, none⟩ = some (.slice bb b.len cbb) ∧ W'.cell? ⟨pb, pob + k * 5 + 4, none⟩ = some (.slice bo o.len cbo) := ⟨_, rfl⟩
      have HSi : ∀ W', Ext W W' → S0 W' := fun W' X => by rw [hS0]; exact ⟨⟨X.cell g0, X.cell g1, X.cell g2, X.cell g3, X.cell g4⟩, X.cell k0, X.cell k1, X.cell k2, X.cell k3, X.cell k4⟩
      have hcb := fun W' (X : Ext W W') => ih.out b (by rw [ht.out, nodes_app]; simp only [nodes]; omega) W' Q Q' _ _ (hbS.chg (Chg.of_ext [] X) (by simp) (fun _ _ h => h)) (hbT.chg (Chg.of_ext [] X) (by simp) (fun _ _ h => h))
      have hco := fun W' (X : Ext W W') => ih.out o (by rw [ht.out, nodes_app]; simp only [nodes]; omega) W' Q Q' _ _ (hoS.chg (Chg.of_ext [] X) (by simp) (fun _ _ h => h)) (hoT.chg (Chg.of_ext [] X) (by simp) (fun _ _ h => h))
      replace hcb := hidden hcb
      replace hco := hidden hco
      replace HSi := hidden HSi
      have hSo := hidden (fun (W' : World) (h : S0 W') => by rw [hS0] at h; exact h : ∀ W', S0 W' → (_ ∧ _ ∧ _ ∧ _ ∧ _) ∧ _ ∧ _ ∧ _ ∧ _ ∧ _)
      replace hS0 := hidden hS0
      clear hbS hoS hbT hoT g0 g1 g2 g3 g4 k0 k1 k2 k3 k4
      go_upto_region 6 with fail
      refine wp_region_held_drew (S := S0) (by kernel_rfl) (HSi.out _ (Ext.refl _).drew) (fun HS => ?_)
      refine takeH 0 (.slice (some ⟨pa, poa, none⟩) n cpa) rfl rfl (by kernel_rfl) (by kernel_rfl) (by kernel_rfl) (fun _ _ _ h => h) (by rfl) (fun w' hw' => by go_simp) HS ?_
      simp only [List.setIfInBounds_toArray, List.set_cons_zero, List.set_cons_succ]
      refine takeH 1 (.int .i64 (k : Int)) rfl rfl (by kernel_rfl) (by kernel_rfl) (by kernel_rfl) (fun _ _ _ h => h) (by rfl) (fun w' hw' => by go_simp) HS ?_
      simp only [List.setIfInBounds_toArray, List.set_cons_zero, List.set_cons_succ]
      refine takeH 2 (.pointer (some ⟨pa, poa + k * 5, none⟩)) rfl rfl (by kernel_rfl) (by kernel_rfl) (by kernel_rfl) (fun _ _ _ h => h) (by rfl) (fun w' hw' => by go_simp) HS ?_
      simp only [List.setIfInBounds_toArray, List.set_cons_zero, List.set_cons_succ]
      refine takeH 3 (.pointer (some ⟨pa, poa + k * 5, none⟩)) rfl rfl (by kernel_rfl) (by kernel_rfl) (by kernel_rfl) (fun _ _ _ h => h) (by rfl) (fun w' hw' => by go_simp) HS ?_
      simp only [List.setIfInBounds_toArray, List.set_cons_zero, List.set_cons_succ]
      refine takeH 4 (.int .i64 op) rfl rfl (by kernel_rfl) (by kernel_rfl) (by kernel_rfl) (fun _ _ _ h => h) (by rfl) (fun w' hw' => by obtain ⟨⟨y0, y1, y2, y3, y4⟩, z0, z1, z2, z3, z4⟩ := hSo.out w' hw'; go_simp) HS ?_
      simp only [List.setIfInBounds_toArray, List.set_cons_zero, List.set_cons_succ]
      refine takeH 5 (.slice (some ⟨pb, pob, none⟩) n cpb) rfl rfl (by kernel_rfl) (by kernel_rfl) (by kernel_rfl) (fun _ _ _ h => h) (by rfl) (fun w' hw' => by go_simp) HS ?_
      simp only [List.setIfInBounds_toArray, List.set_cons_zero, List.set_cons_succ]
      refine takeH 6 (.int .i64 (k : Int)) rfl rfl (by kernel_rfl) (by kernel_rfl) (by kernel_rfl) (fun _ _ _ h => h) (by rfl) (fun w' hw' => by go_simp) HS ?_
      simp only [List.setIfInBounds_toArray, List.set_cons_zero, List.set_cons_succ]
      refine takeH 7 (.pointer (some ⟨pb, pob + k * 5, none⟩)) rfl rfl (by kernel_rfl) (by kernel_rfl) (by kernel_rfl) (fun _ _ _ h => h) (by rfl) (fun w' hw' => by go_simp) HS ?_
      simp only [List.setIfInBounds_toArray, List.set_cons_zero, List.set_cons_succ]
      refine takeH 8 (.pointer (some ⟨pb, pob + k * 5, none⟩)) rfl rfl (by kernel_rfl) (by kernel_rfl) (by kernel_rfl) (fun _ _ _ h => h) (by rfl) (fun w' hw' => by go_simp) HS ?_
      simp only [List.setIfInBounds_toArray, List.set_cons_zero, List.set_cons_succ]
      refine takeH 9 (.int .i64 op) rfl rfl (by kernel_rfl) (by kernel_rfl) (by kernel_rfl) (fun _ _ _ h => h) (by rfl) (fun w' hw' => by obtain ⟨⟨y0, y1, y2, y3, y4⟩, z0, z1, z2, z3, z4⟩ := hSo.out w' hw'; go_simp) HS ?_
      simp only [List.setIfInBounds_toArray, List.set_cons_zero, List.set_cons_succ]
      refine takeH 10 (.bool false) rfl rfl (by kernel_rfl) (by kernel_rfl) (by kernel_rfl) (fun _ _ _ h => h) (by rfl) (fun w' hw' => by go_simp) HS ?_
      simp only [List.setIfInBounds_toArray, List.set_cons_zero, List.set_cons_succ]
      refine takeH 11 (.bool false) rfl rfl (by kernel_rfl) (by kernel_rfl) (by kernel_rfl) (fun _ _ _ h => h) (by rfl) (fun w' hw' => by go_simp) HS ?_
      simp only [List.setIfInBounds_toArray, List.set_cons_zero, List.set_cons_succ]
      refine takeH 12 (.slice (some ⟨pa, poa, none⟩) n cpa) rfl rfl (by kernel_rfl) (by kernel_rfl) (by kernel_rfl) (fun _ _ _ h => h) (by rfl) (fun w' hw' => by go_simp) HS ?_
      simp only [List.setIfInBounds_toArray, List.set_cons_zero, List.set_cons_succ]
      refine takeH 13 (.int .i64 (k : Int)) rfl rfl (by kernel_rfl) (by kernel_rfl) (by kernel_rfl) (fun _ _ _ h => h) (by rfl) (fun w' hw' => by go_simp) HS ?_
      simp only [List.setIfInBounds_toArray, List.set_cons_zero, List.set_cons_succ]
      refine takeH 14 (.pointer (some ⟨pa, poa + k * 5, none⟩)) rfl rfl (by kernel_rfl) (by kernel_rfl) (by kernel_rfl) (fun _ _ _ h => h) (by rfl) (fun w' hw' => by go_simp) HS ?_
      simp only [List.setIfInBounds_toArray, List.set_cons_zero, List.set_cons_succ]
      refine takeH 15 (.pointer (some ⟨pa, poa + k * 5 + 1, none⟩)) rfl rfl (by kernel_rfl) (by kernel_rfl) (by kernel_rfl) (fun _ _ _ h => h) (by rfl) (fun w' hw' => by go_simp) HS ?_
      simp only [List.setIfInBounds_toArray, List.set_cons_zero, List.set_cons_succ]
      refine takeH 16 (.int .i64 f) rfl rfl (by kernel_rfl) (by kernel_rfl) (by kernel_rfl) (fun _ _ _ h => h) (by rfl) (fun w' hw' => by obtain ⟨⟨y0, y1, y2, y3, y4⟩, z0, z1, z2, z3, z4⟩ := hSo.out w' hw'; go_simp) HS ?_
      simp only [List.setIfInBounds_toArray, List.set_cons_zero, List.set_cons_succ]
      refine takeH 17 (.slice (some ⟨pb, pob, none⟩) n cpb) rfl rfl (by kernel_rfl) (by kernel_rfl) (by kernel_rfl) (fun _ _ _ h => h) (by rfl) (fun w' hw' => by go_simp) HS ?_
      simp only [List.setIfInBounds_toArray, List.set_cons_zero, List.set_cons_succ]
      refine takeH 18 (.int .i64 (k : Int)) rfl rfl (by kernel_rfl) (by kernel_rfl) (by kernel_rfl) (fun _ _ _ h => h) (by rfl) (fun w' hw' => by go_simp) HS ?_
      simp only [List.setIfInBounds_toArray, List.set_cons_zero, List.set_cons_succ]
      refine takeH 19 (.pointer (some ⟨pb, pob + k * 5, none⟩)) rfl rfl (by kernel_rfl) (by kernel_rfl) (by kernel_rfl) (fun _ _ _ h => h) (by rfl) (fun w' hw' => by go_simp) HS ?_
      simp only [List.setIfInBounds_toArray, List.set_cons_zero, List.set_cons_succ]
      refine takeH 20 (.pointer (some ⟨pb, pob + k * 5 + 1, none⟩)) rfl rfl (by kernel_rfl) (by kernel_rfl) (by kernel_rfl) (fun _ _ _ h => h) (by rfl) (fun w' hw' => by go_simp) HS ?_
      simp only [List.setIfInBounds_toArray, List.set_cons_zero, List.set_cons_succ]
      refine takeH 21 (.int .i64 f) rfl rfl (by kernel_rfl) (by kernel_rfl) (by kernel_rfl) (fun _ _ _ h => h) (by rfl) (fun w' hw' => by obtain ⟨⟨y0, y1, y2, y3, y4⟩, z0, z1, z2, z3, z4⟩ := hSo.out w' hw'; go_simp) HS ?_
      simp only [List.setIfInBounds_toArray, List.set_cons_zero, List.set_cons_succ]
      refine takeH 22 (.bool false) rfl rfl (by kernel_rfl) (by kernel_rfl) (by kernel_rfl) (fun _ _ _ h => h) (by rfl) (fun w' hw' => by go_simp) HS ?_
      simp only [List.setIfInBounds_toArray, List.set_cons_zero, List.set_cons_succ]
      refine takeH 23 (.bool false) rfl rfl (by kernel_rfl) (by kernel_rfl) (by kernel_rfl) (fun _ _ _ h => h) (by rfl) (fun w' hw' => by go_simp) HS ?_
      simp only [List.setIfInBounds_toArray, List.set_cons_zero, List.set_cons_succ]
      refine takeH 24 (.bool false) rfl rfl (by kernel_rfl) (by kernel_rfl) (by kernel_rfl) (fun _ _ _ h => h) (by rfl) (fun w' hw' => by go_simp) HS ?_
      simp only [List.setIfInBounds_toArray, List.set_cons_zero, List.set_cons_succ]
      refine takeH 25 (.slice (some ⟨pa, poa, none⟩) n cpa) rfl rfl (by kernel_rfl) (by kernel_rfl) (by kernel_rfl) (fun _ _ _ h => h) (by rfl) (fun w' hw' => by go_simp) HS ?_
      simp only [List.setIfInBounds_toArray, List.set_cons_zero, List.set_cons_succ]
      refine takeH 26 (.int .i64 (k : Int)) rfl rfl (by kernel_rfl) (by kernel_rfl) (by kernel_rfl) (fun _ _ _ h => h) (by rfl) (fun w' hw' => by go_simp) HS ?_
      simp only [List.setIfInBounds_toArray, List.set_cons_zero, List.set_cons_succ]
      refine takeH 27 (.pointer (some ⟨pa, poa + k * 5, none⟩)) rfl rfl (by kernel_rfl) (by kernel_rfl) (by kernel_rfl) (fun _ _ _ h => h) (by rfl) (fun w' hw' => by go_simp) HS ?_
      simp only [List.setIfInBounds_toArray, List.set_cons_zero, List.set_cons_succ]
      refine takeH 28 (.pointer (some ⟨pa, poa + k * 5 + 2, none⟩)) rfl rfl (by kernel_rfl) (by kernel_rfl) (by kernel_rfl) (fun _ _ _ h => h) (by rfl) (fun w' hw' => by go_simp) HS ?_
      simp only [List.setIfInBounds_toArray, List.set_cons_zero, List.set_cons_succ]
      refine takeH 29 (.int .i64 u) rfl rfl (by kernel_rfl) (by kernel_rfl) (by kernel_rfl) (fun _ _ _ h => h) (by rfl) (fun w' hw' => by obtain ⟨⟨y0, y1, y2, y3, y4⟩, z0, z1, z2, z3, z4⟩ := hSo.out w' hw'; go_simp) HS ?_
      simp only [List.setIfInBounds_toArray, List.set_cons_zero, List.set_cons_succ]
      refine takeH 30 (.slice (some ⟨pb, pob, none⟩) n cpb) rfl rfl (by kernel_rfl) (by kernel_rfl) (by kernel_rfl) (fun _ _ _ h => h) (by rfl) (fun w' hw' => by go_simp) HS ?_
      simp only [List.setIfInBounds_toArray, List.set_cons_zero, List.set_cons_succ]
      refine takeH 31 (.int .i64 (k : Int)) rfl rfl (by kernel_rfl) (by kernel_rfl) (by kernel_rfl) (fun _ _ _ h => h) (by rfl) (fun w' hw' => by go_simp) HS ?_
      simp only [List.setIfInBounds_toArray, List.set_cons_zero, List.set_cons_succ]
      refine takeH 32 (.pointer (some ⟨pb, pob + k * 5, none⟩)) rfl rfl (by kernel_rfl) (by kernel_rfl) (by kernel_rfl) (fun _ _ _ h => h) (by rfl) (fun w' hw' => by go_simp) HS ?_
      simp only [List.setIfInBounds_toArray, List.set_cons_zero, List.set_cons_succ]
      refine takeH 33 (.pointer (some ⟨pb, pob + k * 5 + 2, none⟩)) rfl rfl (by kernel_rfl) (by kernel_rfl) (by kernel_rfl) (fun _ _ _ h => h) (by rfl) (fun w' hw' => by go_simp) HS ?_
      simp only [List.setIfInBounds_toArray, List.set_cons_zero, List.set_cons_succ]
      refine takeH 34 (.int .i64 u) rfl rfl (by kernel_rfl) (by kernel_rfl) (by kernel_rfl) (fun _ _ _ h => h) (by rfl) (fun w' hw' => by obtain ⟨⟨y0, y1, y2, y3, y4⟩, z0, z1, z2, z3, z4⟩ := hSo.out w' hw'; go_simp) HS ?_
      simp only [List.setIfInBounds_toArray, List.set_cons_zero, List.set_cons_succ]
      refine takeH 35 (.bool false) rfl rfl (by kernel_rfl) (by kernel_rfl) (by kernel_rfl) (fun _ _ _ h => h) (by rfl) (fun w' hw' => by go_simp) HS ?_
      simp only [List.setIfInBounds_toArray, List.set_cons_zero, List.set_cons_succ]
      refine takeH 36 (.bool false) rfl rfl (by kernel_rfl) (by kernel_rfl) (by kernel_rfl) (fun _ _ _ h => h) (by rfl) (fun w' hw' => by go_simp) HS ?_
      simp only [List.setIfInBounds_toArray, List.set_cons_zero, List.set_cons_succ]
      refine takeH 37 (.bool false) rfl rfl (by kernel_rfl) (by kernel_rfl) (by kernel_rfl) (fun _ _ _ h => h) (by rfl) (fun w' hw' => by go_simp) HS ?_
      simp only [List.setIfInBounds_toArray, List.set_cons_zero, List.set_cons_succ]
      refine takeH 38 (.slice (some ⟨pa, poa, none⟩) n cpa) rfl rfl (by kernel_rfl) (by kernel_rfl) (by kernel_rfl) (fun _ _ _ h => h) (by rfl) (fun w' hw' => by go_simp) HS ?_
      simp only [List.setIfInBounds_toArray, List.set_cons_zero, List.set_cons_succ]
      refine takeH 39 (.int .i64 (k : Int)) rfl rfl (by kernel_rfl) (by kernel_rfl) (by kernel_rfl) (fun _ _ _ h => h) (by rfl) (fun w' hw' => by go_simp) HS ?_
      simp only [List.setIfInBounds_toArray, List.set_cons_zero, List.set_cons_succ]
      refine takeH 40 (.pointer (some ⟨pa, poa + k * 5, none⟩)) rfl rfl (by kernel_rfl) (by kernel_rfl) (by kernel_rfl) (fun _ _ _ h => h) (by rfl) (fun w' hw' => by go_simp) HS ?_
      simp only [List.setIfInBounds_toArray, List.set_cons_zero, List.set_cons_succ]
      refine takeH 41 (.pointer (some ⟨pa, poa + k * 5 + 3, none⟩)) rfl rfl (by kernel_rfl) (by kernel_rfl) (by kernel_rfl) (fun _ _ _ h => h) (by rfl) (fun w' hw' => by go_simp) HS ?_
      simp only [List.setIfInBounds_toArray, List.set_cons_zero, List.set_cons_succ]
      refine takeH 42 (.slice ab b.len cab) rfl rfl (by kernel_rfl) (by kernel_rfl) (by kernel_rfl) (fun _ _ _ h => h) (by rfl) (fun w' hw' => by obtain ⟨⟨y0, y1, y2, y3, y4⟩, z0, z1, z2, z3, z4⟩ := hSo.out w' hw'; go_simp) HS ?_
      simp only [List.setIfInBounds_toArray, List.set_cons_zero, List.set_cons_succ]
      refine takeH 43 (.slice (some ⟨pb, pob, none⟩) n cpb) rfl rfl (by kernel_rfl) (by kernel_rfl) (by kernel_rfl) (fun _ _ _ h => h) (by rfl) (fun w' hw' => by go_simp) HS ?_
      simp only [List.setIfInBounds_toArray, List.set_cons_zero, List.set_cons_succ]
      refine takeH 44 (.int .i64 (k : Int)) rfl rfl (by kernel_rfl) (by kernel_rfl) (by kernel_rfl) (fun _ _ _ h => h) (by rfl) (fun w' hw' => by go_simp) HS ?_
      simp only [List.setIfInBounds_toArray, List.set_cons_zero, List.set_cons_succ]
      refine takeH 45 (.pointer (some ⟨pb, pob + k * 5, none⟩)) rfl rfl (by kernel_rfl) (by kernel_rfl) (by kernel_rfl) (fun _ _ _ h => h) (by rfl) (fun w' hw' => by go_simp) HS ?_
      simp only [List.setIfInBounds_toArray, List.set_cons_zero, List.set_cons_succ]
      refine takeH 46 (.pointer (some ⟨pb, pob + k * 5 + 3, none⟩)) rfl rfl (by kernel_rfl) (by kernel_rfl) (by kernel_rfl) (fun _ _ _ h => h) (by rfl) (fun w' hw' => by go_simp) HS ?_
      simp only [List.setIfInBounds_toArray, List.set_cons_zero, List.set_cons_succ]
      refine takeH 47 (.slice bb b.len cbb) rfl rfl (by kernel_rfl) (by kernel_rfl) (by kernel_rfl) (fun _ _ _ h => h) (by rfl) (fun w' hw' => by obtain ⟨⟨y0, y1, y2, y3, y4⟩, z0, z1, z2, z3, z4⟩ := hSo.out w' hw'; go_simp) HS ?_
      simp only [List.setIfInBounds_toArray, List.set_cons_zero, List.set_cons_succ]
      refine callH 48 13 #[.slice ab b.len cab, .slice bb b.len cbb] rfl rfl (by kernel_rfl) (by rfl) (by go_simp) (hcb.out _ (Ext.refl _).drew) ?_
      rintro e w3 ⟨rfl, g3⟩
      have G3 := (Ext.refl W).drew.trans g3
      have HS3 := HSi.out w3 G3
      refine ⟨_, rfl, HS3, ?_⟩
      simp only [List.setIfInBounds_toArray, List.set_cons_zero, List.set_cons_succ]
      refine takeH 49 (.bool false) rfl rfl (by kernel_rfl) (by kernel_rfl) (by kernel_rfl) (fun _ _ _ h => h) (by rfl) (fun w' hw' => by go_simp) HS3 ?_
      simp only [List.setIfInBounds_toArray, List.set_cons_zero, List.set_cons_succ]
      refine takeH 50 (.bool false) rfl rfl (by kernel_rfl) (by kernel_rfl) (by kernel_rfl) (fun _ _ _ h => h) (by rfl) (fun w' hw' => by go_simp) HS3 ?_
      simp only [List.setIfInBounds_toArray, List.set_cons_zero, List.set_cons_succ]
      refine takeH 51 (.bool false) rfl rfl (by kernel_rfl) (by kernel_rfl) (by kernel_rfl) (fun _ _ _ h => h) (by rfl) (fun w' hw' => by go_simp) HS3 ?_
      simp only [List.setIfInBounds_toArray, List.set_cons_zero, List.set_cons_succ]
      refine takeH 52 (.slice (some ⟨pa, poa, none⟩) n cpa) rfl rfl (by kernel_rfl) (by kernel_rfl) (by kernel_rfl) (fun _ _ _ h => h) (by rfl) (fun w' hw' => by go_simp) HS3 ?_
      simp only [List.setIfInBounds_toArray, List.set_cons_zero, List.set_cons_succ]
      refine takeH 53 (.int .i64 (k : Int)) rfl rfl (by kernel_rfl) (by kernel_rfl) (by kernel_rfl) (fun _ _ _ h => h) (by rfl) (fun w' hw' => by go_simp) HS3 ?_
      simp only [List.setIfInBounds_toArray, List.set_cons_zero, List.set_cons_succ]
      refine takeH 54 (.pointer (some ⟨pa, poa + k * 5, none⟩)) rfl rfl (by kernel_rfl) (by kernel_rfl) (by kernel_rfl) (fun _ _ _ h => h) (by rfl) (fun w' hw' => by go_simp) HS3 ?_
      simp only [List.setIfInBounds_toArray, List.set_cons_zero, List.set_cons_succ]
      refine takeH 55 (.pointer (some ⟨pa, poa + k * 5 + 4, none⟩)) rfl rfl (by kernel_rfl) (by kernel_rfl) (by kernel_rfl) (fun _ _ _ h => h) (by rfl) (fun w' hw' => by go_simp) HS3 ?_
      simp only [List.setIfInBounds_toArray, List.set_cons_zero, List.set_cons_succ]
      refine takeH 56 (.slice ao o.len cao) rfl rfl (by kernel_rfl) (by kernel_rfl) (by kernel_rfl) (fun _ _ _ h => h) (by rfl) (fun w' hw' => by obtain ⟨⟨y0, y1, y2, y3, y4⟩, z0, z1, z2, z3, z4⟩ := hSo.out w' hw'; go_simp) HS3 ?_
      simp only [List.setIfInBounds_toArray, List.set_cons_zero, List.set_cons_succ]
      refine takeH 57 (.slice (some ⟨pb, pob, none⟩) n cpb) rfl rfl (by kernel_rfl) (by kernel_rfl) (by kernel_rfl) (fun _ _ _ h => h) (by rfl) (fun w' hw' => by go_simp) HS3 ?_
      simp only [List.setIfInBounds_toArray, List.set_cons_zero, List.set_cons_succ]
      refine takeH 58 (.int .i64 (k : Int)) rfl rfl (by kernel_rfl) (by kernel_rfl) (by kernel_rfl) (fun _ _ _ h => h) (by rfl) (fun w' hw' => by go_simp) HS3 ?_
      simp only [List.setIfInBounds_toArray, List.set_cons_zero, List.set_cons_succ]
      refine takeH 59 (.pointer (some ⟨pb, pob + k * 5, none⟩)) rfl rfl (by kernel_rfl) (by kernel_rfl) (by kernel_rfl) (fun _ _ _ h => h) (by rfl) (fun w' hw' => by go_simp) HS3 ?_
      simp only [List.setIfInBounds_toArray, List.set_cons_zero, List.set_cons_succ]
      refine takeH 60 (.pointer (some ⟨pb, pob + k * 5 + 4, none⟩)) rfl rfl (by kernel_rfl) (by kernel_rfl) (by kernel_rfl) (fun _ _ _ h => h) (by rfl) (fun w' hw' => by go_simp) HS3 ?_
      simp only [List.setIfInBounds_toArray, List.set_cons_zero, List.set_cons_succ]
      refine takeH 61 (.slice bo o.len cbo) rfl rfl (by kernel_rfl) (by kernel_rfl) (by kernel_rfl) (fun _ _ _ h => h) (by rfl) (fun w' hw' => by obtain ⟨⟨y0, y1, y2, y3, y4⟩, z0, z1, z2, z3, z4⟩ := hSo.out w' hw'; go_simp) HS3 ?_
      simp only [List.setIfInBounds_toArray, List.set_cons_zero, List.set_cons_succ]
      refine callH 62 13 #[.slice ao o.len cao, .slice bo o.len cbo] rfl rfl (by kernel_rfl) (by rfl) (by go_simp) (hco.out _ G3) ?_
      rintro e w4 ⟨rfl, g4⟩
      have G4 := G3.trans g4
      have HS4 := HSi.out w4 G4
      refine ⟨_, rfl, HS4, ?_⟩
      simp only [List.setIfInBounds_toArray, List.set_cons_zero, List.set_cons_succ]
      refine takeH 63 (.bool false) rfl rfl (by kernel_rfl) (by kernel_rfl) (by kernel_rfl) (fun _ _ _ h => h) (by rfl) (fun w' hw' => by go_simp) HS4 ?_
      simp only [List.setIfInBounds_toArray, List.set_cons_zero, List.set_cons_succ]
      refine takeH 64 (.bool false) rfl rfl (by kernel_rfl) (by kernel_rfl) (by kernel_rfl) (fun _ _ _ h => h) (by rfl) (fun w' hw' => by go_simp) HS4 ?_
      simp only [List.setIfInBounds_toArray, List.set_cons_zero, List.set_cons_succ]
      refine wpAnyH_done (by kernel_rfl) ?_ _
      have hX4 := hX.out.trans G4
      go_wp2_with fail
      go_roundw
      case rel => exact ⟨k + 1, t1.app (.cons op f u b o .nil), r, by omega, by go_num, HT, HK, hX4⟩
      case measure => simp [intOf]; omega
    · obtain rfl : k = n := by omega
      go_wp2_with fail
      go_ret
      exact ⟨rfl, hX.out⟩
theorem nodes_ind {P : T → Prop} (h : ∀ t, (∀ t', nodes t' < nodes t → P t') → P t) (t : T) : P t := by
  have main : ∀ n t, nodes t ≤ n → P t := by
    intro n
    induction n with
    | zero => intro t h'; exact h t (fun t' h'' => by omega)
    | succ n ih => intro t h'; exact h t (fun t' h'' => ih t' (by omega))
  exact main _ t (Nat.le_refl _)
theorem same_all (t : T) : SmOK t := nodes_ind same_any t
theorem depth_all (t : T) : DpOK t := nodes_ind depth_any t
end Go.Proofs.Ytcnbljohhajkhaa
