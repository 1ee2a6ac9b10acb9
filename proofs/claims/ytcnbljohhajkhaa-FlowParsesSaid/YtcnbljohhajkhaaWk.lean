/- Layer 18: how many blocks stand within each other. -/
import Derived.Test.YtcnbljohhajkhaaWi
namespace Go.Proofs.Ytcnbljohhajkhaa
open Go.RowKit
set_option linter.unusedVariables false
set_option linter.unusedSimpArgs false
attribute [local go_sem ↓] Go.wp_at_zero Go.wp_at_succ

def dpF : T → Nat
  | .nil => 0
  | .cons op _ _ b o r => max (if op = -1 then 0 else 1 + max (dpF b) (dpF o)) (dpF r)
theorem dpF_app (a b : T) : dpF (a.app b) = max (dpF a) (dpF b) := by
  induction a with
  | nil => simp [T.app, dpF]
  | cons op f t b o r _ _ ih => simp only [T.app, dpF, ih]; omega
/-- The cells of a list of blocks. -/
theorem fr_at {w : World} {Q : Nat → Prop} {v : Value} {t t1 b o r : T} {op f u : Int} (h : SubAt w Q v t) (ht : t = t1.app (.cons op f u b o r)) :
    ∃ pb po cp vb vo, v = .slice (some ⟨pb, po, none⟩) t.len cp ∧ SubAt w Q vb b ∧ SubAt w Q vo o ∧ Q pb ∧
      w.cell? ⟨pb, po + t1.len * 5, none⟩ = some (.int .i64 op) ∧ w.cell? ⟨pb, po + t1.len * 5 + 1, none⟩ = some (.int .i64 f) ∧ w.cell? ⟨pb, po + t1.len * 5 + 2, none⟩ = some (.int .i64 u) ∧
      w.cell? ⟨pb, po + t1.len * 5 + 3, none⟩ = some vb ∧ w.cell? ⟨pb, po + t1.len * 5 + 4, none⟩ = some vo := by
  obtain ⟨ct, h1, h2, h3⟩ := h
  obtain ⟨a, cp, rfl, -, -⟩ := Rd.shape h1
  have hpos : 0 < t.len := by rw [ht, T.len_app]; simp [T.len]; omega
  obtain ⟨pb, po, rfl, hpb, hcell⟩ := h1.cells hpos
  obtain ⟨c1, c2, e12, hF1, hF2⟩ := (show Fr w Q (t1.app (.cons op f u b o r)) ct by rw [← ht]; exact h3).split
  have hl1 := hF1.length
  obtain ⟨vb, vo, cr, rfl, hb, ho, -⟩ := hF2
  have hcc : ∀ j (v : Value), j < 5 → [Value.int .i64 op, .int .i64 f, .int .i64 u, vb, vo][j]? = some v → w.cell? ⟨pb, po + (t1.len * 5 + j), none⟩ = some v := fun j v hj hv => by
    have hjl : t1.len * 5 + j < ct.length := by rw [e12]; simp [hl1]; omega
    have h1 := hcell (t1.len * 5 + j) hjl
    have h2 : ct.getD (t1.len * 5 + j) undef = v := by
      rw [e12, List.getD, List.getElem?_append_right (by omega), hl1, show t1.len * 5 + j - t1.len * 5 = j by omega]
      have : (Value.int .i64 op :: .int .i64 f :: .int .i64 u :: vb :: vo :: cr)[j]? = [Value.int .i64 op, .int .i64 f, .int .i64 u, vb, vo][j]? := by
        match j, hj with
        | 0, _ => rfl
        | 1, _ => rfl
        | 2, _ => rfl
        | 3, _ => rfl
        | 4, _ => rfl
      rw [this, hv]
      rfl
    rw [h2] at h1
    exact h1
  refine ⟨pb, po, cp, vb, vo, rfl, hb, ho, h2 pb hpos rfl, hcc 0 _ (by omega) rfl, ?_, ?_, ?_, ?_⟩
  · rw [Nat.add_assoc]; exact hcc 1 _ (by omega) rfl
  · rw [Nat.add_assoc]; exact hcc 2 _ (by omega) rfl
  · rw [Nat.add_assoc]; exact hcc 3 _ (by omega) rfl
  · rw [Nat.add_assoc]; exact hcc 4 _ (by omega) rfl
def DpOK (t : T) : Prop := ∀ (w : World) (Q : Nat → Prop) (v : Value), SubAt w Q v t → dpF t ≤ 1000 → Calls Try.prog 22 #[v] w fun x w' => x = .returned (.int .i64 ((dpF t : Nat) : Int)) ∧ Ext w w'
set_option maxHeartbeats 2000000 in
set_option maxRecDepth 100000 in
theorem depth_any (t : T) (ih : ∀ t', nodes t' < nodes t → DpOK t') : DpOK t := by
  intro w Q v hv hd
  have hv' := hidden hv
  obtain ⟨ct, hrt, -, -⟩ := hv
  obtain ⟨av, cpt, rfl, hcpt, hcp2, -⟩ := Rd.shape hrt
  obtain ⟨n, hn⟩ : ∃ n, t.len = n := ⟨_, rfl⟩
  rw [hn] at hv' hcpt ⊢
  replace hn := hidden hn
  replace ih := hidden ih
  clear hrt
  go_enter Try.func22, Try.ntmps22
  go_wp2_with fail
  go_loopw [3, 8] (fun zv ix wr => ∃ (k z : Nat) (t1 t2 : T), k ≤ n ∧ ix = .int .i64 (k : Int) ∧ zv = .int .i64 (z : Int) ∧ z ≤ 1000 ∧ Hid (t = t1.app t2) ∧ Hid (t1.len = k) ∧ Hid (z = dpF t1) ∧ Hid (Ext w wr)) (fun _ ix _ => (n - intOf ix).toNat)
  case atStart => exact ⟨0, 0, .nil, t, by omega, rfl, rfl, by omega, rfl, rfl, rfl, Ext.refl w⟩
  case round =>
    obtain ⟨k, z, t1, t2, hk, rfl, rfl, hz, ht, hk1, hz1, hX⟩ := hrel
    obtain ⟨W, hWW⟩ : ∃ Z, Z = wr := ⟨_, rfl⟩
    subst hWW
    by_cases hlt : k < n
    · have hlt' : (k : Int) < (n : Int) := by omega
      obtain ⟨op, f, u, b, o, r, rfl⟩ : ∃ op f tt b o r, t2 = .cons op f tt b o r := by
        cases t2 with
        | nil => have h1 := hn.out; rw [ht.out, T.app_nil, hk1.out] at h1; omega
        | cons op f tt b o r => exact ⟨_, _, _, _, _, _, rfl⟩
      obtain ⟨pb, po, cp, vb, vo, hve, hbS, hoS, -, g0, g1, g2, g3, g4⟩ := fr_at (hv'.out.chg (Chg.of_ext [] hX.out) (by simp) (fun _ _ h => h)) ht.out
      simp only [Value.slice.injEq] at hve
      obtain ⟨rfl, -, rfl⟩ := hve
      rw [hk1.out] at g0 g1 g2 g3 g4
      have hdd : dpF t = max (dpF t1) (max (if op = -1 then 0 else 1 + max (dpF b) (dpF o)) (dpF r)) := by rw [ht.out, dpF_app]; rfl
      obtain ⟨ab, cbp, rfl, -⟩ := Rd.shape hbS.choose_spec.1
      obtain ⟨ao, cop, rfl, -⟩ := Rd.shape hoS.choose_spec.1
      have X1 := (Ext.refl W).alloc (.cells #[.int .i64 op, .int .i64 f, .int .i64 u, .slice ab b.len cbp, .slice ao o.len cop] 47)
      have N1 := Blk.new W [.int .i64 op, .int .i64 f, .int .i64 u, .slice ab b.len cbp, .slice ao o.len cop] 47
      obtain ⟨q, hq⟩ : ∃ q, W.heap.size = q := ⟨_, rfl⟩
      rw [hq] at N1
      obtain ⟨W1, hW1⟩ : ∃ W1, W.alloc (.cells #[.int .i64 op, .int .i64 f, .int .i64 u, .slice ab b.len cbp, .slice ao o.len cop] 47) = W1 := ⟨_, rfl⟩
      rw [hW1] at X1 N1
      replace hq := hidden hq
      replace hW1 := hidden hW1
      have HT : Hid (t = (t1.app (.cons op f u b o .nil)).app r) := by show _ = _; rw [ht.out, T.app_assoc]; rfl
      have HK : Hid ((t1.app (.cons op f u b o .nil)).len = k + 1) := by show _ = _; rw [T.len_app, hk1.out]; rfl
      have hkw : IntKind.i64.wrap ((k : Int) + 1) = (k : Int) + 1 := IntWalk.i64_in _ (by omega)
      by_cases hop : op = -1
      · subst hop
        have HZ : Hid (z = dpF (t1.app (.cons (-1) f u b o .nil))) := by show _ = _; rw [dpF_app, ← hz1.out]; simp [dpF]
        clear hdd hbS hoS X1 N1
        go_wp2_with fail
        go_roundw
        case rel => exact ⟨k + 1, z, t1.app (.cons (-1) f u b o .nil), r, by omega, by go_num, rfl, hz, HT, HK, HZ, hX.out.alloc _⟩
        case measure => simp [intOf]; omega
      · have hop' : (op != -1) = true := by simp; exact hop
        rw [if_neg hop] at hdd
        have hdb : dpF b ≤ 1000 := by omega
        have hdo : dpF o ≤ 1000 := by omega
        have hmm : 1 + max (dpF b) (dpF o) ≤ 1000 := by omega
        have HZ : Hid (max z (1 + max (dpF b) (dpF o)) = dpF (t1.app (.cons op f u b o .nil))) := by show _ = _; rw [dpF_app, ← hz1.out]; simp [dpF, hop]
        obtain ⟨m1, hm1⟩ : ∃ m1, max (dpF b) (dpF o) = m1 := ⟨_, rfl⟩
        obtain ⟨m2, hm2⟩ : ∃ m2, max z (1 + m1) = m2 := ⟨_, rfl⟩
        rw [hm1] at hmm HZ
        rw [hm2] at HZ
        have hm2l : m2 ≤ 1000 := by omega
        have hw1 : IntKind.i64.wrap (1 + (m1 : Int)) = 1 + (m1 : Int) := IntWalk.i64_in _ (by omega)
        replace hm1 := hidden hm1
        replace hm2 := hidden hm2
        obtain ⟨S0, hS0⟩ : ∃ S0 : World → Prop, S0 = fun W' => W'.cell? ⟨q, 3, none⟩ = some (.slice ab b.len cbp) ∧ W'.cell? ⟨q, 4, none⟩ = some (.slice ao o.len cop) := ⟨_, rfl⟩
        have HS1 : S0 W1 := by rw [hS0]; exact ⟨N1.cell 3 _ rfl, N1.cell 4 _ rfl⟩
        have HSi : ∀ W', Ext W1 W' → S0 W' := fun W' X => by rw [hS0]; exact ⟨(N1.ext X).cell 3 _ rfl, (N1.ext X).cell 4 _ rfl⟩
        have hcb := fun W' (X : Ext W1 W') => ih.out b (by rw [ht.out, nodes_app]; simp only [nodes]; omega) W' Q (.slice ab b.len cbp) ((hbS.chg (Chg.of_ext [] X1) (by simp) (fun _ _ h => h)).chg (Chg.of_ext [] X) (by simp) (fun _ _ h => h)) hdb
        have hco := fun W' (X : Ext W1 W') => ih.out o (by rw [ht.out, nodes_app]; simp only [nodes]; omega) W' Q (.slice ao o.len cop) ((hoS.chg (Chg.of_ext [] X1) (by simp) (fun _ _ h => h)).chg (Chg.of_ext [] X) (by simp) (fun _ _ h => h)) hdo
        replace hcb := hidden hcb
        replace hco := hidden hco
        replace HSi := hidden HSi
        have hSo := hidden (fun (W' : World) (h : S0 W') => by rw [hS0] at h; exact h : ∀ W', S0 W' → _ ∧ _)
        replace hS0 := hidden hS0
        go_upto_region 6 with fail
        rw [hW1.out, hq.out]
        refine wp_region_held_drew (S := S0) (by kernel_rfl) (HSi.out _ (Ext.refl _).drew) (fun HS => ?_)
        refine takeH 0 (.int .i64 (z : Int)) rfl rfl (by kernel_rfl) (by kernel_rfl) (by kernel_rfl) (fun _ _ _ h => h) (by rfl) (fun w' hw' => by go_simp) HS ?_
        simp only [List.setIfInBounds_toArray, List.set_cons_zero, List.set_cons_succ]
        refine takeH 1 (.pointer (some ⟨q, 3, none⟩)) rfl rfl (by kernel_rfl) (by kernel_rfl) (by kernel_rfl) (fun _ _ _ h => h) (by rfl) (fun w' hw' => by go_simp) HS ?_
        simp only [List.setIfInBounds_toArray, List.set_cons_zero, List.set_cons_succ]
        refine takeH 2 (.slice ab b.len cbp) rfl rfl (by kernel_rfl) (by kernel_rfl) (by kernel_rfl) (fun _ _ _ h => h) (by rfl) (fun w' hw' => by obtain ⟨y3, y4⟩ := hSo.out w' hw'; go_simp) HS ?_
        simp only [List.setIfInBounds_toArray, List.set_cons_zero, List.set_cons_succ]
        refine takeH 4 (.pointer (some ⟨q, 4, none⟩)) rfl rfl (by kernel_rfl) (by kernel_rfl) (by kernel_rfl) (fun _ _ _ h => h) (by rfl) (fun w' hw' => by go_simp) HS ?_
        simp only [List.setIfInBounds_toArray, List.set_cons_zero, List.set_cons_succ]
        refine takeH 5 (.slice ao o.len cop) rfl rfl (by kernel_rfl) (by kernel_rfl) (by kernel_rfl) (fun _ _ _ h => h) (by rfl) (fun w' hw' => by obtain ⟨y3, y4⟩ := hSo.out w' hw'; go_simp) HS ?_
        simp only [List.setIfInBounds_toArray, List.set_cons_zero, List.set_cons_succ]
        refine callH 3 22 #[.slice ab b.len cbp] rfl rfl (by kernel_rfl) (by rfl) (by go_simp) (hcb.out _ (Ext.refl _).drew) ?_
        rintro e w3 ⟨rfl, g3⟩
        have G3 := (Ext.refl W1).drew.trans g3
        refine ⟨_, rfl, HSi.out w3 G3, ?_⟩
        simp only [List.setIfInBounds_toArray, List.set_cons_zero, List.set_cons_succ]
        refine callH 6 22 #[.slice ao o.len cop] rfl rfl (by kernel_rfl) (by rfl) (by go_simp) (hco.out _ G3) ?_
        rintro e w4 ⟨rfl, g4⟩
        have G4 := G3.trans g4
        have HS4 := HSi.out w4 G4
        refine ⟨_, rfl, HS4, ?_⟩
        simp only [List.setIfInBounds_toArray, List.set_cons_zero, List.set_cons_succ]
        refine takeH 7 (.int .i64 (m1 : Int)) rfl rfl (by kernel_rfl) (by kernel_rfl) (by kernel_rfl) (fun _ _ _ h => h) (by rfl) (fun w' hw' => by go_simp; rw [← hm1.out]; split <;> omega) HS4 ?_
        simp only [List.setIfInBounds_toArray, List.set_cons_zero, List.set_cons_succ]
        refine takeH 8 (.int .i64 (1 + (m1 : Int))) rfl rfl (by kernel_rfl) (by kernel_rfl) (by kernel_rfl) (fun _ _ _ h => h) (by rfl) (fun w' hw' => by go_simp) HS4 ?_
        simp only [List.setIfInBounds_toArray, List.set_cons_zero, List.set_cons_succ]
        refine takeH 9 (.int .i64 (m2 : Int)) rfl rfl (by kernel_rfl) (by kernel_rfl) (by kernel_rfl) (fun _ _ _ h => h) (by rfl) (fun w' hw' => by go_simp; rw [← hm2.out]; split <;> omega) HS4 ?_
        simp only [List.setIfInBounds_toArray, List.set_cons_zero, List.set_cons_succ]
        refine takeH 10 (.int .i64 (m2 : Int)) rfl rfl (by kernel_rfl) (by kernel_rfl) (by kernel_rfl) (fun _ _ _ h => h) (by rfl) (fun w' hw' => by go_simp) HS4 ?_
        simp only [List.setIfInBounds_toArray, List.set_cons_zero, List.set_cons_succ]
        refine wpAnyH_done (by kernel_rfl) ?_ _
        have hX4 := (hX.out.trans X1).trans G4
        go_wp2_with fail
        go_roundw
        case rel => exact ⟨k + 1, m2, t1.app (.cons op f u b o .nil), r, by omega, by go_num, rfl, hm2l, HT, HK, hidden HZ.out, hX4⟩
        case measure => simp [intOf]; omega
    · obtain rfl : k = n := by omega
      have hk2 : t2 = .nil := by
        cases t2 with
        | nil => rfl
        | cons op f tt b o r =>
          have h1 := hn.out
          rw [ht.out, T.len_app, hk1.out] at h1
          simp [T.len] at h1
      have hz2 : Hid (z = dpF t) := by show _ = _; rw [hz1.out, ht.out, hk2, T.app_nil]
      go_wp2_with fail
      go_ret
      exact ⟨by rw [hz2.out]; rfl, hX.out⟩
end Go.Proofs.Ytcnbljohhajkhaa
