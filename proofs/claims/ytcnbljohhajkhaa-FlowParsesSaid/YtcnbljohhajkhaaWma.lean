/- Layer 18: a tree whose places are greater by one. -/
import Derived.Test.YtcnbljohhajkhaaWn
import Derived.Test.YtcnbljohhajkhaaWw
namespace Go.Proofs.Ytcnbljohhajkhaa
open Go.RowKit
set_option linter.unusedVariables false
set_option linter.unusedSimpArgs false
attribute [local go_sem ↓] Go.wp_at_zero Go.wp_at_succ

def bdT (N : Int) : T → Prop
  | .nil => True
  | .cons op f t b o r => ((0 ≤ f ∧ f ≤ N) ∧ (0 ≤ t ∧ t ≤ N)) ∧ bdT N b ∧ bdT N o ∧ bdT N r
theorem bdT_app (N : Int) (a b : T) : bdT N (a.app b) ↔ bdT N a ∧ bdT N b := by
  induction a with
  | nil => simp [T.app, bdT]
  | cons op f t b o r _ _ ih => simp only [T.app, bdT, ih]; exact ⟨fun ⟨h1, h2, h3, h4, h5⟩ => ⟨⟨h1, h2, h3, h4⟩, h5⟩, fun ⟨⟨h1, h2, h3, h4⟩, h5⟩ => ⟨h1, h2, h3, h4, h5⟩⟩
theorem bdT_mono {N M : Int} (h : N ≤ M) (t : T) : bdT N t → bdT M t := by
  induction t with
  | nil => intro _; trivial
  | cons op f t b o r i1 i2 i3 => rintro ⟨⟨h1, h2⟩, h3, h4, h5⟩; exact ⟨⟨⟨h1.1, by omega⟩, h2.1, by omega⟩, i1 h3, i2 h4, i3 h5⟩
theorem bdT_addP (N : Int) (l : T) (i : Int) (hi : 0 ≤ i) (hN : i + 1 ≤ N) (h : bdT N l) : bdT (N + 1) (l.addP i) := by
  by_cases hl : l.lastOp = some (-1)
  · obtain ⟨l0, f, t, b, o, h1, h2⟩ := T.addP_old hl i
    rw [h1, bdT_app] at h
    rw [h2, bdT_app]
    obtain ⟨g1, ⟨⟨g2, g3⟩, g4, g5, -⟩⟩ := h
    exact ⟨bdT_mono (by omega) _ g1, ⟨⟨g2.1, by omega⟩, by omega, by omega⟩, bdT_mono (by omega) _ g4, bdT_mono (by omega) _ g5, trivial⟩
  · rw [T.addP_new hl, bdT_app]
    exact ⟨bdT_mono (by omega) _ h, ⟨⟨hi, by omega⟩, by omega, by omega⟩, trivial, trivial, trivial⟩
theorem bdT_tr (S : Sy) : ∀ (N : Int) (i : Nat) (out : T), ((i + S.len : Nat) : Int) ≤ N → bdT N out → bdT (N + S.len) (S.tr i out) := by
  induction S with
  | nil => intro N i out h1 h2; exact bdT_mono (by simp [Sy.len]) _ h2
  | op x r ih =>
    intro N i out h1 h2
    simp only [Sy.len] at h1
    have := ih (N + 1) (i + 1) (out.addP i) (by omega) (bdT_addP N out i (by omega) (by omega) h2)
    simp only [Sy.tr]
    exact bdT_mono (by simp only [Sy.len]; omega) _ this
  | blk x b z r ih1 ih2 =>
    intro N i out h1 h2
    simp only [Sy.len] at h1
    have a1 := ih1 N (i + 1) .nil (by omega) trivial
    have := ih2 (N + b.len) (i + b.len + 2) (out.app (.cons x.1 i ((i + b.len + 2 : Nat) : Int) (b.tr (i + 1) .nil) .nil .nil)) (by omega) (by
      rw [bdT_app]
      exact ⟨bdT_mono (by omega) _ h2, ⟨⟨by omega, by omega⟩, by omega, by omega⟩, a1, trivial, trivial⟩)
    simp only [Sy.tr]
    exact bdT_mono (by simp only [Sy.len]; omega) _ this
  | ife x b y c z r ih1 ih2 ih3 =>
    intro N i out h1 h2
    simp only [Sy.len] at h1
    have a1 := ih1 N (i + 1) .nil (by omega) trivial
    have a2 := ih2 N (i + b.len + 2) .nil (by omega) trivial
    have := ih3 (N + b.len + c.len) (i + b.len + c.len + 3) (out.app (.cons x.1 i ((i + b.len + c.len + 3 : Nat) : Int) (b.tr (i + 1) .nil) (c.tr (i + b.len + 2) .nil) .nil)) (by omega) (by
      rw [bdT_app]
      exact ⟨bdT_mono (by omega) _ h2, ⟨⟨by omega, by omega⟩, by omega, by omega⟩, bdT_mono (by omega) _ a1, bdT_mono (by omega) _ a2, trivial⟩)
    simp only [Sy.tr]
    exact bdT_mono (by simp only [Sy.len]; omega) _ this
theorem nodes_addP (l : T) (i : Int) : nodes (l.addP i) ≤ nodes l + 1 := by
  by_cases h : l.lastOp = some (-1)
  · obtain ⟨l0, f, t, b, o, h1, h2⟩ := T.addP_old h i
    rw [h2, h1, nodes_app, nodes_app]
    simp [nodes]
  · rw [T.addP_new h, nodes_app]
    simp [nodes]
theorem nodes_tr (S : Sy) : ∀ (i : Nat) (out : T), nodes (S.tr i out) ≤ nodes out + S.len := by
  induction S with
  | nil => intro i out; simp [Sy.tr, Sy.len]
  | op x r ih =>
    intro i out
    have := ih (i + 1) (out.addP i)
    have := nodes_addP out i
    simp only [Sy.tr, Sy.len]; omega
  | blk x b z r ih1 ih2 =>
    intro i out
    have a1 := ih1 (i + 1) .nil
    have := ih2 (i + b.len + 2) (out.app (.cons x.1 i ((i + b.len + 2 : Nat) : Int) (b.tr (i + 1) .nil) .nil .nil))
    rw [nodes_app] at this
    simp only [nodes] at this a1
    simp only [Sy.tr, Sy.len]
    omega
  | ife x b y c z r ih1 ih2 ih3 =>
    intro i out
    have a1 := ih1 (i + 1) .nil
    have a2 := ih2 (i + b.len + 2) .nil
    have := ih3 (i + b.len + c.len + 3) (out.app (.cons x.1 i ((i + b.len + c.len + 3 : Nat) : Int) (b.tr (i + 1) .nil) (c.tr (i + b.len + 2) .nil) .nil))
    rw [nodes_app] at this
    simp only [nodes] at this a1 a2
    simp only [Sy.tr, Sy.len]
    omega
theorem len_nodes (t : T) : t.len ≤ nodes t := by
  induction t with
  | nil => simp [T.len]
  | cons op f t b o r _ _ ih => simp only [T.len, nodes]; omega
theorem rd_new5 (w : World) (a b c d e : Value) (t : TypeId) : Rd (w.alloc (.cells #[a, b, c, d, e] t)) 5 (.slice (some ⟨w.heap.size, 0, none⟩) 1 1) 1 [a, b, c, d, e] := by
  have hb := Blk.new w [a, b, c, d, e] t
  refine ⟨rfl, _, _, rfl, Nat.le_refl _, by decide, by simp, fun _ => ⟨_, _, rfl, by simp, fun j hj => ?_⟩⟩
  match j, hj with
  | 0, _ => exact hb.cell 0 _ rfl
  | 1, _ => exact hb.cell 1 _ rfl
  | 2, _ => exact hb.cell 2 _ rfl
  | 3, _ => exact hb.cell 3 _ rfl
  | 4, _ => exact hb.cell 4 _ rfl
/-- A list of blocks that the function makes. -/
structure MV (w wr : World) (v : Value) (m : Nat) (out : T) : Prop where
  ex : ∃ cs, wr.ownsRow w.heap.size 47 5 v m cs ∧ Fr wr (fun k => w.heap.size ≤ k ∧ v.ownBlock ≠ some k) out cs
  X : Ext w wr
  len : out.len = m
theorem MV.start (w : World) : MV w w (.slice none 0 0) 0 .nil := ⟨⟨[], ⟨by simp, Or.inl ⟨rfl, rfl⟩⟩, rfl⟩, Ext.refl w, rfl⟩
theorem MV.sub {w wr : World} {v : Value} {m : Nat} {out : T} (h : MV w wr v m out) : SubAt wr (fun k => w.heap.size ≤ k) v out := by
  obtain ⟨cs, h1, h2⟩ := h.ex
  refine ⟨cs, by rw [h.len]; exact Rd.of_own h1, fun k _ hk => (own_lt h1 hk).1, h2.ext (Ext.refl _) (fun k _ hq => hq.1)⟩
theorem MV.push {w wr W w1 : World} {v v' : Value} {m : Nat} {out tb : T} {cs news : List Value} (hO : wr.ownsRow w.heap.size 47 5 v m cs) (hF : Fr wr (fun k => w.heap.size ≤ k ∧ v.ownBlock ≠ some k) out cs) (X : Ext w wr) (hl : out.len = m)
    (XW : Ext wr W) (hn : Fr W (fun k => wr.heap.size ≤ k ∧ k < W.heap.size) tb news) (htb : tb.len = 1) (hO' : w1.ownsRow w.heap.size 47 5 v' (m + 1) (cs ++ news)) (hg : W.grownBy w1 v.ownBlock)
    (hat : v'.ownBlock = v.ownBlock ∨ v'.ownBlock = some W.heap.size) : MV w w1 v' (m + 1) (out.app tb) := by
  have hvl : ∀ x ∈ v.ownBlock.toList, w.heap.size ≤ x ∧ x < wr.heap.size := fun x hx => own_lt hO (by simpa using hx)
  have hws := XW.size
  have hw0 := X.size
  have hc0 : Chg v.ownBlock.toList W w1 := (Chg.refl _ W).grown hg (fun k hk => Or.inl (by simp [hk]))
  have hc : Chg v.ownBlock.toList wr w1 := (Chg.of_ext _ XW).grown hg (fun k hk => Or.inl (by simp [hk]))
  have f1 : Fr w1 (fun k => w.heap.size ≤ k ∧ v'.ownBlock ≠ some k) out cs := hF.chg hc (fun x hx hq => hq.2 (by simpa using hx)) (fun k hk hq => ⟨hq.1, fun e => by
    rcases hat with h1 | h1
    · rw [h1] at e; exact hq.2 e
    · rw [h1] at e; cases e; omega⟩)
  have f2 : Fr w1 (fun k => w.heap.size ≤ k ∧ v'.ownBlock ≠ some k) tb news := hn.chg hc0 (fun x hx hq => by have := hvl x hx; omega) (fun k hk hq => ⟨by omega, fun e => by
    rcases hat with h1 | h1
    · rw [h1] at e; have := hvl k (by simpa using e); omega
    · rw [h1] at e; cases e; omega⟩)
  exact ⟨⟨cs ++ news, hO', f1.app f2⟩, ((Chg.of_ext [] X).trans hc (fun x hx => Or.inr (hvl x hx).1)).ext, by rw [T.len_app, hl, htb]⟩
def MvOK (t : T) : Prop := ∀ (w : World) (Q : Nat → Prop) (v : Value), SubAt w Q v t → bdT 100000 t → nodes t ≤ 100000 → Calls Try.prog 23 #[v] w fun x w' => ∃ v', x = .returned v' ∧ SubAt w' (fun k => w.heap.size ≤ k) v' (mvF t) ∧ Ext w w'
set_option maxHeartbeats 2000000 in
set_option maxRecDepth 100000 in
theorem moved_any (t : T) (ih : ∀ t', nodes t' < nodes t → MvOK t') : MvOK t := by
  intro w Q v hv hbd hnd
  have hv' := hidden hv
  obtain ⟨ct, hrt, -, -⟩ := hv
  obtain ⟨av, cpt, rfl, hcpt, hcp2, -⟩ := Rd.shape hrt
  obtain ⟨n, hn⟩ : ∃ n, t.len = n := ⟨_, rfl⟩
  have hnn : n ≤ 100000 := by have := len_nodes t; omega
  rw [hn] at hv' hcpt ⊢
  replace hn := hidden hn
  replace ih := hidden ih
  replace hbd := hidden hbd
  replace hnd := hidden hnd
  obtain ⟨i0, hi, hz0, hz1, hz2⟩ := info_parts blkinfo
  have hia := hidden hi
  clear hrt hi
  go_enter Try.func23, Try.ntmps23
  go_wp2_with fail
  go_loopw [3, 8] (fun ov ix wr => ∃ (k : Nat) (t1 t2 : T) (v1 : Value), k ≤ n ∧ ix = .int .i64 (k : Int) ∧ v1 = ov ∧ Hid (t = t1.app t2) ∧ Hid (t1.len = k) ∧ Hid (MV w wr v1 k (mvF t1))) (fun _ ix _ => (n - intOf ix).toNat)
  case atStart => exact ⟨0, .nil, t, _, by omega, rfl, rfl, rfl, rfl, MV.start w⟩
  case round =>
    obtain ⟨k, t1, t2, v1, hk, rfl, rfl, ht, hk1, hM⟩ := hrel
    obtain ⟨W, hWW⟩ : ∃ Z, Z = wr := ⟨_, rfl⟩
    subst hWW
    have hX := hidden hM.out.X
    by_cases hlt : k < n
    · have hlt' : (k : Int) < (n : Int) := by omega
      obtain ⟨op, f, u, b, o, r, rfl⟩ : ∃ op f tt b o r, t2 = .cons op f tt b o r := by
        cases t2 with
        | nil => have h1 := hn.out; rw [ht.out, T.app_nil, hk1.out] at h1; omega
        | cons op f tt b o r => exact ⟨_, _, _, _, _, _, rfl⟩
      obtain ⟨pb, po, cp, vb, vo, hve, hbS, hoS, -, g0, g1, g2, g3, g4⟩ := fr_at (hv'.out.chg (Chg.of_ext [] hX.out) (by simp) (fun _ _ h => h)) ht.out
      simp only [Value.slice.injEq] at hve
      obtain ⟨rfl, -, rfl⟩ := hve
      rw [hk1.out] at g0 g1 g2 g3 g4
      obtain ⟨-, ⟨⟨bf0, bf1⟩, bu0, bu1⟩, bb, bo, -⟩ := (bdT_app _ _ _).1 (by have := hbd.out; rw [ht.out] at this; exact this)
      have hfw : IntKind.i64.wrap (f + 1) = f + 1 := IntWalk.i64_in _ (by omega)
      have huw : IntKind.i64.wrap (u + 1) = u + 1 := IntWalk.i64_in _ (by omega)
      have hnb : nodes b ≤ 100000 ∧ nodes o ≤ 100000 := by have := hnd.out; rw [ht.out, nodes_app] at this; simp only [nodes] at this; omega
      obtain ⟨ab, cbp, rfl, -⟩ := Rd.shape hbS.choose_spec.1
      obtain ⟨ao, cop, rfl, -⟩ := Rd.shape hoS.choose_spec.1
      have X1 := (Ext.refl W).alloc (.cells #[.int .i64 op, .int .i64 f, .int .i64 u, .slice ab b.len cbp, .slice ao o.len cop] 47)
      have N1 := Blk.new W [.int .i64 op, .int .i64 f, .int .i64 u, .slice ab b.len cbp, .slice ao o.len cop] 47
      obtain ⟨q, hq⟩ : ∃ q, W.heap.size = q := ⟨_, rfl⟩
      obtain ⟨cs, hO, hF⟩ := hM.out.ex
      have hvq : v1.ownBlock ≠ some q := fun e => by have := (own_lt hO e).2; omega
      rw [hq] at N1
      obtain ⟨W1, hW1⟩ : ∃ W1, W.alloc (.cells #[.int .i64 op, .int .i64 f, .int .i64 u, .slice ab b.len cbp, .slice ao o.len cop] 47) = W1 := ⟨_, rfl⟩
      rw [hW1] at X1 N1
      replace hq := hidden hq
      replace hW1 := hidden hW1
      replace hO := hidden hO
      replace hF := hidden hF
      have hml := hidden hM.out.len
      have HT : Hid (t = (t1.app (.cons op f u b o .nil)).app r) := by show _ = _; rw [ht.out, T.app_assoc]; rfl
      have HK : Hid ((t1.app (.cons op f u b o .nil)).len = k + 1) := by show _ = _; rw [T.len_app, hk1.out]; rfl
      have hkw : IntKind.i64.wrap ((k : Int) + 1) = (k : Int) + 1 := IntWalk.i64_in _ (by omega)
      obtain ⟨S0, hS0⟩ : ∃ S0 : World → Prop, S0 = fun W' => W'.cell? ⟨q, 0, none⟩ = some (.int .i64 op) ∧ W'.cell? ⟨q, 1, none⟩ = some (.int .i64 f) ∧ W'.cell? ⟨q, 2, none⟩ = some (.int .i64 u) ∧ W'.cell? ⟨q, 3, none⟩ = some (.slice ab b.len cbp) ∧ W'.cell? ⟨q, 4, none⟩ = some (.slice ao o.len cop) := ⟨_, rfl⟩
      have HSi : ∀ W', Ext W1 W' → S0 W' := fun W' X => by rw [hS0]; exact ⟨(N1.ext X).cell 0 _ rfl, (N1.ext X).cell 1 _ rfl, (N1.ext X).cell 2 _ rfl, (N1.ext X).cell 3 _ rfl, (N1.ext X).cell 4 _ rfl⟩
      have HSg : ∀ W' W'', S0 W' → W'.grownBy W'' v1.ownBlock → S0 W'' := fun W' W'' h g => by rw [hS0] at h ⊢; exact ⟨g.cell h.1 (Ne.symm hvq), g.cell h.2.1 (Ne.symm hvq), g.cell h.2.2.1 (Ne.symm hvq), g.cell h.2.2.2.1 (Ne.symm hvq), g.cell h.2.2.2.2 (Ne.symm hvq)⟩
      have hcb := fun W' (X : Ext W1 W') => ih.out b (by rw [ht.out, nodes_app]; simp only [nodes]; omega) W' Q (.slice ab b.len cbp) ((hbS.chg (Chg.of_ext [] X1) (by simp) (fun _ _ h => h)).chg (Chg.of_ext [] X) (by simp) (fun _ _ h => h)) bb hnb.1
      have hco := fun W' (X : Ext W1 W') => ih.out o (by rw [ht.out, nodes_app]; simp only [nodes]; omega) W' Q (.slice ao o.len cop) ((hoS.chg (Chg.of_ext [] X1) (by simp) (fun _ _ h => h)).chg (Chg.of_ext [] X) (by simp) (fun _ _ h => h)) bo hnb.2
      replace hcb := hidden hcb
      replace hco := hidden hco
      replace HSi := hidden HSi
      replace HSg := hidden HSg
      have hSo := hidden (fun (W' : World) (h : S0 W') => by rw [hS0] at h; exact h : ∀ W', S0 W' → _ ∧ _ ∧ _ ∧ _ ∧ _)
      replace hS0 := hidden hS0
      clear hM hbS hoS N1 bb bo hvq
      go_upto_region 5 with fail
      rw [hW1.out, hq.out]
      refine wp_region_held_drew (S := S0) (by kernel_rfl) (HSi.out _ (Ext.refl _).drew) (fun HS => ?_)
      refine takeH 0 (v1) rfl rfl (by kernel_rfl) (by kernel_rfl) (by kernel_rfl) (fun _ _ _ h => h) (by rfl) (fun w' hw' => by go_simp) HS ?_
      simp only [List.setIfInBounds_toArray, List.set_cons_zero, List.set_cons_succ]
      refine takeH 1 (.pointer (some ⟨q, 0, none⟩)) rfl rfl (by kernel_rfl) (by kernel_rfl) (by kernel_rfl) (fun _ _ _ h => h) (by rfl) (fun w' hw' => by go_simp) HS ?_
      simp only [List.setIfInBounds_toArray, List.set_cons_zero, List.set_cons_succ]
      refine takeH 2 (.int .i64 op) rfl rfl (by kernel_rfl) (by kernel_rfl) (by kernel_rfl) (fun _ _ _ h => h) (by rfl) (fun w' hw' => by obtain ⟨y0, y1, y2, y3, y4⟩ := hSo.out w' hw'; go_simp) HS ?_
      simp only [List.setIfInBounds_toArray, List.set_cons_zero, List.set_cons_succ]
      refine takeH 3 (.pointer (some ⟨q, 1, none⟩)) rfl rfl (by kernel_rfl) (by kernel_rfl) (by kernel_rfl) (fun _ _ _ h => h) (by rfl) (fun w' hw' => by go_simp) HS ?_
      simp only [List.setIfInBounds_toArray, List.set_cons_zero, List.set_cons_succ]
      refine takeH 4 (.int .i64 f) rfl rfl (by kernel_rfl) (by kernel_rfl) (by kernel_rfl) (fun _ _ _ h => h) (by rfl) (fun w' hw' => by obtain ⟨y0, y1, y2, y3, y4⟩ := hSo.out w' hw'; go_simp) HS ?_
      simp only [List.setIfInBounds_toArray, List.set_cons_zero, List.set_cons_succ]
      refine takeH 5 (.int .i64 (f + 1)) rfl rfl (by kernel_rfl) (by kernel_rfl) (by kernel_rfl) (fun _ _ _ h => h) (by rfl) (fun w' hw' => by go_simp) HS ?_
      simp only [List.setIfInBounds_toArray, List.set_cons_zero, List.set_cons_succ]
      refine takeH 6 (.pointer (some ⟨q, 2, none⟩)) rfl rfl (by kernel_rfl) (by kernel_rfl) (by kernel_rfl) (fun _ _ _ h => h) (by rfl) (fun w' hw' => by go_simp) HS ?_
      simp only [List.setIfInBounds_toArray, List.set_cons_zero, List.set_cons_succ]
      refine takeH 7 (.int .i64 u) rfl rfl (by kernel_rfl) (by kernel_rfl) (by kernel_rfl) (fun _ _ _ h => h) (by rfl) (fun w' hw' => by obtain ⟨y0, y1, y2, y3, y4⟩ := hSo.out w' hw'; go_simp) HS ?_
      simp only [List.setIfInBounds_toArray, List.set_cons_zero, List.set_cons_succ]
      refine takeH 8 (.int .i64 (u + 1)) rfl rfl (by kernel_rfl) (by kernel_rfl) (by kernel_rfl) (fun _ _ _ h => h) (by rfl) (fun w' hw' => by go_simp) HS ?_
      simp only [List.setIfInBounds_toArray, List.set_cons_zero, List.set_cons_succ]
      refine takeH 9 (.pointer (some ⟨q, 3, none⟩)) rfl rfl (by kernel_rfl) (by kernel_rfl) (by kernel_rfl) (fun _ _ _ h => h) (by rfl) (fun w' hw' => by go_simp) HS ?_
      simp only [List.setIfInBounds_toArray, List.set_cons_zero, List.set_cons_succ]
      refine takeH 10 (.slice ab b.len cbp) rfl rfl (by kernel_rfl) (by kernel_rfl) (by kernel_rfl) (fun _ _ _ h => h) (by rfl) (fun w' hw' => by obtain ⟨y0, y1, y2, y3, y4⟩ := hSo.out w' hw'; go_simp) HS ?_
      simp only [List.setIfInBounds_toArray, List.set_cons_zero, List.set_cons_succ]
      refine takeH 12 (.pointer (some ⟨q, 4, none⟩)) rfl rfl (by kernel_rfl) (by kernel_rfl) (by kernel_rfl) (fun _ _ _ h => h) (by rfl) (fun w' hw' => by go_simp) HS ?_
      simp only [List.setIfInBounds_toArray, List.set_cons_zero, List.set_cons_succ]
      refine takeH 13 (.slice ao o.len cop) rfl rfl (by kernel_rfl) (by kernel_rfl) (by kernel_rfl) (fun _ _ _ h => h) (by rfl) (fun w' hw' => by obtain ⟨y0, y1, y2, y3, y4⟩ := hSo.out w' hw'; go_simp) HS ?_
      simp only [List.setIfInBounds_toArray, List.set_cons_zero, List.set_cons_succ]
      refine callH 11 23 #[.slice ab b.len cbp] rfl rfl (by kernel_rfl) (by rfl) (by go_simp) (hcb.out _ (Ext.refl _).drew) ?_
      rintro e w3 ⟨vb, rfl, s3, g3⟩
      have G3 := (Ext.refl W1).drew.trans g3
      refine ⟨_, rfl, HSi.out w3 G3, ?_⟩
      simp only [List.setIfInBounds_toArray, List.set_cons_zero, List.set_cons_succ]
      refine callH 14 23 #[.slice ao o.len cop] rfl rfl (by kernel_rfl) (by rfl) (by go_simp) (hco.out _ G3) ?_
      rintro e w4 ⟨vo, rfl, s4, g4⟩
      have G4 := G3.trans g4
      have HS4 := HSi.out w4 G4
      refine ⟨_, rfl, HS4, ?_⟩
      simp only [List.setIfInBounds_toArray, List.set_cons_zero, List.set_cons_succ]
      obtain ⟨a3, c3, rfl, -⟩ := Rd.shape s3.choose_spec.1
      obtain ⟨a4, c4, rfl, -⟩ := Rd.shape s4.choose_spec.1
      refine takeH 15 (.agg #[.int .i64 op, .int .i64 (f + 1), .int .i64 (u + 1), .slice a3 (mvF b).len c3, .slice a4 (mvF o).len c4]) rfl rfl (by kernel_rfl) (by kernel_rfl) (by kernel_rfl) (fun _ _ _ h => h) (by rfl) (fun w' hw' => by go_simp) HS4 ?_
      simp only [List.setIfInBounds_toArray, List.set_cons_zero, List.set_cons_succ]
      refine wpAnyH_all (rs := [16]) (by kernel_rfl) (by simp) ?_
      intro i hi
      obtain rfl : i = 16 := by simpa using hi
      have X5 := (Ext.refl w4).alloc (.cells #[.int .i64 op, .int .i64 (f + 1), .int .i64 (u + 1), .slice a3 (mvF b).len c3, .slice a4 (mvF o).len c4] 47)
      refine wpOp_value 16 (.slice (some ⟨w4.heap.size, 0, none⟩) 1 1) rfl rfl (by rfl) (w' := w4.alloc (.cells #[.int .i64 op, .int .i64 (f + 1), .int .i64 (u + 1), .slice a3 (mvF b).len c3, .slice a4 (mvF o).len c4] 47)) (by go_simp) ⟨HSi.out _ (G4.trans X5), ?_⟩
      simp only [List.setIfInBounds_toArray, List.set_cons_zero, List.set_cons_succ]
      have N5 := rd_new5 w4 (.int .i64 op) (.int .i64 (f + 1)) (.int .i64 (u + 1)) (.slice a3 (mvF b).len c3) (.slice a4 (mvF o).len c4) 47
      have hrw : Ext W (w4.alloc (.cells #[.int .i64 op, .int .i64 (f + 1), .int .i64 (u + 1), .slice a3 (mvF b).len c3, .slice a4 (mvF o).len c4] 47)) := X1.trans (G4.trans X5)
      have B3 := (s3.chg (Chg.of_ext [] (g4.trans X5)) (by simp) (fun k hk h => ⟨Nat.le_trans X1.size h, Nat.lt_of_lt_of_le hk (g4.trans X5).size⟩ : ∀ k, k < w3.heap.size → W1.drew.heap.size ≤ k → W.heap.size ≤ k ∧ k < (w4.alloc (.cells #[.int .i64 op, .int .i64 (f + 1), .int .i64 (u + 1), .slice a3 (mvF b).len c3, .slice a4 (mvF o).len c4] 47)).heap.size))
      have B4 := (s4.chg (Chg.of_ext [] X5) (by simp) (fun k hk h => ⟨Nat.le_trans (X1.trans G3).size h, Nat.lt_of_lt_of_le hk X5.size⟩ : ∀ k, k < w4.heap.size → w3.heap.size ≤ k → W.heap.size ≤ k ∧ k < (w4.alloc (.cells #[.int .i64 op, .int .i64 (f + 1), .int .i64 (u + 1), .slice a3 (mvF b).len c3, .slice a4 (mvF o).len c4] 47)).heap.size))
      have hFn : Fr (w4.alloc (.cells #[.int .i64 op, .int .i64 (f + 1), .int .i64 (u + 1), .slice a3 (mvF b).len c3, .slice a4 (mvF o).len c4] 47)) (fun k => W.heap.size ≤ k ∧ k < (w4.alloc (.cells #[.int .i64 op, .int .i64 (f + 1), .int .i64 (u + 1), .slice a3 (mvF b).len c3, .slice a4 (mvF o).len c4] 47)).heap.size) (.cons op (f + 1) (u + 1) (mvF b) (mvF o) .nil) [.int .i64 op, .int .i64 (f + 1), .int .i64 (u + 1), .slice a3 (mvF b).len c3, .slice a4 (mvF o).len c4] := ⟨_, _, [], rfl, B3, B4, rfl⟩
      have hs5 := X5.size
      have hsW := hX.out.size
      have hsr := hrw.size
      obtain ⟨W5, hW5⟩ : ∃ W5, w4.alloc (.cells #[.int .i64 op, .int .i64 (f + 1), .int .i64 (u + 1), .slice a3 (mvF b).len c3, .slice a4 (mvF o).len c4] 47) = W5 := ⟨_, rfl⟩
      have HS5 := HSi.out _ (G4.trans X5)
      rw [hW5] at N5 hrw hFn hs5 HS5 hsr ⊢
      clear B3 B4 hW5
      refine wpAnyH_all (rs := [17]) (by kernel_rfl) (by simp) ?_
      intro i hi
      obtain rfl : i = 17 := by simpa using hi
      refine wpOp_append 17 rfl rfl (by rfl) _ _ 25 rfl w.heap.size 47 i0 (.agg #[.int .i64 0, .int .i64 0, .int .i64 0, .slice none 0 0, .slice none 0 0]) 5 72 Try.underlying25 hia.out hz0 hz1 hz2 rfl (by decide) v1 k cs (by rfl) (own_ext hO.out hrw) (some ⟨w4.heap.size, 0, none⟩) 1 1 [.int .i64 op, .int .i64 (f + 1), .int .i64 (u + 1), .slice a3 (mvF b).len c3, .slice a4 (mvF o).len c4] (by rfl) N5 (by simp [Value.oneCell']) (by unfold maxLen; omega) (by omega) (by omega) (by omega) ?_
      intro v' w6 hown6 hgrow6 hat6
      have HMV := MV.push hO.out hF.out hX.out hml.out hrw hFn (by simp [T.len]) hown6 hgrow6 hat6
      have HS6 := HSg.out W5 w6 HS5 hgrow6
      refine ⟨HS6, ?_⟩
      simp only [List.setIfInBounds_toArray, List.set_cons_zero, List.set_cons_succ]
      refine takeH 18 (v') rfl rfl (by kernel_rfl) (by kernel_rfl) (by kernel_rfl) (fun _ _ _ h => h) (by rfl) (fun w' hw' => by go_simp) HS6 ?_
      simp only [List.setIfInBounds_toArray, List.set_cons_zero, List.set_cons_succ]
      refine wpAnyH_done (by kernel_rfl) ?_ _
      go_wp2_with fail
      go_roundw
      case rel => exact ⟨k + 1, t1.app (.cons op f u b o .nil), r, v', by omega, by go_num, rfl, HT, HK, hidden (by rw [mvF_app]; exact HMV)⟩
      case measure => simp [intOf]; omega
    · obtain rfl : k = n := by omega
      have hk2 : t2 = .nil := by
        cases t2 with
        | nil => rfl
        | cons op f tt b o r =>
          have h1 := hn.out
          rw [ht.out, T.len_app, hk1.out] at h1
          simp [T.len] at h1
      have hfin : Hid (SubAt W (fun k => w.heap.size ≤ k) v1 (mvF t)) := by rw [ht.out, hk2, T.app_nil]; exact hM.out.sub
      clear hM
      go_wp2_with fail
      go_ret
      exact ⟨_, rfl, hfin.out, hX.out⟩
theorem moved_all (t : T) : MvOK t := nodes_ind moved_any t
end Go.Proofs.Ytcnbljohhajkhaa
