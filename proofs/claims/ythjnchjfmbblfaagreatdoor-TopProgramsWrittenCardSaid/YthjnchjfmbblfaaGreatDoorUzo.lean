/- Assemble. -/
import Derived.Test.YthjnchjfmbblfaaGreatDoorUzn
namespace Go.Proofs.YthjnchjfmbblfaaGreatDoor
open Go.RowKit Go.ChangeMaps Go.MapKept
set_option linter.unusedVariables false
set_option linter.unusedSimpArgs false
attribute [local go_sem ↓] Go.wp_at_zero Go.wp_at_succ

theorem results_row3 {P : Program} {fn : Func} {p a b : Tmp} {ty : TypeId} (h : fn.results = #[.cell p ty, .tmp a, .tmp b]) (tmps : Array Value) (w : World) (g : Nat) (t : TypeId) (cs : Array Value) (fr : Nat × Nat) (d : TypeDesc)
    (hp : tmps.getD p undef = .pointer (some ⟨g, 0, none⟩)) (hg : w.heap[g]? = some (.cells cs t fr))
    (hu : P.underlying ty = some d) (hd : (match d with | .struct _ | .array _ _ => true | _ => false) = true) (hi : (P.info? ty).map (·.size) = some cs.size) (va vb : Value) (ha : tmps.getD a undef = va) (hb : tmps.getD b undef = vb) :
    (results fn tmps).run P w = .ok (.tuple #[.agg cs, va, vb]) w := by
  have hp' : tmps[p]?.getD undef = .pointer (some ⟨g, 0, none⟩) := by simpa using hp
  have ha' : tmps[a]?.getD undef = va := by simpa using ha
  have hb' : tmps[b]?.getD undef = vb := by simpa using hb
  simp [results, h, hp', ha', hb', asAddr, run_loadVar_row w g t ty cs fr d hg hu hd hi]
/-- What Assemble says. -/
def AsmR (L : List UInt8) (w : World) (x : Ending) (w' : World) : Prop := match Src.readF L with
  | .ok s => ∃ vA vC, x = .returned (.tuple #[.agg #[vA, .int .i64 (s.loc.length : Int), vC], .int .i64 0, .int .i64 0]) ∧ Arr w' vA s.A ∧ Cod w' vC s.C ∧ Ext w w'
  | .error c => x = .returned (.tuple #[.agg #[.slice none 0 0, .int .i64 0, .slice none 0 0], .int .i64 (c.1 : Int), .int .i64 c.2]) ∧ Ext w w'
/-- An error is no OK. -/
def ErrNe (c : Nat × Int) : Prop := c.2 ≠ 0
theorem readF_err {L : List UInt8} {c : Nat × Int} (h : Src.readF L = .error c) : c.2 ≠ 0 := by
  have nameE : ∀ e s c, Src.nameF e s = .error c → c.2 ≠ 0 := by
    intro e s c h
    unfold Src.nameF at h
    split at h
    · cases h
    · cases h; show (4 : Int) ≠ 0; decide
  have freshE : ∀ e s c, Src.freshF e s = .error c → c.2 ≠ 0 := by
    intro e s c h
    unfold Src.freshF at h
    cases hn : Src.nameF e s with
    | error d => rw [hn] at h; cases h; exact nameE e s _ hn
    | ok b =>
      rw [hn] at h
      simp only at h
      split at h
      · cases h; show (8 : Int) ≠ 0; decide
      · cases h
  have indexE : ∀ e l s c, Src.indexF e l s = .error c → c.2 ≠ 0 := by
    intro e l s c h
    unfold Src.indexF at h
    cases hn : Src.nameF e s with
    | error d => rw [hn] at h; cases h; exact nameE e s _ hn
    | ok b =>
      rw [hn] at h
      simp only at h
      split at h
      · cases h
      · cases h; show (7 : Int) ≠ 0; decide
  have valueE : ∀ e s c, Src.valueF e s = .error c → c.2 ≠ 0 := by
    intro e s c h
    unfold Src.valueF at h
    split at h
    · cases h
    · cases hn : Src.nameF e s with
      | error d => rw [hn] at h; cases h; exact nameE e s _ hn
      | ok b =>
        rw [hn] at h
        simp only at h
        split at h
        · cases h
        · cases h; show (7 : Int) ≠ 0; decide
  have arrayE : ∀ e b s c, Src.arrayF e b s = .error c → c.2 ≠ 0 := by
    intro e b s c h
    unfold Src.arrayF at h
    cases hn : Src.freshF e s with
    | error d => rw [hn] at h; cases h; exact freshE e s _ hn
    | ok b =>
      rw [hn] at h
      simp only at h
      split at h
      · cases h; show (6 : Int) ≠ 0; decide
      · cases hv : Src.valueF e b.2 with
        | error d => rw [hv] at h; cases h; exact valueE e _ _ hv
        | ok d =>
          rw [hv] at h
          simp only at h
          split at h
          · cases h
          · cases h; show (2 : Int) ≠ 0; decide
  have localE : ∀ e s c, Src.localF e s = .error c → c.2 ≠ 0 := by
    intro e s c h
    unfold Src.localF at h
    cases hn : Src.freshF e s with
    | error d => rw [hn] at h; cases h; exact freshE e s _ hn
    | ok b =>
      rw [hn] at h
      simp only at h
      split at h
      · cases h; show (6 : Int) ≠ 0; decide
      · cases h
  have constE : ∀ e s c, Src.constF e s = .error c → c.2 ≠ 0 := by
    intro e s c h
    unfold Src.constF at h
    cases hn : Src.freshF e s with
    | error d => rw [hn] at h; cases h; exact freshE e s _ hn
    | ok b =>
      rw [hn] at h
      simp only at h
      cases hv : Src.valueF e b.2 with
      | error d => rw [hv] at h; cases h; exact valueE e _ _ hv
      | ok d => rw [hv] at h; cases h
  have argE : ∀ e op s c, Src.argF e op s = .error c → c.2 ≠ 0 := by
    intro e op s c h
    unfold Src.argF at h
    split at h
    · cases hv : Src.valueF e s with
      | error d => rw [hv] at h; cases h; exact valueE e _ _ hv
      | ok d => rw [hv] at h; cases h
    · split at h
      · cases hv : Src.valueF e s with
        | error d => rw [hv] at h; cases h; exact valueE e _ _ hv
        | ok d =>
          rw [hv] at h
          simp only at h
          split at h
          · cases h
          · cases h; show (2 : Int) ≠ 0; decide
      · split at h
        · exact indexE e _ _ _ h
        · split at h
          · exact indexE e _ _ _ h
          · cases h
  have instrE : ∀ e w s c, Src.instrF e w s = .error c → c.2 ≠ 0 := by
    intro e w s c h
    unfold Src.instrF at h
    split at h
    · cases h; show (4 : Int) ≠ 0; decide
    · split at h
      · cases h; show (6 : Int) ≠ 0; decide
      · cases hv : Src.argF e (Src.findW w.1).1 s with
        | error d => rw [hv] at h; cases h; exact argE e _ _ _ hv
        | ok d => rw [hv] at h; cases h
  have stepE : ∀ e w s c, Src.stepF e w s = .error c → c.2 ≠ 0 := by
    intro e w s c h
    unfold Src.stepF at h
    split at h
    · exact arrayE _ _ _ _ h
    · split at h
      · exact arrayE _ _ _ _ h
      · split at h
        · exact localE _ _ _ h
        · split at h
          · exact constE _ _ _ h
          · exact instrE _ _ _ _ h
  have loopE : ∀ e n s c, Src.loopF e n s = .error c → c.2 ≠ 0 := by
    intro e n
    induction n with
    | zero => intro s c h; cases h
    | succ n ih =>
      intro s c h
      unfold Src.loopF at h
      split at h
      · cases h
      · next w r hw =>
        cases hs : Src.stepF e w { s with ws := r } with
        | error d => rw [hs] at h; cases h; exact stepE _ _ _ _ hs
        | ok s' => rw [hs] at h; exact ih _ _ h
  unfold Src.readF at h
  split at h
  · cases h; show (5 : Int) ≠ 0; decide
  · exact loopE _ _ _ _ h
set_option maxHeartbeats 8000000 in
set_option maxRecDepth 100000 in
theorem assemble_any (src : ByteArray) (hs0 : src.size ≤ 1000000) (w : World) (hErr : ErrR w) :
    Calls Tryz.prog 6 #[.string src] w (AsmR src.data.toList w) := by
  have X0 : Ext w (w.alloc (.cells #[.slice none 0 0, .int .i64 0, .slice none 0 0] 25)) := (Ext.refl w).alloc _
  have HB0 := Blk.new w [.slice none 0 0, .int .i64 0, .slice none 0 0] 25
  have hrd := read_any src hs0 _ (hErr.ext X0)
  obtain ⟨L, hL⟩ : ∃ L, src.data.toList = L := ⟨_, rfl⟩
  rw [hL] at hrd ⊢
  obtain ⟨w1, hw1⟩ : ∃ w1, w.alloc (.cells #[.slice none 0 0, .int .i64 0, .slice none 0 0] 25) = w1 := ⟨_, rfl⟩
  obtain ⟨q, hq⟩ : ∃ q, w.heap.size = q := ⟨_, rfl⟩
  rw [hq] at HB0
  rw [hw1] at HB0 X0 hrd
  have hi25 : (Tryz.prog.info? 25).map (·.size) = some 3 := by kernel_rfl
  replace hL := hidden hL
  clear hErr hs0
  unfold AsmR
  cases hR : Src.readF L with
  | error c =>
    rw [hR] at hrd
    unfold ReadR at hrd
    simp only at hrd ⊢
    have hne := readF_err hR
    have hne' : (c.2 != 0) = true := by simpa using hne
    replace hrd := hidden hrd
    obtain ⟨c1, c2⟩ := c
    simp only at hne' hrd ⊢
    clear hR hne
    go_enter Tryz.func6, Tryz.ntmps6
    go_wp2_with fail
    refine hrd.out.mono ?_
    rintro x w2 ⟨rfl, X2⟩
    have HB2 := HB0.ext X2
    have d0 := HB2.cell 0 _ rfl
    have d1 := HB2.cell 1 _ rfl
    have d2 := HB2.cell 2 _ rfl
    have f0 := HB2.frozen 0
    have f1 := HB2.frozen 1
    have f2 := HB2.frozen 2
    go_wp2_with fail
    have HB9 := ((HB2.set 0 (.slice none 0 0)).set 1 (.int .i64 0)).set 2 (.slice none 0 0)
    have hC9 := ((Chg.refl [q] w2).setCell (p := ⟨q, 0, none⟩) (Or.inl (by simp)) (.slice none 0 0)).setCell (p := ⟨q, 1, none⟩) (Or.inl (by simp)) (.int .i64 0) |>.setCell (p := ⟨q, 2, none⟩) (Or.inl (by simp)) (.slice none 0 0)
    obtain ⟨W9, hW9⟩ : ∃ W, ((w2.setCell ⟨q, 0, none⟩ (.slice none 0 0)).setCell ⟨q, 1, none⟩ (.int .i64 0)).setCell ⟨q, 2, none⟩ (.slice none 0 0) = W := ⟨_, rfl⟩
    rw [hW9] at HB9 hC9 ⊢
    have hX9 : Ext w W9 := ((Chg.of_ext [] (X0.trans X2)).trans hC9 (fun x hx => Or.inr (by simp at hx; omega))).ext
    refine bodyPost_ret (results_row3 (p := 2) (a := 3) (b := 4) (ty := 25) (by kernel_rfl) _ _ q 25 #[.slice none 0 0, .int .i64 0, .slice none 0 0] (0, 0) _ rfl HB9 Tryz.underlying25 rfl hi25 _ _ rfl rfl) rfl ?_
    exact ⟨rfl, hX9⟩
  | ok s =>
    rw [hR] at hrd
    unfold ReadR at hrd
    simp only at hrd ⊢
    obtain ⟨nl, hnl⟩ : ∃ n, s.loc.length = n := ⟨_, rfl⟩
    rw [hnl]
    replace hnl := hidden hnl
    replace hrd := hidden hrd
    clear hR
    go_enter Tryz.func6, Tryz.ntmps6
    go_wp2_with fail
    refine hrd.out.mono ?_
    rintro x w2 ⟨r, m, B, rfl, hM, hBB, X2⟩
    obtain ⟨vw, vA, vC, va, vl, hV⟩ := hM
    obtain ⟨aA, cA', hvA, -⟩ := own_shape hV.oA
    obtain ⟨aC, cC, hvC, -⟩ := own_shape hV.oC
    subst hvA
    subst hvC
    have hqB : q < B := by have := HB0.lt; omega
    have hoA := hV.oA
    have hoC := hV.oC
    have e2 := hV.blk.cell 2 _ rfl
    have e3 := hV.blk.cell 3 _ rfl
    have e4 := hV.blk.cell 4 _ rfl
    obtain ⟨nA, hnA⟩ : ∃ n, s.A.length = n := ⟨_, rfl⟩
    obtain ⟨nC, hnC⟩ : ∃ n, s.C.length = n := ⟨_, rfl⟩
    rw [hnA] at e2 hoA
    rw [hnl.out] at e3
    rw [hnC] at e4 hoC
    have HB2 := HB0.ext X2
    have d0 := HB2.cell 0 _ rfl
    have d1 := HB2.cell 1 _ rfl
    have d2 := HB2.cell 2 _ rfl
    have f0 := HB2.frozen 0
    have f1 := HB2.frozen 1
    have f2 := HB2.frozen 2
    replace hnA := hidden hnA
    replace hnC := hidden hnC
    replace hoA := hidden hoA
    replace hoC := hidden hoC
    clear hV
    go_wp2_with fail
    have HB9 := ((HB2.set 0 (.slice aA nA cA')).set 1 (.int .i64 (nl : Int))).set 2 (.slice aC nC cC)
    have hC9 := ((Chg.refl [q] w2).setCell (p := ⟨q, 0, none⟩) (Or.inl (by simp)) (.slice aA nA cA')).setCell (p := ⟨q, 1, none⟩) (Or.inl (by simp)) (.int .i64 (nl : Int)) |>.setCell (p := ⟨q, 2, none⟩) (Or.inl (by simp)) (.slice aC nC cC)
    obtain ⟨W9, hW9⟩ : ∃ W, ((w2.setCell ⟨q, 0, none⟩ (.slice aA nA cA')).setCell ⟨q, 1, none⟩ (.int .i64 (nl : Int))).setCell ⟨q, 2, none⟩ (.slice aC nC cC) = W := ⟨_, rfl⟩
    rw [hW9] at HB9 hC9 ⊢
    have hX9 : Ext w W9 := ((Chg.of_ext [] (X0.trans X2)).trans hC9 (fun x hx => Or.inr (by simp at hx; omega))).ext
    refine bodyPost_ret (results_row3 (p := 2) (a := 3) (b := 4) (ty := 25) (by kernel_rfl) _ _ q 25 #[.slice aA nA cA', .int .i64 (nl : Int), .slice aC nC cC] (0, 0) _ rfl HB9 Tryz.underlying25 rfl hi25 _ _ rfl rfl) rfl ?_
    have rA : Arr W9 (.slice aA nA cA') s.A := by
      have := Rd.of_own (own_chg hoA.out hC9 (fun x hx => by simp at hx; subst hx; exact own_base hoA.out hqB))
      unfold Arr
      rw [hnA.out]
      exact this
    have rC : Cod W9 (.slice aC nC cC) s.C := by
      have := Rd.of_own (own_chg hoC.out hC9 (fun x hx => by simp at hx; subst hx; exact own_base hoC.out hqB))
      unfold Cod
      rw [hnC.out]
      exact this
    exact ⟨_, _, rfl, rA, rC, hX9⟩
end Go.Proofs.YthjnchjfmbblfaaGreatDoor
