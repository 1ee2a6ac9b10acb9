/- name: a name is read. -/
import Derived.Test.YthjnchjfmbblfaaGreatDoorUzb
import Derived.Test.YthjnchjfmbblfaaGreatDoorKs
namespace Go.Proofs.YthjnchjfmbblfaaGreatDoor
open Go.RowKit Go.ChangeMaps Go.MapKept
set_option linter.unusedVariables false
set_option linter.unusedSimpArgs false
attribute [local go_sem ↓] Go.wp_at_zero Go.wp_at_succ

/-- An operation that a guard leaves out. -/
theorem skipD {P : Program} {md : Region.Mode} {ops : Array Oper} {Q : Exit → Act → World → Prop} {S : World → Prop} {D : List Nat} (i : Nat) (Di : List Nat) {oi : Oper} {d : Tmp} {fuel : Nat} {listed : Array Bool} {a : Act} {w : World} (hi : ops[i]? = some oi) (hd : oi.dst = some d)
    (hs : Region.noSelect ops = true) (hf : Region.free md ops listed i = true) (hr : (Region.ready md ops listed).contains i = true) (hcl : closedB md ops i Di = true) (hsub : ∀ j ∈ D, j ∈ Di) (hun : ∀ j ∈ Di, listed.getD j true = false)
    (hQ : ∀ c a w, Q (.panic c) (a.put oi.dst undef) w → Q (.panic c) a w) (hw : Region.wanted oi (yielded ops a.tmps) = false) (hS : S w)
    (h : wpAnyD P md ops Q S D fuel (listed.setIfInBounds i true) { a with tmps := a.tmps.setIfInBounds d undef } w) : wpAnyD P md ops Q S D (fuel + 1) listed a w :=
  wpAnyD_first hi (Region.noSelect_spec hs) hQ hsub (closedB_spec hcl) fuel listed a w (Region.free_spec hi hf) hun (by simpa using hr) (Or.inr ⟨hw, rfl⟩) hS (by rw [hd]; exact h)
theorem demand_any (t : ByteArray) (p : Int) (bb : Bool) (e : Int) (w : World) : Calls Tryz.prog 56 #[.agg #[.string t, .int .i64 p], .bool bb, .int .i64 e] w fun x w' => x = (if bb then .returned (.tuple #[]) else failW p e) ∧ Ext w w' := by
  cases bb with
  | true => exact demand_true t p e w
  | false => exact demand_false t p e w
/-- What a method of the reader leaves that reads words alone: its value and the reader behind it, or a panic. -/
def StepP {α : Type} (B r m e : Nat) (V : α → Value) (R : Src.RE (α × Src.RS)) (w : World) (x : Ending) (w' : World) : Prop := match R with
  | .ok a => x = .returned (V a.1) ∧ ReadP B r m e a.2 w w'
  | .error c => x = failW (c.1 : Int) c.2 ∧ Chg [r] w w'
theorem nameOk_eq (T : ByteArray) : Src.nameOk T.data.toList = (!decide (T.size = 0) && decide (T.size ≤ 32) && onlyF (T.extract 0 1) bLet && onlyF T bNm && !Src.isDecl T.data.toList && !(fndV T).2) := by
  unfold Src.nameOk
  rw [only_let, only_nm, extract_list]
  have h1 : (T.data.toList != []) = !decide (T.size = 0) := by
    have : T.data.toList.length = T.size := by simp
    by_cases h0 : T.size = 0
    · rw [h0] at this
      rw [List.eq_nil_of_length_eq_zero this, h0]; rfl
    · have hne : T.data.toList ≠ [] := fun e => by rw [e] at this; exact h0 this.symm
      simp [h0, hne]
  have h2 : T.data.toList.length = T.size := by simp
  rw [h1, h2]
  rfl
/-- A word's box is none of the reader's blocks. -/
theorem RV.word {w : World} {B r m e : Nat} {s : Src.RS} {vw vA vC va vl : Value} (h : RV w B r m e s vw vA vC va vl) {q : Nat} {cs : List Value} (hB : Blk w q 86 cs) (hq : B ≤ q) : q ≠ r ∧ q ≠ m ∧ vw.ownBlock ≠ some q ∧ vA.ownBlock ≠ some q ∧ vC.ownBlock ≠ some q ∧ va.ownBlock ≠ some q ∧ vl.ownBlock ≠ some q := by
  have h1 := h.rB
  have h2 := h.mB
  exact ⟨by omega, by omega, fun hv => by have := (h.wlo q hv).1; omega, own_ne_blk h.oA hB (by decide), own_ne_blk h.oC hB (by decide), own_ne_blk h.oa hB (by decide), own_ne_blk h.ol hB (by decide)⟩
theorem RMem.ext {w w' : World} {B r m e : Nat} {s : Src.RS} (h : RMem w B r m e s) (k : Ext w w') : RMem w' B r m e s := by
  obtain ⟨_, _, _, _, _, h⟩ := h
  exact ⟨_, _, _, _, _, h.ext k⟩
theorem RMem.put {w : World} {B r m e : Nat} {s : Src.RS} (h : RMem w B r m e s) {q : Nat} {a b : Value} (hB : Blk w q 86 [a, b]) (hq : B ≤ q) (x y : Value) :
    RMem ((w.setCell ⟨q, 0, none⟩ x).setCell ⟨q, 1, none⟩ y) B r m e s ∧ Blk ((w.setCell ⟨q, 0, none⟩ x).setCell ⟨q, 1, none⟩ y) q 86 [x, y] := by
  obtain ⟨_, _, _, _, _, h⟩ := h
  have hC : Chg [q] w ((w.setCell ⟨q, 0, none⟩ x).setCell ⟨q, 1, none⟩ y) := ((Chg.refl [q] w).setCell (p := ⟨q, 0, none⟩) (Or.inl (by simp)) x).setCell (p := ⟨q, 1, none⟩) (Or.inl (by simp)) y
  refine ⟨⟨_, _, _, _, _, h.chg hC (fun k hk => ?_)⟩, (hB.set 0 x).set 1 y⟩
  simp at hk
  subst hk
  exact h.word hB hq
set_option maxHeartbeats 8000000 in
set_option maxRecDepth 100000 in
theorem name_any (B r m e : Nat) (s : Src.RS) (w : World) (hR : RMem w B r m e s) (hb : ∀ x ∈ s.ws, x.1.length ≤ 8192) :
    Calls Tryz.prog 77 #[.pointer (some ⟨r, 0, none⟩)] w (StepP B r m e vW (Src.nameF e s) w) := by
  have hnx := next_any B r m e s
  obtain ⟨⟨⟨tx, pl⟩, s'⟩, hnf⟩ : ∃ p, Src.nextF e s = p := ⟨_, rfl⟩
  have htx : tx.length ≤ 8192 := by
    unfold Src.nextF at hnf
    cases hs : s.ws with
    | nil => rw [hs] at hnf; cases hnf; exact Nat.zero_le _
    | cons p rest => rw [hs] at hnf; cases hnf; exact hb (tx, pl) (by rw [hs]; exact List.mem_cons_self)
  have hnm : Src.nameF e s = if Src.nameOk tx = true then .ok ((tx, pl), s') else .error (pl, 4) := by unfold Src.nameF; rw [hnf]
  rw [hnf] at hnx
  obtain ⟨T, hT⟩ : ∃ T : ByteArray, ⟨tx.toArray⟩ = T := ⟨_, rfl⟩
  have hTl : T.data.toList = tx := by rw [← hT]
  have hv : vW (tx, pl) = .agg #[.string T, .int .i64 (pl : Int)] := by rw [← hT]; rfl
  have hTs : T.size ≤ 8192 := by rw [← hT]; show tx.toArray.size ≤ 8192; simpa using htx
  have hok := nameOk_eq T
  rw [hTl] at hok
  have hfnd := find_any T
  obtain ⟨dcl, hdcl⟩ : ∃ d, Src.isDecl tx = d := ⟨_, rfl⟩
  obtain ⟨⟨fi, fb⟩, hfv⟩ : ∃ d, fndV T = d := ⟨_, rfl⟩
  rw [hfv] at hfnd hok
  rw [hdcl] at hok
  simp only at hok hfnd
  simp only [hv] at hnx
  have hnx1 : Hid (∀ W, RMem W B r m e s → Calls Tryz.prog 31 #[.pointer (some ⟨r, 0, none⟩)] W fun x w' => x = .returned (.agg #[.string T, .int .i64 (pl : Int)]) ∧ ReadP B r m e s' W w') := hidden hnx
  have hR1 : RMem (w.alloc (.cells #[.string ⟨#[]⟩, .int .i64 0] 86)) B r m e s := by
    obtain ⟨vw, vA, vC, va, vl, h⟩ := hR
    exact ⟨_, _, _, _, _, h.ext ((Ext.refl w).alloc _)⟩
  have X0 : Ext w (w.alloc (.cells #[.string ⟨#[]⟩, .int .i64 0] 86)) := (Ext.refl w).alloc _
  have HB0 := Blk.new w [.string ⟨#[]⟩, .int .i64 0] 86
  have hlk : Hid (∀ (W w' : World), (W.alloc (.cells #[.pointer (some ⟨r, 0, none⟩)] 44)).alloc (tblS (declT W.heap.size r)) = w' → ∃ (mb : Nat) (fv : Value), W.heap.size + 1 = mb ∧ Ext W w' ∧ (Instr.lookup 83 (.map (some mb)) (.string T) true).run Tryz.prog w' = .ok (.tuple #[fv, .bool dcl]) w') := hidden (by
    rintro W w' rfl
    have hl := decl_look W.heap.size r tx
    rw [hT] at hl
    have hx : ((W.alloc (.cells #[.pointer (some ⟨r, 0, none⟩)] 44)).alloc (tblS (declT W.heap.size r))).heap[W.heap.size + 1]? = some (tblS (declT W.heap.size r)) := by
      have := heap_alloc_new (W.alloc (.cells #[.pointer (some ⟨r, 0, none⟩)] 44)) (tblS (declT W.heap.size r))
      simpa using this
    by_cases hd : dcl = true
    · obtain ⟨v, hv⟩ : ∃ v, lookS T (declT W.heap.size r) = some v := by
        rw [hl]
        unfold Src.isDecl at hdcl
        rw [hd] at hdcl
        simp only [Bool.or_eq_true, beq_iff_eq] at hdcl
        rcases hdcl with ((h | h) | h) | h
        · exact ⟨_, by rw [if_pos h]⟩
        · by_cases h1 : tx = Src.dBytes
          · exact ⟨_, by rw [if_pos h1]⟩
          · exact ⟨_, by rw [if_neg h1, if_pos h]⟩
        · subst h; exact ⟨_, rfl⟩
        · subst h; exact ⟨_, rfl⟩
      exact ⟨_, v, rfl, ((Ext.refl W).alloc _).alloc _, by rw [hd]; exact run_lookS Tryz.underlying83 Tryz.underlying9 _ hx T v hv⟩
    · rw [Bool.not_eq_true] at hd
      have hv : lookS T (declT W.heap.size r) = none := by
        rw [hl]
        unfold Src.isDecl at hdcl
        rw [hd] at hdcl
        simp only [Bool.or_eq_false_iff, beq_eq_false_iff_ne] at hdcl
        rw [if_neg hdcl.1.1.1, if_neg hdcl.1.1.2, if_neg hdcl.1.2, if_neg hdcl.2]
      exact ⟨_, .nilFunc, rfl, ((Ext.refl W).alloc _).alloc _, by rw [hd]; exact run_lookS_none Tryz.underlying83 Tryz.underlying9 _ hx T .nilFunc (by kernel_rfl) hv⟩)
  replace hnm := hidden hnm
  replace hok := hidden hok
  replace hfnd := hidden hfnd
  replace hR1 := hidden hR1
  obtain ⟨w1, hw1⟩ : ∃ w1, w.alloc (.cells #[.string ⟨#[]⟩, .int .i64 0] 86) = w1 := ⟨_, rfl⟩
  obtain ⟨q, hq⟩ : ∃ q, w.heap.size = q := ⟨_, rfl⟩
  have hBq : Hid (B ≤ q) := hidden (by obtain ⟨_, _, _, _, _, h⟩ := hR; rw [← hq]; exact h.BS)
  have hs1 : w1.heap.size = q + 1 := by rw [← hw1, ← hq]; simp
  rw [hq] at HB0
  rw [hw1] at HB0 X0 hR1
  have hv' := hidden hv
  clear hR hnx hb hnf htx hT hTl hv hdcl hfv
  have hv := hv'
  clear hv'
  go_enter Tryz.func77, Tryz.ntmps77
  go_wp2_with fail
  refine (hnx1.out _ hR1.out).mono ?_
  rintro x w2 ⟨rfl, hR2, hC2⟩
  have X2 : Chg [r] w w2 := (Chg.of_ext [r] X0).trans hC2 (fun x hx => Or.inl hx)
  have hrq : r < q := by
    obtain ⟨_, _, _, _, _, h⟩ := hR1.out
    have := hBq.out; have := h.rB; omega
  have HB2 := HB0.chg hC2 (by simp; omega)
  have hs2 : q + 1 ≤ w2.heap.size := by have := hC2.size; omega
  obtain ⟨w3, hw3⟩ : ∃ w3, w2.alloc (.cells #[.string T, .int .i64 (pl : Int)] 86) = w3 := ⟨_, rfl⟩
  obtain ⟨q3, hq3⟩ : ∃ q, w2.heap.size = q := ⟨_, rfl⟩
  have X3 : Ext w2 w3 := by rw [← hw3]; exact (Ext.refl w2).alloc _
  have HB3 : Blk w3 q3 86 [.string T, .int .i64 (pl : Int)] := by rw [← hw3]; exact blk_newAt' w2 _ _ _ hq3
  have c0 := HB3.cell 0 _ rfl
  replace HB0 := hidden HB0
  replace HB2 := hidden (HB2.ext X3)
  replace HB3 := hidden HB3
  replace hR2 := hidden hR2
  replace X2 := hidden X2
  replace X3 := hidden X3
  have hD : Hid (∀ w', (w3.drew.alloc (.cells #[.pointer (some ⟨r, 0, none⟩)] 44)).alloc (tblS (declT w3.drew.heap.size r)) = w' → ∃ (mb : Nat) (fv : Value), w3.drew.heap.size + 1 = mb ∧ (w'.cell? ⟨q3, 0, none⟩ = some (.string T)) ∧ Hid (Ext w3 w') ∧ (Instr.lookup 83 (.map (some mb)) (.string T) true).run Tryz.prog w' = .ok (.tuple #[fv, .bool dcl]) w') := hidden (by
    intro w' h
    obtain ⟨mb, fv, h1, h2, h3⟩ := hlk.out w3.drew w' h
    have X : Ext w3 w' := (Ext.refl w3).drew.trans h2
    exact ⟨mb, fv, h1, X.cell c0, X, h3⟩)
  clear X0 hC2
  go_wp2_with fail
  rename_i KK hKK
  refine wp_region_D (S := fun w' : World => w'.cell? ⟨q3, 0, none⟩ = some (.string T)) (D := []) (by kernel_rfl) c0 (fun HS => ?_)
  refine takeD 0 [] (.pointer (some ⟨r, 0, none⟩)) rfl rfl (by kernel_rfl) (by kernel_rfl) (by kernel_rfl) (by kernel_rfl) (by decide) (by decide) (fun _ _ _ h => h) (by rfl) (fun w' hw' => by go_simp) HS ?_
  try simp only [List.setIfInBounds_toArray, List.set_cons_zero, List.set_cons_succ]
  refine takeD 2 [] (.pointer (some ⟨q3, 0, none⟩)) rfl rfl (by kernel_rfl) (by kernel_rfl) (by kernel_rfl) (by kernel_rfl) (by decide) (by decide) (fun _ _ _ h => h) (by rfl) (fun w' hw' => by go_simp) HS ?_
  try simp only [List.setIfInBounds_toArray, List.set_cons_zero, List.set_cons_succ]
  refine takeD 3 [] (.string T) rfl rfl (by kernel_rfl) (by kernel_rfl) (by kernel_rfl) (by kernel_rfl) (by decide) (by decide) (fun _ _ _ h => h) (by rfl) (fun w' hw' => by have p1 : w'.cell? ⟨q3, 0, none⟩ = some (.string T) := hw'; go_simp) HS ?_
  try simp only [List.setIfInBounds_toArray, List.set_cons_zero, List.set_cons_succ]
  refine callVD 1 30 #[.pointer (some ⟨r, 0, none⟩)] rfl rfl (by kernel_rfl) (by rfl) (by go_simp) (decl_any r _) ?_
  rintro e w4 ⟨rfl, hw4⟩
  obtain ⟨mb, fv, y0, y1, y2, y3⟩ := hD.out w4 hw4
  rw [y0]
  clear hw4 y0
  refine Or.inl ⟨_, rfl, fun _ => y1, ?_⟩
  try simp only [List.setIfInBounds_toArray, List.set_cons_zero, List.set_cons_succ]
  refine valueD 4 (.tuple #[fv, .bool dcl]) rfl rfl (by kernel_rfl) (by rfl) (w' := w4) (by simp only [execOp, Act.eval]; go_simp) (fun _ => y1) ?_
  try simp only [List.setIfInBounds_toArray, List.set_cons_zero, List.set_cons_succ]
  refine takeD 5 [] (.tuple #[fv, .bool dcl]) rfl rfl (by kernel_rfl) (by kernel_rfl) (by kernel_rfl) (by kernel_rfl) (by decide) (by decide) (fun _ _ _ h => h) (by rfl) (fun w' hw' => by go_simp) y1 ?_
  try simp only [List.setIfInBounds_toArray, List.set_cons_zero, List.set_cons_succ]
  refine takeD 6 [] (fv) rfl rfl (by kernel_rfl) (by kernel_rfl) (by kernel_rfl) (by kernel_rfl) (by decide) (by decide) (fun _ _ _ h => h) (by rfl) (fun w' hw' => by go_simp) y1 ?_
  try simp only [List.setIfInBounds_toArray, List.set_cons_zero, List.set_cons_succ]
  refine takeD 7 [] (.bool dcl) rfl rfl (by kernel_rfl) (by kernel_rfl) (by kernel_rfl) (by kernel_rfl) (by decide) (by decide) (fun _ _ _ h => h) (by rfl) (fun w' hw' => by go_simp) y1 ?_
  try simp only [List.setIfInBounds_toArray, List.set_cons_zero, List.set_cons_succ]
  refine takeD 8 [] (fv) rfl rfl (by kernel_rfl) (by kernel_rfl) (by kernel_rfl) (by kernel_rfl) (by decide) (by decide) (fun _ _ _ h => h) (by rfl) (fun w' hw' => by go_simp) y1 ?_
  try simp only [List.setIfInBounds_toArray, List.set_cons_zero, List.set_cons_succ]
  refine takeD 9 [] (.bool dcl) rfl rfl (by kernel_rfl) (by kernel_rfl) (by kernel_rfl) (by kernel_rfl) (by decide) (by decide) (fun _ _ _ h => h) (by rfl) (fun w' hw' => by go_simp) y1 ?_
  try simp only [List.setIfInBounds_toArray, List.set_cons_zero, List.set_cons_succ]
  refine wpAnyD_done (by kernel_rfl) ?_ _
  show KK _ _
  refine hKK _ _ ?_
  clear HS y3 hKK KK
  go_wp2_with fail
  refine (hfnd.out _).mono ?_
  rintro x w5 ⟨rfl, X5⟩
  have X6 := hidden (y2.out.trans X5)
  clear X5 y2 y1
  have c5 := (HB3.out.ext X6.out).cell 0 _ rfl
  have c6 := (HB3.out.ext X6.out).cell 1 _ rfl
  have hfail : Hid (Src.nameOk tx = false → ∀ W, Ext w5 W → StepP B r m e vW (Src.nameF e s) w (failW (pl : Int) 4) W) := hidden (by
    intro h0 W hW
    unfold StepP
    rw [hnm.out, h0]
    exact ⟨rfl, X2.out.trans (Chg.of_ext [] ((X3.out.trans X6.out).trans hW)) (by simp)⟩)
  obtain ⟨n, hn⟩ : ∃ n, T.size = n := ⟨_, rfl⟩
  have hl1 := only_any (T.extract 0 1) bLet (by rw [ByteArray.size_extract]; omega)
  have hl2 := only_any T bNm (by omega)
  have hok2 := hok.out
  rw [hn] at hok2
  have hlT : ∀ w, (Builtin.len_ #[9] 3 #[.string T]).run Tryz.prog w = .ok (.int .i64 (n : Int)) w := by intro w; rw [run_len_string _ _ _ _ (by kernel_rfl), hn]; rfl
  have hsl : n ≠ 0 → ∀ w, (Instr.slice 9 (.string T) none (some (.int .i64 1)) none).run Tryz.prog w = .ok (.string (T.extract 0 1)) w := by
    intro h0 w
    rw [run_slice_string_to_if w 9 T .i64 1 (by kernel_rfl), if_pos ⟨by omega, by omega⟩]
    rfl
  have hemp := emp_iff T
  rw [hn] at hemp
  obtain ⟨T1, hT1⟩ : ∃ u, T.extract 0 1 = u := ⟨_, rfl⟩
  rw [hT1] at hl1 hok2
  simp only [hT1] at hsl
  obtain ⟨z1, hz1⟩ : ∃ z, onlyF T1 bLet = z := ⟨_, rfl⟩
  obtain ⟨z2, hz2⟩ : ∃ z, onlyF T bNm = z := ⟨_, rfl⟩
  rw [hz1] at hl1 hok2
  rw [hz2] at hl2 hok2
  unfold bLet at hl1
  unfold bNm at hl2
  have hf := demand_false T (pl : Int) 4
  simp only [failW] at hf
  have ht := demand_true T (pl : Int) 4
  replace hl1 := hidden hl1
  replace hl2 := hidden hl2
  replace hf := hidden hf
  replace ht := hidden ht
  replace hn := hidden hn
  replace hTs := hidden hTs
  clear hz1 hz2 hT1 hD hlk hok c0 hq3 hw3 hs2
  have hX := hidden X6.out
  by_cases hn0 : n = 0
  · have he : T.toList.isEmpty = true := by rw [hemp, hn0]; rfl
    have hb0 : Src.nameOk tx = false := by rw [hok2, hn0]; rfl
    have hF := hidden (hfail.out hb0)
    clear hok2 hfail hb0 hemp hsl hn0
    go_wp2_with fail
    refine (hf.out _).mono ?_
    rintro x w7 ⟨rfl, X7⟩
    go_wp2
    exact ⟨rfl, hF.out _ X7⟩
  · have he : T.toList.isEmpty = false := by rw [hemp]; exact decide_eq_false hn0
    have hsl1 := hsl hn0
    have hz0 : decide (n = 0) = false := decide_eq_false hn0
    rw [hz0] at hok2
    clear hemp hsl hz0
    by_cases hn32 : n ≤ 32
    · have h32 : (n : Int) ≤ 32 := by omega
      have hd32 : decide (n ≤ 32) = true := decide_eq_true hn32
      rw [hd32] at hok2
      clear hd32 hn32 hn0
      cases z1 with
      | false =>
        have hF := hidden (hfail.out (by rw [hok2]; rfl))
        clear hok2 hfail
        go_wp2_with fail
        refine (hl1.out _).mono ?_
        rintro x w6 ⟨rfl, rfl⟩
        go_wp2_with fail
        refine (hf.out _).mono ?_
        rintro x w7 ⟨rfl, X7⟩
        go_wp2
        exact ⟨rfl, hF.out _ X7⟩
      | true =>
        cases z2 with
        | false =>
          have hF := hidden (hfail.out (by rw [hok2]; rfl))
          clear hok2 hfail
          go_wp2_with fail
          refine (hl1.out _).mono ?_
          rintro x w6 ⟨rfl, rfl⟩
          go_wp2_with fail
          refine (hl2.out _).mono ?_
          rintro x w6 ⟨rfl, rfl⟩
          go_wp2_with fail
          refine (hf.out _).mono ?_
          rintro x w7 ⟨rfl, X7⟩
          go_wp2
          exact ⟨rfl, hF.out _ X7⟩
        | true =>
          go_wp2_with fail
          refine (hl1.out _).mono ?_
          rintro x w6 ⟨rfl, rfl⟩
          go_wp2_with fail
          refine (hl2.out _).mono ?_
          rintro x w6 ⟨rfl, rfl⟩
          cases dcl with
          | true =>
            have hF := hidden (hfail.out (by rw [hok2]; rfl))
            clear hok2 hfail
            go_wp2_with fail
            refine (hf.out _).mono ?_
            rintro x w7 ⟨rfl, X7⟩
            go_wp2
            exact ⟨rfl, hF.out _ X7⟩
          | false =>
            cases fb with
            | true =>
              have hF := hidden (hfail.out (by rw [hok2]; rfl))
              clear hok2 hfail
              go_wp2_with fail
              refine (hf.out _).mono ?_
              rintro x w7 ⟨rfl, X7⟩
              go_wp2
              exact ⟨rfl, hF.out _ X7⟩
            | false =>
              clear hfail
              go_wp2_with fail
              refine (ht.out _).mono ?_
              rintro x w7 ⟨rfl, X7⟩
              have X8 := X6.out.trans X7
              have HB8 := HB3.out.ext X8
              have HQ8 := HB2.out.ext X8
              have c7 := HB8.cell 0 _ rfl
              have c8 := HB8.cell 1 _ rfl
              have d7 := HQ8.cell 0 _ rfl
              have d8 := HQ8.cell 1 _ rfl
              have f7 := HQ8.frozen 0
              have f8 := HQ8.frozen 1
              clear c5 c6
              go_wp2_with fail
              have hnm2 : Src.nameF e s = .ok ((tx, pl), s') := by rw [hnm.out, hok2]; rfl
              obtain ⟨hM, hrow⟩ := (hR2.out.ext (X3.out.trans X8)).put HQ8 hBq.out (.string T) (.int .i64 (pl : Int))
              have hC8 : Chg [r] w w7 := X2.out.trans (Chg.of_ext [] (X3.out.trans X8)) (by simp)
              have hC9 := (hC8.setCell (p := ⟨q, 0, none⟩) (Or.inr (by show w.heap.size ≤ q; omega)) (.string T)).setCell (p := ⟨q, 1, none⟩) (Or.inr (by show w.heap.size ≤ q; omega)) (.int .i64 (pl : Int))
              refine bodyPost_ret (v := .agg #[.string T, .int .i64 (pl : Int)]) (results_cell_row (p := 2) (ty := 86) (by kernel_rfl) _ _ q 86 #[.string T, .int .i64 (pl : Int)] (0, 0) _ rfl hrow Tryz.underlying86 rfl (by kernel_rfl)) rfl ?_
              unfold StepP
              rw [hnm2]
              exact ⟨by rw [← hv.out], hM, hC9⟩
    · have h32 : ¬ (n : Int) ≤ 32 := by omega
      have hd32 : decide (n ≤ 32) = false := decide_eq_false hn32
      have hF := hidden (hfail.out (by rw [hok2, hd32]; rfl))
      clear hok2 hfail hd32 hn32 hn0
      go_wp2_with fail
      refine (hf.out _).mono ?_
      rintro x w7 ⟨rfl, X7⟩
      go_wp2
      exact ⟨rfl, hF.out _ X7⟩
end Go.Proofs.YthjnchjfmbblfaaGreatDoor
