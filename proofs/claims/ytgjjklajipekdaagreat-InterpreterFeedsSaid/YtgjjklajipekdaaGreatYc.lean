
import Derived.Test.YtgjjklajipekdaaGreatYb
import Derived.Test.YtgjjklajipekdaaGreatWc
namespace Go.Proofs.YtgjjklajipekdaaGreat
open Go.RowKit
set_option linter.unusedVariables false
set_option linter.unusedSimpArgs false
def AtW (C : List (Int × Int)) (P : List Int) : Option Nat → Nat → Sy → Prop
 | _, _, .nil => True
 | lp, k, .op x r => k < C.length ∧ (opC C k ≠ 27 ∧ opC C k ≠ 28 ∧ opC C k ≠ 29 ∧ opC C k ≠ 31) ∧ (opC C k = 30 → ∃ e, lp = some e ∧ P.getD k 0 = ((e : Nat) : Int)) ∧ AtW C P lp (k + 1) r
 | lp, k, .blk x b z r => k + b.len + 1 < C.length ∧ (opC C k = 27 ∨ opC C k = 29) ∧ P.getD k 0 = ((k + b.len + 1 : Nat) : Int) ∧ opC C (k + b.len + 1) = 31 ∧
   AtW C P (if opC C k = 29 then some (k + b.len + 1) else lp) (k + 1) b ∧ AtW C P lp (k + b.len + 2) r
 | lp, k, .ife x b y c z r => k + b.len + c.len + 2 < C.length ∧ opC C k = 27 ∧ P.getD k 0 = ((k + b.len + 1 : Nat) : Int) ∧ opC C (k + b.len + 1) = 28 ∧ P.getD (k + b.len + 1) 0 = ((k + b.len + c.len + 2 : Nat) : Int) ∧ opC C (k + b.len + c.len + 2) = 31 ∧
   AtW C P lp (k + 1) b ∧ AtW C P lp (k + b.len + 2) c ∧ AtW C P lp (k + b.len + c.len + 3) r
def Ctx (C : List (Int × Int)) (P : List Int) : List Frm → Option Nat → Nat → Prop
 | [], lp, e => lp = none ∧ e = C.length
 | f :: fs, lp, e => ∃ (lp' : Option Nat) (e2 : Nat) (S : Sy), e < C.length ∧ e2 < C.length ∧ opC C e2 = 31 ∧ (e2 = e ∨ (f.loop = false ∧ opC C e = 28 ∧ P.getD e 0 = ((e2 : Nat) : Int) ∧ e < e2)) ∧
   AtW C P lp' (e2 + 1) S ∧ fs.length + S.dep ≤ 8 ∧ Ctx C P fs lp' (e2 + 1 + S.len) ∧
   (if f.loop = true then lp = some e ∧ e2 = e ∧ ∃ b : Sy, AtW C P (some e) (f.beg.toNat + 1) b ∧ f.beg.toNat + 1 + b.len = e ∧ fs.length + 1 + b.dep ≤ 8 else lp = lp')
def Good (E : Env) (s : MS) : Prop := ∃ (lp : Option Nat) (S : Sy) (k : Nat), s.pc = (k : Int) ∧ AtW E.C E.P lp k S ∧ s.fr.length + S.dep ≤ 8 ∧ Ctx E.C E.P s.fr.reverse lp (k + S.len)
theorem Good.same {E : Env} {s s' : MS} (h : Good E s) (h1 : s'.pc = s.pc) (h2 : s'.fr = s.fr) : Good E s' := by
 obtain ⟨lp, S, k, g1, g2, g3, g4⟩ := h
 exact ⟨lp, S, k, by rw [h1, g1], g2, by rw [h2]; exact g3, by rw [h2]; exact g4⟩
theorem rev_snoc {α : Type} (l : List α) (a : α) : (l ++ [a]).reverse = a :: l.reverse := by simp
theorem llF_append (fr : List Frm) (f : Frm) : ∀ n, n ≤ fr.length → llF (fr ++ [f]) n = llF fr n := by
 intro n
 induction n with
 | zero => intro _; rfl
 | succ n ih =>
  intro h
  have : (fr ++ [f]).getD n noF = fr.getD n noF := by
   rw [List.getD_eq_getElem?_getD, List.getD_eq_getElem?_getD, List.getElem?_append_left (by omega)]
  unfold llF
  rw [this, ih (by omega)]
theorem llF_snoc (fr : List Frm) (f : Frm) : llF (fr ++ [f]) (fr.length + 1) = if f.loop = true then some fr.length else llF fr fr.length := by
 have : (fr ++ [f]).getD fr.length noF = f := by simp [List.getD]
 conv => lhs; unfold llF
 rw [this, llF_append fr f _ (Nat.le_refl _)]
theorem ctx_leave (C : List (Int × Int)) (P : List Int) : ∀ (fs : List Frm) (lp : Option Nat) (e el : Nat), Ctx C P fs lp e → lp = some el →
  ∃ (k : Nat) (lp' : Option Nat) (S : Sy), llF fs.reverse fs.length = some k ∧ k < fs.length ∧ el < C.length ∧ AtW C P lp' (el + 1) S ∧ k + S.dep ≤ 8 ∧ Ctx C P (fs.reverse.take k).reverse lp' (el + 1 + S.len) := by
 intro fs
 induction fs with
 | nil => intro lp e el h h1; rw [h.1] at h1; cases h1
 | cons f fs ih =>
  intro lp e el ⟨lp', e2, S, c1, c2, c3, c4, c5, c6, c7, c8⟩ h1
  have hll : llF (f :: fs).reverse (f :: fs).length = if f.loop = true then some fs.length else llF fs.reverse fs.length := by
   have := llF_snoc fs.reverse f
   rw [List.length_reverse] at this
   rw [List.reverse_cons, List.length_cons]; exact this
  by_cases hl : f.loop = true
  ·rw [if_pos hl] at c8 hll
   obtain ⟨a1, a2, b, a3, a4, a5⟩ := c8
   subst h1
   simp only [Option.some.injEq] at a1
   subst a1
   subst a2
   refine ⟨fs.length, lp', S, hll, by simp, c2, c5, c6, ?_⟩
   rw [List.reverse_cons, List.take_append_of_le_length (by simp), List.take_of_length_le (by simp), List.reverse_reverse]
   exact c7
  ·rw [if_neg hl] at c8 hll
   obtain ⟨k, lp2, S2, g1, g2, g3, g4, g5, g6⟩ := ih lp' _ el c7 (by rw [← c8]; exact h1)
   refine ⟨k, lp2, S2, by rw [hll]; exact g1, by simp; omega, g3, g4, g5, ?_⟩
   rw [List.reverse_cons, List.take_append_of_le_length (by simp; omega)]
   exact g6
def muF (E : Env) (s : MS) : Nat := (E.fuel - s.steps).toNat * (E.C.length + 2) + ((E.C.length : Int) - s.pc).toNat
def Goes (E : Env) (r : Rs) : Prop := match r with
 | .stuck => False
 | .err _ => True
 | .go s' => Good E { s' with pc := s'.pc + 1 }
theorem goes_push {E : Env} {s : MS} (l : List Vl) (h : Good E { s with pc := s.pc + 1 }) : Goes E (pushF l s) := by
 unfold pushF; split
 ·trivial
 ·exact h.same rfl rfl
theorem last_rev {fr : List Frm} {f : Frm} {fs : List Frm} (h : fr.reverse = f :: fs) : fr.getLast? = some f ∧ fr.dropLast = fs.reverse ∧ fr.length = fs.length + 1 := by
 have e : fr = (f :: fs).reverse := by rw [← h, List.reverse_reverse]
 subst e
 simp
theorem goes_plain {E : Env} {s : MS} {lp : Option Nat} {x : Int × Int} {r : Sy} {k : Nat} (hE : OkE E) (hk : s.pc = (k : Int)) (hS : AtW E.C E.P lp k (.op x r)) (hd : s.fr.length + r.dep ≤ 8) (hc : Ctx E.C E.P s.fr.reverse lp (k + 1 + r.len)) (op arg : Int) (hop : opC E.C k = op) (l : List Vl) : Goes E (exeF E op arg l s) := by
 obtain ⟨h1, ⟨h27, h28, h29, h31⟩, h30, h2⟩ := hS
 have hg : Good E { s with pc := s.pc + 1 } := ⟨lp, r, k + 1, by show s.pc + 1 = _; omega, h2, hd, hc⟩
 rw [hop] at h27 h28 h29 h31
 unfold exeF
 refine ite_both (Goes E) (fun _ => ?_) (fun _ => ?_)
 ·exact goes_push _ hg
 refine ite_both (Goes E) (fun _ => ?_) (fun _ => ?_)
 ·exact goes_push _ hg
 refine ite_both (Goes E) (fun _ => ?_) (fun _ => ?_)
 ·exact hg.same rfl rfl
 refine ite_both (Goes E) (fun _ => ?_) (fun _ => ?_)
 ·unfold getF; split
  ·trivial
  ·exact goes_push _ hg
 refine ite_both (Goes E) (fun _ => ?_) (fun _ => ?_)
 ·unfold putF; split
  ·trivial
  ·exact hg.same rfl rfl
 refine ite_both (Goes E) (fun _ => ?_) (fun _ => ?_)
 ·exact goes_push _ hg
 refine ite_both (Goes E) (fun _ => ?_) (fun _ => ?_)
 ·exact hg
 refine ite_both (Goes E) (fun _ => ?_) (fun _ => ?_)
 ·exact goes_push _ hg
 refine ite_both (Goes E) (fun e => ?_) (fun _ => ?_)
 ·exact absurd e h27
 refine ite_both (Goes E) (fun e => ?_) (fun _ => ?_)
 ·exact absurd e h28
 refine ite_both (Goes E) (fun e => ?_) (fun _ => ?_)
 ·exact absurd e h29
 refine ite_both (Goes E) (fun e => ?_) (fun _ => ?_)
 ·obtain ⟨el, rfl, hp⟩ := h30 (hop.trans e)
  obtain ⟨k2, lp', S', g1, g2, g3, g4, g5, g6⟩ := ctx_leave E.C E.P _ _ _ el hc rfl
  rw [List.reverse_reverse, List.length_reverse] at g1
  rw [List.reverse_reverse] at g6
  rw [List.length_reverse] at g2
  unfold leaveF
  rw [g1]
  simp only
  split
  ·trivial
  ·split
   ·exact hg
   ·have ht := toF_mk (E := E) (k := k) (t := el) (by rw [hE.P0]; exact h1) hp g3
    rw [hk, ht]
    exact ⟨lp', S', el + 1, rfl, g4, by show (s.fr.take k2).length + _ ≤ 8; rw [List.length_take]; omega, g6⟩
 refine ite_both (Goes E) (fun e => ?_) (fun _ => ?_)
 ·exact absurd e h31
 refine ite_both (Goes E) (fun _ => ?_) (fun _ => ?_)
 ·exact goes_push _ hg
 refine ite_both (Goes E) (fun _ => ?_) (fun _ => ?_)
 ·exact goes_push _ hg
 refine ite_both (Goes E) (fun _ => ?_) (fun _ => ?_)
 ·unfold emitF; split
  ·exact hg.same rfl rfl
  ·trivial
 refine ite_both (Goes E) (fun _ => ?_) (fun _ => ?_)
 ·exact hg.same rfl rfl
 unfold calcF; split
 ·trivial
 ·exact goes_push _ hg
theorem goes_tick {E : Env} {s : MS} (h : Good E { s with pc := s.pc + 1 }) : Goes E (tickF E s) := by
 unfold tickF; split
 ·exact h.same rfl rfl
 ·trivial
theorem exe27 (E : Env) (arg : Int) (l : List Vl) (s : MS) : exeF E 27 arg l s = chooseF E (vl l 0).1 s := by unfold exeF; (repeat rw [if_neg (by decide)]); rw [if_pos rfl]
theorem exe28 (E : Env) (arg : Int) (l : List Vl) (s : MS) : exeF E 28 arg l s = otherF E s := by unfold exeF; (repeat rw [if_neg (by decide)]); rw [if_pos rfl]
theorem exe29 (E : Env) (arg : Int) (l : List Vl) (s : MS) : exeF E 29 arg l s = loopF E (vl l 0).1 s := by unfold exeF; (repeat rw [if_neg (by decide)]); rw [if_pos rfl]
theorem exe31 (E : Env) (arg : Int) (l : List Vl) (s : MS) : exeF E 31 arg l s = endF E s := by unfold exeF; (repeat rw [if_neg (by decide)]); rw [if_pos rfl]
theorem goes_blk {E : Env} {s : MS} {lp : Option Nat} {x z : Int × Int} {b r : Sy} {k : Nat} (hE : OkE E) (hk : s.pc = (k : Int)) (hS : AtW E.C E.P lp k (.blk x b z r)) (hd : s.fr.length + (Sy.blk x b z r).dep ≤ 8) (hc : Ctx E.C E.P s.fr.reverse lp (k + (Sy.blk x b z r).len)) (op arg : Int) (hop : opC E.C k = op) (l : List Vl) : Goes E (exeF E op arg l s) := by
 obtain ⟨h1, h2, h3, h4, h5, h6⟩ := hS
 simp only [Sy.dep, Sy.len] at hd hc
 rw [show k + (b.len + r.len + 2) = k + b.len + 1 + 1 + r.len by omega] at hc
 have ht := toF_mk (E := E) (k := k) (t := k + b.len + 1) (by rw [hE.P0]; omega) h3 h1
 have hd1 : s.fr.length + r.dep ≤ 8 := by omega
 have hd2 : s.fr.length + 1 + b.dep ≤ 8 := by omega
 rcases h2 with h2 | h2
 ·rw [h2] at hop
  subst hop
  rw [exe27]
  rw [h2, if_neg (by decide)] at h5
  have hcx : ∀ f : Frm, f.loop = false → Ctx E.C E.P (s.fr ++ [f]).reverse lp (k + b.len + 1) := fun f hf => by
   rw [rev_snoc]
   refine ⟨lp, k + b.len + 1, r, h1, h1, h4, Or.inl rfl, h6, by rw [List.length_reverse]; exact hd1, hc, ?_⟩
   rw [if_neg (by rw [hf]; decide)]
  unfold chooseF
  rw [if_neg (by omega)]
  split
  ·exact ⟨lp, b, k + 1, by show s.pc + 1 = _; omega, h5, by simp; omega, by rw [show k + 1 + b.len = k + b.len + 1 by omega]; exact hcx _ rfl⟩
  ·rw [hk, ht]
   simp only
   rw [if_pos h4]
   exact ⟨lp, .nil, k + b.len + 1, by show ((k + b.len + 1 : Nat) : Int) - 1 + 1 = _; omega, trivial, by simp [Sy.dep]; omega, hcx _ rfl⟩
 ·rw [h2] at hop
  subst hop
  rw [exe29]
  rw [if_pos h2] at h5
  unfold loopF
  split
  ·trivial
  ·split
   ·rw [hk, ht]
    exact ⟨lp, r, k + b.len + 2, rfl, h6, hd1, by rw [show k + b.len + 2 + r.len = k + b.len + 1 + 1 + r.len by omega]; exact hc⟩
   ·rw [if_neg (by omega)]
    refine goes_tick ⟨some (k + b.len + 1), b, k + 1, by show s.pc + 1 = _; omega, h5, by simp; omega, ?_⟩
    rw [rev_snoc, show k + 1 + b.len = k + b.len + 1 by omega]
    refine ⟨lp, k + b.len + 1, r, h1, h1, h4, Or.inl rfl, h6, by rw [List.length_reverse]; exact hd1, hc, ?_⟩
    rw [if_pos rfl]
    refine ⟨rfl, rfl, b, ?_, ?_, by rw [List.length_reverse]; exact hd2⟩
    ·show AtW _ _ _ (s.pc.toNat + 1) b; rw [hk]; exact h5
    ·show s.pc.toNat + 1 + b.len = _; rw [hk]; simp; omega
theorem goes_ife {E : Env} {s : MS} {lp : Option Nat} {x y z : Int × Int} {b c r : Sy} {k : Nat} (hE : OkE E) (hk : s.pc = (k : Int)) (hS : AtW E.C E.P lp k (.ife x b y c z r)) (hd : s.fr.length + (Sy.ife x b y c z r).dep ≤ 8) (hc : Ctx E.C E.P s.fr.reverse lp (k + (Sy.ife x b y c z r).len)) (op arg : Int) (hop : opC E.C k = op) (l : List Vl) : Goes E (exeF E op arg l s) := by
 obtain ⟨h1, h2, h3, h4, h5, h6, h7, h8, h9⟩ := hS
 simp only [Sy.dep, Sy.len] at hd hc
 rw [show k + (b.len + c.len + r.len + 3) = k + b.len + c.len + 2 + 1 + r.len by omega] at hc
 have ht := toF_mk (E := E) (k := k) (t := k + b.len + 1) (by rw [hE.P0]; omega) h3 (by omega)
 have hd1 : s.fr.length + r.dep ≤ 8 := by omega
 rw [h2] at hop
 subst hop
 rw [exe27]
 have hcx : ∀ f : Frm, f.loop = false → Ctx E.C E.P (s.fr ++ [f]).reverse lp (k + b.len + 1) := fun f hf => by
  rw [rev_snoc]
  refine ⟨lp, k + b.len + c.len + 2, r, by omega, h1, h6, Or.inr ⟨hf, h4, h5, by omega⟩, h9, by rw [List.length_reverse]; exact hd1, hc, ?_⟩
  rw [if_neg (by rw [hf]; decide)]
 have hcy : ∀ f : Frm, f.loop = false → Ctx E.C E.P (s.fr ++ [f]).reverse lp (k + b.len + c.len + 2) := fun f hf => by
  rw [rev_snoc]
  refine ⟨lp, k + b.len + c.len + 2, r, h1, h1, h6, Or.inl rfl, h9, by rw [List.length_reverse]; exact hd1, hc, ?_⟩
  rw [if_neg (by rw [hf]; decide)]
 unfold chooseF
 rw [if_neg (by omega)]
 split
 ·exact ⟨lp, b, k + 1, by show s.pc + 1 = _; omega, h7, by simp; omega, by rw [show k + 1 + b.len = k + b.len + 1 by omega]; exact hcx _ rfl⟩
 ·rw [hk, ht]
  simp only
  rw [if_neg (by rw [h4]; decide), if_pos h4]
  exact ⟨lp, c, k + b.len + 2, rfl, h8, by simp; omega, by rw [show k + b.len + 2 + c.len = k + b.len + c.len + 2 by omega]; exact hcy _ rfl⟩
theorem goes_end {E : Env} {s : MS} {f : Frm} {fs : List Frm} {lp : Option Nat} {k : Nat} (hE : OkE E) (hbeg : ∀ f ∈ s.fr, 0 ≤ f.beg) (hd8 : s.fr.length ≤ 8) (hk : s.pc = (k : Int)) (hf : s.fr.reverse = f :: fs) (hc : Ctx E.C E.P (f :: fs) lp k) (op arg : Int) (hop : opC E.C k = op) (l : List Vl) : Goes E (exeF E op arg l s) := by
 obtain ⟨lp', e2, S, c1, c2, c3, c4, c5, c6, c7, c8⟩ := hc
 obtain ⟨l1, l2, l3⟩ := last_rev hf
 rcases c4 with rfl | ⟨g1, g2, g3, g4⟩
 ·rw [c3] at hop
  subst hop
  rw [exe31]
  unfold endF
  rw [l1]
  simp only
  split
  ·trivial
  ·split
   next hl =>
    rw [if_pos hl.1] at c8
    obtain ⟨a1, a2, b, a3, a4, a5⟩ := c8
    have hb := hbeg f (last_mem l1)
    refine goes_tick ⟨some e2, b, f.beg.toNat + 1, by show f.beg + 1 = _; omega, a3, by simp; omega, ?_⟩
    rw [rev_snoc, l2, List.reverse_reverse, a4]
    refine ⟨lp', e2, S, c1, c2, c3, Or.inl rfl, c5, c6, c7, ?_⟩
    rw [if_pos hl.1]
    exact ⟨rfl, rfl, b, a3, a4, a5⟩
   ·exact ⟨lp', S, e2 + 1, by show s.pc + 1 = _; omega, c5, by rw [l2, List.length_reverse]; exact c6, by rw [l2, List.reverse_reverse]; exact c7⟩
 ·rw [g2] at hop
  subst hop
  rw [exe28]
  unfold otherF
  rw [l1]
  simp only
  split
  ·trivial
  ·have ht := toF_mk (E := E) (k := k) (t := e2) (by rw [hE.P0]; exact c1) g3 c2
   rw [hk, ht]
   simp only
   rw [if_pos ⟨c3, g1⟩]
   refine ⟨lp, .nil, e2, by show (e2 : Int) - 1 + 1 = _; omega, trivial, by simp [Sy.dep]; omega, ?_⟩
   show Ctx _ _ s.fr.reverse lp (e2 + 0)
   rw [hf]
   exact ⟨lp', e2, S, c2, c2, c3, Or.inl rfl, c5, c6, c7, by rw [if_neg (by rw [g1]; decide)] at c8 ⊢; exact c8⟩
end Go.Proofs.YtgjjklajipekdaaGreat
