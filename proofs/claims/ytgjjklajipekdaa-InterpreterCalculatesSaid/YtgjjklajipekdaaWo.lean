/- Layer 18: code of some operations; equal code is the same; where loops begin. -/
import Derived.Test.YtgjjklajipekdaaWj
import Derived.Test.YtgjjklajipekdaaWg
import Derived.Test.YtgjjklajipekdaaXc
import Derived.Test.YtgjjklajipekdaaVg
namespace Go.Proofs.Ytgjjklajipekdaa
open Go.RowKit
set_option linter.unusedVariables false
set_option linter.unusedSimpArgs false
attribute [local go_sem ↓] Go.wp_at_zero Go.wp_at_succ

def RdI (w : World) (v : Value) (l : List Int) : Prop := Rd w 1 v l.length (l.map (Value.int .i64))
theorem OwnI.rd {w : World} {B : Nat} {v : Value} {l : List Int} (h : OwnI w B v l) : RdI w v l := Rd.of_own h
theorem OwnC.rd {w : World} {B : Nat} {v : Value} {l : List (Int × Int)} (h : OwnC w B v l) : Code18 w v l := Rd.of_own h
theorem RdI.at {w : World} {b off n cap : Nat} {l : List Int} (h : RdI w (.slice (some ⟨b, off, none⟩) n cap) l) (k : Nat) (hk : k < l.length) : w.cell? ⟨b, off + k, none⟩ = some (.int .i64 (l.getD k 0)) := by
  have hn : l.length = n := by have h2 := h.2; obtain ⟨a, c, e, -⟩ := h2; simp only [Value.slice.injEq] at e; exact e.2.1.symm
  obtain ⟨b', off', e, -, hc⟩ := (show Rd w 1 (.slice (some ⟨b, off, none⟩) n cap) n (l.map (Value.int .i64)) by unfold RdI at h; rw [hn] at h; exact h).cells (by omega)
  simp only [Option.some.injEq, Addr.mk.injEq, and_true] at e
  obtain ⟨rfl, rfl⟩ := e
  have := hc k (by simpa using hk)
  rw [this]
  simp [List.getD, hk]
theorem OwnI.nil' (w : World) (B : Nat) : OwnI w B (.slice none 0 0) [] := ⟨by simp, Or.inl ⟨rfl, rfl⟩⟩
end Go.Proofs.Ytgjjklajipekdaa

/- Layer 18: the examples of the chapter. -/
namespace Go.Proofs.Ytgjjklajipekdaa
open Go.RowKit
set_option linter.unusedVariables false
set_option linter.unusedSimpArgs false
attribute [local go_sem ↓] Go.wp_at_zero Go.wp_at_succ

theorem RdI.shape' {w : World} {v : Value} {l : List Int} (h : RdI w v l) : ∃ a cap, v = .slice a l.length cap ∧ l.length ≤ 9223372036854775807 := by
  obtain ⟨a, cap, e, h1, h2, -⟩ := Rd.shape h
  exact ⟨a, cap, e, by omega⟩
end Go.Proofs.Ytgjjklajipekdaa

/- Layer 18, the reference: the state of partners. -/
namespace Go.Proofs.Ytgjjklajipekdaa
open Go.RowKit
set_option linter.unusedVariables false
set_option linter.unusedSimpArgs false

def opn : Stk → List Int
  | [] => []
  | (a, _) :: s => opn s ++ [(a : Int)]
def oth : Stk → List Int
  | [] => []
  | (_, y) :: s => oth s ++ [y]
theorem opn_len (st : Stk) : (opn st).length = st.length := by
  induction st with
  | nil => rfl
  | cons x s ih => simp [opn, ih]
theorem oth_len (st : Stk) : (oth st).length = st.length := by
  induction st with
  | nil => rfl
  | cons x s ih => simp [oth, ih]
structure PS (w wr : World) (vo vp vt : Value) (n i : Nat) (st : Stk) (out : List Int) : Prop where
  ext : Ext w wr
  o : OwnI wr w.heap.size vo out
  p : OwnI wr w.heap.size vp (opn st)
  t : OwnI wr w.heap.size vt (oth st)
  len : out.length = n
  d1 : ∀ k, vo.ownBlock = some k → vp.ownBlock ≠ some k
  d2 : ∀ k, vo.ownBlock = some k → vt.ownBlock ≠ some k
  d3 : ∀ k, vp.ownBlock = some k → vt.ownBlock ≠ some k
  dep : st.length ≤ 8
  bd : ∀ x ∈ st, x.1 < i ∧ -1 ≤ x.2 ∧ x.2 < i
theorem PS.start {w w1 : World} {vo : Value} {n : Nat} {out : List Int} (hX : Ext w w1) (ho : OwnI w1 w.heap.size vo out) (hl : out.length = n) : PS w w1 vo (.slice none 0 0) (.slice none 0 0) n 0 [] out :=
  ⟨hX, ho, OwnI.nil' _ _, OwnI.nil' _ _, hl, fun k _ e => by simp [Value.ownBlock] at e, fun k _ e => by simp [Value.ownBlock] at e, fun k _ e => by simp [Value.ownBlock] at e, by simp, by simp⟩
theorem PS.bump {w wr : World} {vo vp vt : Value} {n i : Nat} {st : Stk} {out : List Int} (h : PS w wr vo vp vt n i st out) : PS w wr vo vp vt n (i + 1) st out :=
  ⟨h.ext, h.o, h.p, h.t, h.len, h.d1, h.d2, h.d3, h.dep, fun x hx => by obtain ⟨a, b, c⟩ := h.bd x hx; exact ⟨by omega, b, by omega⟩⟩
theorem PS.move {w wr w1 : World} {vo vp vt : Value} {n i : Nat} {st : Stk} {out : List Int} (h : PS w wr vo vp vt n i st out) (c : Ext wr w1) : PS w w1 vo vp vt n i st out :=
  ⟨h.ext.trans c, own_ext h.o c, own_ext h.p c, own_ext h.t c, h.len, h.d1, h.d2, h.d3, h.dep, h.bd⟩
theorem PS.put {w wr : World} {vp vt : Value} {n i g m c : Nat} {st : Stk} {out : List Int} (h : PS w wr (.slice (some ⟨g, 0, none⟩) m c) vp vt n i st out) (j : Nat) (x : Int) : PS w (wr.setCell ⟨g, j, none⟩ (.int .i64 x)) (.slice (some ⟨g, 0, none⟩) m c) vp vt n i st (out.set j x) := by
  have hg := (own_lt h.o (x := g) rfl).1
  have c1 : Chg [g] wr (wr.setCell ⟨g, j, none⟩ (.int .i64 x)) := (Chg.refl _ wr).setCell (Or.inl (by simp)) _
  exact ⟨h.ext.setCell hg _, h.o.set j x, own_chg h.p c1 (fun k hk => by simp at hk; subst hk; exact h.d1 k rfl), own_chg h.t c1 (fun k hk => by simp at hk; subst hk; exact h.d2 k rfl), by rw [List.length_set]; exact h.len, h.d1, h.d2, h.d3, h.dep, h.bd⟩
theorem PS.top {w wr : World} {vo vp : Value} {n i g m c a : Nat} {y : Int} {s : Stk} {out : List Int} (h : PS w wr vo vp (.slice (some ⟨g, 0, none⟩) m c) n i ((a, y) :: s) out) (x : Int) (h1 : -1 ≤ x) (h2 : x < i) : PS w (wr.setCell ⟨g, s.length, none⟩ (.int .i64 x)) vo vp (.slice (some ⟨g, 0, none⟩) m c) n i ((a, x) :: s) out := by
  have hg := (own_lt h.t (x := g) rfl).1
  have c1 : Chg [g] wr (wr.setCell ⟨g, s.length, none⟩ (.int .i64 x)) := (Chg.refl _ wr).setCell (Or.inl (by simp)) _
  have ht := h.t.set s.length x
  rw [show (oth ((a, y) :: s)).set s.length x = oth ((a, x) :: s) by simp only [oth]; rw [List.set_append_right _ _ (by rw [oth_len]; exact Nat.le_refl _), oth_len, Nat.sub_self]; rfl] at ht
  exact ⟨h.ext.setCell hg _, own_chg h.o c1 (fun k hk e => by simp at hk; subst hk; exact h.d2 k e rfl), own_chg h.p c1 (fun k hk e => by simp at hk; subst hk; exact h.d3 k e rfl), ht, h.len, h.d1, h.d2, h.d3, by simpa using h.dep, fun z hz => by
    rcases List.mem_cons.1 hz with rfl | hz
    · exact ⟨(h.bd _ List.mem_cons_self).1, h1, h2⟩
    · exact h.bd z (List.mem_cons_of_mem _ hz)⟩
theorem PS.pop {w wr : World} {vo : Value} {n i gp gt m cp ct : Nat} {x : Nat × Int} {s : Stk} {out : List Int} (h : PS w wr vo (.slice (some ⟨gp, 0, none⟩) (m + 1) cp) (.slice (some ⟨gt, 0, none⟩) (m + 1) ct) n i (x :: s) out) (hm : s.length = m) : PS w wr vo (.slice (some ⟨gp, 0, none⟩) m cp) (.slice (some ⟨gt, 0, none⟩) m ct) n i s out := by
  obtain ⟨a, y⟩ := x
  have hp := h.p
  have ht := h.t
  unfold OwnI at hp ht
  simp only [opn, oth, List.length_append, List.map_append, List.map_cons, List.map_nil, List.length_singleton, opn_len, oth_len, hm] at hp ht
  refine ⟨h.ext, h.o, ?_, ?_, h.len, h.d1, h.d2, h.d3, by have := h.dep; simp at this; omega, fun z hz => h.bd z (List.mem_cons_of_mem _ hz)⟩
  · unfold OwnI; rw [opn_len, hm]; exact own_pop hp
  · unfold OwnI; rw [oth_len, hm]; exact own_pop ht
theorem PS.other {w W w4 : World} {vo vp vt : Value} {n i : Nat} {st : Stk} {out : List Int} {o1 : Obj} (h : PS w W vo vp vt n i st out) (g1 : (W.alloc o1).grownBy w4 vp.ownBlock) : OwnI w4 w.heap.size vt (oth st) :=
  own_chg h.t ((Chg.of_ext vp.ownBlock.toList ((Ext.refl W).alloc o1)).grown g1 (fun k hk => Or.inl (by simp [hk]))) (fun k hk e => by simp at hk; exact h.d3 k hk e)
theorem PS.push {w W w4 w6 : World} {vo vp vt vp' vt' : Value} {n i : Nat} {st : Stk} {out : List Int} {o1 o2 : Obj} (h : PS w W vo vp vt n i st out) (h8 : st.length < 8)
    (hp : OwnI w4 w.heap.size vp' (opn st ++ [(i : Int)])) (g1 : (W.alloc o1).grownBy w4 vp.ownBlock) (a1 : vp'.ownBlock = vp.ownBlock ∨ vp'.ownBlock = some (W.alloc o1).heap.size)
    (ht : OwnI w6 w.heap.size vt' (oth st ++ [-1])) (g2 : (w4.alloc o2).grownBy w6 vt.ownBlock) (a2 : vt'.ownBlock = vt.ownBlock ∨ vt'.ownBlock = some (w4.alloc o2).heap.size) :
    PS w w6 vo vp' vt' n (i + 1) ((i, -1) :: st) out := by
  have c1 : Chg vp.ownBlock.toList W w4 := (Chg.of_ext _ ((Ext.refl W).alloc o1)).grown g1 (fun k hk => Or.inl (by simp [hk]))
  have c2 : Chg vt.ownBlock.toList w4 w6 := (Chg.of_ext _ ((Ext.refl w4).alloc o2)).grown g2 (fun k hk => Or.inl (by simp [hk]))
  have hs0 := h.ext.size
  have s1 := c1.size
  have s2 := c2.size
  have lp : ∀ k, vp.ownBlock = some k → w.heap.size ≤ k ∧ k < W.heap.size := fun k e => own_lt h.p e
  have lt : ∀ k, vt.ownBlock = some k → w.heap.size ≤ k ∧ k < W.heap.size := fun k e => own_lt h.t e
  have lo : ∀ k, vo.ownBlock = some k → w.heap.size ≤ k ∧ k < W.heap.size := fun k e => own_lt h.o e
  have lp' : ∀ k, vp'.ownBlock = some k → vp.ownBlock = some k ∨ W.heap.size < k + 0 := fun k e => by
    rcases a1 with a1 | a1
    · exact Or.inl (by rw [← a1]; exact e)
    · rw [a1] at e; simp at e; exact Or.inr (by omega)
  have hpl : ∀ k, vp'.ownBlock = some k → k < w4.heap.size := fun k e => (own_lt hp e).2
  have lt' : ∀ k, vt'.ownBlock = some k → vt.ownBlock = some k ∨ w4.heap.size ≤ k := fun k e => by
    rcases a2 with a2 | a2
    · exact Or.inl (by rw [← a2]; exact e)
    · rw [a2] at e; simp at e; exact Or.inr (by omega)
  have hto4 : OwnI w4 w.heap.size vt (oth st) := own_chg h.t c1 (fun k hk e => by simp at hk; exact h.d3 k hk e)
  have d3' : ∀ k, vp'.ownBlock = some k → vt.ownBlock ≠ some k := fun k e e2 => by
    rcases lp' k e with h1 | h1
    · exact h.d3 k h1 e2
    · have := (lt k e2).2; omega
  have X4 : Ext w w4 := ((Chg.of_ext [] (h.ext.alloc o1)).grown g1 (fun k hk => Or.inr (lp k hk).1)).ext
  have X6 : Ext w w6 := ((Chg.of_ext [] (X4.alloc o2)).grown g2 (fun k hk => Or.inr (lt k hk).1)).ext
  refine ⟨X6, own_chg (own_chg h.o c1 (fun k hk e => by simp at hk; exact h.d1 k e hk)) c2 (fun k hk e => by simp at hk; exact h.d2 k e hk), own_chg hp c2 (fun k hk e => by simp at hk; exact d3' k e hk), ht, h.len, fun k e e2 => ?_, fun k e e2 => ?_, fun k e e2 => ?_, by simp; omega, fun x hx => ?_⟩
  · rcases lp' k e2 with h1 | h1
    · exact h.d1 k e h1
    · have := (lo k e).2; omega
  · rcases lt' k e2 with h1 | h1
    · exact h.d2 k e h1
    · have := (lo k e).2; omega
  · rcases lt' k e2 with h1 | h1
    · exact d3' k e h1
    · have := hpl k e; omega
  · rcases List.mem_cons.1 hx with rfl | hx
    · exact ⟨by simp, by simp, by simp; omega⟩
    · obtain ⟨p, q, r⟩ := h.bd x hx; exact ⟨by omega, q, by omega⟩
end Go.Proofs.Ytgjjklajipekdaa

/- Layer 18, the reference: leaves. -/
namespace Go.Proofs.Ytgjjklajipekdaa
open Go.RowKit
set_option linter.unusedVariables false
set_option linter.unusedSimpArgs false
attribute [local go_sem ↓] Go.wp_at_zero Go.wp_at_succ

def rv : List Nat → List Int
  | [] => []
  | a :: s => rv s ++ [(a : Int)]
theorem rv_len (s : List Nat) : (rv s).length = s.length := by
  induction s with
  | nil => rfl
  | cons a s ih => simp [rv, ih]
theorem OwnI.at {w : World} {B g n c : Nat} {l : List Int} (h : OwnI w B (.slice (some ⟨g, 0, none⟩) n c) l) (k : Nat) (hk : k < l.length) : w.cell? ⟨g, k, none⟩ = some (.int .i64 (l.getD k 0)) := by
  have hn : l.length = n := by obtain ⟨a, c', e, -⟩ := own_shape h; simp only [Value.slice.injEq] at e; exact e.2.1.symm
  unfold OwnI at h
  rw [hn] at h
  refine own_cell h k _ ?_
  rw [List.getElem?_map, List.getElem?_eq_getElem hk]
  simp [List.getD, hk]
theorem OwnI.shape {w : World} {B : Nat} {v : Value} {l : List Int} (h : OwnI w B v l) (n : Nat) (hn : l.length = n) : ∃ a cap, v = .slice a n cap ∧ (0 < n → ∃ g, a = some ⟨g, 0, none⟩ ∧ B ≤ g ∧ g < w.heap.size) := by
  subst hn
  obtain ⟨a, c', e, -, -, h2⟩ := own_shape h
  exact ⟨a, c', e, h2⟩
theorem OwnI.fz {w : World} {B g n c : Nat} {l : List Int} (h : OwnI w B (.slice (some ⟨g, 0, none⟩) n c) l) (k : Nat) : w.frozen? ⟨g, k, none⟩ = false := by
  have hn : l.length = n := by obtain ⟨a, c', e, -⟩ := own_shape h; simp only [Value.slice.injEq] at e; exact e.2.1.symm
  unfold OwnI at h
  rw [hn] at h
  exact World.ownsRow.frozenAt h _
/-- The state of the loop. -/
structure LV (w wr : World) (B : Nat) (vP vl : Value) (n i : Nat) (P : List Int) (ls : List Nat) : Prop where
  chg : Chg vP.ownBlock.toList w wr
  o : OwnI wr B vP P
  l : OwnI wr w.heap.size vl (rv ls)
  lt : ∀ k, vP.ownBlock = some k → k < w.heap.size
  len : P.length = n
  bd : ∀ a ∈ ls, a < i
  dp : ls.length ≤ i
theorem LV.bump {w wr : World} {B : Nat} {vP vl : Value} {n i : Nat} {P : List Int} {ls : List Nat} (h : LV w wr B vP vl n i P ls) : LV w wr B vP vl n (i + 1) P ls :=
  ⟨h.chg, h.o, h.l, h.lt, h.len, fun a ha => by have := h.bd a ha; omega, by have := h.dp; omega⟩
theorem LV.push {w W w4 : World} {B : Nat} {vP vl vl' : Value} {n i : Nat} {P : List Int} {ls : List Nat} {o1 : Obj} (h : LV w W B vP vl n i P ls)
    (hl : OwnI w4 w.heap.size vl' (rv ls ++ [(i : Int)])) (g1 : (W.alloc o1).grownBy w4 vl.ownBlock) : LV w w4 B vP vl' n (i + 1) P (i :: ls) := by
  have c1 : Chg vl.ownBlock.toList W w4 := (Chg.of_ext _ ((Ext.refl W).alloc o1)).grown g1 (fun k hk => Or.inl (by simp [hk]))
  have lp : ∀ k, vl.ownBlock = some k → w.heap.size ≤ k := fun k e => (own_lt h.l e).1
  exact ⟨(h.chg.alloc o1).grown g1 (fun k hk => Or.inr (lp k hk)), own_chg h.o c1 (fun k hk e => by simp at hk; have := lp k hk; have := h.lt k e; omega), hl, h.lt, h.len, fun a ha => by
    rcases List.mem_cons.1 ha with rfl | ha
    · omega
    · have := h.bd a ha; omega, by have := h.dp; simp; omega⟩
theorem LV.pop {w W : World} {B : Nat} {vP : Value} {n i g m c a : Nat} {P : List Int} {s : List Nat} (h : LV w W B vP (.slice (some ⟨g, 0, none⟩) (m + 1) c) n i P (a :: s)) (hm : s.length = m) : LV w W B vP (.slice (some ⟨g, 0, none⟩) m c) n (i + 1) P s := by
  have hl := h.l
  unfold OwnI at hl
  simp only [rv, List.length_append, List.map_append, List.map_cons, List.map_nil, List.length_singleton, rv_len, hm] at hl
  refine ⟨h.chg, h.o, ?_, h.lt, h.len, fun z hz => by have := h.bd z (List.mem_cons_of_mem _ hz); omega, by have := h.dp; simp at this; omega⟩
  unfold OwnI
  rw [rv_len, hm]
  exact own_pop hl
theorem LV.put {w W : World} {B : Nat} {vl : Value} {n i g m c : Nat} {P : List Int} {s : List Nat} (h : LV w W B (.slice (some ⟨g, 0, none⟩) m c) vl n i P s) (j : Nat) (x : Int) : LV w (W.setCell ⟨g, j, none⟩ (.int .i64 x)) B (.slice (some ⟨g, 0, none⟩) m c) vl n i (P.set j x) s := by
  have c1 : Chg [g] W (W.setCell ⟨g, j, none⟩ (.int .i64 x)) := (Chg.refl _ W).setCell (Or.inl (by simp)) _
  have hg := h.lt g rfl
  exact ⟨h.chg.trans c1 (fun k hk => by simp at hk; subst hk; exact Or.inl (by simp [Value.ownBlock])), h.o.set j x, own_chg h.l c1 (fun k hk e => by simp at hk; subst hk; have := (own_lt h.l e).1; omega), h.lt, by rw [List.length_set]; exact h.len, h.bd, h.dp⟩

end Go.Proofs.Ytgjjklajipekdaa

/- Layer 18: the plain law of return: the code of the tree of code. -/
namespace Go.Proofs.Ytgjjklajipekdaa
set_option linter.unusedVariables false
set_option linter.unusedSimpArgs false

namespace Sy
end Sy
/-- The code and the rightness of a tree that is being built. -/
structure Bd (C : List (Int × Int)) (d i : Nat) (out : T) (D : List (Int × Int)) : Prop where
  fl : flF C out = D
  ok : okF C d out
  last : out.lastOp = some (-1) → out.lastT = i
theorem okF_split (C : List (Int × Int)) (d : Nat) (a b : T) : okF C d (a.app b) ↔ okF C d a ∧ okF C d b := by
  induction a with
  | nil => simp [T.app, okF]
  | cons op f t b' o r _ _ ih =>
    simp only [T.app, okF, ih]
    exact ⟨fun ⟨h1, h2, h3, h4, h5, h6⟩ => ⟨⟨h1, h2, h3, h4, h5⟩, h6⟩, fun ⟨⟨h1, h2, h3, h4, h5⟩, h6⟩ => ⟨h1, h2, h3, h4, h5, h6⟩⟩
theorem cut_one (C : List (Int × Int)) (f t : Nat) (hf : f ≤ t) (ht : t < C.length) : (C.drop f).take (t + 1 - f) = (C.drop f).take (t - f) ++ [C.getD t (0, 0)] := by
  rw [show t + 1 - f = (t - f) + 1 by omega, List.take_succ_eq_append_getElem (by rw [List.length_drop]; omega)]
  congr 1
  simp [List.getElem_drop, List.getD, ht, show f + (t - f) = t by omega]
theorem Bd.add {C : List (Int × Int)} {d i : Nat} {out : T} {D : List (Int × Int)} (h : Bd C d i out D) (hi : i < C.length) : Bd C d (i + 1) (out.addP i) (D ++ [C.getD i (0, 0)]) := by
  by_cases hl : out.lastOp = some (-1)
  · obtain ⟨l0, f, t, b, o, h1, h2⟩ := T.addP_old hl i
    have ht : t = i := by have := h.last hl; rw [h1, T.lastT_app] at this; exact this
    subst ht
    have hok := h.ok
    have hfl := h.fl
    rw [h1] at hok hfl
    rw [okF_split] at hok
    rw [flF_app] at hfl
    obtain ⟨k0, k1, k2, k3, k4, k5⟩ := hok
    obtain ⟨fn, rfl⟩ : ∃ fn : Nat, f = (fn : Int) := ⟨f.toNat, by omega⟩
    have hb : b = .nil ∧ o = .nil := by
      rcases k3.2 with ⟨-, hb, ho⟩ | ⟨hb, -⟩
      · exact ⟨by cases b with | nil => rfl | cons => simp [T.len] at hb, by cases o with | nil => rfl | cons => simp [T.len] at ho⟩
      · omega
    obtain ⟨rfl, rfl⟩ := hb
    have hft := k3.1
    simp only [Int.toNat_natCast] at hft
    refine ⟨?_, ?_, fun _ => by rw [h2, T.lastT_app]; omega⟩
    · rw [h2, flF_app, ← hfl]
      simp only [flF, if_true, Int.toNat_natCast, List.append_nil, List.append_assoc]
      rw [show ((i : Int) + 1).toNat = i + 1 by omega, cut_one C fn i (by omega) hi]
    · rw [h2, okF_split]
      refine ⟨k0, k1, by omega, ⟨⟨by omega, by omega⟩, Or.inl ⟨rfl, rfl, rfl⟩⟩, fun h => absurd rfl h, trivial⟩
  · have h2 := T.addP_new hl i
    refine ⟨?_, ?_, fun _ => by rw [h2, T.lastT_app]; omega⟩
    · rw [h2, flF_app, h.fl]
      simp only [flF, if_true, Int.toNat_natCast, List.append_nil]
      have := cut_one C i i (Nat.le_refl _) hi
      rw [show ((i : Int) + 1).toNat = i + 1 by omega, this]
      simp
    · rw [h2, okF_split]
      exact ⟨h.ok, by omega, by omega, ⟨⟨by omega, by omega⟩, Or.inl ⟨rfl, rfl, rfl⟩⟩, fun h => absurd rfl h, trivial⟩
end Go.Proofs.Ytgjjklajipekdaa
