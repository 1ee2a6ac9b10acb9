/- Layer 18, the reference: the state of partners. -/
import Derived.Test.YtcnbljohhajkhaaXa
import Derived.Test.YtcnbljohhajkhaaWc
import Derived.Test.YtcnbljohhajkhaaVg
namespace Go.Proofs.Ytcnbljohhajkhaa
open Go.RowKit
set_option linter.unusedVariables false
set_option linter.unusedSimpArgs false

def opn : Stk → List Int
  | [] => []
  | (a, _) :: s => opn s ++ [(a : Int)]
def oth : Stk → List Int
  | [] => []
  | (_, y) :: s => oth s ++ [y]
theorem opn_len (st : Stk) : (opn st).length = st.length := by
  induction st with
  | nil => rfl
  | cons x s ih => simp [opn, ih]
theorem oth_len (st : Stk) : (oth st).length = st.length := by
  induction st with
  | nil => rfl
  | cons x s ih => simp [oth, ih]
theorem opn_mem {st : Stk} {z : Int} (h : z ∈ opn st) : ∃ x ∈ st, z = (x.1 : Int) := by
  induction st with
  | nil => simp [opn] at h
  | cons x s ih =>
    simp only [opn, List.mem_append, List.mem_singleton] at h
    rcases h with h | h
    · obtain ⟨y, hy, e⟩ := ih h; exact ⟨y, List.mem_cons_of_mem _ hy, e⟩
    · exact ⟨x, List.mem_cons_self, h⟩
theorem inLoop_no (C : List (Int × Int)) (st : Stk) : (∀ a ∈ opn st, opAt C a.toNat ≠ 29) ↔ inLoop C st = false := by
  induction st with
  | nil => simp [opn, inLoop]
  | cons x s ih =>
    obtain ⟨a, y⟩ := x
    simp only [opn, inLoop, List.mem_append, List.mem_singleton, Bool.or_eq_false_iff]
    rw [← ih]
    constructor
    · intro h
      exact ⟨by have := h a (Or.inr rfl); simpa using this, fun z hz => h z (Or.inl hz)⟩
    · rintro ⟨h1, h2⟩ z (hz | rfl)
      · exact h2 z hz
      · simpa using h1

structure PS (w wr : World) (vo vp vt : Value) (n i : Nat) (st : Stk) (out : List Int) : Prop where
  ext : Ext w wr
  o : OwnI wr w.heap.size vo out
  p : OwnI wr w.heap.size vp (opn st)
  t : OwnI wr w.heap.size vt (oth st)
  len : out.length = n
  d1 : ∀ k, vo.ownBlock = some k → vp.ownBlock ≠ some k
  d2 : ∀ k, vo.ownBlock = some k → vt.ownBlock ≠ some k
  d3 : ∀ k, vp.ownBlock = some k → vt.ownBlock ≠ some k
  dep : st.length ≤ 8
  bd : ∀ x ∈ st, x.1 < i ∧ -1 ≤ x.2 ∧ x.2 < i
theorem PS.start {w w1 : World} {vo : Value} {n : Nat} {out : List Int} (hX : Ext w w1) (ho : OwnI w1 w.heap.size vo out) (hl : out.length = n) : PS w w1 vo (.slice none 0 0) (.slice none 0 0) n 0 [] out :=
  ⟨hX, ho, OwnI.nil' _ _, OwnI.nil' _ _, hl, fun k _ e => by simp [Value.ownBlock] at e, fun k _ e => by simp [Value.ownBlock] at e, fun k _ e => by simp [Value.ownBlock] at e, by simp, by simp⟩
theorem PS.bump {w wr : World} {vo vp vt : Value} {n i : Nat} {st : Stk} {out : List Int} (h : PS w wr vo vp vt n i st out) : PS w wr vo vp vt n (i + 1) st out :=
  ⟨h.ext, h.o, h.p, h.t, h.len, h.d1, h.d2, h.d3, h.dep, fun x hx => by obtain ⟨a, b, c⟩ := h.bd x hx; exact ⟨by omega, b, by omega⟩⟩
theorem PS.move {w wr w1 : World} {vo vp vt : Value} {n i : Nat} {st : Stk} {out : List Int} (h : PS w wr vo vp vt n i st out) (c : Ext wr w1) : PS w w1 vo vp vt n i st out :=
  ⟨h.ext.trans c, own_ext h.o c, own_ext h.p c, own_ext h.t c, h.len, h.d1, h.d2, h.d3, h.dep, h.bd⟩
theorem PS.put {w wr : World} {vp vt : Value} {n i g m c : Nat} {st : Stk} {out : List Int} (h : PS w wr (.slice (some ⟨g, 0, none⟩) m c) vp vt n i st out) (j : Nat) (x : Int) : PS w (wr.setCell ⟨g, j, none⟩ (.int .i64 x)) (.slice (some ⟨g, 0, none⟩) m c) vp vt n i st (out.set j x) := by
  have hg := (own_lt h.o (x := g) rfl).1
  have c1 : Chg [g] wr (wr.setCell ⟨g, j, none⟩ (.int .i64 x)) := (Chg.refl _ wr).setCell (Or.inl (by simp)) _
  exact ⟨h.ext.setCell hg _, h.o.set j x, own_chg h.p c1 (fun k hk => by simp at hk; subst hk; exact h.d1 k rfl), own_chg h.t c1 (fun k hk => by simp at hk; subst hk; exact h.d2 k rfl), by rw [List.length_set]; exact h.len, h.d1, h.d2, h.d3, h.dep, h.bd⟩
theorem PS.top {w wr : World} {vo vp : Value} {n i g m c a : Nat} {y : Int} {s : Stk} {out : List Int} (h : PS w wr vo vp (.slice (some ⟨g, 0, none⟩) m c) n i ((a, y) :: s) out) (x : Int) (h1 : -1 ≤ x) (h2 : x < i) : PS w (wr.setCell ⟨g, s.length, none⟩ (.int .i64 x)) vo vp (.slice (some ⟨g, 0, none⟩) m c) n i ((a, x) :: s) out := by
  have hg := (own_lt h.t (x := g) rfl).1
  have c1 : Chg [g] wr (wr.setCell ⟨g, s.length, none⟩ (.int .i64 x)) := (Chg.refl _ wr).setCell (Or.inl (by simp)) _
  have ht := h.t.set s.length x
  rw [show (oth ((a, y) :: s)).set s.length x = oth ((a, x) :: s) by simp only [oth]; rw [List.set_append_right _ _ (by rw [oth_len]; exact Nat.le_refl _), oth_len, Nat.sub_self]; rfl] at ht
  exact ⟨h.ext.setCell hg _, own_chg h.o c1 (fun k hk e => by simp at hk; subst hk; exact h.d2 k e rfl), own_chg h.p c1 (fun k hk e => by simp at hk; subst hk; exact h.d3 k e rfl), ht, h.len, h.d1, h.d2, h.d3, by simpa using h.dep, fun z hz => by
    rcases List.mem_cons.1 hz with rfl | hz
    · exact ⟨(h.bd _ List.mem_cons_self).1, h1, h2⟩
    · exact h.bd z (List.mem_cons_of_mem _ hz)⟩
theorem PS.pop {w wr : World} {vo : Value} {n i gp gt m cp ct : Nat} {x : Nat × Int} {s : Stk} {out : List Int} (h : PS w wr vo (.slice (some ⟨gp, 0, none⟩) (m + 1) cp) (.slice (some ⟨gt, 0, none⟩) (m + 1) ct) n i (x :: s) out) (hm : s.length = m) : PS w wr vo (.slice (some ⟨gp, 0, none⟩) m cp) (.slice (some ⟨gt, 0, none⟩) m ct) n i s out := by
  obtain ⟨a, y⟩ := x
  have hp := h.p
  have ht := h.t
  unfold OwnI at hp ht
  simp only [opn, oth, List.length_append, List.map_append, List.map_cons, List.map_nil, List.length_singleton, opn_len, oth_len, hm] at hp ht
  refine ⟨h.ext, h.o, ?_, ?_, h.len, h.d1, h.d2, h.d3, by have := h.dep; simp at this; omega, fun z hz => h.bd z (List.mem_cons_of_mem _ hz)⟩
  · unfold OwnI; rw [opn_len, hm]; exact own_pop hp
  · unfold OwnI; rw [oth_len, hm]; exact own_pop ht
theorem PS.other {w W w4 : World} {vo vp vt : Value} {n i : Nat} {st : Stk} {out : List Int} {o1 : Obj} (h : PS w W vo vp vt n i st out) (g1 : (W.alloc o1).grownBy w4 vp.ownBlock) : OwnI w4 w.heap.size vt (oth st) :=
  own_chg h.t ((Chg.of_ext vp.ownBlock.toList ((Ext.refl W).alloc o1)).grown g1 (fun k hk => Or.inl (by simp [hk]))) (fun k hk e => by simp at hk; exact h.d3 k hk e)
theorem rd_one (W : World) (x : Int) : Rd (W.alloc (.cells #[.int .i64 x] 3)) 1 (.slice (some ⟨W.heap.size, 0, none⟩) 1 1) 1 [.int .i64 x] := by
  have hb := Blk.new W [.int .i64 x] 3
  refine ⟨rfl, _, _, rfl, Nat.le_refl _, by decide, by simp, fun _ => ⟨_, _, rfl, by simp, fun j hj => ?_⟩⟩
  match j, hj with
  | 0, _ => exact hb.cell 0 _ rfl
theorem PS.push {w W w4 w6 : World} {vo vp vt vp' vt' : Value} {n i : Nat} {st : Stk} {out : List Int} {o1 o2 : Obj} (h : PS w W vo vp vt n i st out) (h8 : st.length < 8)
    (hp : OwnI w4 w.heap.size vp' (opn st ++ [(i : Int)])) (g1 : (W.alloc o1).grownBy w4 vp.ownBlock) (a1 : vp'.ownBlock = vp.ownBlock ∨ vp'.ownBlock = some (W.alloc o1).heap.size)
    (ht : OwnI w6 w.heap.size vt' (oth st ++ [-1])) (g2 : (w4.alloc o2).grownBy w6 vt.ownBlock) (a2 : vt'.ownBlock = vt.ownBlock ∨ vt'.ownBlock = some (w4.alloc o2).heap.size) :
    PS w w6 vo vp' vt' n (i + 1) ((i, -1) :: st) out := by
  have c1 : Chg vp.ownBlock.toList W w4 := (Chg.of_ext _ ((Ext.refl W).alloc o1)).grown g1 (fun k hk => Or.inl (by simp [hk]))
  have c2 : Chg vt.ownBlock.toList w4 w6 := (Chg.of_ext _ ((Ext.refl w4).alloc o2)).grown g2 (fun k hk => Or.inl (by simp [hk]))
  have hs0 := h.ext.size
  have s1 := c1.size
  have s2 := c2.size
  have lp : ∀ k, vp.ownBlock = some k → w.heap.size ≤ k ∧ k < W.heap.size := fun k e => own_lt h.p e
  have lt : ∀ k, vt.ownBlock = some k → w.heap.size ≤ k ∧ k < W.heap.size := fun k e => own_lt h.t e
  have lo : ∀ k, vo.ownBlock = some k → w.heap.size ≤ k ∧ k < W.heap.size := fun k e => own_lt h.o e
  have lp' : ∀ k, vp'.ownBlock = some k → vp.ownBlock = some k ∨ W.heap.size < k + 0 := fun k e => by
    rcases a1 with a1 | a1
    · exact Or.inl (by rw [← a1]; exact e)
    · rw [a1] at e; simp at e; exact Or.inr (by omega)
  have hpl : ∀ k, vp'.ownBlock = some k → k < w4.heap.size := fun k e => (own_lt hp e).2
  have lt' : ∀ k, vt'.ownBlock = some k → vt.ownBlock = some k ∨ w4.heap.size ≤ k := fun k e => by
    rcases a2 with a2 | a2
    · exact Or.inl (by rw [← a2]; exact e)
    · rw [a2] at e; simp at e; exact Or.inr (by omega)
  have hto4 : OwnI w4 w.heap.size vt (oth st) := own_chg h.t c1 (fun k hk e => by simp at hk; exact h.d3 k hk e)
  have d3' : ∀ k, vp'.ownBlock = some k → vt.ownBlock ≠ some k := fun k e e2 => by
    rcases lp' k e with h1 | h1
    · exact h.d3 k h1 e2
    · have := (lt k e2).2; omega
  have X4 : Ext w w4 := ((Chg.of_ext [] (h.ext.alloc o1)).grown g1 (fun k hk => Or.inr (lp k hk).1)).ext
  have X6 : Ext w w6 := ((Chg.of_ext [] (X4.alloc o2)).grown g2 (fun k hk => Or.inr (lt k hk).1)).ext
  refine ⟨X6, own_chg (own_chg h.o c1 (fun k hk e => by simp at hk; exact h.d1 k e hk)) c2 (fun k hk e => by simp at hk; exact h.d2 k e hk), own_chg hp c2 (fun k hk e => by simp at hk; exact d3' k e hk), ht, h.len, fun k e e2 => ?_, fun k e e2 => ?_, fun k e e2 => ?_, by simp; omega, fun x hx => ?_⟩
  · rcases lp' k e2 with h1 | h1
    · exact h.d1 k e h1
    · have := (lo k e).2; omega
  · rcases lt' k e2 with h1 | h1
    · exact h.d2 k e h1
    · have := (lo k e).2; omega
  · rcases lt' k e2 with h1 | h1
    · exact d3' k e h1
    · have := hpl k e; omega
  · rcases List.mem_cons.1 hx with rfl | hx
    · exact ⟨by simp, by simp, by simp; omega⟩
    · obtain ⟨p, q, r⟩ := h.bd x hx; exact ⟨by omega, q, by omega⟩
end Go.Proofs.Ytcnbljohhajkhaa
