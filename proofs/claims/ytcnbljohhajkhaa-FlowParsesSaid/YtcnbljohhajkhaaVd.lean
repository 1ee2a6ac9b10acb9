/- Layer 18: a block more, a leaf more. -/
import Derived.Test.YtcnbljohhajkhaaVc
import Derived.Test.YtcnbljohhajkhaaP
namespace Go.Proofs.Ytcnbljohhajkhaa
open Go.RowKit
set_option linter.unusedVariables false
set_option linter.unusedSimpArgs false

theorem rd2_at {α : Type} {E : α → List Value} (hE : ∀ x, (E x).length = 2) {w : World} {b off n cap : Nat} {l : List α} (h : Rd w 2 (.slice (some ⟨b, off, none⟩) n cap) n (l.flatMap E)) (k : Nat) (x : α) (hx : l[k]? = some x) (u0 u1 : Value) (hu : E x = [u0, u1]) :
    w.cell? ⟨b, off + k * 2, none⟩ = some u0 ∧ w.cell? ⟨b, off + k * 2 + 1, none⟩ = some u1 := by
  have hk : k < l.length := (List.getElem?_eq_some_iff.1 hx).1
  have hl := flat_len E 2 hE l
  have hn : l.length = n := by have := h.len; omega
  obtain ⟨b', off', e, -, hc⟩ := h.cells (by omega)
  simp only [Option.some.injEq, Addr.mk.injEq, and_true] at e
  obtain ⟨rfl, rfl⟩ := e
  have g0 := flat_get E 2 hE l k 0 x hx (by decide)
  have g1 := flat_get E 2 hE l k 1 x hx (by decide)
  have c0 := hc (k * 2) (by omega)
  have c1 := hc (k * 2 + 1) (by omega)
  rw [hu] at g0 g1
  rw [Nat.add_zero] at g0
  rw [show (l.flatMap E).getD (k * 2) undef = u0 from getD_val g0] at c0
  rw [show (l.flatMap E).getD (k * 2 + 1) undef = u1 from getD_val g1] at c1
  exact ⟨c0, by rw [← c1, Nat.add_assoc]⟩
theorem code_at {w : World} {b off n cap : Nat} {C : List (Int × Int)} (h : Code18 w (.slice (some ⟨b, off, none⟩) n cap) C) (k : Nat) (hk : k < C.length) :
    w.cell? ⟨b, off + k * 2, none⟩ = some (.int .i64 (opAt C k)) ∧ ∃ x, w.cell? ⟨b, off + k * 2 + 1, none⟩ = some (.int .u32 x) := by
  have hn : C.length = n := by have := h.2; obtain ⟨a, c, e, -⟩ := h.2; simp at e; exact e.2.1.symm
  have hx : C[k]? = some C[k] := List.getElem?_eq_getElem hk
  unfold Code18 at h
  rw [hn] at h
  have := rd2_at (E := icell) (fun _ => rfl) h k C[k] hx (.int .i64 (C[k]).1) (.int .u32 (C[k]).2) rfl
  refine ⟨?_, _, this.2⟩
  rw [this.1]
  simp [opAt, List.getD, hx]
theorem own_cell {w : World} {B : Nat} {e : TypeId} {sz n g c : Nat} {cs : List Value} (h : w.ownsRow B e sz (.slice (some ⟨g, 0, none⟩) n c) n cs) (j : Nat) (u : Value) (hu : cs[j]? = some u) : w.cell? ⟨g, j, none⟩ = some u := by
  have := h.cells (g := g) rfl j u hu
  rw [← this]
  unfold Addr.add
  split
  · next hz => subst hz; rfl
  · simp

theorem LS.inc {w wr : World} {B br : Nat} {vc : Value} {C : List (Int × Int)} {vp : Value} {q q' : LQ} {g c m : Nat} {l0 b o : T} {f t : Int} {cs : List Value} {i : Nat} {P : List Int}
    (h : LS w wr B br vc C vp q q' (.slice (some ⟨g, 0, none⟩) m c) m (l0.app (.cons (-1) f t b o .nil)) cs i P) (hBw : B ≤ w.heap.size) :
    wr.cell? ⟨g, l0.len * 5, none⟩ = some (.int .i64 (-1)) ∧ wr.cell? ⟨g, l0.len * 5 + 2, none⟩ = some (.int .i64 t) ∧ wr.frozen? ⟨g, l0.len * 5 + 2, none⟩ = false ∧ g ≠ br ∧
    ∃ cs', LS w (wr.setCell ⟨g, l0.len * 5 + 2, none⟩ (.int .i64 (t + 1))) B br vc C vp q q' (.slice (some ⟨g, 0, none⟩) m c) m (l0.app (.cons (-1) f (t + 1) b o .nil)) cs' i P := by
  have hgs : g ∉ SS br vp q' := fun hm => h.off g hm rfl
  have hlt := own_lt h.own (x := g) rfl
  obtain ⟨c1, c2, rfl, h1, h2⟩ := h.fr.split
  have hc1 := h1.length
  obtain ⟨vb, vo, cr, rfl, k1, k2, k3⟩ := h2
  cases k3
  have hst := World.ownsRow.stored h.own (l0.len * 5 + 2) (.int .i64 (t + 1))
  have hc : Chg [g] wr (wr.setCell ⟨g, l0.len * 5 + 2, none⟩ (.int .i64 (t + 1))) := (Chg.refl _ wr).setCell (Or.inl (by simp)) _
  refine ⟨own_cell h.own _ _ (by rw [← hc1]; simp), own_cell h.own _ _ (by rw [← hc1]; simp), World.ownsRow.frozenAt h.own _, fun e => hgs (by simp [SS, e]), c1 ++ [.int .i64 (-1), .int .i64 f, .int .i64 (t + 1), vb, vo], ?_, h.off, ?_, h.st.move hc (by simpa using hgs) (by simp; omega), h.to, h.chg.trans hc (by simp; exact Or.inr hlt.1), by have := h.len; rw [T.len_app] at this ⊢; exact this⟩
  · have := hst.1
    rw [← hc1] at this
    simpa [hc1] using this
  · have hF : Fr (wr.setCell ⟨g, l0.len * 5 + 2, none⟩ (.int .i64 (t + 1))) (fun k => w.heap.size ≤ k ∧ k ∉ SS br vp q' ∧ (Value.slice (some ⟨g, 0, none⟩) m c).ownBlock ≠ some k) (l0.app (.cons (-1) f t b o .nil)) (c1 ++ [.int .i64 (-1), .int .i64 f, .int .i64 t, vb, vo]) :=
      h.fr.chg hc (fun x hx hQ => by simp at hx; subst hx; exact hQ.2.2 rfl) (fun k _ hQ => hQ)
    obtain ⟨d1, d2, e, j1, j2⟩ := hF.split
    have hd1 := j1.length
    obtain ⟨rfl, rfl⟩ := List.append_inj e (by omega)
    refine j1.app ?_
    obtain ⟨vb', vo', cr', e', m1, m2, m3⟩ := j2
    simp only [List.cons.injEq, true_and] at e'
    obtain ⟨rfl, rfl, rfl⟩ := e'
    exact ⟨vb, vo, [], rfl, m1, m2, rfl⟩
theorem LS.push {w wr W w1 : World} {B br : Nat} {vc : Value} {C : List (Int × Int)} {vp : Value} {q q' : LQ} {v : Value} {m g cap : Nat} {out tb : T} {cs news : List Value} {i : Nat} {P : List Int}
    (h : LS w wr B br vc C vp q q' v m out cs i P) (hBw : B ≤ w.heap.size) (hW : Ext wr W) (hn : Fr wr (fun k => w.heap.size ≤ k ∧ k ∉ SS br vp q' ∧ v.ownBlock ≠ some k) tb news) (htb : tb.len = 1)
    (hO : w1.ownsRow w.heap.size 47 5 (.slice (some ⟨g, 0, none⟩) (m + 1) cap) (m + 1) (cs ++ news)) (hg : W.grownBy w1 v.ownBlock) (hat : v.ownBlock = some g ∨ wr.heap.size ≤ g) :
    LS w w1 B br vc C vp q q' (.slice (some ⟨g, 0, none⟩) (m + 1) cap) (m + 1) (out.app tb) (cs ++ news) i P := by
  have hv : ∀ x ∈ v.ownBlock.toList, x ∉ SS br vp q' := fun x hx hm => h.off x hm (by simpa using hx)
  have hvl : ∀ x ∈ v.ownBlock.toList, w.heap.size ≤ x := fun x hx => (own_lt h.own (by simpa using hx)).1
  have hc : Chg v.ownBlock.toList wr w1 := (Chg.of_ext _ hW).grown hg (fun k hk => Or.inl (by simp [hk]))
  have hgs : ∀ k ∈ SS br vp q', g ≠ k := fun k hk e => by
    subst e
    rcases hat with h1 | h1
    · exact h.off g hk h1
    · have := SS_lt h.st hk; omega
  have hQ : ∀ k, k < wr.heap.size → (w.heap.size ≤ k ∧ k ∉ SS br vp q' ∧ v.ownBlock ≠ some k) → (w.heap.size ≤ k ∧ k ∉ SS br vp q' ∧ (Value.slice (some ⟨g, 0, none⟩) (m + 1) cap).ownBlock ≠ some k) := fun k hk hq => ⟨hq.1, hq.2.1, fun e => by
    simp [Value.ownBlock] at e; subst e
    rcases hat with h1 | h1
    · exact hq.2.2 h1
    · omega⟩
  have hno : ∀ x ∈ v.ownBlock.toList, ¬ (w.heap.size ≤ x ∧ x ∉ SS br vp q' ∧ v.ownBlock ≠ some x) := fun x hx hq => hq.2.2 (by simpa using hx)
  exact ⟨hO, fun k hk e => by simp [Value.ownBlock] at e; exact hgs k hk e, (h.fr.chg hc hno hQ).app (hn.chg hc hno hQ), h.st.move hc hv (fun x hx => Nat.le_trans hBw (hvl x hx)), h.to, h.chg.trans hc (fun x hx => Or.inr (hvl x hx)), by rw [T.len_app, h.len, htb]⟩
theorem Fr.plain (w : World) (Q : Nat → Prop) (f t : Int) : Fr w Q (.cons (-1) f t .nil .nil .nil) [.int .i64 (-1), .int .i64 f, .int .i64 t, .slice none 0 0, .slice none 0 0] :=
  ⟨_, _, [], rfl, ⟨[], Rd.nil w 5, fun k hk => absurd hk (by simp [T.len]), rfl⟩, ⟨[], Rd.nil w 5, fun k hk => absurd hk (by simp [T.len]), rfl⟩, rfl⟩
/-- A leaf more. -/
theorem St.leave {w W w1 : World} {B br : Nat} {vc : Value} {C : List (Int × Int)} {vp : Value} {bl : Nat} {vs : Value} {l : List Int} {i : Nat} {P : List Int} {g cap : Nat} {x : Int}
    (h : St w B br vc C vp i P (some (bl, vs, l))) (hBw : B ≤ w.heap.size) (hW : Ext w W) (hO : OwnI w1 B (.slice (some ⟨g, 0, none⟩) (l.length + 1) cap) (l ++ [x])) (hg : W.grownBy w1 vs.ownBlock) (hat : vs.ownBlock = some g ∨ w.heap.size ≤ g) :
    St (w1.setCell ⟨bl, 0, none⟩ (.slice (some ⟨g, 0, none⟩) (l.length + 1) cap)) B br vc C vp i P (some (bl, .slice (some ⟨g, 0, none⟩) (l.length + 1) cap, l ++ [x])) ∧
    Chg (bl :: vs.ownBlock.toList) w (w1.setCell ⟨bl, 0, none⟩ (.slice (some ⟨g, 0, none⟩) (l.length + 1) cap)) := by
  have hc0 : Chg vs.ownBlock.toList w w1 := (Chg.of_ext _ hW).grown hg (fun k hk => Or.inl (by simp [hk]))
  have hc : Chg (bl :: vs.ownBlock.toList) w (w1.setCell ⟨bl, 0, none⟩ (.slice (some ⟨g, 0, none⟩) (l.length + 1) cap)) := (hc0.mono (fun x hx => List.mem_cons_of_mem _ hx)).setCell (Or.inl (by simp)) _
  have nd := h.nodup
  have ab := h.above
  have hlt : ∀ k ∈ SS br vp (some (bl, vs, l)), k < w.heap.size := fun k hk => SS_lt h hk
  have hgB : B ≤ g := (own_lt hO (x := g) rfl).1
  simp only [SS, lqS, List.nodup_cons, List.mem_append, List.mem_cons, not_or, Option.mem_toList, List.nodup_append] at nd ab hlt
  have hgn : g ≠ br ∧ g ≠ bl ∧ vp.ownBlock ≠ some g := by
    rcases hat with h1 | h1
    · exact ⟨fun e => nd.1.2.2 (by rw [h1, e]), fun e => nd.2.2.1.1 (by rw [h1, e]), fun e => nd.2.2.2 g e g (Or.inr h1) rfl⟩
    · exact ⟨fun e => by have := hlt br (Or.inl rfl); omega, fun e => by have := hlt bl (Or.inr (Or.inr (Or.inl rfl))); omega, fun e => by have := hlt g (Or.inr (Or.inl e)); omega⟩
  refine ⟨⟨h.rd.chg hc ?_, h.code.chg hc ?_, h.off, own_chg h.parts hc ?_, h.plen, ⟨?_, ?_⟩, ?_, ?_⟩, hc⟩
  · simp only [List.mem_cons, Option.mem_toList, not_or]; exact ⟨nd.1.2.1, nd.1.2.2⟩
  · intro k hk hn e
    have := h.off hn k e
    simp only [List.mem_cons, Option.mem_toList] at hk
    have := ab k (by rcases hk with rfl | hk; exact Or.inr (Or.inr (Or.inl rfl)); exact Or.inr (Or.inr (Or.inr hk)))
    omega
  · intro k hk e
    simp only [List.mem_cons, Option.mem_toList] at hk
    exact nd.2.2.2 k e k hk rfl
  · have := ((h.leaves.1.ext hW).grown hg (fun e => nd.2.2.1.1 e)).set 0 (.slice (some ⟨g, 0, none⟩) (l.length + 1) cap)
    exact this
  · show World.ownsRow _ _ _ _ _ _ _
    rw [List.length_append]
    have := ownsRow_setCell_other (a := ⟨bl, 0, none⟩) hO (by simp [Value.ownBlock]; exact hgn.2.1) (.slice (some ⟨g, 0, none⟩) (l.length + 1) cap)
    rw [List.length_append] at this
    exact this
  · simp only [SS, lqS, List.nodup_cons, List.mem_append, List.mem_cons, not_or, Option.mem_toList, List.nodup_append, Value.ownBlock]
    simp only [Option.some.injEq, Option.toList_some, List.mem_cons, List.not_mem_nil, or_false, List.nodup_cons, not_false_iff, List.nodup_nil, and_true]
    refine ⟨⟨nd.1.1, nd.1.2.1, fun e => hgn.1 e⟩, nd.2.1, fun e => hgn.2.1 e, ?_⟩
    intro a ha b hb e
    subst e
    rcases hb with rfl | rfl
    · exact nd.2.2.2 _ ha _ (Or.inl rfl) rfl
    · exact hgn.2.2 ha
  · intro k hk
    simp only [SS, lqS, List.mem_append, List.mem_cons, Option.mem_toList, Value.ownBlock, Option.some.injEq] at hk
    rcases hk with h1 | h1 | h1 | h1
    · exact ab k (Or.inl h1)
    · exact ab k (Or.inr (Or.inl h1))
    · exact ab k (Or.inr (Or.inr (Or.inl h1)))
    · omega
end Go.Proofs.Ytcnbljohhajkhaa
