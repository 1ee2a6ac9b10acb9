
import Derived.Test.YtgjjklajipekdaaGreatWc
import Derived.Test.YtgjjklajipekdaaGreatP
namespace Go.Proofs.YtgjjklajipekdaaGreat
open Go.RowKit
set_option linter.unusedVariables false
set_option linter.unusedSimpArgs false
theorem rd2_atFl {α : Type} {E : α → List Value} (hE : ∀ x, (E x).length = 2) {w : World} {b off n cap : Nat} {l : List α} (h : Rd w 2 (.slice (some ⟨b, off, none⟩) n cap) n (l.flatMap E)) (k : Nat) (x : α) (hx : l[k]? = some x) (u0 u1 : Value) (hu : E x = [u0, u1]) :
  w.cell? ⟨b, off + k * 2, none⟩ = some u0 ∧ w.cell? ⟨b, off + k * 2 + 1, none⟩ = some u1 := by
 have hk : k < l.length := (List.getElem?_eq_some_iff.1 hx).1
 have hl := flat_len E 2 hE l
 have hn : l.length = n := by have := h.len; omega
 obtain ⟨b', off', e, -, hc⟩ := h.cells (by omega)
 simp only [Option.some.injEq, Addr.mk.injEq, and_true] at e
 obtain ⟨rfl, rfl⟩ := e
 have g0 := flat_get E 2 hE l k 0 x hx (by decide)
 have g1 := flat_get E 2 hE l k 1 x hx (by decide)
 have c0 := hc (k * 2) (by omega)
 have c1 := hc (k * 2 + 1) (by omega)
 rw [hu] at g0 g1
 rw [Nat.add_zero] at g0
 rw [show (l.flatMap E).getD (k * 2) undef = u0 from getD_val g0] at c0
 rw [show (l.flatMap E).getD (k * 2 + 1) undef = u1 from getD_val g1] at c1
 exact ⟨c0, by rw [← c1, Nat.add_assoc]⟩
theorem code_at {w : World} {b off n cap : Nat} {C : List (Int × Int)} (h : Code18 w (.slice (some ⟨b, off, none⟩) n cap) C) (k : Nat) (hk : k < C.length) :
  w.cell? ⟨b, off + k * 2, none⟩ = some (.int .i64 (opAtFl C k)) ∧ ∃ x, w.cell? ⟨b, off + k * 2 + 1, none⟩ = some (.int .u32 x) := by
 have hn : C.length = n := by have := h.2; obtain ⟨a, c, e, -⟩ := h.2; simp at e; exact e.2.1.symm
 have hx : C[k]? = some C[k] := List.getElem?_eq_getElem hk
 unfold Code18 at h
 rw [hn] at h
 have := rd2_atFl (E := icell) (fun _ => rfl) h k C[k] hx (.int .i64 (C[k]).1) (.int .u32 (C[k]).2) rfl
 refine ⟨?_, _, this.2⟩
 rw [this.1]
 simp [opAtFl, List.getD, hx]
theorem own_cell {w : World} {B : Nat} {e : TypeId} {sz n g c : Nat} {cs : List Value} (h : w.ownsRow B e sz (.slice (some ⟨g, 0, none⟩) n c) n cs) (j : Nat) (u : Value) (hu : cs[j]? = some u) : w.cell? ⟨g, j, none⟩ = some u := by
 have := h.cells (g := g) rfl j u hu
 rw [← this]
 unfold Addr.add
 split
 ·next hz => subst hz; rfl
 ·simp
theorem LS.inc {w wr : World} {B br : Nat} {vc : Value} {C : List (Int × Int)} {vp : Value} {q q' : LQ} {g c m : Nat} {l0 b o : T} {f t : Int} {cs : List Value} {i : Nat} {P : List Int}
  (h : LS w wr B br vc C vp q q' (.slice (some ⟨g, 0, none⟩) m c) m (l0.app (.cons (-1) f t b o .nil)) cs i P) (hBw : B ≤ w.heap.size) :
  wr.cell? ⟨g, l0.len * 5, none⟩ = some (.int .i64 (-1)) ∧ wr.cell? ⟨g, l0.len * 5 + 2, none⟩ = some (.int .i64 t) ∧ wr.frozen? ⟨g, l0.len * 5 + 2, none⟩ = false ∧ g ≠ br ∧
  ∃ cs', LS w (wr.setCell ⟨g, l0.len * 5 + 2, none⟩ (.int .i64 (t + 1))) B br vc C vp q q' (.slice (some ⟨g, 0, none⟩) m c) m (l0.app (.cons (-1) f (t + 1) b o .nil)) cs' i P := by
 have hgs : g ∉ SS br vp q' := fun hm => h.off g hm rfl
 have hlt := own_lt h.own (x := g) rfl
 obtain ⟨c1, c2, rfl, h1, h2⟩ := h.fr.split
 have hc1 := h1.length
 obtain ⟨vb, vo, cr, rfl, k1, k2, k3⟩ := h2
 cases k3
 have hst := World.ownsRow.stored h.own (l0.len * 5 + 2) (.int .i64 (t + 1))
 have hc : Chg [g] wr (wr.setCell ⟨g, l0.len * 5 + 2, none⟩ (.int .i64 (t + 1))) := (Chg.refl _ wr).setCell (Or.inl (by simp)) _
 refine ⟨own_cell h.own _ _ (by rw [← hc1]; simp), own_cell h.own _ _ (by rw [← hc1]; simp), World.ownsRow.frozenAt h.own _, fun e => hgs (by simp [SS, e]), c1 ++ [.int .i64 (-1), .int .i64 f, .int .i64 (t + 1), vb, vo], ?_, h.off, ?_, h.st.move hc (by simpa using hgs) (by simp; omega), h.to, h.chg.trans hc (by simp; exact Or.inr hlt.1), by have := h.len; rw [T.len_app] at this ⊢; exact this⟩
 ·have := hst.1
  rw [← hc1] at this
  simpa [hc1] using this
 ·have hF : Fr (wr.setCell ⟨g, l0.len * 5 + 2, none⟩ (.int .i64 (t + 1))) (fun k => w.heap.size ≤ k ∧ k ∉ SS br vp q' ∧ (Value.slice (some ⟨g, 0, none⟩) m c).ownBlock ≠ some k) (l0.app (.cons (-1) f t b o .nil)) (c1 ++ [.int .i64 (-1), .int .i64 f, .int .i64 t, vb, vo]) :=
   h.fr.chg hc (fun x hx hQ => by simp at hx; subst hx; exact hQ.2.2 rfl) (fun k _ hQ => hQ)
  obtain ⟨d1, d2, e, j1, j2⟩ := hF.split
  have hd1 := j1.length
  obtain ⟨rfl, rfl⟩ := List.append_inj e (by omega)
  refine j1.app ?_
  obtain ⟨vb', vo', cr', e', m1, m2, m3⟩ := j2
  simp only [List.cons.injEq, true_and] at e'
  obtain ⟨rfl, rfl, rfl⟩ := e'
  exact ⟨vb, vo, [], rfl, m1, m2, rfl⟩
theorem LS.push {w wr W w1 : World} {B br : Nat} {vc : Value} {C : List (Int × Int)} {vp : Value} {q q' : LQ} {v : Value} {m g cap : Nat} {out tb : T} {cs news : List Value} {i : Nat} {P : List Int}
  (h : LS w wr B br vc C vp q q' v m out cs i P) (hBw : B ≤ w.heap.size) (hW : Ext wr W) (hn : Fr wr (fun k => w.heap.size ≤ k ∧ k ∉ SS br vp q' ∧ v.ownBlock ≠ some k) tb news) (htb : tb.len = 1)
  (hO : w1.ownsRow w.heap.size 178 5 (.slice (some ⟨g, 0, none⟩) (m + 1) cap) (m + 1) (cs ++ news)) (hg : W.grownBy w1 v.ownBlock) (hat : v.ownBlock = some g ∨ wr.heap.size ≤ g) :
  LS w w1 B br vc C vp q q' (.slice (some ⟨g, 0, none⟩) (m + 1) cap) (m + 1) (out.app tb) (cs ++ news) i P := by
 have hv : ∀ x ∈ v.ownBlock.toList, x ∉ SS br vp q' := fun x hx hm => h.off x hm (by simpa using hx)
 have hvl : ∀ x ∈ v.ownBlock.toList, w.heap.size ≤ x := fun x hx => (own_lt h.own (by simpa using hx)).1
 have hc : Chg v.ownBlock.toList wr w1 := (Chg.of_ext _ hW).grown hg (fun k hk => Or.inl (by simp [hk]))
 have hgs : ∀ k ∈ SS br vp q', g ≠ k := fun k hk e => by
  subst e
  rcases hat with h1 | h1
  ·exact h.off g hk h1
  ·have := SS_lt h.st hk; omega
 have hQ : ∀ k, k < wr.heap.size → (w.heap.size ≤ k ∧ k ∉ SS br vp q' ∧ v.ownBlock ≠ some k) → (w.heap.size ≤ k ∧ k ∉ SS br vp q' ∧ (Value.slice (some ⟨g, 0, none⟩) (m + 1) cap).ownBlock ≠ some k) := fun k hk hq => ⟨hq.1, hq.2.1, fun e => by
  simp [Value.ownBlock] at e; subst e
  rcases hat with h1 | h1
  ·exact hq.2.2 h1
  ·omega⟩
 have hno : ∀ x ∈ v.ownBlock.toList, ¬ (w.heap.size ≤ x ∧ x ∉ SS br vp q' ∧ v.ownBlock ≠ some x) := fun x hx hq => hq.2.2 (by simpa using hx)
 exact ⟨hO, fun k hk e => by simp [Value.ownBlock] at e; exact hgs k hk e, (h.fr.chg hc hno hQ).app (hn.chg hc hno hQ), h.st.move hc hv (fun x hx => Nat.le_trans hBw (hvl x hx)), h.to, h.chg.trans hc (fun x hx => Or.inr (hvl x hx)), by rw [T.len_app, h.len, htb]⟩
theorem Fr.plain (w : World) (Q : Nat → Prop) (f t : Int) : Fr w Q (.cons (-1) f t .nil .nil .nil) [.int .i64 (-1), .int .i64 f, .int .i64 t, .slice none 0 0, .slice none 0 0] :=
 ⟨_, _, [], rfl, ⟨[], Rd.nil w 5, fun k hk => absurd hk (by simp [T.len]), rfl⟩, ⟨[], Rd.nil w 5, fun k hk => absurd hk (by simp [T.len]), rfl⟩, rfl⟩
theorem St.leave {w W w1 : World} {B br : Nat} {vc : Value} {C : List (Int × Int)} {vp : Value} {bl : Nat} {vs : Value} {l : List Int} {i : Nat} {P : List Int} {g cap : Nat} {x : Int}
  (h : St w B br vc C vp i P (some (bl, vs, l))) (hBw : B ≤ w.heap.size) (hW : Ext w W) (hO : OwnI w1 B (.slice (some ⟨g, 0, none⟩) (l.length + 1) cap) (l ++ [x])) (hg : W.grownBy w1 vs.ownBlock) (hat : vs.ownBlock = some g ∨ w.heap.size ≤ g) :
  St (w1.setCell ⟨bl, 0, none⟩ (.slice (some ⟨g, 0, none⟩) (l.length + 1) cap)) B br vc C vp i P (some (bl, .slice (some ⟨g, 0, none⟩) (l.length + 1) cap, l ++ [x])) ∧
  Chg (bl :: vs.ownBlock.toList) w (w1.setCell ⟨bl, 0, none⟩ (.slice (some ⟨g, 0, none⟩) (l.length + 1) cap)) := by
 have hc0 : Chg vs.ownBlock.toList w w1 := (Chg.of_ext _ hW).grown hg (fun k hk => Or.inl (by simp [hk]))
 have hc : Chg (bl :: vs.ownBlock.toList) w (w1.setCell ⟨bl, 0, none⟩ (.slice (some ⟨g, 0, none⟩) (l.length + 1) cap)) := (hc0.mono (fun x hx => List.mem_cons_of_mem _ hx)).setCell (Or.inl (by simp)) _
 have nd := h.nodup
 have ab := h.above
 have hlt : ∀ k ∈ SS br vp (some (bl, vs, l)), k < w.heap.size := fun k hk => SS_lt h hk
 have hgB : B ≤ g := (own_lt hO (x := g) rfl).1
 simp only [SS, lqS, List.nodup_cons, List.mem_append, List.mem_cons, not_or, Option.mem_toList, List.nodup_append] at nd ab hlt
 have hgn : g ≠ br ∧ g ≠ bl ∧ vp.ownBlock ≠ some g := by
  rcases hat with h1 | h1
  ·exact ⟨fun e => nd.1.2.2 (by rw [h1, e]), fun e => nd.2.2.1.1 (by rw [h1, e]), fun e => nd.2.2.2 g e g (Or.inr h1) rfl⟩
  ·exact ⟨fun e => by have := hlt br (Or.inl rfl); omega, fun e => by have := hlt bl (Or.inr (Or.inr (Or.inl rfl))); omega, fun e => by have := hlt g (Or.inr (Or.inl e)); omega⟩
 refine ⟨⟨h.rd.chg hc ?_, h.code.chg hc ?_, h.off, own_chg h.parts hc ?_, h.plen, ⟨?_, ?_⟩, ?_, ?_⟩, hc⟩
 ·simp only [List.mem_cons, Option.mem_toList, not_or]; exact ⟨nd.1.2.1, nd.1.2.2⟩
 ·intro k hk hn e
  have := h.off hn k e
  simp only [List.mem_cons, Option.mem_toList] at hk
  have := ab k (by rcases hk with rfl | hk; exact Or.inr (Or.inr (Or.inl rfl)); exact Or.inr (Or.inr (Or.inr hk)))
  omega
 ·intro k hk e
  simp only [List.mem_cons, Option.mem_toList] at hk
  exact nd.2.2.2 k e k hk rfl
 ·have := ((h.leaves.1.ext hW).grown hg (fun e => nd.2.2.1.1 e)).set 0 (.slice (some ⟨g, 0, none⟩) (l.length + 1) cap)
  exact this
 ·show World.ownsRow _ _ _ _ _ _ _
  rw [List.length_append]
  have := ownsRow_setCell_other (a := ⟨bl, 0, none⟩) hO (by simp [Value.ownBlock]; exact hgn.2.1) (.slice (some ⟨g, 0, none⟩) (l.length + 1) cap)
  rw [List.length_append] at this
  exact this
 ·simp only [SS, lqS, List.nodup_cons, List.mem_append, List.mem_cons, not_or, Option.mem_toList, List.nodup_append, Value.ownBlock]
  simp only [Option.some.injEq, Option.toList_some, List.mem_cons, List.not_mem_nil, or_false, List.nodup_cons, not_false_iff, List.nodup_nil, and_true]
  refine ⟨⟨nd.1.1, nd.1.2.1, fun e => hgn.1 e⟩, nd.2.1, fun e => hgn.2.1 e, ?_⟩
  intro a ha b hb e
  subst e
  rcases hb with rfl | rfl
  ·exact nd.2.2.2 _ ha _ (Or.inl rfl) rfl
  ·exact hgn.2.2 ha
 ·intro k hk
  simp only [SS, lqS, List.mem_append, List.mem_cons, Option.mem_toList, Value.ownBlock, Option.some.injEq] at hk
  rcases hk with h1 | h1 | h1 | h1
  ·exact ab k (Or.inl h1)
  ·exact ab k (Or.inr (Or.inl h1))
  ·exact ab k (Or.inr (Or.inr (Or.inl h1)))
  ·omega
def lqIn (o : Int) (b8 : Nat) (q : LQ) : LQ := if o = 29 then some (b8, .slice none 0 0, []) else q
theorem St.inner {w : World} {B br : Nat} {vc : Value} {C : List (Int × Int)} {vp : Value} {q : LQ} {i b8 : Nat} {P : List Int} {o : Int} (h : St w B br vc C vp i P q) (hb : Blk w b8 78 [.slice none 0 0]) (hB : B ≤ b8) (hn : b8 ∉ SS br vp q) :
  St w B br vc C vp i P (lqIn o b8 q) := by
 unfold lqIn
 split
 ·have nd := h.nodup
  have ab := h.above
  simp only [SS, List.nodup_cons, List.mem_append, List.mem_cons, not_or, Option.mem_toList, List.nodup_append] at nd ab hn
  refine ⟨h.rd, h.code, h.off, h.parts, h.plen, ⟨hb, World.ownsRow_nil _ _ _ _⟩, ?_, ?_⟩
  ·simp only [SS, show lqS (some (b8, .slice none 0 0, [])) = [b8] from rfl, List.nodup_cons, List.mem_append, List.mem_cons, not_or, Option.mem_toList, List.nodup_append, List.not_mem_nil, or_false, not_false_iff, List.nodup_nil, and_true]
   refine ⟨⟨nd.1.1, fun e => hn.1 e.symm⟩, nd.2.1, trivial, ?_⟩
   intro a ha b hb e
   subst e
   subst hb
   exact hn.2.1 ha
  ·intro x hx
   simp only [SS, show lqS (some (b8, .slice none 0 0, [])) = [b8] from rfl, List.mem_append, List.mem_cons, List.not_mem_nil, or_false, Option.mem_toList] at hx
   rcases hx with h1 | h1 | h1
   ·exact ab x (Or.inl h1)
   ·exact ab x (Or.inr (Or.inl h1))
   ·omega
 ·exact h
def SubAt (w : World) (Q : Nat → Prop) (v : Value) (t : T) : Prop := ∃ cs, Rd w 5 v t.len cs ∧ (∀ k, 0 < t.len → v.ownBlock = some k → Q k) ∧ Fr w Q t cs
theorem SubAt.chg {w w' : World} {Q Q' : Nat → Prop} {S : List Nat} {v : Value} {t : T} (h : SubAt w Q v t) (c : Chg S w w') (hS : ∀ x ∈ S, ¬ Q x) (hQ : ∀ k, k < w.heap.size → Q k → Q' k) : SubAt w' Q' v t := by
 obtain ⟨cs, h1, h2, h3⟩ := h
 exact ⟨cs, h1.chg c (fun x hx hn e => hS x hx (h2 x hn e)), fun k hn e => hQ k (h1.blk_lt hn e) (h2 k hn e), h3.chg c hS hQ⟩
theorem SubAt.nil (w : World) (Q : Nat → Prop) : SubAt w Q (.slice none 0 0) .nil := ⟨[], Rd.nil w 5, fun k hk => absurd hk (by simp [T.len]), rfl⟩
structure BS (w wx : World) (B br : Nat) (vc : Value) (C : List (Int × Int)) (vp : Value) (q q1 : LQ) (o : Int) (s i k : Nat) (P : List Int) (vb vo : Value) (body oth : T) : Prop where
 res : Blk wx s 178 [.int .i64 0, .int .i64 0, .int .i64 0, .slice none 0 0, .slice none 0 0]
 blk : Blk wx (s + 1) 178 [.int .i64 o, .int .i64 i, .int .i64 0, vb, vo]
 own : o ≠ 29 → Blk wx (s + 1 + 1) 78 [.slice none 0 0]
 st : St wx B br vc C vp k P q1
 keep : o = 29 → lqAt wx B q
 to : LqTo (s + 3) (lqIn o (s + 1 + 1) q) q1
 chg : Chg (SS br vp q) w wx
 size : s + 3 ≤ wx.heap.size
 base : ∀ x ∈ SS br vp q1, (x < s ∧ (x = br ∨ vp.ownBlock = some x ∨ (o ≠ 29 ∧ x ∈ lqS q))) ∨ (x = s + 1 + 1 ∧ o = 29) ∨ s + 3 ≤ x
 fb : SubAt wx (fun x => s + 3 ≤ x ∧ x ∉ SS br vp q1) vb body
 fo : SubAt wx (fun x => s + 3 ≤ x ∧ x ∉ SS br vp q1) vo oth
theorem BS.start {w wx : World} {B br : Nat} {vc : Value} {C : List (Int × Int)} {vp : Value} {q : LQ} {o : Int} {i : Nat} {P : List Int} (h : St w B br vc C vp i P q) (hB : B ≤ w.heap.size) (X : Ext w wx)
  (h6 : Blk wx w.heap.size 178 [.int .i64 0, .int .i64 0, .int .i64 0, .slice none 0 0, .slice none 0 0]) (h7 : Blk wx (w.heap.size + 1) 178 [.int .i64 o, .int .i64 i, .int .i64 0, .slice none 0 0, .slice none 0 0])
  (h8 : Blk wx (w.heap.size + 1 + 1) 78 [.slice none 0 0]) : BS w wx B br vc C vp q (lqIn o (w.heap.size + 1 + 1) q) o w.heap.size i i P (.slice none 0 0) (.slice none 0 0) .nil .nil := by
 have hl : ∀ k ∈ SS br vp q, k < w.heap.size := fun k hk => SS_lt h hk
 refine ⟨h6, h7, fun _ => h8, (h.ext X).inner h8 (by omega) (fun hm => by have := hl _ hm; omega), fun _ => (h.ext X).leaves, LqTo.refl _ _, Chg.of_ext _ X, by have := h8.lt; omega, fun x hx => ?_, SubAt.nil _ _, SubAt.nil _ _⟩
 unfold lqIn at hx
 split at hx
 next h29 =>
  simp only [SS, show lqS (some (w.heap.size + 1 + 1, .slice none 0 0, [])) = [w.heap.size + 1 + 1] from rfl, List.mem_append, List.mem_cons, List.not_mem_nil, or_false, Option.mem_toList] at hx
  rcases hx with h1 | h1 | h1
  ·exact Or.inl ⟨hl x (by simp [SS, h1]), Or.inl h1⟩
  ·exact Or.inl ⟨hl x (by simp [SS, h1]), Or.inr (Or.inl h1)⟩
  ·exact Or.inr (Or.inl ⟨h1, h29⟩)
 next h29 =>
  have := hl x hx
  simp only [SS, List.mem_append, List.mem_cons, Option.mem_toList] at hx
  rcases hx with h1 | h1 | h1
  ·exact Or.inl ⟨this, Or.inl h1⟩
  ·exact Or.inl ⟨this, Or.inr (Or.inl h1)⟩
  ·exact Or.inl ⟨this, Or.inr (Or.inr ⟨h29, h1⟩)⟩
theorem BS.step {w wx wy : World} {B br : Nat} {vc : Value} {C : List (Int × Int)} {vp : Value} {q q1 q2 : LQ} {o : Int} {i i0 k k2 : Nat} {P P0 P2 : List Int} {vb vo : Value} {body oth : T} {S : List Nat}
  (h : BS w wx B br vc C vp q q1 o w.heap.size i k P vb vo body oth) (h0 : St w B br vc C vp i0 P0 q) (c : Chg S wx wy) (hS : ∀ x ∈ S, x ∈ SS br vp q1) (hs : St wy B br vc C vp k2 P2 q2) (hq : LqTo wx.heap.size q1 q2) :
  BS w wy B br vc C vp q q2 o w.heap.size i k2 P2 vb vo body oth := by
 have hb : ∀ x ∈ S, (x < w.heap.size ∧ (x = br ∨ vp.ownBlock = some x ∨ (o ≠ 29 ∧ x ∈ lqS q))) ∨ (x = w.heap.size + 1 + 1 ∧ o = 29) ∨ w.heap.size + 3 ≤ x := fun x hx => h.base x (hS x hx)
 have hsz := h.size
 have nd := h0.nodup
 simp only [SS, List.nodup_cons, List.mem_append, List.mem_cons, not_or, Option.mem_toList, List.nodup_append] at nd
 have hQ : ∀ x, x < wx.heap.size → (w.heap.size + 3 ≤ x ∧ x ∉ SS br vp q1) → (w.heap.size + 3 ≤ x ∧ x ∉ SS br vp q2) := fun x hx hq' => ⟨hq'.1, fun hm => by
  rcases mem_ss hq hm with h1 | h1
  ·exact hq'.2 h1
  ·omega⟩
 have hnq : ∀ x ∈ S, ¬ (w.heap.size + 3 ≤ x ∧ x ∉ SS br vp q1) := fun x hx hq' => hq'.2 (hS x hx)
 refine ⟨h.res.chg c (fun hm => ?_), h.blk.chg c (fun hm => ?_), fun h29 => (h.own h29).chg c (fun hm => ?_), hs, fun h29 => ?_, h.to.trans hq hsz, h.chg.trans c (fun x hx => ?_), Nat.le_trans hsz c.size, fun x hx => ?_, h.fb.chg c hnq hQ, h.fo.chg c hnq hQ⟩
 ·rcases hb _ hm with h1 | h1 | h1 <;> omega
 ·rcases hb _ hm with h1 | h1 | h1 <;> omega
 ·rcases hb _ hm with h1 | h1 | h1
  ·omega
  ·exact h29 h1.2
  ·omega
 ·have hk := h.keep h29
  match q, hk, nd, hb, h0 with
  | none, _, _, _, _ => trivial
  | some (bl, vs, l), hk, nd, hb, h0 =>
   have hl : ∀ k ∈ SS br vp (some (bl, vs, l)), k < w.heap.size := fun k hk => SS_lt h0 hk
   have hno : ∀ x ∈ lqS (some (bl, vs, l)), x ∉ S := fun x hx hm => by
    have := hl x (by simp only [SS, List.mem_cons, List.mem_append]; exact Or.inr (Or.inr hx))
    rcases hb x hm with h1 | h1 | h1
    ·rcases h1.2 with h2 | h2 | h2
     ·exact nd.1.2 (by rw [← h2]; exact hx)
     ·exact nd.2.2.2 x h2 x hx rfl
     ·exact h2.1 h29
    ·omega
    ·omega
   exact ⟨hk.1.chg c (hno bl (by simp [lqS])), own_chg hk.2 c (fun x hx e => hno x (by simp [lqS, e]) hx)⟩
 ·rcases hb x hx with h1 | h1 | h1
  ·rcases h1.2 with h2 | h2 | h2
   ·exact Or.inl (by simp [SS, h2])
   ·exact Or.inl (by simp [SS, h2])
   ·exact Or.inl (by simp [SS, h2.2])
  ·exact Or.inr (by omega)
  ·exact Or.inr (by omega)
 ·rcases mem_ss hq hx with h1 | h1
  ·exact h.base x h1
  ·exact Or.inr (Or.inr (by omega))
theorem BS.bump {w wx : World} {B br : Nat} {vc : Value} {C : List (Int × Int)} {vp : Value} {q q1 : LQ} {o : Int} {i i0 k : Nat} {P P0 : List Int} {vb vo : Value} {body oth : T}
  (h : BS w wx B br vc C vp q q1 o w.heap.size i k P vb vo body oth) (h0 : St w B br vc C vp i0 P0 q) (j : Nat) : BS w (wx.setCell ⟨br, 1, none⟩ (.int .i64 j)) B br vc C vp q q1 o w.heap.size i j P vb vo body oth :=
 h.step h0 (S := [br]) ((Chg.refl _ wx).setCell (Or.inl (by simp)) _) (by simp [SS]) (h.st.bump j) (LqTo.refl _ _)
theorem BS.drew {w wx : World} {B br : Nat} {vc : Value} {C : List (Int × Int)} {vp : Value} {q q1 : LQ} {o : Int} {i i0 k : Nat} {P P0 : List Int} {vb vo : Value} {body oth : T}
  (h : BS w wx B br vc C vp q q1 o w.heap.size i k P vb vo body oth) (h0 : St w B br vc C vp i0 P0 q) : BS w wx.drew B br vc C vp q q1 o w.heap.size i k P vb vo body oth :=
 h.step h0 (S := []) (Chg.refl _ wx).drew (by simp) (h.st.ext (Ext.refl wx).drew) (LqTo.refl _ _)
theorem OwnI.set {w : World} {B g n c : Nat} {l : List Int} (h : OwnI w B (.slice (some ⟨g, 0, none⟩) n c) l) (k : Nat) (x : Int) : OwnI (w.setCell ⟨g, k, none⟩ (.int .i64 x)) B (.slice (some ⟨g, 0, none⟩) n c) (l.set k x) := by
 have hn : l.length = n := by obtain ⟨a, c', e, -⟩ := own_shape h; simp only [Value.slice.injEq] at e; exact e.2.1.symm
 unfold OwnI at h ⊢
 rw [List.length_set, List.map_set]
 rw [hn] at h ⊢
 exact (World.ownsRow.stored h k _).1
theorem St.setP {w : World} {B br : Nat} {vc : Value} {C : List (Int × Int)} {gp n cp : Nat} {q : LQ} {i : Nat} {P : List Int} (h : St w B br vc C (.slice (some ⟨gp, 0, none⟩) n cp) i P q) (k : Nat) (x : Int) :
  St (w.setCell ⟨gp, k, none⟩ (.int .i64 x)) B br vc C (.slice (some ⟨gp, 0, none⟩) n cp) i (P.set k x) q := by
 have c : Chg [gp] w (w.setCell ⟨gp, k, none⟩ (.int .i64 x)) := (Chg.refl _ w).setCell (Or.inl (by simp)) _
 have nd := h.nodup
 simp only [SS, List.nodup_cons, List.mem_append, not_or, Option.mem_toList, List.nodup_append] at nd
 refine ⟨h.rd.chg c (by simp; exact fun e => nd.1.1 (by simp [Value.ownBlock, e])), h.code.chg c (fun x hx hn e => by have := h.off hn x e; have := h.above gp (by simp [SS, Value.ownBlock]); simp at hx; omega), h.off, h.parts.set k x, by rw [List.length_set]; exact h.plen, ?_, h.nodup, h.above⟩
 match q, h.leaves, nd with
 | none, _, _ => trivial
 | some (bl, vs, l), hl, nd =>
  have hno : ∀ x ∈ lqS (some (bl, vs, l)), x ≠ gp := fun x hx e => nd.2.2.2 gp (by simp [Value.ownBlock]) x hx e.symm
  exact ⟨hl.1.chg c (by simp; exact hno bl (by simp [lqS])), own_chg hl.2 c (fun x hx e => by simp at hx; subst hx; exact hno x (by simp [lqS, e]) rfl)⟩
theorem BS.setP {w wx : World} {B br : Nat} {vc : Value} {C : List (Int × Int)} {gp n cp : Nat} {q q1 : LQ} {o : Int} {i i0 k : Nat} {P P0 : List Int} {vb vo : Value} {body oth : T}
  (h : BS w wx B br vc C (.slice (some ⟨gp, 0, none⟩) n cp) q q1 o w.heap.size i k P vb vo body oth) (h0 : St w B br vc C (.slice (some ⟨gp, 0, none⟩) n cp) i0 P0 q) (j : Nat) (x : Int) : BS w (wx.setCell ⟨gp, j, none⟩ (.int .i64 x)) B br vc C (.slice (some ⟨gp, 0, none⟩) n cp) q q1 o w.heap.size i k (P.set j x) vb vo body oth :=
 h.step h0 (S := [gp]) ((Chg.refl _ wx).setCell (Or.inl (by simp)) _) (by simp [SS, Value.ownBlock]) (h.st.setP j x) (LqTo.refl _ _)
theorem BS.setB {w wx : World} {B br : Nat} {vc : Value} {C : List (Int × Int)} {vp : Value} {q q1 : LQ} {o : Int} {i i0 k : Nat} {P P0 : List Int} {vb vo v : Value} {body oth t : T}
  (h : BS w wx B br vc C vp q q1 o w.heap.size i k P vb vo body oth) (h0 : St w B br vc C vp i0 P0 q) (hB : B ≤ w.heap.size) (hv : SubAt wx (fun x => w.heap.size + 3 ≤ x ∧ x ∉ SS br vp q1) v t) :
  BS w (wx.setCell ⟨w.heap.size + 1, 3, none⟩ v) B br vc C vp q q1 o w.heap.size i k P v vo t oth := by
 have c : Chg [w.heap.size + 1] wx (wx.setCell ⟨w.heap.size + 1, 3, none⟩ v) := (Chg.refl _ wx).setCell (Or.inl (by simp)) _
 have hns : w.heap.size + 1 ∉ SS br vp q1 := fun hm => by rcases h.base _ hm with h1 | h1 | h1 <;> omega
 have hQ : ∀ x ∈ [w.heap.size + 1], ¬ (w.heap.size + 3 ≤ x ∧ x ∉ SS br vp q1) := fun x hx hq => by simp at hx; omega
 have hl : ∀ k ∈ SS br vp q, k < w.heap.size := fun k hk => SS_lt h0 hk
 refine ⟨h.res.chg c (by simp), h.blk.set 3 v, fun h29 => (h.own h29).chg c (by simp), h.st.move c (by simpa using hns) (by simp; omega), fun h29 => ?_, h.to, h.chg.trans c (by simp), Nat.le_trans h.size c.size, h.base, hv.chg c hQ (fun _ _ h => h), h.fo.chg c hQ (fun _ _ h => h)⟩
 have hk := h.keep h29
 match q, hk, hl with
 | none, _, _ => trivial
 | some (bl, vs, l), hk, hl =>
  have hno : ∀ x ∈ lqS (some (bl, vs, l)), x ≠ w.heap.size + 1 := fun x hx e => by
   have := hl x (by simp only [SS, List.mem_cons, List.mem_append]; exact Or.inr (Or.inr hx))
   omega
  exact ⟨hk.1.chg c (by simp; exact hno bl (by simp [lqS])), own_chg hk.2 c (fun x hx e => by simp at hx; subst hx; exact hno _ (by simp [lqS, e]) rfl)⟩
theorem BS.setO {w wx : World} {B br : Nat} {vc : Value} {C : List (Int × Int)} {vp : Value} {q q1 : LQ} {o : Int} {i i0 k : Nat} {P P0 : List Int} {vb vo v : Value} {body oth t : T}
  (h : BS w wx B br vc C vp q q1 o w.heap.size i k P vb vo body oth) (h0 : St w B br vc C vp i0 P0 q) (hB : B ≤ w.heap.size) (hv : SubAt wx (fun x => w.heap.size + 3 ≤ x ∧ x ∉ SS br vp q1) v t) :
  BS w (wx.setCell ⟨w.heap.size + 1, 4, none⟩ v) B br vc C vp q q1 o w.heap.size i k P vb v body t := by
 have c : Chg [w.heap.size + 1] wx (wx.setCell ⟨w.heap.size + 1, 4, none⟩ v) := (Chg.refl _ wx).setCell (Or.inl (by simp)) _
 have hns : w.heap.size + 1 ∉ SS br vp q1 := fun hm => by rcases h.base _ hm with h1 | h1 | h1 <;> omega
 have hQ : ∀ x ∈ [w.heap.size + 1], ¬ (w.heap.size + 3 ≤ x ∧ x ∉ SS br vp q1) := fun x hx hq => by simp at hx; omega
 have hl : ∀ k ∈ SS br vp q, k < w.heap.size := fun k hk => SS_lt h0 hk
 refine ⟨h.res.chg c (by simp), h.blk.set 4 v, fun h29 => (h.own h29).chg c (by simp), h.st.move c (by simpa using hns) (by simp; omega), fun h29 => ?_, h.to, h.chg.trans c (by simp), Nat.le_trans h.size c.size, h.base, h.fb.chg c hQ (fun _ _ h => h), hv.chg c hQ (fun _ _ h => h)⟩
 have hk := h.keep h29
 match q, hk, hl with
 | none, _, _ => trivial
 | some (bl, vs, l), hk, hl =>
  have hno : ∀ x ∈ lqS (some (bl, vs, l)), x ≠ w.heap.size + 1 := fun x hx e => by
   have := hl x (by simp only [SS, List.mem_cons, List.mem_append]; exact Or.inr (Or.inr hx))
   omega
  exact ⟨hk.1.chg c (by simp; exact hno bl (by simp [lqS])), own_chg hk.2 c (fun x hx e => by simp at hx; subst hx; exact hno _ (by simp [lqS, e]) rfl)⟩
theorem SubAt.of_list {w wx : World} {br : Nat} {vp : Value} {q : LQ} {s : Nat} {v : Value} {t : T} {cs : List Value} (hs : s + 3 ≤ wx.heap.size) (h1 : w.ownsRow wx.heap.size 178 5 v t.len cs) (h2 : ∀ k ∈ SS br vp q, v.ownBlock ≠ some k)
  (h3 : Fr w (fun k => wx.heap.size ≤ k ∧ k ∉ SS br vp q ∧ v.ownBlock ≠ some k) t cs) : SubAt w (fun x => s + 3 ≤ x ∧ x ∉ SS br vp q) v t :=
 ⟨cs, Rd.of_own h1, fun k hn e => ⟨Nat.le_trans hs (own_lt h1 e).1, fun hm => h2 k hm e⟩, h3.ext (Ext.refl w) (fun k hk hq => ⟨Nat.le_trans hs hq.1, hq.2.1⟩)⟩
def lqOut (o : Int) (q q1 : LQ) : LQ := if o = 29 then q else q1
theorem LqTo.mono {s s' : Nat} {q q' : LQ} (h : LqTo s' q q') (hs : s ≤ s') : LqTo s q q' := by
 match q, h with
 | none, h => exact h
 | some (bl, vs, l), h =>
  obtain ⟨vs', l', rfl, h2⟩ := h
  exact ⟨vs', l', rfl, fun k hk => by rcases h2 k hk with h | h; exact Or.inl h; exact Or.inr (by omega)⟩
theorem BS.out {w wx : World} {B br : Nat} {vc : Value} {C : List (Int × Int)} {vp : Value} {q q1 : LQ} {o : Int} {i i0 k : Nat} {P P0 : List Int} {vb vo : Value} {body oth : T}
  (h : BS w wx B br vc C vp q q1 o w.heap.size i k P vb vo body oth) (h0 : St w B br vc C vp i0 P0 q) : St wx B br vc C vp k P (lqOut o q q1) ∧ LqTo w.heap.size q (lqOut o q q1) ∧
   ∀ (a b c : Int), Fr wx (fun x => w.heap.size ≤ x ∧ x ∉ SS br vp (lqOut o q q1)) (.cons a b c body oth .nil) [.int .i64 a, .int .i64 b, .int .i64 c, vb, vo] := by
 have hl : ∀ k ∈ SS br vp q, k < w.heap.size := fun k hk => SS_lt h0 hk
 have hto := h.to
 unfold lqOut
 unfold lqIn at hto
 have fr : ∀ Q' : Nat → Prop, (∀ x, x < wx.heap.size → (w.heap.size + 3 ≤ x ∧ x ∉ SS br vp q1) → Q' x) → ∀ (a b c : Int), Fr wx Q' (.cons a b c body oth .nil) [.int .i64 a, .int .i64 b, .int .i64 c, vb, vo] := fun Q' hQ a b c => by
  obtain ⟨cb, h1, h2, h3⟩ := h.fb
  obtain ⟨co, h4, h5, h6⟩ := h.fo
  exact ⟨vb, vo, [], rfl, ⟨cb, h1, fun k hn e => hQ k (h1.blk_lt hn e) (h2 k hn e), h3.ext (Ext.refl wx) hQ⟩, ⟨co, h4, fun k hn e => hQ k (h4.blk_lt hn e) (h5 k hn e), h6.ext (Ext.refl wx) hQ⟩, rfl⟩
 split
 next h29 =>
  refine ⟨⟨h.st.rd, h.st.code, h.st.off, h.st.parts, h.st.plen, h.keep h29, h0.nodup, h0.above⟩, LqTo.refl _ _, fr _ (fun x hx hq => ⟨by omega, fun hm => by have := hl x hm; omega⟩)⟩
 next h29 =>
  rw [if_neg h29] at hto
  exact ⟨h.st, hto.mono (by omega), fr _ (fun x hx hq => ⟨by omega, hq.2⟩)⟩
theorem BS.err {w wx wy : World} {B br : Nat} {vc : Value} {C : List (Int × Int)} {vp : Value} {q q1 : LQ} {o : Int} {i k : Nat} {P : List Int} {vb vo : Value} {body oth : T}
  (h : BS w wx B br vc C vp q q1 o w.heap.size i k P vb vo body oth) (c : Chg (SS br vp q1) wx wy) : Chg (SS br vp q) w wy := h.chg.trans c (fun x hx => by
 rcases h.base x hx with h1 | h1 | h1
 ·rcases h1.2 with h2 | h2 | h2
  ·exact Or.inl (by simp [SS, h2])
  ·exact Or.inl (by simp [SS, h2])
  ·exact Or.inl (by simp [SS, h2.2])
 ·exact Or.inr (by omega)
 ·exact Or.inr (by omega))
theorem lst_lv (C : List (Int × Int)) (f : Nat) : ∀ (i d : Nat) (L : Bool) (out : T) (P lv : List Int) (r : T × Nat × List Int × List Int), i ≤ C.length → (∀ x ∈ lv, 0 ≤ x ∧ x < C.length) → lstF C f i d L out P lv = .ok r → ∀ x ∈ r.2.2.2, 0 ≤ x ∧ x < C.length := by
 induction f with
 | zero => intro i d L out P lv r hi hlv h; simp [lstF] at h
 | succ f ih =>
  intro i d L out P lv r hi hlv h
  unfold lstF at h
  split at h
  ·cases h; exact hlv
  next hlt =>
  split at h
  ·cases h; exact hlv
  split at h
  ·split at h
   ·cases h
   next b j P' lv' hb =>
   have hj : j ≤ C.length ∧ ∀ x ∈ lv', 0 ≤ x ∧ x < C.length := by
    unfold blkF at hb
    split at hb
    ·cases hb
    split at hb
    ·cases hb
    next body j1 P1 lv1 h1 =>
    have g1 := lst_ge C f _ _ _ _ _ _ _ (by omega) h1
    have a1 := ih _ _ _ _ _ _ _ (by omega) (by split; simp; exact hlv) h1
    simp only at a1 g1
    have fin : ∀ (last k : Nat) (oth : T) (P l : List Int), (∀ x ∈ l, 0 ≤ x ∧ x < C.length) → finF C (opAtFl C i) i last k body oth P l lv = .ok (b, j, P', lv') → j ≤ C.length ∧ ∀ x ∈ lv', 0 ≤ x ∧ x < C.length := by
     intro last k oth P l hl h2
     unfold finF at h2
     split at h2
     next hc =>
      simp only [Except.ok.injEq, Prod.mk.injEq] at h2
      obtain ⟨-, rfl, -, rfl⟩ := h2
      exact ⟨hc.1, by split; exact hlv; exact hl⟩
     ·cases h2
    split at hb
    next hc =>
     split at hb
     ·cases hb
     next oth k P2 lv2 h2 =>
     have a2 := ih _ _ _ _ _ _ _ (by omega) a1 h2
     exact fin _ _ _ _ _ a2 hb
    ·exact fin _ _ _ _ _ a1 hb
   exact ih _ _ _ _ _ _ _ hj.1 hj.2 h
  split at h
  ·cases h
  ·refine ih _ _ _ _ _ _ _ (by omega) ?_ h
   split
   ·intro x hx
    simp only [List.mem_append, List.mem_singleton] at hx
    rcases hx with hx | hx
    ·exact hlv x hx
    ·omega
   ·exact hlv
end Go.Proofs.YtgjjklajipekdaaGreat
