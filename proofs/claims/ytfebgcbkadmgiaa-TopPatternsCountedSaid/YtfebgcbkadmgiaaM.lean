/- Memory: which old blocks a call may have written; slices that are read; blocks that are known whole. -/
import Derived.Test.YtfebgcbkadmgiaaE
import Derived.Deep.AppendLies
import Derived.Deep.RegionHeld3
import Derived.Deep.RegionWith
import Derived.Deep.QuietTactic
import Derived.BigQuiet
import Derived.Deep.DrawnRows
import Derived.Laws.AppendOwnNone
import Derived.Laws.CopyOwn
namespace Go.Proofs.Ytfebgcbkadmgiaa
open Go.RowKit

/-- Of the old blocks at most those of the list have been written. -/
structure Chg (S : List Nat) (w w' : World) : Prop where
  os : w'.os = w.os
  tape : w'.tape = w.tape
  output : w'.output = w.output
  size : w.heap.size ≤ w'.heap.size
  block : ∀ k, k < w.heap.size → k ∉ S → w'.heap[k]? = w.heap[k]?
theorem Chg.refl (S : List Nat) (w : World) : Chg S w w := ⟨rfl, rfl, rfl, Nat.le_refl _, fun _ _ _ => rfl⟩
theorem Chg.of_ext {w w' : World} (S : List Nat) (h : Ext w w') : Chg S w w' := by
  have h' : Below w.heap.size w w' := h
  exact ⟨h'.os, h'.tape, h'.output, h'.size, fun k hk _ => h'.block k hk⟩
theorem Chg.ext {w w' : World} (h : Chg [] w w') : Ext w w' := by
  show Below w.heap.size w w'
  exact ⟨h.os, h.tape, h.output, h.size, fun k hk => h.block k hk (by simp)⟩
/-- Two steps: the second one may write blocks of the list, and new ones. -/
theorem Chg.trans {S T : List Nat} {a b c : World} (h : Chg S a b) (k : Chg T b c) (hT : ∀ x ∈ T, x ∈ S ∨ a.heap.size ≤ x) : Chg S a c :=
  ⟨k.os.trans h.os, k.tape.trans h.tape, k.output.trans h.output, Nat.le_trans h.size k.size, fun i hi hs =>
    (k.block i (Nat.lt_of_lt_of_le hi h.size) (fun hm => by rcases hT i hm with h1 | h1; exact hs h1; omega)).trans (h.block i hi hs)⟩
theorem Chg.mono {S T : List Nat} {a b : World} (h : Chg S a b) (hT : ∀ x ∈ S, x ∈ T) : Chg T a b :=
  ⟨h.os, h.tape, h.output, h.size, fun i hi hs => h.block i hi (fun hm => hs (hT i hm))⟩
theorem Chg.drew {S : List Nat} {a b : World} (h : Chg S a b) : Chg S a b.drew := ⟨h.os, h.tape, h.output, h.size, h.block⟩
theorem Chg.drewN {S : List Nat} {a b : World} (n : Nat) (h : Chg S a b) : Chg S a (b.drewN n) := ⟨h.os, h.tape, h.output, h.size, h.block⟩
theorem Chg.alloc {S : List Nat} {a b : World} (h : Chg S a b) (o : Obj) : Chg S a (b.alloc o) :=
  h.trans (Chg.of_ext [] ((Ext.refl b).alloc o)) (by simp)
theorem Chg.setCell {S : List Nat} {a b : World} (h : Chg S a b) {p : Addr} (hp : p.block ∈ S ∨ a.heap.size ≤ p.block) (v : Value) : Chg S a (b.setCell p v) :=
  h.trans (T := [p.block]) ⟨rfl, rfl, rfl, by simp [World.setCell], fun k _ hs => Below.heap_setCell _ _ _ _ (by simpa using hs)⟩ (by simpa using hp)
theorem Chg.grown {S : List Nat} {a b c : World} {row : Option Nat} (h : Chg S a b) (hg : b.grownBy c row) (hr : ∀ k, row = some k → k ∈ S ∨ a.heap.size ≤ k) : Chg S a c :=
  h.trans (T := row.toList) ⟨hg.os, hg.tape, hg.output, hg.size, fun k hk hs => hg.block k hk (fun e => hs (by rw [← e]; simp))⟩ (fun x hx => hr x (by simpa using hx))
theorem Chg.heap {S : List Nat} {w w' : World} (h : Chg S w w') {b : Nat} {o : Obj} (hb : b ∉ S) (hc : w.heap[b]? = some o) : w'.heap[b]? = some o := by
  rw [h.block b ((Array.getElem?_eq_some_iff.1 hc).1) hb]; exact hc
theorem Chg.cell {S : List Nat} {w w' : World} (h : Chg S w w') {b o : Nat} {v : Value} (hb : b ∉ S) (hc : w.cell? ⟨b, o, none⟩ = some v) : w'.cell? ⟨b, o, none⟩ = some v := by
  rw [World.cell?_of_block (w := w) (w' := w') (a := ⟨b, o, none⟩) (h.block b (cell_lt hc) hb)]; exact hc
theorem Chg.frozen {S : List Nat} {w w' : World} (h : Chg S w w') {b o : Nat} {v : Value} {t : Bool} (hb : b ∉ S) (hc : w.cell? ⟨b, o, none⟩ = some v) (hf : w.frozen? ⟨b, o, none⟩ = t) : w'.frozen? ⟨b, o, none⟩ = t := by
  rw [World.frozen?_of_block (w := w) (w' := w') (a := ⟨b, o, none⟩) (h.block b (cell_lt hc) hb)]; exact hf

/-! A block that is known whole. -/
def Blk (w : World) (b : Nat) (t : TypeId) (cs : List Value) : Prop := w.heap[b]? = some (.cells cs.toArray t (0, 0))
theorem Blk.lt {w : World} {b : Nat} {t : TypeId} {cs : List Value} (h : Blk w b t cs) : b < w.heap.size := (Array.getElem?_eq_some_iff.1 h).1
theorem Blk.cell {w : World} {b : Nat} {t : TypeId} {cs : List Value} (h : Blk w b t cs) (i : Nat) (v : Value) (hv : cs[i]? = some v) : w.cell? ⟨b, i, none⟩ = some v := by
  unfold Blk at h
  simp [World.cell?, h, hv]
theorem Blk.frozen {w : World} {b : Nat} {t : TypeId} {cs : List Value} (h : Blk w b t cs) (i : Nat) : w.frozen? ⟨b, i, none⟩ = false := by
  unfold Blk at h
  simp [World.frozen?, h]
theorem Blk.set {w : World} {b : Nat} {t : TypeId} {cs : List Value} (h : Blk w b t cs) (i : Nat) (v : Value) : Blk (w.setCell ⟨b, i, none⟩ v) b t (cs.set i v) := by
  unfold Blk at h ⊢
  obtain ⟨hl, he⟩ := Array.getElem?_eq_some_iff.1 h
  simp [World.setCell, Array.getElem?_modify, h]
theorem Blk.set_other {w : World} {b c i : Nat} {t : TypeId} {cs : List Value} (h : Blk w b t cs) (hne : b ≠ c) (v : Value) : Blk (w.setCell ⟨c, i, none⟩ v) b t cs := by
  unfold Blk at h ⊢
  rw [Below.heap_setCell _ _ _ _ hne]; exact h
theorem Blk.drew {w : World} {b : Nat} {t : TypeId} {cs : List Value} (h : Blk w b t cs) : Blk w.drew b t cs := h
theorem Blk.drewN {w : World} {b : Nat} {t : TypeId} {cs : List Value} (n : Nat) (h : Blk w b t cs) : Blk (w.drewN n) b t cs := h
theorem Blk.chg {S : List Nat} {w w' : World} {b : Nat} {t : TypeId} {cs : List Value} (h : Blk w b t cs) (k : Chg S w w') (hb : b ∉ S) : Blk w' b t cs := k.heap hb h
theorem Blk.ext {w w' : World} {b : Nat} {t : TypeId} {cs : List Value} (h : Blk w b t cs) (k : Ext w w') : Blk w' b t cs := h.chg (Chg.of_ext [] k) (by simp)
theorem Blk.alloc {w : World} {b : Nat} {t : TypeId} {cs : List Value} (h : Blk w b t cs) (o : Obj) : Blk (w.alloc o) b t cs := h.ext ((Ext.refl w).alloc o)
theorem Blk.new (w : World) (cs : List Value) (t : TypeId) : Blk (w.alloc (.cells cs.toArray t)) w.heap.size t cs := heap_alloc_new w _
theorem Blk.grown {w w' : World} {b : Nat} {t : TypeId} {cs : List Value} {row : Option Nat} (h : Blk w b t cs) (k : w.grownBy w' row) (hb : row ≠ some b) : Blk w' b t cs := by
  unfold Blk at h ⊢
  rw [k.block b (Array.getElem?_eq_some_iff.1 h).1 (fun e => hb e.symm)]; exact h

theorem own_chg {S : List Nat} {w w' : World} {base : Nat} {e : TypeId} {sz n : Nat} {v : Value} {cs : List Value} (h : w.ownsRow base e sz v n cs) (k : Chg S w w') (hs : ∀ x ∈ S, v.ownBlock ≠ some x) : w'.ownsRow base e sz v n cs := by
  refine ⟨h.1, ?_⟩
  rcases h.2 with h2 | ⟨g, cap, cur, rfl, hb, hg, r⟩
  · exact Or.inl h2
  · exact Or.inr ⟨g, cap, cur, rfl, hb, k.heap (fun hm => hs g hm rfl) hg, r⟩
theorem own_ext {w w' : World} {base : Nat} {e : TypeId} {sz n : Nat} {v : Value} {cs : List Value} (h : w.ownsRow base e sz v n cs) (k : Ext w w') : w'.ownsRow base e sz v n cs := own_chg h (Chg.of_ext [] k) (by simp)
theorem own_lt {w : World} {base : Nat} {e : TypeId} {sz n : Nat} {v : Value} {cs : List Value} (h : w.ownsRow base e sz v n cs) {x : Nat} (hx : v.ownBlock = some x) : base ≤ x ∧ x < w.heap.size := World.ownsRow.lt h x hx

/-- The last element goes. -/
theorem own_pop {w : World} {base : Nat} {e : TypeId} {g n cap : Nat} {xs : List Value} {x : Value} (h : w.ownsRow base e 1 (.slice (some ⟨g, 0, none⟩) (n + 1) cap) (n + 1) (xs ++ [x])) : w.ownsRow base e 1 (.slice (some ⟨g, 0, none⟩) n cap) n xs := by
  have hl := h.1
  simp only [List.length_append, List.length_singleton, Nat.mul_one] at hl
  refine ⟨by omega, ?_⟩
  rcases h.2 with ⟨h1, _⟩ | ⟨g', cap', cur, hv, hb, hg, h1, h2, h3, h4⟩
  · simp at h1
  · simp only [Value.slice.injEq, Option.some.injEq, Addr.mk.injEq, and_true, true_and] at hv
    obtain ⟨rfl, rfl⟩ := hv
    refine Or.inr ⟨g, cap, cur, rfl, hb, hg, by omega, h2, h3, ?_⟩
    have := congrArg (List.take n) h4
    rw [List.take_take] at this
    simp only [Nat.mul_one] at this ⊢
    rw [Nat.min_eq_left (by omega), List.take_left' (by omega)] at this
    exact this

/-! A slice that is read: n elements of sz cells each, together the cells cs. -/
def Rd (w : World) (sz : Nat) (v : Value) (n : Nat) (cs : List Value) : Prop :=
  cs.length = n * sz ∧ ∃ a cap, v = .slice a n cap ∧ n ≤ cap ∧ cap ≤ maxLen ∧ (a = none → cap = 0) ∧
    (0 < n → ∃ b off, a = some ⟨b, off, none⟩ ∧ b < w.heap.size ∧ ∀ j, j < cs.length → w.cell? ⟨b, off + j, none⟩ = some (cs.getD j undef))
theorem Rd.nil (w : World) (sz : Nat) : Rd w sz (.slice none 0 0) 0 [] := ⟨by simp, none, 0, rfl, Nat.le_refl _, Nat.zero_le _, fun _ => rfl, fun h => absurd h (Nat.lt_irrefl _)⟩
theorem Rd.chg {S : List Nat} {w w' : World} {sz n : Nat} {v : Value} {cs : List Value} (h : Rd w sz v n cs) (k : Chg S w w') (hs : ∀ x ∈ S, 0 < n → v.ownBlock ≠ some x) : Rd w' sz v n cs := by
  obtain ⟨h1, a, cap, h2, h3, h4, h5, h6⟩ := h
  refine ⟨h1, a, cap, h2, h3, h4, h5, fun hn => ?_⟩
  obtain ⟨b, off, e, hb, hc⟩ := h6 hn
  refine ⟨b, off, e, Nat.lt_of_lt_of_le hb k.size, fun j hj => k.cell (fun hm => ?_) (hc j hj)⟩
  have := hs b hm hn
  rw [h2, e] at this
  exact this rfl
theorem Rd.ext {w w' : World} {sz n : Nat} {v : Value} {cs : List Value} (h : Rd w sz v n cs) (k : Ext w w') : Rd w' sz v n cs := h.chg (Chg.of_ext [] k) (by simp)
/-- The block of a slice that holds something is there. -/
theorem Rd.off {w : World} {sz n : Nat} {v : Value} {cs : List Value} (h : Rd w sz v n cs) {p : Nat} (hp : w.heap.size ≤ p) : 0 < n → v.ownBlock ≠ some p := by
  intro hn hx
  obtain ⟨h1, a, cap, rfl, h3, h4, h5, h6⟩ := h
  obtain ⟨b, off, rfl, hb, -⟩ := h6 hn
  simp [Value.ownBlock] at hx
  omega
theorem Rd.drew {w : World} {sz n : Nat} {v : Value} {cs : List Value} (h : Rd w sz v n cs) : Rd w.drew sz v n cs := h.ext (Ext.refl w).drew
theorem Rd.alloc {w : World} {sz n : Nat} {v : Value} {cs : List Value} (h : Rd w sz v n cs) (o : Obj) : Rd (w.alloc o) sz v n cs := h.ext ((Ext.refl w).alloc o)
theorem Rd.of_own {w : World} {base : Nat} {e : TypeId} {sz n : Nat} {v : Value} {cs : List Value} (h : w.ownsRow base e sz v n cs) : Rd w sz v n cs := by
  refine ⟨h.1, ?_⟩
  rcases h.2 with ⟨rfl, rfl⟩ | ⟨g, cap, cur, rfl, hb, hh, h1, h2, h3, h4⟩
  · exact ⟨none, 0, rfl, Nat.le_refl _, Nat.zero_le _, fun _ => rfl, fun h => absurd h (Nat.lt_irrefl _)⟩
  · refine ⟨some ⟨g, 0, none⟩, cap, rfl, h1, h2, (fun e => by cases e), fun _ => ⟨g, 0, rfl, (Array.getElem?_eq_some_iff.1 hh).1, fun j hj => ?_⟩⟩
    have hu : cs[j]? = some (cs.getD j undef) := by simp [List.getD, hj]
    have := h.cells (g := g) rfl j _ hu
    rw [← this]
    unfold Addr.add
    split
    · next hz => subst hz; rfl
    · simp
/-- What a slice that is read looks like. -/
theorem Rd.shape {w : World} {sz n : Nat} {v : Value} {cs : List Value} (h : Rd w sz v n cs) : ∃ a cap, v = .slice a n cap ∧ n ≤ cap ∧ cap ≤ 9223372036854775807 ∧ (a = none → cap = 0) := by
  obtain ⟨h1, a, cap, h2, h3, h4, h5, h6⟩ := h
  exact ⟨a, cap, h2, h3, h4, h5⟩
/-- The cells of a slice that holds something. -/
theorem Rd.cells {w : World} {sz n cap : Nat} {a : Option Addr} {cs : List Value} (h : Rd w sz (.slice a n cap) n cs) (hn : 0 < n) :
    ∃ b off, a = some ⟨b, off, none⟩ ∧ b < w.heap.size ∧ ∀ j, j < cs.length → w.cell? ⟨b, off + j, none⟩ = some (cs.getD j undef) := by
  obtain ⟨h1, a', cap', h2, h3, h4, h5, h6⟩ := h
  simp only [Value.slice.injEq] at h2
  obtain ⟨rfl, -, rfl⟩ := h2
  exact h6 hn
theorem Rd.news {w : World} {sz n cap : Nat} {ad : Addr} {cs : List Value} (h : Rd w sz (.slice (some ad) n cap) n cs) : ∀ j u, cs[j]? = some u → w.cell? (ad.add j) = some u := by
  intro j u hu
  have hj := (List.getElem?_eq_some_iff.1 hu).1
  have hl := h.1
  have hn : 0 < n := by
    rcases Nat.eq_zero_or_pos n with h0 | h0
    · rw [h0] at hl; omega
    · exact h0
  obtain ⟨b, off, e, -, hc⟩ := h.cells hn
  simp only [Option.some.injEq] at e
  subst e
  have := hc j hj
  rw [show (cs.getD j undef) = u by simp [List.getD, hu]] at this
  rw [← this]
  unfold Addr.add
  split
  · next hz => subst hz; rfl
  · rfl
theorem Rd.len {w : World} {sz n : Nat} {v : Value} {cs : List Value} (h : Rd w sz v n cs) : cs.length = n * sz := h.1
end Go.Proofs.Ytfebgcbkadmgiaa
