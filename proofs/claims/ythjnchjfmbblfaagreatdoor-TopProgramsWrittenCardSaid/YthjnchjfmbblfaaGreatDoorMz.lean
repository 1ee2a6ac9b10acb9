/- Memory: which old blocks a call may have written; slices that are read; blocks that are known whole. -/
import Derived.Test.YthjnchjfmbblfaaGreatDoorIp
import Derived.Deep.AppendLies
import Derived.Deep.RegionHeld3
import Derived.Deep.RegionWith
import Derived.Deep.QuietTactic
import Derived.BigQuiet
import Derived.Deep.DrawnRows
import Derived.Laws.AppendOwnNone
import Derived.Laws.CopyOwn
import Derived.Maps.AppendAt
import Derived.Deep.RegionLaw
import Derived.Laws.Append
namespace Go.Proofs.YthjnchjfmbblfaaGreatDoor
open Go.RowKit

/-- Of the old blocks at most those of the list have been written. -/
structure Chg (S : List Nat) (w w' : World) : Prop where
  os : w'.os = w.os
  tape : w'.tape = w.tape
  output : w'.output = w.output
  size : w.heap.size ≤ w'.heap.size
  block : ∀ k, k < w.heap.size → k ∉ S → w'.heap[k]? = w.heap[k]?
theorem Chg.refl (S : List Nat) (w : World) : Chg S w w := ⟨rfl, rfl, rfl, Nat.le_refl _, fun _ _ _ => rfl⟩
theorem Chg.of_ext {w w' : World} (S : List Nat) (h : Ext w w') : Chg S w w' := by
  have h' : Below w.heap.size w w' := h
  exact ⟨h'.os, h'.tape, h'.output, h'.size, fun k hk _ => h'.block k hk⟩
theorem Chg.ext {w w' : World} (h : Chg [] w w') : Ext w w' := by
  show Below w.heap.size w w'
  exact ⟨h.os, h.tape, h.output, h.size, fun k hk => h.block k hk (by simp)⟩
/-- Two steps: the second one may write blocks of the list, and new ones. -/
theorem Chg.trans {S T : List Nat} {a b c : World} (h : Chg S a b) (k : Chg T b c) (hT : ∀ x ∈ T, x ∈ S ∨ a.heap.size ≤ x) : Chg S a c :=
  ⟨k.os.trans h.os, k.tape.trans h.tape, k.output.trans h.output, Nat.le_trans h.size k.size, fun i hi hs =>
    (k.block i (Nat.lt_of_lt_of_le hi h.size) (fun hm => by rcases hT i hm with h1 | h1; exact hs h1; omega)).trans (h.block i hi hs)⟩
theorem Chg.mono {S T : List Nat} {a b : World} (h : Chg S a b) (hT : ∀ x ∈ S, x ∈ T) : Chg T a b :=
  ⟨h.os, h.tape, h.output, h.size, fun i hi hs => h.block i hi (fun hm => hs (hT i hm))⟩
theorem Chg.drew {S : List Nat} {a b : World} (h : Chg S a b) : Chg S a b.drew := ⟨h.os, h.tape, h.output, h.size, h.block⟩
theorem Chg.drewN {S : List Nat} {a b : World} (n : Nat) (h : Chg S a b) : Chg S a (b.drewN n) := ⟨h.os, h.tape, h.output, h.size, h.block⟩
theorem Chg.alloc {S : List Nat} {a b : World} (h : Chg S a b) (o : Obj) : Chg S a (b.alloc o) :=
  h.trans (Chg.of_ext [] ((Ext.refl b).alloc o)) (by simp)
theorem Chg.setCell {S : List Nat} {a b : World} (h : Chg S a b) {p : Addr} (hp : p.block ∈ S ∨ a.heap.size ≤ p.block) (v : Value) : Chg S a (b.setCell p v) :=
  h.trans (T := [p.block]) ⟨rfl, rfl, rfl, by simp [World.setCell], fun k _ hs => Below.heap_setCell _ _ _ _ (by simpa using hs)⟩ (by simpa using hp)
theorem Chg.grown {S : List Nat} {a b c : World} {row : Option Nat} (h : Chg S a b) (hg : b.grownBy c row) (hr : ∀ k, row = some k → k ∈ S ∨ a.heap.size ≤ k) : Chg S a c :=
  h.trans (T := row.toList) ⟨hg.os, hg.tape, hg.output, hg.size, fun k hk hs => hg.block k hk (fun e => hs (by rw [← e]; simp))⟩ (fun x hx => hr x (by simpa using hx))
theorem Chg.heap {S : List Nat} {w w' : World} (h : Chg S w w') {b : Nat} {o : Obj} (hb : b ∉ S) (hc : w.heap[b]? = some o) : w'.heap[b]? = some o := by
  rw [h.block b ((Array.getElem?_eq_some_iff.1 hc).1) hb]; exact hc
theorem Chg.cell {S : List Nat} {w w' : World} (h : Chg S w w') {b o : Nat} {v : Value} (hb : b ∉ S) (hc : w.cell? ⟨b, o, none⟩ = some v) : w'.cell? ⟨b, o, none⟩ = some v := by
  rw [World.cell?_of_block (w := w) (w' := w') (a := ⟨b, o, none⟩) (h.block b (cell_lt hc) hb)]; exact hc
theorem Chg.frozen {S : List Nat} {w w' : World} (h : Chg S w w') {b o : Nat} {v : Value} {t : Bool} (hb : b ∉ S) (hc : w.cell? ⟨b, o, none⟩ = some v) (hf : w.frozen? ⟨b, o, none⟩ = t) : w'.frozen? ⟨b, o, none⟩ = t := by
  rw [World.frozen?_of_block (w := w) (w' := w') (a := ⟨b, o, none⟩) (h.block b (cell_lt hc) hb)]; exact hf

/-! A block that is known whole. -/
def Blk (w : World) (b : Nat) (t : TypeId) (cs : List Value) : Prop := w.heap[b]? = some (.cells cs.toArray t (0, 0))
theorem Blk.lt {w : World} {b : Nat} {t : TypeId} {cs : List Value} (h : Blk w b t cs) : b < w.heap.size := (Array.getElem?_eq_some_iff.1 h).1
theorem Blk.cell {w : World} {b : Nat} {t : TypeId} {cs : List Value} (h : Blk w b t cs) (i : Nat) (v : Value) (hv : cs[i]? = some v) : w.cell? ⟨b, i, none⟩ = some v := by
  unfold Blk at h
  simp [World.cell?, h, hv]
theorem Blk.frozen {w : World} {b : Nat} {t : TypeId} {cs : List Value} (h : Blk w b t cs) (i : Nat) : w.frozen? ⟨b, i, none⟩ = false := by
  unfold Blk at h
  simp [World.frozen?, h]
theorem Blk.set {w : World} {b : Nat} {t : TypeId} {cs : List Value} (h : Blk w b t cs) (i : Nat) (v : Value) : Blk (w.setCell ⟨b, i, none⟩ v) b t (cs.set i v) := by
  unfold Blk at h ⊢
  obtain ⟨hl, he⟩ := Array.getElem?_eq_some_iff.1 h
  simp [World.setCell, Array.getElem?_modify, h]
theorem Blk.set_other {w : World} {b c i : Nat} {t : TypeId} {cs : List Value} (h : Blk w b t cs) (hne : b ≠ c) (v : Value) : Blk (w.setCell ⟨c, i, none⟩ v) b t cs := by
  unfold Blk at h ⊢
  rw [Below.heap_setCell _ _ _ _ hne]; exact h
theorem Blk.drew {w : World} {b : Nat} {t : TypeId} {cs : List Value} (h : Blk w b t cs) : Blk w.drew b t cs := h
theorem Blk.drewN {w : World} {b : Nat} {t : TypeId} {cs : List Value} (n : Nat) (h : Blk w b t cs) : Blk (w.drewN n) b t cs := h
theorem Blk.chg {S : List Nat} {w w' : World} {b : Nat} {t : TypeId} {cs : List Value} (h : Blk w b t cs) (k : Chg S w w') (hb : b ∉ S) : Blk w' b t cs := k.heap hb h
theorem Blk.ext {w w' : World} {b : Nat} {t : TypeId} {cs : List Value} (h : Blk w b t cs) (k : Ext w w') : Blk w' b t cs := h.chg (Chg.of_ext [] k) (by simp)
theorem Blk.alloc {w : World} {b : Nat} {t : TypeId} {cs : List Value} (h : Blk w b t cs) (o : Obj) : Blk (w.alloc o) b t cs := h.ext ((Ext.refl w).alloc o)
theorem Blk.new (w : World) (cs : List Value) (t : TypeId) : Blk (w.alloc (.cells cs.toArray t)) w.heap.size t cs := heap_alloc_new w _
theorem Blk.grown {w w' : World} {b : Nat} {t : TypeId} {cs : List Value} {row : Option Nat} (h : Blk w b t cs) (k : w.grownBy w' row) (hb : row ≠ some b) : Blk w' b t cs := by
  unfold Blk at h ⊢
  rw [k.block b (Array.getElem?_eq_some_iff.1 h).1 (fun e => hb e.symm)]; exact h

theorem own_chg {S : List Nat} {w w' : World} {base : Nat} {e : TypeId} {sz n : Nat} {v : Value} {cs : List Value} (h : w.ownsRow base e sz v n cs) (k : Chg S w w') (hs : ∀ x ∈ S, v.ownBlock ≠ some x) : w'.ownsRow base e sz v n cs := by
  refine ⟨h.1, ?_⟩
  rcases h.2 with h2 | ⟨g, cap, cur, rfl, hb, hg, r⟩
  · exact Or.inl h2
  · exact Or.inr ⟨g, cap, cur, rfl, hb, k.heap (fun hm => hs g hm rfl) hg, r⟩
theorem own_ext {w w' : World} {base : Nat} {e : TypeId} {sz n : Nat} {v : Value} {cs : List Value} (h : w.ownsRow base e sz v n cs) (k : Ext w w') : w'.ownsRow base e sz v n cs := own_chg h (Chg.of_ext [] k) (by simp)
theorem own_lt {w : World} {base : Nat} {e : TypeId} {sz n : Nat} {v : Value} {cs : List Value} (h : w.ownsRow base e sz v n cs) {x : Nat} (hx : v.ownBlock = some x) : base ≤ x ∧ x < w.heap.size := World.ownsRow.lt h x hx

/-- The last element goes. -/
theorem own_pop {w : World} {base : Nat} {e : TypeId} {g n cap : Nat} {xs : List Value} {x : Value} (h : w.ownsRow base e 1 (.slice (some ⟨g, 0, none⟩) (n + 1) cap) (n + 1) (xs ++ [x])) : w.ownsRow base e 1 (.slice (some ⟨g, 0, none⟩) n cap) n xs := by
  have hl := h.1
  simp only [List.length_append, List.length_singleton, Nat.mul_one] at hl
  refine ⟨by omega, ?_⟩
  rcases h.2 with ⟨h1, _⟩ | ⟨g', cap', cur, hv, hb, hg, h1, h2, h3, h4⟩
  · simp at h1
  · simp only [Value.slice.injEq, Option.some.injEq, Addr.mk.injEq, and_true, true_and] at hv
    obtain ⟨rfl, rfl⟩ := hv
    refine Or.inr ⟨g, cap, cur, rfl, hb, hg, by omega, h2, h3, ?_⟩
    have := congrArg (List.take n) h4
    rw [List.take_take] at this
    simp only [Nat.mul_one] at this ⊢
    rw [Nat.min_eq_left (by omega), List.take_left' (by omega)] at this
    exact this

/-! A slice that is read: n elements of sz cells each, together the cells cs. -/
def Rd (w : World) (sz : Nat) (v : Value) (n : Nat) (cs : List Value) : Prop :=
  cs.length = n * sz ∧ ∃ a cap, v = .slice a n cap ∧ n ≤ cap ∧ cap ≤ maxLen ∧ (a = none → cap = 0) ∧
    (0 < n → ∃ b off, a = some ⟨b, off, none⟩ ∧ b < w.heap.size ∧ ∀ j, j < cs.length → w.cell? ⟨b, off + j, none⟩ = some (cs.getD j undef))
theorem Rd.nil (w : World) (sz : Nat) : Rd w sz (.slice none 0 0) 0 [] := ⟨by simp, none, 0, rfl, Nat.le_refl _, Nat.zero_le _, fun _ => rfl, fun h => absurd h (Nat.lt_irrefl _)⟩
theorem Rd.chg {S : List Nat} {w w' : World} {sz n : Nat} {v : Value} {cs : List Value} (h : Rd w sz v n cs) (k : Chg S w w') (hs : ∀ x ∈ S, 0 < n → v.ownBlock ≠ some x) : Rd w' sz v n cs := by
  obtain ⟨h1, a, cap, h2, h3, h4, h5, h6⟩ := h
  refine ⟨h1, a, cap, h2, h3, h4, h5, fun hn => ?_⟩
  obtain ⟨b, off, e, hb, hc⟩ := h6 hn
  refine ⟨b, off, e, Nat.lt_of_lt_of_le hb k.size, fun j hj => k.cell (fun hm => ?_) (hc j hj)⟩
  have := hs b hm hn
  rw [h2, e] at this
  exact this rfl
theorem Rd.ext {w w' : World} {sz n : Nat} {v : Value} {cs : List Value} (h : Rd w sz v n cs) (k : Ext w w') : Rd w' sz v n cs := h.chg (Chg.of_ext [] k) (by simp)
/-- The block of a slice that holds something is there. -/
theorem Rd.off {w : World} {sz n : Nat} {v : Value} {cs : List Value} (h : Rd w sz v n cs) {p : Nat} (hp : w.heap.size ≤ p) : 0 < n → v.ownBlock ≠ some p := by
  intro hn hx
  obtain ⟨h1, a, cap, rfl, h3, h4, h5, h6⟩ := h
  obtain ⟨b, off, rfl, hb, -⟩ := h6 hn
  simp [Value.ownBlock] at hx
  omega
theorem Rd.drew {w : World} {sz n : Nat} {v : Value} {cs : List Value} (h : Rd w sz v n cs) : Rd w.drew sz v n cs := h.ext (Ext.refl w).drew
theorem Rd.alloc {w : World} {sz n : Nat} {v : Value} {cs : List Value} (h : Rd w sz v n cs) (o : Obj) : Rd (w.alloc o) sz v n cs := h.ext ((Ext.refl w).alloc o)
theorem Rd.of_own {w : World} {base : Nat} {e : TypeId} {sz n : Nat} {v : Value} {cs : List Value} (h : w.ownsRow base e sz v n cs) : Rd w sz v n cs := by
  refine ⟨h.1, ?_⟩
  rcases h.2 with ⟨rfl, rfl⟩ | ⟨g, cap, cur, rfl, hb, hh, h1, h2, h3, h4⟩
  · exact ⟨none, 0, rfl, Nat.le_refl _, Nat.zero_le _, fun _ => rfl, fun h => absurd h (Nat.lt_irrefl _)⟩
  · refine ⟨some ⟨g, 0, none⟩, cap, rfl, h1, h2, (fun e => by cases e), fun _ => ⟨g, 0, rfl, (Array.getElem?_eq_some_iff.1 hh).1, fun j hj => ?_⟩⟩
    have hu : cs[j]? = some (cs.getD j undef) := by simp [List.getD, hj]
    have := h.cells (g := g) rfl j _ hu
    rw [← this]
    unfold Addr.add
    split
    · next hz => subst hz; rfl
    · simp
/-- What a slice that is read looks like. -/
theorem Rd.shape {w : World} {sz n : Nat} {v : Value} {cs : List Value} (h : Rd w sz v n cs) : ∃ a cap, v = .slice a n cap ∧ n ≤ cap ∧ cap ≤ 9223372036854775807 ∧ (a = none → cap = 0) := by
  obtain ⟨h1, a, cap, h2, h3, h4, h5, h6⟩ := h
  exact ⟨a, cap, h2, h3, h4, h5⟩
/-- The cells of a slice that holds something. -/
theorem Rd.cells {w : World} {sz n cap : Nat} {a : Option Addr} {cs : List Value} (h : Rd w sz (.slice a n cap) n cs) (hn : 0 < n) :
    ∃ b off, a = some ⟨b, off, none⟩ ∧ b < w.heap.size ∧ ∀ j, j < cs.length → w.cell? ⟨b, off + j, none⟩ = some (cs.getD j undef) := by
  obtain ⟨h1, a', cap', h2, h3, h4, h5, h6⟩ := h
  simp only [Value.slice.injEq] at h2
  obtain ⟨rfl, -, rfl⟩ := h2
  exact h6 hn
theorem Rd.news {w : World} {sz n cap : Nat} {ad : Addr} {cs : List Value} (h : Rd w sz (.slice (some ad) n cap) n cs) : ∀ j u, cs[j]? = some u → w.cell? (ad.add j) = some u := by
  intro j u hu
  have hj := (List.getElem?_eq_some_iff.1 hu).1
  have hl := h.1
  have hn : 0 < n := by
    rcases Nat.eq_zero_or_pos n with h0 | h0
    · rw [h0] at hl; omega
    · exact h0
  obtain ⟨b, off, e, -, hc⟩ := h.cells hn
  simp only [Option.some.injEq] at e
  subst e
  have := hc j hj
  rw [show (cs.getD j undef) = u by simp [List.getD, hu]] at this
  rw [← this]
  unfold Addr.add
  split
  · next hz => subst hz; rfl
  · rfl
theorem Rd.len {w : World} {sz n : Nat} {v : Value} {cs : List Value} (h : Rd w sz v n cs) : cs.length = n * sz := h.1
end Go.Proofs.YthjnchjfmbblfaaGreatDoor

/- Memory: an append of anything that is read, nil too. -/
namespace Go.Proofs.YthjnchjfmbblfaaGreatDoor
open Go.RowKit
set_option linter.unusedVariables false

/-- append of a slice that is read (it may be nil) to a slice of the call's own. -/
theorem wpList_append_rd {P : Program} {w : World} {ops : Array Oper} {rest : List Oper} {o : Oper} {a : Act} {Q : Exit → Act → World → Prop} (hgd : o.guard = none) (s x : Operand) (t : TypeId)
    (ho : o.op = .call { callee := .builtin .append, args := #[s, x], argTypes := #[t, t] })
    (base : Nat) (e : TypeId) (i : TypeInfo) (z : Value) (size bytes : Nat) (ht : P.underlying t = some (.slice e)) (hi : P.info? e = some i) (hz : i.zero = some z)
    (hsize : i.size = size) (hby : i.bytes = bytes) (hzs : z.cells.size = size) (hsz : 0 < size)
    (v : Value) (n : Nat) (xs : List Value) (hs : a.eval s = v) (hown : w.ownsRow base e size v n xs)
    (y : Option Addr) (m c : Nat) (news : List Value) (hx : a.eval x = .slice y m c) (hr : Rd w size (.slice y m c) m news) (h1 : ∀ u ∈ news, u.oneCell' = true)
    (h63 : n + m ≤ maxLen) (hbytes : (n + m) * bytes ≤ 140737488355328) (hbase : base ≤ w.heap.size)
    (h : ∀ v' w', w'.ownsRow base e size v' (n + m) (xs ++ news) → w.grownBy w' v.ownBlock → (v'.ownBlock = v.ownBlock ∨ v'.ownBlock = some w.heap.size) → wpList P ops Q rest (a.put o.dst v') w') :
    wpList P ops Q (o :: rest) a w := by
  cases y with
  | none =>
    obtain ⟨hl, a', cap', e1, h3, h4, h5, h6⟩ := hr
    simp only [Value.slice.injEq] at e1
    obtain ⟨rfl, -, rfl⟩ := e1
    have hc := h5 rfl
    subst hc
    obtain rfl : m = 0 := by omega
    obtain rfl : news = [] := List.eq_nil_of_length_eq_zero (by omega)
    refine wpList_append_own_none hgd s x t ho base e i size ht hi v n xs hs hown hx ?_
    refine h v w (by simpa using hown) ⟨rfl, rfl, rfl, Nat.le_refl _, fun _ _ _ => rfl⟩ (Or.inl rfl)
  | some ad =>
    exact wpList_append_own_at w hgd s x t ho base e i z size bytes ht hi hz hsize hby hzs hsz v n xs hs hown ad m c news hx hr.1 (Rd.news hr) h1 h63 hbytes hbase (fun v' w' g1 g2 _ g4 => h v' w' g1 g2 g4)
/-- A new row of no element. -/
theorem own_zero (w : World) (e : TypeId) (sz : Nat) : (w.alloc (.cells #[] e)).ownsRow w.heap.size e sz (.slice (some ⟨w.heap.size, 0, none⟩) 0 0) 0 [] :=
  World.ownsRow_made w #[] 0 (Nat.le_refl _) (Nat.zero_le _) (by simp)
theorem own_mono {w : World} {b b' : Nat} {e : TypeId} {sz n : Nat} {v : Value} {cs : List Value} (h : w.ownsRow b e sz v n cs) (hb : b' ≤ b) : w.ownsRow b' e sz v n cs := by
  refine ⟨h.1, ?_⟩
  rcases h.2 with h2 | ⟨g, cap, cur, rfl, h3, r⟩
  · exact Or.inl h2
  · exact Or.inr ⟨g, cap, cur, rfl, by omega, r⟩
/-- What a row of the call's own looks like. -/
theorem own_shape {w : World} {b : Nat} {e : TypeId} {sz n : Nat} {v : Value} {cs : List Value} (h : w.ownsRow b e sz v n cs) :
    ∃ a cap, v = .slice a n cap ∧ n ≤ cap ∧ cap ≤ 9223372036854775807 ∧ (0 < n → ∃ g, a = some ⟨g, 0, none⟩ ∧ b ≤ g ∧ g < w.heap.size) := by
  rcases h.2 with ⟨rfl, rfl⟩ | ⟨g, cap, cur, rfl, h3, h4, h5, h6, _⟩
  · exact ⟨none, 0, rfl, Nat.le_refl _, by omega, fun h => absurd h (Nat.lt_irrefl _)⟩
  · exact ⟨some ⟨g, 0, none⟩, cap, rfl, h5, h6, fun _ => ⟨g, rfl, h3, (Array.getElem?_eq_some_iff.1 h4).1⟩⟩
end Go.Proofs.YthjnchjfmbblfaaGreatDoor

/- Slice expressions on slices that are read: the value is some slice that is read (no case on the capacity). -/
namespace Go.Proofs.YthjnchjfmbblfaaGreatDoor
open Go.RowKit
set_option linter.unusedVariables false

theorem Rd.sliced {w : World} {sz n cap l h : Nat} {a : Option Addr} {cs : List Value} (r : Rd w sz (.slice a n cap) n cs) (h1 : l ≤ h) (h2 : h ≤ n) :
    Rd w sz (Go.sliced a l h cap sz) (h - l) ((cs.drop (l * sz)).take ((h - l) * sz)) := by
  obtain ⟨hl, a', cap', e, h3, h4, h5, h6⟩ := r
  simp only [Value.slice.injEq] at e
  obtain ⟨rfl, -, rfl⟩ := e
  have hm : (h - l) * sz ≤ n * sz - l * sz := by rw [← Nat.sub_mul]; exact Nat.mul_le_mul_right _ (by omega)
  have hlen : ((cs.drop (l * sz)).take ((h - l) * sz)).length = (h - l) * sz := by rw [List.length_take, List.length_drop, hl]; omega
  refine ⟨hlen, _, _, rfl, by omega, by omega, ?_, ?_⟩
  · intro he
    by_cases hc : cap = l
    · omega
    · rw [if_neg hc] at he
      have := h5 (by simpa using he)
      omega
  · intro hn
    obtain ⟨b, off, rfl, hb, hcell⟩ := h6 (by omega)
    rw [if_neg (by omega)]
    have ha : (⟨b, off, none⟩ : Addr).add (l * sz) = ⟨b, off + l * sz, none⟩ := by
      unfold Addr.add
      split
      · next hz => rw [hz]; rfl
      · rfl
    refine ⟨b, off + l * sz, by simp [ha], hb, fun j hj => ?_⟩
    rw [hlen] at hj
    rw [Nat.add_assoc, hcell (l * sz + j) (by omega)]
    congr 1
    simp [List.getD, List.getElem?_drop, hj]
theorem sliced_block (a : Option Addr) (l h m s n c g : Nat) (hg : (Value.slice a n c).ownBlock ≠ some g) : (Go.sliced a l h m s).ownBlock ≠ some g := by
  unfold Go.sliced
  cases a with
  | none => intro h; split at h <;> simp [Value.ownBlock] at h
  | some ad =>
    have e : (ad.add (l * s)).block = ad.block := by unfold Addr.add; split <;> rfl
    split
    · exact hg
    · intro h
      apply hg
      simp only [Value.ownBlock, Option.map_some] at h ⊢
      rw [← h, e]
theorem Rd.cap {w : World} {sz n cap : Nat} {a : Option Addr} {cs : List Value} (r : Rd w sz (.slice a n cap) n cs) : n ≤ cap := by
  obtain ⟨hl, a', cap', e, h3, _⟩ := r
  simp only [Value.slice.injEq] at e
  omega
theorem cut_lh {P : Program} {t e : TypeId} {sz : Nat} (ht0 : P.underlying t = some (.slice e)) (hs : ∀ w, (sizeOf e).run P w = .ok sz w) {w0 : World} {n cap : Nat} {a : Option Addr} {cs : List Value} (r : Rd w0 sz (.slice a n cap) n cs)
    (l h : Nat) (li hi : Int) (el : li = l) (eh : hi = h) (h1 : l ≤ h) (h2 : h ≤ n) :
    ∃ a' cap', (∀ w, (Instr.sliceAt t (.slice a n cap) (some (.int .i64 li)) (some (.int .i64 hi)) none).run P w = .ok (.slice a' (h - l) cap') w) ∧ Rd w0 sz (.slice a' (h - l) cap') (h - l) ((cs.drop (l * sz)).take ((h - l) * sz)) := by
  refine ⟨_, _, fun w => ?_, r.sliced h1 h2⟩
  have h3 := r.cap
  have he : P.elem t = e := by unfold Program.elem; rw [ht0]
  have ht : P.underlying t = some (.slice (P.elem t)) := by rw [he]; exact ht0
  rw [run_sliceAt_slice w t _ _ _ _ ht, run_slice_lh w t _ _ _ ht _ _ _ _ (by omega) (by omega) (by omega), he, hs]
  subst el eh
  rfl
theorem cut_l {P : Program} {t e : TypeId} {sz : Nat} (ht0 : P.underlying t = some (.slice e)) (hs : ∀ w, (sizeOf e).run P w = .ok sz w) {w0 : World} {n cap : Nat} {a : Option Addr} {cs : List Value} (r : Rd w0 sz (.slice a n cap) n cs)
    (l : Nat) (li : Int) (el : li = l) (h1 : l ≤ n) :
    ∃ a' cap', (∀ w, (Instr.sliceAt t (.slice a n cap) (some (.int .i64 li)) none none).run P w = .ok (.slice a' (n - l) cap') w) ∧ Rd w0 sz (.slice a' (n - l) cap') (n - l) (cs.drop (l * sz)) ∧ (∀ g, (Value.slice a n cap).ownBlock ≠ some g → (Value.slice a' (n - l) cap').ownBlock ≠ some g) := by
  have h := r.sliced h1 (Nat.le_refl n)
  rw [List.take_of_length_le (by rw [List.length_drop, r.len, Nat.sub_mul]; omega)] at h
  refine ⟨_, _, fun w => ?_, h, fun g => sliced_block a l n cap sz n cap g⟩
  have he : P.elem t = e := by unfold Program.elem; rw [ht0]
  have ht : P.underlying t = some (.slice (P.elem t)) := by rw [he]; exact ht0
  rw [run_sliceAt_slice w t _ _ _ _ ht, run_slice_l w t _ _ _ ht _ _ (by omega) (by omega), he, hs]
  subst el
  rfl
theorem cut_h {P : Program} {t e : TypeId} {sz : Nat} (ht0 : P.underlying t = some (.slice e)) (hs : ∀ w, (sizeOf e).run P w = .ok sz w) {w0 : World} {n cap : Nat} {a : Option Addr} {cs : List Value} (r : Rd w0 sz (.slice a n cap) n cs)
    (h : Nat) (hi : Int) (eh : hi = h) (h2 : h ≤ n) :
    ∃ a' cap', (∀ w, (Instr.sliceAt t (.slice a n cap) none (some (.int .i64 hi)) none).run P w = .ok (.slice a' h cap') w) ∧ Rd w0 sz (.slice a' h cap') h (cs.take (h * sz)) := by
  have g := r.sliced (Nat.zero_le h) h2
  rw [Nat.zero_mul, List.drop_zero, Nat.sub_zero] at g
  refine ⟨_, _, fun w => ?_, g⟩
  have h3 := r.cap
  have he : P.elem t = e := by unfold Program.elem; rw [ht0]
  have ht : P.underlying t = some (.slice (P.elem t)) := by rw [he]; exact ht0
  rw [run_sliceAt_slice w t _ _ _ _ ht, run_slice_h w t _ _ _ ht _ _ (by omega) (by omega), he, hs]
  subst eh
  rfl
end Go.Proofs.YthjnchjfmbblfaaGreatDoor

/- append of a slice that is read, at a step of a region that draws its order. -/
namespace Go.Proofs.YthjnchjfmbblfaaGreatDoor
open Go.RowKit
set_option linter.unusedVariables false
/-- append of a slice that is read, nil too, at a step of a region that draws its order. -/
theorem step_append_rd {P : Program} {w : World} {ops : Array Oper} {o : Oper} {a : Act} {K : Act → World → Prop} {Q : Exit → Act → World → Prop} {E : Prop} (hgd : o.guard = none) (s x : Operand) (t : TypeId)
    (ho : o.op = .call { callee := .builtin .append, args := #[s, x], argTypes := #[t, t] })
    (base : Nat) (e : TypeId) (i : TypeInfo) (z : Value) (size bytes : Nat) (ht : P.underlying t = some (.slice e)) (hi : P.info? e = some i) (hz : i.zero = some z)
    (hsize : i.size = size) (hby : i.bytes = bytes) (hzs : z.cells.size = size) (hsz : 0 < size)
    (v : Value) (n : Nat) (xs : List Value) (hs : a.eval s = v) (hown : w.ownsRow base e size v n xs)
    (y : Option Addr) (m c : Nat) (news : List Value) (hx : a.eval x = .slice y m c) (hr : Rd w size (.slice y m c) m news) (h1 : ∀ u ∈ news, u.oneCell' = true)
    (h63 : n + m ≤ maxLen) (hbytes : (n + m) * bytes ≤ 140737488355328) (hbase : base ≤ w.heap.size)
    (h : ∀ v' w', w'.ownsRow base e size v' (n + m) (xs ++ news) → w.grownBy w' v.ownBlock → K (a.put o.dst v') w') :
    if Region.wanted o (yielded ops a.tmps) = true then Oper.wp P o a w K Q else E := by
  have hw : Region.wanted o (yielded ops a.tmps) = true := by simp [Region.wanted, hgd]
  rw [if_pos hw]
  cases y with
  | none =>
    obtain ⟨hl, a', cap', e1, h3, h4, h5, h6⟩ := hr
    simp only [Value.slice.injEq] at e1
    obtain ⟨rfl, -, rfl⟩ := e1
    have hc := h5 rfl
    subst hc
    obtain rfl : m = 0 := by omega
    obtain rfl : news = [] := List.eq_nil_of_length_eq_zero (by omega)
    have hrun := run_append_owned_none (P := P) (w := w) base t o.type e i size ht hi v n xs hown
    unfold Oper.wp
    simp [execOp, ho, resolve, invoke, builtin, hs, hx, hrun, Result.andThen]
    exact h v w (by simpa using hown) ⟨rfl, rfl, rfl, Nat.le_refl _, fun _ _ _ => rfl⟩
  | some ad =>
    obtain ⟨v', w', hrr, h2, h3, h4, h5⟩ := run_append_own_at (P := P) w base t o.type e i z size bytes ht hi hz hsize hby hzs hsz v n xs hown ad m c news hr.1 (Rd.news hr) h1 h63 hbytes hbase
    unfold Oper.wp execOp
    simp only [ho, resolve, invoke, builtin, Sem.run_bind, Sem.run_pure, Result.andThen_ok, List.map_toArray, List.map_cons, List.map_nil, hs, hx, hrr]
    exact h v' w' h2 h3

end Go.Proofs.YthjnchjfmbblfaaGreatDoor

/- Memory: append of a number of zeros ('append(x, make([]T, n)...)'). -/
namespace Go.Proofs.YthjnchjfmbblfaaGreatDoor
open Go.RowKit Go.Builtin
set_option linter.unusedVariables false

section
variable {P : Program} (w : World)
theorem zeros_one (z : Value) (m : Nat) (hz : z.cells = #[z]) : (zeroCells z.cells m).toList = List.replicate m z := by
  apply List.ext_getElem
  · simp [zeroCells, hz]
  · intro i h1 h2
    simp [zeroCells, hz]
    rw [Nat.mod_one]
    rfl
theorem zc_size (z : Array Value) (n : Nat) : (zeroCells z n).size = n * z.size := by simp [zeroCells]
/-- The number of zeros is a small int: what the model asks of it. -/
theorem run_append_zeros (base : Nat) (t ti ty e : TypeId) (i : TypeInfo) (z : Value) (bytes : Nat) (ht : P.underlying t = some (.slice e)) (hti : P.underlying ti = some (.int .i64)) (hi : P.info? e = some i) (hz : i.zero = some z)
    (hsize : i.size = 1) (hby : i.bytes = bytes) (hzs : z.cells = #[z]) (h1 : z.oneCell' = true)
    (v : Value) (n : Nat) (xs : List Value) (hown : w.ownsRow base e 1 v n xs) (m : Nat) (hm0 : (m : Int) ≤ 9223372036854775807) (hm1 : (m : Int) * (bytes : Int) ≤ 281474976710656)
    (h63 : n + m ≤ maxLen) (hbytes : (n + m) * bytes ≤ 140737488355328) (hbase : base ≤ w.heap.size) :
    ∃ v' w', (append_ #[t, ti] ty #[v, .int .i64 m]).run P w = .ok v' w' ∧ w'.ownsRow base e 1 v' (n + m) (xs ++ List.replicate m z) ∧ w.grownBy w' v.ownBlock ∧
      (v'.ownBlock = v.ownBlock ∨ v'.ownBlock = some w.heap.size) := by
  subst hby
  have hzc := zeros_one z m hzs
  have hsmall : n + m ≤ 9223372036854775807 := by simp only [maxLen] at h63; omega
  have hlen : (xs ++ List.replicate m z).length = (n + m) * 1 := by rw [List.length_append, hown.1, List.length_replicate]; omega
  have hw1 : IntKind.i64.wrap (m : Int) = (m : Int) := IntWalk.i64_in _ (by omega)
  have hm2 : ¬ ((m : Int) < 0) := by omega
  have hm3 : ¬ (281474976710656 < (m : Int) * (i.bytes : Int)) := by omega
  rcases hown.2 with ⟨rfl, rfl⟩ | ⟨g, cap, cur, rfl, hbg, hg, hnc, hcm, hcs, htake⟩
  · have hx : xs = [] := List.eq_nil_of_length_eq_zero (by simpa using hown.1)
    subst hx
    by_cases hm : m = 0
    · subst hm
      refine ⟨.slice none 0 0, w, ?_, by simpa using World.ownsRow_nil w base e 1, ⟨rfl, rfl, rfl, Nat.le_refl _, fun _ _ _ => rfl⟩, Or.inl rfl⟩
      simp at hw1
      simp [append_, run_underlying ht, run_underlying hti, sizeOf, typeInfo, hi, asInt, asIntOf, hw1]
    · have hge := grownCap_ge w m 0 e
      have hcm : grownCap w m 0 e ≤ maxLen := grownCap_le_maxLen w m 0 e (by omega)
      have h63' : ¬ (9223372036854775807 < (m : Int)) := by omega
      have h48' : ¬ (281474976710656 < nextslicecap m 0 * i.bytes) := by rw [nextslicecap_zero (by omega)]; have hb := hbytes; simp only [Nat.zero_add] at hb; omega
      have hms : ¬ (m = 0 ∨ i.size = 0) := by omega
      refine ⟨_, _, ?_, ⟨hlen, .inr ⟨w.heap.size, _, _, rfl, hbase, heap_alloc_new w.drew (.cells (zeroCells z.cells m ++ zeroCells z.cells (grownCap w m 0 e - m)) e), by rw [Nat.zero_add]; exact hge, hcm, ?_, ?_⟩⟩, ⟨rfl, rfl, rfl, by simp, fun k hk _ => heap_alloc_old w.drew _ hk⟩, Or.inr rfl⟩
      · simp [append_, run_underlying ht, run_underlying hti, sizeOf, typeInfo, zeroValue, hi, hz, asInt, asIntOf, hw1, hm2, hm3, hm, hsize, h63', h48', Question.forced, newRow, grownCap, run_firstCells_none]
      · simp only [Array.size_append, zc_size, hzs]; simp; omega
      · rw [Array.toList_append, hzc, ← hlen]
        exact List.take_left
  · by_cases hroom : n + m ≤ cap
    · have hst := run_storeCells_at P g (n * 1) e (List.replicate m z) 0 cur w hg (by rw [List.length_replicate, hcs]; omega) (fun u hu => by rw [List.eq_of_mem_replicate hu]; exact h1)
      simp only [Nat.add_zero, Nat.mul_one] at hst
      refine ⟨_, _, ?_, ⟨hlen, .inr ⟨g, cap, _, rfl, hbg, setRow_heap w g cur (cur.toList.take n ++ List.replicate m z ++ cur.toList.drop (n + (List.replicate m z).length)).toArray e _ hg, hroom, hcm, ?_, ?_⟩⟩, ⟨rfl, rfl, rfl, by simp, fun k _ hk => setRow_other w g k _ (fun e => hk (by simp [Value.ownBlock, e]))⟩, Or.inl rfl⟩
      · by_cases hm : m = 0
        · subst hm
          simp at hw1 hst
          simp [append_, run_underlying ht, run_underlying hti, sizeOf, typeInfo, hi, asInt, asIntOf, hw1, hsize, hnc, Addr.add_lit, hst]
        · simp [append_, run_underlying ht, run_underlying hti, sizeOf, typeInfo, zeroValue, hi, hz, asInt, asIntOf, hw1, hm2, hm3, hm, hsize, hroom, Addr.add_lit, hst, hzc]
      · simp only [List.size_toArray, List.length_append, List.length_take, List.length_drop, Array.length_toList, List.length_replicate]
        omega
      · have e : cur.toList.take n = xs := by simpa using htake
        rw [e, ← hlen]
        exact List.take_left
    · have holds : ∀ j u, xs[j]? = some u → w.cell? ((⟨g, 0, none⟩ : Addr).add j) = some u := hown.cells (g := g) rfl
      have hge := grownCap_ge w (n + m) cap e
      have hcm' : grownCap w (n + m) cap e ≤ maxLen := grownCap_le_maxLen w (n + m) cap e (by omega)
      have h63' : ¬ (9223372036854775807 < ((n : Int) + (m : Int))) := by omega
      have hgf : nextslicecap (n + m) cap * i.bytes ≤ 281474976710656 := growslice_fits (by omega) hbytes
      have h48' : ¬ (281474976710656 < nextslicecap (n + m) cap * i.bytes) := by omega
      have hfo := run_firstCells_some (P := P) w.drew i.size n ⟨g, 0, none⟩ n cap xs (by rw [hsize]; exact hown.1) (by simpa using holds)
      have hm : m ≠ 0 := by omega
      refine ⟨_, _, ?_, ⟨hlen, .inr ⟨w.heap.size, _, _, rfl, hbase, heap_alloc_new w.drew (.cells (xs.toArray ++ zeroCells z.cells m ++ zeroCells z.cells (grownCap w (n + m) cap e - (n + m))) e), hge, hcm', ?_, ?_⟩⟩, ⟨rfl, rfl, rfl, by simp, fun k hk _ => heap_alloc_old w.drew _ hk⟩, Or.inr rfl⟩
      · rw [hsize] at hfo
        simp [append_, run_underlying ht, run_underlying hti, sizeOf, typeInfo, zeroValue, hi, hz, asInt, asIntOf, hw1, hm2, hm3, hm, hsize, hroom, h63', h48', Question.forced, newRow, grownCap, hfo]
      · simp only [Array.size_append, zc_size, hzs, List.size_toArray, hown.1]; simp; omega
      · rw [Array.toList_append, Array.toList_append, hzc, ← hlen]
        exact List.take_left

theorem wpList_append_zeros {ops : Array Oper} {rest : List Oper} {o : Oper} {a : Act} {Q : Exit → Act → World → Prop} (hgd : o.guard = none) (s x : Operand) (t ti : TypeId)
    (ho : o.op = .call { callee := .builtin .append, args := #[s, x], argTypes := #[t, ti] })
    (base : Nat) (e : TypeId) (i : TypeInfo) (z : Value) (bytes : Nat) (ht : P.underlying t = some (.slice e)) (hti : P.underlying ti = some (.int .i64)) (hi : P.info? e = some i) (hz : i.zero = some z)
    (hsize : i.size = 1) (hby : i.bytes = bytes) (hzs : z.cells = #[z]) (h1 : z.oneCell' = true)
    (v : Value) (n : Nat) (xs : List Value) (hs : a.eval s = v) (hown : w.ownsRow base e 1 v n xs) (m : Nat) (hx : a.eval x = .int .i64 (m : Int))
    (hm0 : (m : Int) ≤ 9223372036854775807) (hm1 : (m : Int) * (bytes : Int) ≤ 281474976710656)
    (h63 : n + m ≤ maxLen) (hbytes : (n + m) * bytes ≤ 140737488355328) (hbase : base ≤ w.heap.size)
    (h : ∀ v' w', w'.ownsRow base e 1 v' (n + m) (xs ++ List.replicate m z) → w.grownBy w' v.ownBlock → (v'.ownBlock = v.ownBlock ∨ v'.ownBlock = some w.heap.size) → wpList P ops Q rest (a.put o.dst v') w') :
    wpList P ops Q (o :: rest) a w := by
  refine wpList_plain hgd fun K hK => ?_
  obtain ⟨v', w', hr, h2, h3, h4⟩ := run_append_zeros (P := P) w base t ti o.type e i z bytes ht hti hi hz hsize hby hzs h1 v n xs hown m hm0 hm1 h63 hbytes hbase
  unfold Oper.wp execOp
  simp only [ho, resolve, invoke, builtin, Sem.run_bind, Sem.run_pure, Result.andThen_ok, List.map_toArray, List.map_cons, List.map_nil, hs, hx, hr]
  exact hK _ _ (h v' w' h2 h3 h4)
end
end Go.Proofs.YthjnchjfmbblfaaGreatDoor
