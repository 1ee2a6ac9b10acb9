/- Byte slices: read, owned. -/
import Derived.Test.YtfebgcbkadmgiaaRows
import Derived.Test.YtfebgcbkadmgiaaMb
import Derived.Laws.OwnMore
namespace Go.Proofs.Ytfebgcbkadmgiaa
open Go.RowKit
set_option linter.unusedVariables false

/-- Bytes as values. -/
def bs (l : List Int) : List Value := l.map (Value.int .u8)
theorem bs_len (l : List Int) : (bs l).length = l.length := by simp [bs]
theorem bs_get (l : List Int) (i : Nat) (h : i < l.length) : (bs l).getD i undef = .int .u8 (l.getD i 0) := by simp [bs, List.getD, h]
theorem bs_app (l m : List Int) : bs (l ++ m) = bs l ++ bs m := by simp [bs]
theorem bs_set (l : List Int) (i : Nat) (x : Int) : (bs l).set i (.int .u8 x) = bs (l.set i x) := by simp [bs, List.map_set]
def Bytes (l : List Int) : Prop := ∀ x ∈ l, 0 ≤ x ∧ x ≤ 255
theorem Bytes.get {l : List Int} (h : Bytes l) (i : Nat) (hi : i < l.length) : 0 ≤ l.getD i 0 ∧ l.getD i 0 ≤ 255 := by
  simp [List.getD, hi]; exact h _ (List.getElem_mem hi)
theorem Bytes.snoc {l : List Int} (h : Bytes l) {x : Int} (h0 : 0 ≤ x) (h1 : x ≤ 255) : Bytes (l ++ [x]) := by
  intro y hy
  rcases List.mem_append.1 hy with hy | hy
  · exact h y hy
  · simp at hy; omega
theorem u8info : (Try.prog.info? 5).map (fun i => (i.zero, i.size, i.bytes)) = some (some (.int .u8 0), 1, 1) := by kernel_rfl
/-- Owned bytes. -/
def Own8 (w : World) (B : Nat) (v : Value) (l : List Int) : Prop := w.ownsRow B 5 1 v l.length (bs l)
theorem Own8.shape {w : World} {B : Nat} {v : Value} {l : List Int} (h : Own8 w B v l) :
    (v = .slice none 0 0 ∧ l = []) ∨ ∃ g cap, v = .slice (some ⟨g, 0, none⟩) l.length cap ∧ B ≤ g ∧ g < w.heap.size ∧ l.length ≤ cap ∧ cap ≤ 9223372036854775807 := by
  rcases h.2 with ⟨h1, h2⟩ | ⟨g, cap, cur, hv, hb, hg, h1, h2, _⟩
  · exact Or.inl ⟨h1, List.eq_nil_of_length_eq_zero h2⟩
  · exact Or.inr ⟨g, cap, hv, hb, (Array.getElem?_eq_some_iff.1 hg).1, h1, h2⟩
/-- Bytes that are read. -/
def Rd8 (w : World) (v : Value) (l : List Int) : Prop := Rd w 1 v l.length (bs l)
theorem Own8.rd {w : World} {B : Nat} {v : Value} {l : List Int} (h : Own8 w B v l) : Rd8 w v l := Rd.of_own h
theorem bs_one (l : List Int) : ∀ u ∈ bs l, u.oneCell' = true := by
  intro u hu
  simp [bs] at hu
  obtain ⟨a, -, rfl⟩ := hu
  rfl
/-- Bytes do not lie in a block that holds none. -/
theorem Rd8.off_any {w : World} {v : Value} {l : List Int} {q : Nat} {t : TypeId} {cs : List Value} (h : Rd8 w v l) (hB : Blk w q t cs) (hn : ∀ u ∈ cs, ∀ n, u ≠ .int .u8 n) : 0 < l.length → v.ownBlock ≠ some q := by
  intro hl hv
  obtain ⟨_, a', cap', rfl, _, _, _, h6⟩ := h
  obtain ⟨b', off', rfl, -, hc⟩ := h6 hl
  simp [Value.ownBlock] at hv
  subst hv
  have h1 := hc 0 (by rw [bs_len]; exact hl)
  rw [bs_get l 0 hl, Nat.add_zero] at h1
  unfold Blk at hB
  simp only [World.cell?, hB] at h1
  have h2 : cs[off']? = some (.int .u8 (l.getD 0 0)) := by simpa using h1
  exact hn _ (List.mem_of_getElem? h2) _ rfl
/-- A row's block is none that is known whole and of another type. -/
theorem own_ne_blk {w : World} {B : Nat} {e t : TypeId} {sz n q : Nat} {v : Value} {xs cs : List Value} (h : w.ownsRow B e sz v n xs) (hB : Blk w q t cs) (hne : t ≠ e) : v.ownBlock ≠ some q := by
  intro hv
  rcases h.2 with ⟨rfl, _⟩ | ⟨g, cap, cur, rfl, _, hg, _⟩
  · simp [Value.ownBlock] at hv
  · simp [Value.ownBlock] at hv
    subst hv
    unfold Blk at hB
    rw [hB] at hg
    simp at hg
    exact hne hg.2
theorem Rd8.nil (w : World) : Rd8 w (.slice none 0 0) [] := Rd.nil w 1
theorem Rd8.at {w : World} {b off n cap : Nat} {l : List Int} (h : Rd8 w (.slice (some ⟨b, off, none⟩) n cap) l) (i : Nat) (hi : i < l.length) : w.cell? ⟨b, off + i, none⟩ = some (.int .u8 (l.getD i 0)) := by
  obtain ⟨_, a', cap', h2, _, _, _, h6⟩ := h
  simp only [Value.slice.injEq] at h2
  obtain ⟨rfl, -, rfl⟩ := h2
  obtain ⟨b', off', e, -, hc⟩ := h6 (by omega)
  simp only [Option.some.injEq, Addr.mk.injEq, and_true] at e
  obtain ⟨rfl, rfl⟩ := e
  rw [hc i (by rw [bs_len]; exact hi), bs_get l i hi]
/-- Where the bytes of a slice that holds some lie. -/
theorem Rd8.some {w : World} {a : Option Addr} {n cap : Nat} {l : List Int} (h : Rd8 w (.slice a n cap) l) (hn : 0 < l.length) : ∃ b off, a = Option.some ⟨b, off, none⟩ ∧ b < w.heap.size := by
  obtain ⟨_, a', cap', h2, _, _, _, h6⟩ := h
  simp only [Value.slice.injEq] at h2
  obtain ⟨rfl, -, rfl⟩ := h2
  obtain ⟨b', off', e, hb, -⟩ := h6 hn
  exact ⟨b', off', e, hb⟩
theorem Own8.len {w : World} {B g n cap : Nat} {D : List Int} (h : Own8 w B (.slice (Option.some ⟨g, 0, none⟩) n cap) D) : n = D.length := by
  rcases h.2 with ⟨h1, _⟩ | ⟨g', cap', cur, hv, _⟩
  · simp at h1
  · simp only [Value.slice.injEq] at hv; exact hv.2.1
theorem Own8.frozen {w : World} {B g n cap : Nat} {D : List Int} (h : Own8 w B (.slice (Option.some ⟨g, 0, none⟩) n cap) D) (j : Nat) : w.frozen? ⟨g, j, none⟩ = false := by
  obtain rfl := h.len
  exact World.ownsRow.frozenAt h j
theorem Own8.set {w : World} {B g n cap : Nat} {D : List Int} (h : Own8 w B (.slice (Option.some ⟨g, 0, none⟩) n cap) D) (j : Nat) (y : Int) : Own8 (w.setCell ⟨g, j, none⟩ (.int .u8 y)) B (.slice (Option.some ⟨g, 0, none⟩) n cap) (D.set j y) := by
  obtain rfl := h.len
  have := (World.ownsRow.stored h j (.int .u8 y)).1
  unfold Own8
  rw [List.length_set, ← bs_set]
  exact this
/-- Fresh: in no old block. -/
def Fresh (w : World) (v : Value) : Prop := ∀ y, y < w.heap.size → v.ownBlock ≠ some y
theorem Fresh.nil (w : World) : Fresh w (.slice none 0 0) := fun y hy h => by simp [Value.ownBlock] at h
theorem Fresh.of_own {w w' : World} {e : TypeId} {sz n B : Nat} {v : Value} {cs : List Value} (h : w'.ownsRow B e sz v n cs) (hB : w.heap.size ≤ B) : Fresh w v := fun y hy hv => by
  have := (own_lt h hv).1
  omega
end Go.Proofs.Ytfebgcbkadmgiaa
