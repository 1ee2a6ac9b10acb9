/- The program's Slice. -/
import Derived.Test.YtjfdmhdmadnkoaaBl
import Derived.Sort.CutIn
namespace Go.Proofs.Ytjfdmhdmadnkoaa
open Go.RowKit Go.Shelf
set_option linter.unusedVariables false
attribute [local go_sem] Oper.semAt_some

/-- What Slice leaves. -/
def slcF (D : List Int) (c a b : Int) : Int × List Int × Nat :=
  if chkb D c ≠ 0 then (chkb D c, [], 0) else if a < 0 ∨ b < a ∨ c < b then (2, [], 0) else (0, pshs [] 0 (cut D a.toNat (b.toNat - a.toNat)), b.toNat - a.toNat)
theorem own8_grown {W W' : World} {B : Nat} {v : Value} {l : List Int} {row : Option Nat} (h : Own8 W B v l) (hg : W.grownBy W' row) (hrow : ∀ r, row = some r → ∃ o, W.heap[r]? = some o ∧ o.isCells = false) : Own8 W' B v l := by
  obtain ⟨h1, h | ⟨g, cap, cur, h2, h3, h4, h5⟩⟩ := h
  · exact ⟨h1, .inl h⟩
  · refine ⟨h1, .inr ⟨g, cap, cur, h2, h3, ?_, h5⟩⟩
    rw [hg.block g (Array.getElem?_eq_some_iff.1 h4).1 (fun e' => by obtain ⟨o, ho, hc⟩ := hrow g e'.symm; rw [h4] at ho; cases ho; cases hc)]
    exact h4
theorem tape_own (pt B : Nat) (D : List Int) (c : Nat) : Own (fun (s : List Bool) W => ∃ v', Tape W pt B v' (pshs D c (s.map b2i)) (c + s.length)) := fun s X Y row hs hg hrow => by
  obtain ⟨v', h1, h2, h3⟩ := hs
  exact ⟨v', blk_own (β := Unit) _ _ _ () X Y row h1 hg hrow, own8_grown h2 hg hrow, h3⟩
theorem size_own {β : Type} (n : Nat) : Own (fun (_ : β) W => n ≤ W.heap.size) := fun s X Y row hs hg hrow => Nat.le_trans hs hg.size
theorem Chg.keeps {S : List Nat} {W W' : World} (h : Chg S W W') (hS : ∀ x ∈ S, ∀ o, W.heap[x]? = some o → o.isCells = true) : KeepsOthers W W' :=
  ⟨h.size, fun k o hk ho => by
    by_cases hm : k ∈ S
    · have := hS k hm o hk
      rw [this] at ho; cases ho
    · rw [h.block k (Array.getElem?_eq_some_iff.1 hk).1 hm]; exact hk⟩
theorem Tape.cells {W : World} {p B c : Nat} {v : Value} {D : List Int} (h : Tape W p B v D c) : ∀ x ∈ (p :: v.ownBlock.toList), ∀ o, W.heap[x]? = some o → o.isCells = true := by
  intro x hx o ho
  rcases List.mem_cons.1 hx with rfl | hx
  · have hb : W.heap[x]? = some (.cells _ _ (0, 0)) := h.blk
    rw [hb] at ho; cases ho; rfl
  · obtain ⟨h1, ⟨rfl, -⟩ | ⟨g, cap, cur, rfl, h3, h4, h5⟩⟩ := h.own
    · simp [Value.ownBlock] at hx
    · simp [Value.ownBlock] at hx
      subst hx
      rw [h4] at ho; cases ho; rfl
theorem Tape.past {W : World} {p B c : Nat} {v : Value} {D : List Int} (h : Tape W p B v D c) : ∀ x, x < B → x ≠ p → x ∉ (p :: v.ownBlock.toList) := by
  intro x hB hp hx
  rcases List.mem_cons.1 hx with rfl | hx
  · exact hp rfl
  · obtain ⟨h1, ⟨rfl, -⟩ | ⟨g, cap, cur, rfl, h3, h4, h5⟩⟩ := h.own
    · simp [Value.ownBlock] at hx
    · simp [Value.ownBlock] at hx
      omega
theorem own8_nil (W : World) (B : Nat) : Own8 W B (.slice none 0 0) [] := ⟨rfl, .inl ⟨rfl, rfl⟩⟩
theorem Chg.below {S : List Nat} {n : Nat} {W W' : World} (h : Chg S W W') (hS : ∀ x ∈ S, n ≤ x) (hn : n ≤ W.heap.size) : Below n W W' := by
  refine ⟨h.os, h.tape, h.output, h.size, fun k hk => h.block k (by omega) (fun hm => by have := hS k hm; omega)⟩
theorem blk_calc {W : World} {p : Nat} {t : TypeId} {cs : List Value} (h : W.heap[p]? = some (.cells cs.toArray t (0, 0))) : Blk W p t cs := h

end Go.Proofs.Ytjfdmhdmadnkoaa
