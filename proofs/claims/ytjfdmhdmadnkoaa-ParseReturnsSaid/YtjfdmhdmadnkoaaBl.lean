/- The chapter's examples. -/
import Derived.Test.YtjfdmhdmadnkoaaBk
import Derived.Deep.RegionHeld3
import Derived.Outline
namespace Go.Proofs.Ytjfdmhdmadnkoaa
open Go.RowKit
set_option linter.unusedVariables false
attribute [local go_sem ↓] Go.wp_at_zero Go.wp_at_succ

theorem by_lit1 : Bytes [160] := by intro x hx; simp at hx; omega
theorem by_lit2 : Bytes [160, 64] := by intro x hx; simp at hx; omega
theorem by_lit3 : Bytes [128] := by intro x hx; simp at hx; omega
theorem by_lit4 : Bytes [162, 128] := by intro x hx; simp at hx; omega
theorem by_nil : Bytes [] := fun x hx => by cases hx

/-- A slice of bytes that a text writes down. -/
theorem rd_lit (w : World) (l : List Int) (n : Nat) (hn : l.length = n) (hm : 0 < n ∧ n ≤ 1000 := by decide) : Rd8 (w.alloc (.cells (bs l).toArray 5)) (.slice (some ⟨w.heap.size, 0, none⟩) n n) l := by
  subst hn
  refine ⟨by simp [bs], some ⟨w.heap.size, 0, none⟩, l.length, rfl, Nat.le_refl _, by unfold maxLen; omega, (fun e => by cases e), fun _ => ⟨w.heap.size, 0, rfl, by simp, fun j hj => ?_⟩⟩
  rw [Nat.zero_add, World.cell?_alloc_at _ _ _ _ rfl]
  have hj' : j < l.length := by simpa [bs] using hj
  simp [bs, List.getD, hj']

end Go.Proofs.Ytjfdmhdmadnkoaa
