/- The reference's Few, get, Check. -/
import Derived.Test.YtjfdmhdmadnkoaaBq
namespace Go.Proofs.Ytjfdmhdmadnkoaa
open Go.RowKit
set_option linter.unusedVariables false
attribute [local go_sem ↓] Go.wp_at_zero Go.wp_at_succ

theorem and1_tab : ∀ (i : Fin 256), bits BinOp.and IntKind.i64 (i.val : Int) 1 = (i.val : Int) % 2 := by decide +kernel
theorem i64_and1 (y : Int) (h0 : 0 ≤ y) (h1 : y ≤ 255) : bits BinOp.and IntKind.i64 y 1 = y % 2 := by
  obtain ⟨i, rfl⟩ := byte_of y h0 h1
  exact and1_tab i

theorem chkb_bad {D : List Int} {c : Nat} (hb : Bytes D) (hc : c ≤ 524288) (hl : (D.length : Int) = ((c : Int) + 7) / 8) (i : Nat) (h1 : c ≤ i) (h2 : i < 8 * D.length) (h3 : gb D i ≠ 0) : chkb D c = 3 := by
  have hne : chkb D c ≠ 0 := by
    intro e
    obtain ⟨-, -, hwf⟩ := chkb_wf hb e
    exact h3 (hwf.spare i (by simpa using h1) h2)
  unfold chkb at hne ⊢
  rw [if_neg (by omega), if_neg (by simpa using hl)] at hne ⊢
  split
  · rfl
  · next h => rw [if_neg h] at hne; exact absurd rfl hne

end Go.Proofs.Ytjfdmhdmadnkoaa
