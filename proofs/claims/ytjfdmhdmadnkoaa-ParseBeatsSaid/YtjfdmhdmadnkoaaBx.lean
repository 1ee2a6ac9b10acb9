/- The reference's Read. -/
import Derived.Test.YtjfdmhdmadnkoaaBw
namespace Go.Proofs.Ytjfdmhdmadnkoaa
open Go.RowKit
set_option linter.unusedVariables false
attribute [local go_sem ↓] Go.wp_at_zero Go.wp_at_succ

theorem cut_succ' (D : List Int) (a k : Nat) : cut D a (k + 1) = cut D a k ++ [gb D (a + k)] := by simp [cut, List.range_succ]
end Go.Proofs.Ytjfdmhdmadnkoaa
