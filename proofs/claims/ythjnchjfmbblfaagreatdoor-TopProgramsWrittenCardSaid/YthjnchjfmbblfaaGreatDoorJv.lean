/- SameArrays and Same of the reference of layer 15. -/
import Derived.Test.YthjnchjfmbblfaaGreatDoorSb
import Derived.Test.YthjnchjfmbblfaaGreatDoorJo
import Derived.Laws.StructEq
import Derived.Outline
namespace Go.Proofs.YthjnchjfmbblfaaGreatDoor
open Go.RowKit
set_option linter.unusedVariables false
attribute [local go_sem ↓] Go.wp_at_zero Go.wp_at_succ

theorem neqA (w : World) (a c : Bool) (b d : Int) : (binOp .neq 63 (.agg #[.bool a, .int .i64 b]) (.agg #[.bool c, .int .i64 d])).run Tryz.prog w = .ok (.bool (decide ((a, b) ≠ (c, d)))) w := by
  by_cases h1 : a = c <;> by_cases h2 : b = d <;> simp [go_sem, h1, h2]
theorem neqI (w : World) (a b c d : Int) : (binOp .neq 56 (.agg #[.int .i64 a, .int .u32 b]) (.agg #[.int .i64 c, .int .u32 d])).run Tryz.prog w = .ok (.bool (decide ((a, b) ≠ (c, d)))) w := by
  by_cases h1 : a = c <;> by_cases h2 : b = d <;> simp [go_sem, h1, h2]

def sameP (A A' : List (Bool × Int)) (L L' : Int) (C C' : List (Int × Int)) : Bool := decide (L = L' ∧ A = A' ∧ C = C')
end Go.Proofs.YthjnchjfmbblfaaGreatDoor
