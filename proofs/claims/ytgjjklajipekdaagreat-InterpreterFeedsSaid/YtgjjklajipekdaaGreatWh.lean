
import Derived.Test.YtgjjklajipekdaaGreatVe
import Derived.Deep.QuietTactic
import Derived.BigQuiet
import Derived.StillTailTactics
namespace Go.Proofs.YtgjjklajipekdaaGreat
open Go.RowKit
set_option linter.unusedVariables false
set_option linter.unusedSimpArgs false
attribute [local go_sem ↓] Go.wp_at_zero Go.wp_at_succ
def okB (C : List (Int × Int)) (d : Nat) (op : Int) (f t nb no : Nat) : Prop :=
 (f < t ∧ t ≤ C.length) ∧ (op = -1 ∧ nb = 0 ∧ no = 0 ∨ (op = 27 ∨ op = 29 ∧ no = 0) ∧ d < 8 ∧ opAtFl C f = op ∧ opAtFl C (t - 1) = 31)
end Go.Proofs.YtgjjklajipekdaaGreat
