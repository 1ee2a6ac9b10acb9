/- Layer 18: FlowJoins, the walk. -/
import Derived.Test.YtcnbljohhajkhaaWv
import Derived.Test.YtcnbljohhajkhaaWz
namespace Go.Proofs.Ytcnbljohhajkhaa
open Go.RowKit
set_option linter.unusedVariables false

theorem FlowJoins_law (va : Value) (A : List (Int × Int)) (vb : Value) (B : List (Int × Int)) (hoA : ∀ x ∈ A, (-9223372036854775808 ≤ x.1 ∧ x.1 ≤ 9223372036854775807) ∧ (0 ≤ x.2 ∧ x.2 ≤ 4294967295)) (hoB : ∀ x ∈ B, (-9223372036854775808 ≤ x.1 ∧ x.1 ≤ 9223372036854775807) ∧ (0 ≤ x.2 ∧ x.2 ≤ 4294967295)) (w : World) (ha : Code18 w va A) (hb : Code18 w vb B) :
    Calls Try.prog 8 #[va, vb] w fun x w' => x = .returned (.bool true) ∧ Ext w w' := joins_any list_all va vb A B w ha hb
end Go.Proofs.Ytcnbljohhajkhaa
