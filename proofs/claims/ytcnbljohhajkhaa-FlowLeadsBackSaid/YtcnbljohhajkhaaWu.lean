/- Layer 18: FlowLeadsBack, the walk. -/
import Derived.Test.YtcnbljohhajkhaaWv
import Derived.Test.YtcnbljohhajkhaaWt
namespace Go.Proofs.Ytcnbljohhajkhaa
open Go.RowKit
set_option linter.unusedVariables false

theorem FlowLeadsBack_law (v : Value) (C : List (Int × Int)) (hok : ∀ x ∈ C, (-9223372036854775808 ≤ x.1 ∧ x.1 ≤ 9223372036854775807) ∧ (0 ≤ x.2 ∧ x.2 ≤ 4294967295)) (w : World) (h : Code18 w v C) :
    Calls Try.prog 6 #[v] w fun x w' => x = .returned (.bool true) ∧ Ext w w' := leadsback_any list_all v C w h
end Go.Proofs.Ytcnbljohhajkhaa
