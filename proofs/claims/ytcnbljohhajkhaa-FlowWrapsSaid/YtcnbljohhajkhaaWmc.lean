/- Layer 18: FlowWraps, the walk. -/
import Derived.Test.YtcnbljohhajkhaaWv
import Derived.Test.YtcnbljohhajkhaaWmb
namespace Go.Proofs.Ytcnbljohhajkhaa
open Go.RowKit
set_option linter.unusedVariables false

theorem FlowWraps_law (v : Value) (C : List (Int × Int)) (b : Bool) (hok : ∀ x ∈ C, (-9223372036854775808 ≤ x.1 ∧ x.1 ≤ 9223372036854775807) ∧ (0 ≤ x.2 ∧ x.2 ≤ 4294967295)) (w : World) (h : Code18 w v C) :
    Calls Try.prog 7 #[v, .bool b] w fun x w' => x = .returned (.bool true) ∧ Ext w w' := wraps_any list_all v C b w h
end Go.Proofs.Ytcnbljohhajkhaa
