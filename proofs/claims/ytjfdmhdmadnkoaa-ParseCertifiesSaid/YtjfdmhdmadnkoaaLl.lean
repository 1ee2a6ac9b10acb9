/- Layer 35: Encode of the reference. -/
import Derived.Test.YtjfdmhdmadnkoaaLk
namespace Go.Proofs.Ytjfdmhdmadnkoaa
open Go.RowKit
set_option linter.unusedVariables false
attribute [local go_sem ↓] Go.wp_at_zero Go.wp_at_succ

/-- What Encode of the reference leaves: bytes that are read. -/
def EnPost (w : World) (r : Int × List Int) (x : Ending) (w' : World) : Prop :=
  ∃ v', x = .returned (.tuple #[v', .int .i64 r.1]) ∧ Rd8 w' v' r.2 ∧ Ext w w'
end Go.Proofs.Ytjfdmhdmadnkoaa
