/- The closures of layer 15's arithmetic. -/
import Derived.Test.YthjnchjfmbblfaaGreatDoorRows
import Derived.Test.YthjnchjfmbblfaaGreatDoorIp
import Derived.Deep.QuietTactic
import Derived.BigQuiet
import Derived.Outline
namespace Go.Proofs.YthjnchjfmbblfaaGreatDoor
open Go.RowKit
set_option linter.unusedVariables false


theorem flag_any (p : Bool) (w : World) : Calls Tryz.prog 27 #[.bool p] w fun x w' => x = .returned (.int .u32 (fl p)) ∧ w = w' := by
  cases p <;>
  · go_enter Tryz.func27, Tryz.ntmps27
    go_wp2_with fail
    go_ret
    exact ⟨rfl, rfl⟩
end Go.Proofs.YthjnchjfmbblfaaGreatDoor
