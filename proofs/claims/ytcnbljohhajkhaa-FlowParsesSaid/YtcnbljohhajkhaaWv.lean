/- Layer 18: the reader's lists of blocks, whatever the code. -/
import Derived.Test.YtcnbljohhajkhaaVe
import Derived.Test.YtcnbljohhajkhaaVf
namespace Go.Proofs.Ytcnbljohhajkhaa

theorem list_all (C : List (Int × Int)) (f : Nat) : ListOK C f := by
  induction f using Nat.strongRecOn with
  | ind f ih => exact list_any C f (fun f' h => blk_any C f' (ih f' h))
end Go.Proofs.Ytcnbljohhajkhaa
