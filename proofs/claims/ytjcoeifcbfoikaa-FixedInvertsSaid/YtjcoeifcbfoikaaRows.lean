/-
  No cell of these rows narrows 'for every input' (looked for: loops, veiled, ifaces, maps, wideKeys, modest, calm, conditions, laid).
  DERIVED. THE GIVEN ROWS OF THIS SEAT. 9 by the template 'for every input the law returns true; each argument reads behind the call as it read before'; 0 by the template 'total and deterministic' (their statements: YtjcoeifcbfoikaaTotals.lean).
  GIVEN WITH THE SEED: the statements are not yours to turn. If you find one false, say at which input.
  Laid BY PROGRAM, IN A SANDBOX (cutbox-rows.mjs): the forced cells as the released guide's own fill.sh prints them over the translation 548c4c7876f7cf72… (all of the seat's roots in one cut). By AI agents, Wed Nov 11 2026. No macro, syntax, notation, axiom, sorry.
-/
import Derived.Test.YtjcoeifcbfoikaaChecked
import GoSem.Claim
import GoSem.ClaimJoined
import GoSem.ClaimMapViews
import Derived.JoinedTies
import Derived.KernelRfl
namespace Go.Proofs.Ytjcoeifcbfoikaa
/- THE CELL 'sum', in the pinned program and in every row, IS THE sha256 OF THE DUMP (.gsa) THAT YtjcoeifcbfoikaaProg.lean LOADS. Nothing in Lean hashes anything: it is a label: what it is worth is what the hold of that sum in a sandbox is worth. -/
noncomputable def Try.pinned : Pinned := { name := "ytjcoeifcbfoikaa", sum := "548c4c7876f7cf725772a6a8a878360ba12eb051005010acd11c80e3483929e6", checked := Try.checked }
namespace Rows
def none {H : Type} : Left H := { results := [], args := [] }

/-- 'compactorlaw06.FixedSquashes': WHATEVER THE INPUT: true; the input reads as it did. -/
def fixedSquashesSpec : ChangeSpec := { name := "fixedSquashes", fn := fun _ => fun
  | [d] => { results := [.lit (.bool true)], args := [d] }
  | _ => none }
def fixedSquashesRow : OpenClaim := { program := "ytjcoeifcbfoikaa", sum := "548c4c7876f7cf725772a6a8a878360ba12eb051005010acd11c80e3483929e6", func := "compactor/compactorlaw06.FixedSquashes", spec := "fixedSquashes", unfollowed := true, recurses := true, apart := false }
def FixedSquashesSaid : Prop := fixedSquashesRow.holds Try.pinned (OpenSpec.ofChange fixedSquashesSpec)

/-- ITS FALSE NEIGHBOUR: 'it returns false'. Refute it at one input. -/
def fixedSquashesWrong : ChangeSpec := { name := "fixedSquashes", fn := fun _ => fun
  | [d] => { results := [.lit (.bool false)], args := [d] }
  | _ => none }
def FixedSquashesWrongFalsely : Prop := fixedSquashesRow.holds Try.pinned (OpenSpec.ofChange fixedSquashesWrong)

/-- 'compactorlaw06.FixedStretches': WHATEVER THE INPUT: true; the input reads as it did. -/
def fixedStretchesSpec : ChangeSpec := { name := "fixedStretches", fn := fun _ => fun
  | [d] => { results := [.lit (.bool true)], args := [d] }
  | _ => none }
def fixedStretchesRow : OpenClaim := { program := "ytjcoeifcbfoikaa", sum := "548c4c7876f7cf725772a6a8a878360ba12eb051005010acd11c80e3483929e6", func := "compactor/compactorlaw06.FixedStretches", spec := "fixedStretches", unfollowed := true, recurses := true, apart := false }
def FixedStretchesSaid : Prop := fixedStretchesRow.holds Try.pinned (OpenSpec.ofChange fixedStretchesSpec)

/-- ITS FALSE NEIGHBOUR: 'it returns false'. Refute it at one input. -/
def fixedStretchesWrong : ChangeSpec := { name := "fixedStretches", fn := fun _ => fun
  | [d] => { results := [.lit (.bool false)], args := [d] }
  | _ => none }
def FixedStretchesWrongFalsely : Prop := fixedStretchesRow.holds Try.pinned (OpenSpec.ofChange fixedStretchesWrong)

/-- 'compactorlaw06.FixedRounds': WHATEVER THE INPUT: true; the input reads as it did. -/
def fixedRoundsSpec : ChangeSpec := { name := "fixedRounds", fn := fun _ => fun
  | [d1, d2] => { results := [.lit (.bool true)], args := [d1, d2] }
  | _ => none }
def fixedRoundsRow : OpenClaim := { program := "ytjcoeifcbfoikaa", sum := "548c4c7876f7cf725772a6a8a878360ba12eb051005010acd11c80e3483929e6", func := "compactor/compactorlaw06.FixedRounds", spec := "fixedRounds", unfollowed := true, recurses := true, apart := false }
def FixedRoundsSaid : Prop := fixedRoundsRow.holds Try.pinned (OpenSpec.ofChange fixedRoundsSpec)

/-- ITS FALSE NEIGHBOUR: 'it returns false'. Refute it at one input. -/
def fixedRoundsWrong : ChangeSpec := { name := "fixedRounds", fn := fun _ => fun
  | [d1, d2] => { results := [.lit (.bool false)], args := [d1, d2] }
  | _ => none }
def FixedRoundsWrongFalsely : Prop := fixedRoundsRow.holds Try.pinned (OpenSpec.ofChange fixedRoundsWrong)

/-- 'compactorlaw06.FixedCosts': WHATEVER THE INPUT: true; the input reads as it did. -/
def fixedCostsSpec : ChangeSpec := { name := "fixedCosts", fn := fun _ => fun
  | [d1, d2, d3] => { results := [.lit (.bool true)], args := [d1, d2, d3] }
  | _ => none }
def fixedCostsRow : OpenClaim := { program := "ytjcoeifcbfoikaa", sum := "548c4c7876f7cf725772a6a8a878360ba12eb051005010acd11c80e3483929e6", func := "compactor/compactorlaw06.FixedCosts", spec := "fixedCosts", unfollowed := true, recurses := true, apart := false }
def FixedCostsSaid : Prop := fixedCostsRow.holds Try.pinned (OpenSpec.ofChange fixedCostsSpec)

/-- ITS FALSE NEIGHBOUR: 'it returns false'. Refute it at one input. -/
def fixedCostsWrong : ChangeSpec := { name := "fixedCosts", fn := fun _ => fun
  | [d1, d2, d3] => { results := [.lit (.bool false)], args := [d1, d2, d3] }
  | _ => none }
def FixedCostsWrongFalsely : Prop := fixedCostsRow.holds Try.pinned (OpenSpec.ofChange fixedCostsWrong)

/-- 'compactorlaw06.FixedMirrors': WHATEVER THE INPUT: true; the input reads as it did. -/
def fixedMirrorsSpec : ChangeSpec := { name := "fixedMirrors", fn := fun _ => fun
  | [d] => { results := [.lit (.bool true)], args := [d] }
  | _ => none }
def fixedMirrorsRow : OpenClaim := { program := "ytjcoeifcbfoikaa", sum := "548c4c7876f7cf725772a6a8a878360ba12eb051005010acd11c80e3483929e6", func := "compactor/compactorlaw06.FixedMirrors", spec := "fixedMirrors", unfollowed := true, recurses := true, apart := false }
def FixedMirrorsSaid : Prop := fixedMirrorsRow.holds Try.pinned (OpenSpec.ofChange fixedMirrorsSpec)

/-- ITS FALSE NEIGHBOUR: 'it returns false'. Refute it at one input. -/
def fixedMirrorsWrong : ChangeSpec := { name := "fixedMirrors", fn := fun _ => fun
  | [d] => { results := [.lit (.bool false)], args := [d] }
  | _ => none }
def FixedMirrorsWrongFalsely : Prop := fixedMirrorsRow.holds Try.pinned (OpenSpec.ofChange fixedMirrorsWrong)

/-- 'compactorlaw06.FixedRises': WHATEVER THE INPUT: true; the input reads as it did. -/
def fixedRisesSpec : ChangeSpec := { name := "fixedRises", fn := fun _ => fun
  | [d1, d2] => { results := [.lit (.bool true)], args := [d1, d2] }
  | _ => none }
def fixedRisesRow : OpenClaim := { program := "ytjcoeifcbfoikaa", sum := "548c4c7876f7cf725772a6a8a878360ba12eb051005010acd11c80e3483929e6", func := "compactor/compactorlaw06.FixedRises", spec := "fixedRises", unfollowed := true, recurses := true, apart := false }
def FixedRisesSaid : Prop := fixedRisesRow.holds Try.pinned (OpenSpec.ofChange fixedRisesSpec)

/-- ITS FALSE NEIGHBOUR: 'it returns false'. Refute it at one input. -/
def fixedRisesWrong : ChangeSpec := { name := "fixedRises", fn := fun _ => fun
  | [d1, d2] => { results := [.lit (.bool false)], args := [d1, d2] }
  | _ => none }
def FixedRisesWrongFalsely : Prop := fixedRisesRow.holds Try.pinned (OpenSpec.ofChange fixedRisesWrong)

/-- 'compactorlaw06.FixedInverts': WHATEVER THE INPUT: true; the input reads as it did. -/
def fixedInvertsSpec : ChangeSpec := { name := "fixedInverts", fn := fun _ => fun
  | [d] => { results := [.lit (.bool true)], args := [d] }
  | _ => none }
def fixedInvertsRow : OpenClaim := { program := "ytjcoeifcbfoikaa", sum := "548c4c7876f7cf725772a6a8a878360ba12eb051005010acd11c80e3483929e6", func := "compactor/compactorlaw06.FixedInverts", spec := "fixedInverts", unfollowed := true, recurses := true, apart := false }
def FixedInvertsSaid : Prop := fixedInvertsRow.holds Try.pinned (OpenSpec.ofChange fixedInvertsSpec)

/-- ITS FALSE NEIGHBOUR: 'it returns false'. Refute it at one input. -/
def fixedInvertsWrong : ChangeSpec := { name := "fixedInverts", fn := fun _ => fun
  | [d] => { results := [.lit (.bool false)], args := [d] }
  | _ => none }
def FixedInvertsWrongFalsely : Prop := fixedInvertsRow.holds Try.pinned (OpenSpec.ofChange fixedInvertsWrong)

/-- 'compactorlaw06.FixedDoubles': WHATEVER THE INPUT: true; the input reads as it did. -/
def fixedDoublesSpec : ChangeSpec := { name := "fixedDoubles", fn := fun _ => fun
  | [d1, d2] => { results := [.lit (.bool true)], args := [d1, d2] }
  | _ => none }
def fixedDoublesRow : OpenClaim := { program := "ytjcoeifcbfoikaa", sum := "548c4c7876f7cf725772a6a8a878360ba12eb051005010acd11c80e3483929e6", func := "compactor/compactorlaw06.FixedDoubles", spec := "fixedDoubles", unfollowed := true, recurses := true, apart := false }
def FixedDoublesSaid : Prop := fixedDoublesRow.holds Try.pinned (OpenSpec.ofChange fixedDoublesSpec)

/-- ITS FALSE NEIGHBOUR: 'it returns false'. Refute it at one input. -/
def fixedDoublesWrong : ChangeSpec := { name := "fixedDoubles", fn := fun _ => fun
  | [d1, d2] => { results := [.lit (.bool false)], args := [d1, d2] }
  | _ => none }
def FixedDoublesWrongFalsely : Prop := fixedDoublesRow.holds Try.pinned (OpenSpec.ofChange fixedDoublesWrong)

/-- 'compactorlaw06.FixedNearest': WHATEVER THE INPUT: true; the input reads as it did. -/
def fixedNearestSpec : ChangeSpec := { name := "fixedNearest", fn := fun _ => fun
  | [d1, d2] => { results := [.lit (.bool true)], args := [d1, d2] }
  | _ => none }
def fixedNearestRow : OpenClaim := { program := "ytjcoeifcbfoikaa", sum := "548c4c7876f7cf725772a6a8a878360ba12eb051005010acd11c80e3483929e6", func := "compactor/compactorlaw06.FixedNearest", spec := "fixedNearest", unfollowed := true, recurses := true, apart := false }
def FixedNearestSaid : Prop := fixedNearestRow.holds Try.pinned (OpenSpec.ofChange fixedNearestSpec)

/-- ITS FALSE NEIGHBOUR: 'it returns false'. Refute it at one input. -/
def fixedNearestWrong : ChangeSpec := { name := "fixedNearest", fn := fun _ => fun
  | [d1, d2] => { results := [.lit (.bool false)], args := [d1, d2] }
  | _ => none }
def FixedNearestWrongFalsely : Prop := fixedNearestRow.holds Try.pinned (OpenSpec.ofChange fixedNearestWrong)

/- THE SECOND FORM. 'bulk': how many values and letters a reading holds, each counted each time it is reached (what is shared counts as often as it is met; a slice's spare places count too). A statement '..UptoSaid' is the law's where the arguments, and the package variables that the reading takes, are together of bulk at most 1048576: NARROWER than '..Said'. Prove '..Said' where nothing that the law and all that it calls make is longer than what came in: it says more and counts as full. Else prove '..UptoSaid'. A law counts once. -/
mutual
def uptoBulk {H : Type} : DataW H → Nat
  | .lit (.string bytes) => bytes.length + 1
  | .lit _ => 1
  | .nil => 1
  | .ptr d => uptoBulk d + 1
  | .slice elems spare => uptoBulkAll elems + uptoBulkAll spare + 1
  | .agg parts => uptoBulkAll parts + 1
  | .iface _ d => uptoBulk d + 1
  | .map entries => uptoBulkEntries entries + 1
  | .held _ => 1
def uptoBulkAll {H : Type} : List (DataW H) → Nat
  | [] => 0
  | d :: r => uptoBulk d + uptoBulkAll r
def uptoBulkEntries {H : Type} : List (Lit × DataW H) → Nat
  | [] => 0
  | x :: r => uptoBulkEntry x + uptoBulkEntries r
def uptoBulkEntry {H : Type} : Lit × DataW H → Nat
  | (.string bytes, d) => bytes.length + uptoBulk d + 1
  | (_, d) => uptoBulk d + 1
 end
def uptoSmall : (H : Type) → List (DataW H) → Bool := fun _ ds => decide (uptoBulkAll ds ≤ 1048576)
def OpenSpec.upto (s : _root_.Go.ChangeSpec) : _root_.Go.OpenSpec := { _root_.Go.OpenSpec.ofChange s with cond := some uptoSmall }

/-- 'compactorlaw06.FixedSquashes', WHERE WHAT IT READS IS OF BULK AT MOST 1048576: true; the input reads as it did. -/
def fixedSquashesUptoRow : OpenClaim := { program := "ytjcoeifcbfoikaa", sum := "548c4c7876f7cf725772a6a8a878360ba12eb051005010acd11c80e3483929e6", func := "compactor/compactorlaw06.FixedSquashes", spec := "fixedSquashes", unfollowed := true, recurses := true, apart := false, narrowed := true }
def FixedSquashesUptoSaid : Prop := fixedSquashesUptoRow.holds Try.pinned (OpenSpec.upto fixedSquashesSpec)

/-- 'compactorlaw06.FixedStretches', WHERE WHAT IT READS IS OF BULK AT MOST 1048576: true; the input reads as it did. -/
def fixedStretchesUptoRow : OpenClaim := { program := "ytjcoeifcbfoikaa", sum := "548c4c7876f7cf725772a6a8a878360ba12eb051005010acd11c80e3483929e6", func := "compactor/compactorlaw06.FixedStretches", spec := "fixedStretches", unfollowed := true, recurses := true, apart := false, narrowed := true }
def FixedStretchesUptoSaid : Prop := fixedStretchesUptoRow.holds Try.pinned (OpenSpec.upto fixedStretchesSpec)

/-- 'compactorlaw06.FixedRounds', WHERE WHAT IT READS IS OF BULK AT MOST 1048576: true; the input reads as it did. -/
def fixedRoundsUptoRow : OpenClaim := { program := "ytjcoeifcbfoikaa", sum := "548c4c7876f7cf725772a6a8a878360ba12eb051005010acd11c80e3483929e6", func := "compactor/compactorlaw06.FixedRounds", spec := "fixedRounds", unfollowed := true, recurses := true, apart := false, narrowed := true }
def FixedRoundsUptoSaid : Prop := fixedRoundsUptoRow.holds Try.pinned (OpenSpec.upto fixedRoundsSpec)

/-- 'compactorlaw06.FixedCosts', WHERE WHAT IT READS IS OF BULK AT MOST 1048576: true; the input reads as it did. -/
def fixedCostsUptoRow : OpenClaim := { program := "ytjcoeifcbfoikaa", sum := "548c4c7876f7cf725772a6a8a878360ba12eb051005010acd11c80e3483929e6", func := "compactor/compactorlaw06.FixedCosts", spec := "fixedCosts", unfollowed := true, recurses := true, apart := false, narrowed := true }
def FixedCostsUptoSaid : Prop := fixedCostsUptoRow.holds Try.pinned (OpenSpec.upto fixedCostsSpec)

/-- 'compactorlaw06.FixedMirrors', WHERE WHAT IT READS IS OF BULK AT MOST 1048576: true; the input reads as it did. -/
def fixedMirrorsUptoRow : OpenClaim := { program := "ytjcoeifcbfoikaa", sum := "548c4c7876f7cf725772a6a8a878360ba12eb051005010acd11c80e3483929e6", func := "compactor/compactorlaw06.FixedMirrors", spec := "fixedMirrors", unfollowed := true, recurses := true, apart := false, narrowed := true }
def FixedMirrorsUptoSaid : Prop := fixedMirrorsUptoRow.holds Try.pinned (OpenSpec.upto fixedMirrorsSpec)

/-- 'compactorlaw06.FixedRises', WHERE WHAT IT READS IS OF BULK AT MOST 1048576: true; the input reads as it did. -/
def fixedRisesUptoRow : OpenClaim := { program := "ytjcoeifcbfoikaa", sum := "548c4c7876f7cf725772a6a8a878360ba12eb051005010acd11c80e3483929e6", func := "compactor/compactorlaw06.FixedRises", spec := "fixedRises", unfollowed := true, recurses := true, apart := false, narrowed := true }
def FixedRisesUptoSaid : Prop := fixedRisesUptoRow.holds Try.pinned (OpenSpec.upto fixedRisesSpec)

/-- 'compactorlaw06.FixedInverts', WHERE WHAT IT READS IS OF BULK AT MOST 1048576: true; the input reads as it did. -/
def fixedInvertsUptoRow : OpenClaim := { program := "ytjcoeifcbfoikaa", sum := "548c4c7876f7cf725772a6a8a878360ba12eb051005010acd11c80e3483929e6", func := "compactor/compactorlaw06.FixedInverts", spec := "fixedInverts", unfollowed := true, recurses := true, apart := false, narrowed := true }
def FixedInvertsUptoSaid : Prop := fixedInvertsUptoRow.holds Try.pinned (OpenSpec.upto fixedInvertsSpec)

/-- 'compactorlaw06.FixedDoubles', WHERE WHAT IT READS IS OF BULK AT MOST 1048576: true; the input reads as it did. -/
def fixedDoublesUptoRow : OpenClaim := { program := "ytjcoeifcbfoikaa", sum := "548c4c7876f7cf725772a6a8a878360ba12eb051005010acd11c80e3483929e6", func := "compactor/compactorlaw06.FixedDoubles", spec := "fixedDoubles", unfollowed := true, recurses := true, apart := false, narrowed := true }
def FixedDoublesUptoSaid : Prop := fixedDoublesUptoRow.holds Try.pinned (OpenSpec.upto fixedDoublesSpec)

/-- 'compactorlaw06.FixedNearest', WHERE WHAT IT READS IS OF BULK AT MOST 1048576: true; the input reads as it did. -/
def fixedNearestUptoRow : OpenClaim := { program := "ytjcoeifcbfoikaa", sum := "548c4c7876f7cf725772a6a8a878360ba12eb051005010acd11c80e3483929e6", func := "compactor/compactorlaw06.FixedNearest", spec := "fixedNearest", unfollowed := true, recurses := true, apart := false, narrowed := true }
def FixedNearestUptoSaid : Prop := fixedNearestUptoRow.holds Try.pinned (OpenSpec.upto fixedNearestSpec)

end Rows
end Go.Proofs.Ytjcoeifcbfoikaa
