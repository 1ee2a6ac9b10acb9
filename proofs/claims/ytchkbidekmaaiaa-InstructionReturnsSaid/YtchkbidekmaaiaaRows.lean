/-
  No cell of these rows narrows 'for every input' (looked for: loops, veiled, ifaces, maps, wideKeys, modest, calm, conditions, laid).
  DERIVED. THE GIVEN ROWS OF THIS SEAT. 8 by the template 'for every input the law returns true; each argument reads behind the call as it read before'; 0 by the template 'total and deterministic' (their statements: YtchkbidekmaaiaaTotals.lean).
  GIVEN WITH THE SEED: the statements are not yours to turn. If you find one false, say at which input.
  Laid BY PROGRAM, IN A SANDBOX (cutbox-rows.mjs): the forced cells as the released guide's own fill.sh prints them over the translation 313257fef5d61a70… (all of the seat's roots in one cut). By AI agents, Wed Nov 11 2026. No macro, syntax, notation, axiom, sorry.
-/
import Derived.Test.YtchkbidekmaaiaaChecked
import GoSem.Claim
import GoSem.ClaimJoined
import GoSem.ClaimMapViews
import Derived.JoinedTies
import Derived.KernelRfl
namespace Go.Proofs.Ytchkbidekmaaiaa
/- THE CELL 'sum', in the pinned program and in every row, IS THE sha256 OF THE DUMP (.gsa) THAT YtchkbidekmaaiaaProg.lean LOADS. Nothing in Lean hashes anything: it is a label: what it is worth is what the hold of that sum in a sandbox is worth. -/
noncomputable def Try.pinned : Pinned := { name := "ytchkbidekmaaiaa", sum := "313257fef5d61a703d7a2fceb7e359741c6c8c98e48be8acdbf4d32cb96920d9", checked := Try.checked }
namespace Rows
def none {H : Type} : Left H := { results := [], args := [] }

/-- 'compactorlaw15.InstructionApplies': WHATEVER THE INPUT: true; the input reads as it did. -/
def instructionAppliesSpec : ChangeSpec := { name := "instructionApplies", fn := fun _ => fun
  | [d1, d2, d3] => { results := [.lit (.bool true)], args := [d1, d2, d3] }
  | _ => none }
def instructionAppliesRow : OpenClaim := { program := "ytchkbidekmaaiaa", sum := "313257fef5d61a703d7a2fceb7e359741c6c8c98e48be8acdbf4d32cb96920d9", func := "compactor/compactorlaw15.InstructionApplies", spec := "instructionApplies", unfollowed := true, recurses := true, apart := false }
def InstructionAppliesSaid : Prop := instructionAppliesRow.holds Try.pinned (OpenSpec.ofChange instructionAppliesSpec)

/-- ITS FALSE NEIGHBOUR: 'it returns false'. Refute it at one input. -/
def instructionAppliesWrong : ChangeSpec := { name := "instructionApplies", fn := fun _ => fun
  | [d1, d2, d3] => { results := [.lit (.bool false)], args := [d1, d2, d3] }
  | _ => none }
def InstructionAppliesWrongFalsely : Prop := instructionAppliesRow.holds Try.pinned (OpenSpec.ofChange instructionAppliesWrong)

/-- 'compactorlaw15.InstructionEncodes': WHATEVER THE INPUT: true; the input reads as it did. -/
def instructionEncodesSpec : ChangeSpec := { name := "instructionEncodes", fn := fun _ => fun
  | [d] => { results := [.lit (.bool true)], args := [d] }
  | _ => none }
def instructionEncodesRow : OpenClaim := { program := "ytchkbidekmaaiaa", sum := "313257fef5d61a703d7a2fceb7e359741c6c8c98e48be8acdbf4d32cb96920d9", func := "compactor/compactorlaw15.InstructionEncodes", spec := "instructionEncodes", unfollowed := true, recurses := true, apart := false }
def InstructionEncodesSaid : Prop := instructionEncodesRow.holds Try.pinned (OpenSpec.ofChange instructionEncodesSpec)

/-- ITS FALSE NEIGHBOUR: 'it returns false'. Refute it at one input. -/
def instructionEncodesWrong : ChangeSpec := { name := "instructionEncodes", fn := fun _ => fun
  | [d] => { results := [.lit (.bool false)], args := [d] }
  | _ => none }
def InstructionEncodesWrongFalsely : Prop := instructionEncodesRow.holds Try.pinned (OpenSpec.ofChange instructionEncodesWrong)

/-- 'compactorlaw15.InstructionDecodes': WHATEVER THE INPUT: true; the input reads as it did. -/
def instructionDecodesSpec : ChangeSpec := { name := "instructionDecodes", fn := fun _ => fun
  | [d] => { results := [.lit (.bool true)], args := [d] }
  | _ => none }
def instructionDecodesRow : OpenClaim := { program := "ytchkbidekmaaiaa", sum := "313257fef5d61a703d7a2fceb7e359741c6c8c98e48be8acdbf4d32cb96920d9", func := "compactor/compactorlaw15.InstructionDecodes", spec := "instructionDecodes", unfollowed := true, recurses := true, apart := false }
def InstructionDecodesSaid : Prop := instructionDecodesRow.holds Try.pinned (OpenSpec.ofChange instructionDecodesSpec)

/-- ITS FALSE NEIGHBOUR: 'it returns false'. Refute it at one input. -/
def instructionDecodesWrong : ChangeSpec := { name := "instructionDecodes", fn := fun _ => fun
  | [d] => { results := [.lit (.bool false)], args := [d] }
  | _ => none }
def InstructionDecodesWrongFalsely : Prop := instructionDecodesRow.holds Try.pinned (OpenSpec.ofChange instructionDecodesWrong)

/-- 'compactorlaw15.InstructionReturns': WHATEVER THE INPUT: true; the input reads as it did. -/
def instructionReturnsSpec : ChangeSpec := { name := "instructionReturns", fn := fun _ => fun
  | [d1, d2, d3] => { results := [.lit (.bool true)], args := [d1, d2, d3] }
  | _ => none }
def instructionReturnsRow : OpenClaim := { program := "ytchkbidekmaaiaa", sum := "313257fef5d61a703d7a2fceb7e359741c6c8c98e48be8acdbf4d32cb96920d9", func := "compactor/compactorlaw15.InstructionReturns", spec := "instructionReturns", unfollowed := true, recurses := true, apart := false }
def InstructionReturnsSaid : Prop := instructionReturnsRow.holds Try.pinned (OpenSpec.ofChange instructionReturnsSpec)

/-- ITS FALSE NEIGHBOUR: 'it returns false'. Refute it at one input. -/
def instructionReturnsWrong : ChangeSpec := { name := "instructionReturns", fn := fun _ => fun
  | [d1, d2, d3] => { results := [.lit (.bool false)], args := [d1, d2, d3] }
  | _ => none }
def InstructionReturnsWrongFalsely : Prop := instructionReturnsRow.holds Try.pinned (OpenSpec.ofChange instructionReturnsWrong)

/-- 'compactorlaw15.InstructionCalculates': WHATEVER THE INPUT: true; the input reads as it did. -/
def instructionCalculatesSpec : ChangeSpec := { name := "instructionCalculates", fn := fun _ => fun
  | [d1, d2] => { results := [.lit (.bool true)], args := [d1, d2] }
  | _ => none }
def instructionCalculatesRow : OpenClaim := { program := "ytchkbidekmaaiaa", sum := "313257fef5d61a703d7a2fceb7e359741c6c8c98e48be8acdbf4d32cb96920d9", func := "compactor/compactorlaw15.InstructionCalculates", spec := "instructionCalculates", unfollowed := true, recurses := true, apart := false }
def InstructionCalculatesSaid : Prop := instructionCalculatesRow.holds Try.pinned (OpenSpec.ofChange instructionCalculatesSpec)

/-- ITS FALSE NEIGHBOUR: 'it returns false'. Refute it at one input. -/
def instructionCalculatesWrong : ChangeSpec := { name := "instructionCalculates", fn := fun _ => fun
  | [d1, d2] => { results := [.lit (.bool false)], args := [d1, d2] }
  | _ => none }
def InstructionCalculatesWrongFalsely : Prop := instructionCalculatesRow.holds Try.pinned (OpenSpec.ofChange instructionCalculatesWrong)

/-- 'compactorlaw15.InstructionDecides': WHATEVER THE INPUT: true; the input reads as it did. -/
def instructionDecidesSpec : ChangeSpec := { name := "instructionDecides", fn := fun _ => fun
  | [d1, d2] => { results := [.lit (.bool true)], args := [d1, d2] }
  | _ => none }
def instructionDecidesRow : OpenClaim := { program := "ytchkbidekmaaiaa", sum := "313257fef5d61a703d7a2fceb7e359741c6c8c98e48be8acdbf4d32cb96920d9", func := "compactor/compactorlaw15.InstructionDecides", spec := "instructionDecides", unfollowed := true, recurses := true, apart := false }
def InstructionDecidesSaid : Prop := instructionDecidesRow.holds Try.pinned (OpenSpec.ofChange instructionDecidesSpec)

/-- ITS FALSE NEIGHBOUR: 'it returns false'. Refute it at one input. -/
def instructionDecidesWrong : ChangeSpec := { name := "instructionDecides", fn := fun _ => fun
  | [d1, d2] => { results := [.lit (.bool false)], args := [d1, d2] }
  | _ => none }
def InstructionDecidesWrongFalsely : Prop := instructionDecidesRow.holds Try.pinned (OpenSpec.ofChange instructionDecidesWrong)

/-- 'compactorlaw15.InstructionChecks': WHATEVER THE INPUT: true; the input reads as it did. -/
def instructionChecksSpec : ChangeSpec := { name := "instructionChecks", fn := fun _ => fun
  | [d] => { results := [.lit (.bool true)], args := [d] }
  | _ => none }
def instructionChecksRow : OpenClaim := { program := "ytchkbidekmaaiaa", sum := "313257fef5d61a703d7a2fceb7e359741c6c8c98e48be8acdbf4d32cb96920d9", func := "compactor/compactorlaw15.InstructionChecks", spec := "instructionChecks", unfollowed := true, recurses := true, apart := false }
def InstructionChecksSaid : Prop := instructionChecksRow.holds Try.pinned (OpenSpec.ofChange instructionChecksSpec)

/-- ITS FALSE NEIGHBOUR: 'it returns false'. Refute it at one input. -/
def instructionChecksWrong : ChangeSpec := { name := "instructionChecks", fn := fun _ => fun
  | [d] => { results := [.lit (.bool false)], args := [d] }
  | _ => none }
def InstructionChecksWrongFalsely : Prop := instructionChecksRow.holds Try.pinned (OpenSpec.ofChange instructionChecksWrong)

/-- 'compactorlaw15.InstructionNames': WHATEVER THE INPUT: true; the input reads as it did. -/
def instructionNamesSpec : ChangeSpec := { name := "instructionNames", fn := fun _ => fun
  | [d] => { results := [.lit (.bool true)], args := [d] }
  | _ => none }
def instructionNamesRow : OpenClaim := { program := "ytchkbidekmaaiaa", sum := "313257fef5d61a703d7a2fceb7e359741c6c8c98e48be8acdbf4d32cb96920d9", func := "compactor/compactorlaw15.InstructionNames", spec := "instructionNames", unfollowed := true, recurses := true, apart := false }
def InstructionNamesSaid : Prop := instructionNamesRow.holds Try.pinned (OpenSpec.ofChange instructionNamesSpec)

/-- ITS FALSE NEIGHBOUR: 'it returns false'. Refute it at one input. -/
def instructionNamesWrong : ChangeSpec := { name := "instructionNames", fn := fun _ => fun
  | [d] => { results := [.lit (.bool false)], args := [d] }
  | _ => none }
def InstructionNamesWrongFalsely : Prop := instructionNamesRow.holds Try.pinned (OpenSpec.ofChange instructionNamesWrong)

/- THE SECOND FORM. 'bulk': how many values and letters a reading holds, each counted each time it is reached (what is shared counts as often as it is met; a slice's spare places count too). A statement '..UptoSaid' is the law's where the arguments, and the package variables that the reading takes, are together of bulk at most 1048576: NARROWER than '..Said'. Prove '..Said' where nothing that the law and all that it calls make is longer than what came in: it says more and counts as full. Else prove '..UptoSaid'. A law counts once. -/
mutual
def uptoBulk {H : Type} : DataW H → Nat
  | .lit (.string bytes) => bytes.length + 1
  | .lit _ => 1
  | .nil => 1
  | .ptr d => uptoBulk d + 1
  | .slice elems spare => uptoBulkAll elems + uptoBulkAll spare + 1
  | .agg parts => uptoBulkAll parts + 1
  | .iface _ d => uptoBulk d + 1
  | .map entries => uptoBulkEntries entries + 1
  | .held _ => 1
def uptoBulkAll {H : Type} : List (DataW H) → Nat
  | [] => 0
  | d :: r => uptoBulk d + uptoBulkAll r
def uptoBulkEntries {H : Type} : List (Lit × DataW H) → Nat
  | [] => 0
  | x :: r => uptoBulkEntry x + uptoBulkEntries r
def uptoBulkEntry {H : Type} : Lit × DataW H → Nat
  | (.string bytes, d) => bytes.length + uptoBulk d + 1
  | (_, d) => uptoBulk d + 1
 end
def uptoSmall : (H : Type) → List (DataW H) → Bool := fun _ ds => decide (uptoBulkAll ds ≤ 1048576)
def OpenSpec.upto (s : _root_.Go.ChangeSpec) : _root_.Go.OpenSpec := { _root_.Go.OpenSpec.ofChange s with cond := some uptoSmall }

/-- 'compactorlaw15.InstructionApplies', WHERE WHAT IT READS IS OF BULK AT MOST 1048576: true; the input reads as it did. -/
def instructionAppliesUptoRow : OpenClaim := { program := "ytchkbidekmaaiaa", sum := "313257fef5d61a703d7a2fceb7e359741c6c8c98e48be8acdbf4d32cb96920d9", func := "compactor/compactorlaw15.InstructionApplies", spec := "instructionApplies", unfollowed := true, recurses := true, apart := false, narrowed := true }
def InstructionAppliesUptoSaid : Prop := instructionAppliesUptoRow.holds Try.pinned (OpenSpec.upto instructionAppliesSpec)

/-- 'compactorlaw15.InstructionEncodes', WHERE WHAT IT READS IS OF BULK AT MOST 1048576: true; the input reads as it did. -/
def instructionEncodesUptoRow : OpenClaim := { program := "ytchkbidekmaaiaa", sum := "313257fef5d61a703d7a2fceb7e359741c6c8c98e48be8acdbf4d32cb96920d9", func := "compactor/compactorlaw15.InstructionEncodes", spec := "instructionEncodes", unfollowed := true, recurses := true, apart := false, narrowed := true }
def InstructionEncodesUptoSaid : Prop := instructionEncodesUptoRow.holds Try.pinned (OpenSpec.upto instructionEncodesSpec)

/-- 'compactorlaw15.InstructionDecodes', WHERE WHAT IT READS IS OF BULK AT MOST 1048576: true; the input reads as it did. -/
def instructionDecodesUptoRow : OpenClaim := { program := "ytchkbidekmaaiaa", sum := "313257fef5d61a703d7a2fceb7e359741c6c8c98e48be8acdbf4d32cb96920d9", func := "compactor/compactorlaw15.InstructionDecodes", spec := "instructionDecodes", unfollowed := true, recurses := true, apart := false, narrowed := true }
def InstructionDecodesUptoSaid : Prop := instructionDecodesUptoRow.holds Try.pinned (OpenSpec.upto instructionDecodesSpec)

/-- 'compactorlaw15.InstructionReturns', WHERE WHAT IT READS IS OF BULK AT MOST 1048576: true; the input reads as it did. -/
def instructionReturnsUptoRow : OpenClaim := { program := "ytchkbidekmaaiaa", sum := "313257fef5d61a703d7a2fceb7e359741c6c8c98e48be8acdbf4d32cb96920d9", func := "compactor/compactorlaw15.InstructionReturns", spec := "instructionReturns", unfollowed := true, recurses := true, apart := false, narrowed := true }
def InstructionReturnsUptoSaid : Prop := instructionReturnsUptoRow.holds Try.pinned (OpenSpec.upto instructionReturnsSpec)

/-- 'compactorlaw15.InstructionCalculates', WHERE WHAT IT READS IS OF BULK AT MOST 1048576: true; the input reads as it did. -/
def instructionCalculatesUptoRow : OpenClaim := { program := "ytchkbidekmaaiaa", sum := "313257fef5d61a703d7a2fceb7e359741c6c8c98e48be8acdbf4d32cb96920d9", func := "compactor/compactorlaw15.InstructionCalculates", spec := "instructionCalculates", unfollowed := true, recurses := true, apart := false, narrowed := true }
def InstructionCalculatesUptoSaid : Prop := instructionCalculatesUptoRow.holds Try.pinned (OpenSpec.upto instructionCalculatesSpec)

/-- 'compactorlaw15.InstructionDecides', WHERE WHAT IT READS IS OF BULK AT MOST 1048576: true; the input reads as it did. -/
def instructionDecidesUptoRow : OpenClaim := { program := "ytchkbidekmaaiaa", sum := "313257fef5d61a703d7a2fceb7e359741c6c8c98e48be8acdbf4d32cb96920d9", func := "compactor/compactorlaw15.InstructionDecides", spec := "instructionDecides", unfollowed := true, recurses := true, apart := false, narrowed := true }
def InstructionDecidesUptoSaid : Prop := instructionDecidesUptoRow.holds Try.pinned (OpenSpec.upto instructionDecidesSpec)

/-- 'compactorlaw15.InstructionChecks', WHERE WHAT IT READS IS OF BULK AT MOST 1048576: true; the input reads as it did. -/
def instructionChecksUptoRow : OpenClaim := { program := "ytchkbidekmaaiaa", sum := "313257fef5d61a703d7a2fceb7e359741c6c8c98e48be8acdbf4d32cb96920d9", func := "compactor/compactorlaw15.InstructionChecks", spec := "instructionChecks", unfollowed := true, recurses := true, apart := false, narrowed := true }
def InstructionChecksUptoSaid : Prop := instructionChecksUptoRow.holds Try.pinned (OpenSpec.upto instructionChecksSpec)

/-- 'compactorlaw15.InstructionNames', WHERE WHAT IT READS IS OF BULK AT MOST 1048576: true; the input reads as it did. -/
def instructionNamesUptoRow : OpenClaim := { program := "ytchkbidekmaaiaa", sum := "313257fef5d61a703d7a2fceb7e359741c6c8c98e48be8acdbf4d32cb96920d9", func := "compactor/compactorlaw15.InstructionNames", spec := "instructionNames", unfollowed := true, recurses := true, apart := false, narrowed := true }
def InstructionNamesUptoSaid : Prop := instructionNamesUptoRow.holds Try.pinned (OpenSpec.upto instructionNamesSpec)

end Rows
end Go.Proofs.Ytchkbidekmaaiaa
