/-
  No cell of these rows narrows 'for every input' (looked for: loops, veiled, ifaces, maps, wideKeys, modest, calm, conditions, laid).
  DERIVED. THE GIVEN ROWS OF THIS SEAT. 7 by the template 'for every input the law returns true; each argument reads behind the call as it read before'; 0 by the template 'total and deterministic' (their statements: YtgjjklajipekdaaGreatTotals.lean).
  GIVEN WITH THE SEED: the statements are not yours to turn. If you find one false, say at which input.
  Laid BY PROGRAM, IN A SANDBOX (cutbox-rows.mjs): the forced cells as the released guide's own fill.sh prints them over the translation e2c003cf4d501eec… (all of the seat's roots in one cut). By AI agents, Wed Nov 11 2026. No macro, syntax, notation, axiom, sorry.
-/
import Derived.Test.YtgjjklajipekdaaGreatChecked
import GoSem.Claim
import GoSem.ClaimJoined
import GoSem.ClaimMapViews
import Derived.JoinedTies
import Derived.KernelRfl
namespace Go.Proofs.YtgjjklajipekdaaGreat
/- THE CELL 'sum', in the pinned program and in every row, IS THE sha256 OF THE DUMP (.gsa) THAT YtgjjklajipekdaaGreatProg.lean LOADS. Nothing in Lean hashes anything: it is a label: what it is worth is what the hold of that sum in a sandbox is worth. -/
noncomputable def Tryz.pinned : Pinned := { name := "ytgjjklajipekdaagreat", sum := "e2c003cf4d501eece882c29a9a6ef32078ba597d177ece882c3590070816b227", checked := Tryz.checked }
namespace Rows
def none {H : Type} : Left H := { results := [], args := [] }

/-- 'compactorlaw22.InterpreterStarts': WHATEVER THE INPUT: true; the input reads as it did. -/
def interpreterStartsSpec : ChangeSpec := { name := "interpreterStarts", fn := fun _ => fun
  | [d1, d2] => { results := [.lit (.bool true)], args := [d1, d2] }
  | _ => none }
def interpreterStartsRow : OpenClaim := { program := "ytgjjklajipekdaagreat", sum := "e2c003cf4d501eece882c29a9a6ef32078ba597d177ece882c3590070816b227", func := "compactor/compactorlaw22.InterpreterStarts", spec := "interpreterStarts", unfollowed := true, recurses := true, apart := false }
def InterpreterStartsSaid : Prop := interpreterStartsRow.holds Tryz.pinned (OpenSpec.ofChange interpreterStartsSpec)

/-- ITS FALSE NEIGHBOUR: 'it returns false'. Refute it at one input. -/
def interpreterStartsWrong : ChangeSpec := { name := "interpreterStarts", fn := fun _ => fun
  | [d1, d2] => { results := [.lit (.bool false)], args := [d1, d2] }
  | _ => none }
def InterpreterStartsWrongFalsely : Prop := interpreterStartsRow.holds Tryz.pinned (OpenSpec.ofChange interpreterStartsWrong)

/-- 'compactorlaw22.InterpreterRuns': WHATEVER THE INPUT: true; the input reads as it did. -/
def interpreterRunsSpec : ChangeSpec := { name := "interpreterRuns", fn := fun _ => fun
  | [d1, d2, d3] => { results := [.lit (.bool true)], args := [d1, d2, d3] }
  | _ => none }
def interpreterRunsRow : OpenClaim := { program := "ytgjjklajipekdaagreat", sum := "e2c003cf4d501eece882c29a9a6ef32078ba597d177ece882c3590070816b227", func := "compactor/compactorlaw22.InterpreterRuns", spec := "interpreterRuns", unfollowed := true, recurses := true, apart := false }
def InterpreterRunsSaid : Prop := interpreterRunsRow.holds Tryz.pinned (OpenSpec.ofChange interpreterRunsSpec)

/-- ITS FALSE NEIGHBOUR: 'it returns false'. Refute it at one input. -/
def interpreterRunsWrong : ChangeSpec := { name := "interpreterRuns", fn := fun _ => fun
  | [d1, d2, d3] => { results := [.lit (.bool false)], args := [d1, d2, d3] }
  | _ => none }
def InterpreterRunsWrongFalsely : Prop := interpreterRunsRow.holds Tryz.pinned (OpenSpec.ofChange interpreterRunsWrong)

/-- 'compactorlaw22.InterpreterFeeds': WHATEVER THE INPUT: true; the input reads as it did. -/
def interpreterFeedsSpec : ChangeSpec := { name := "interpreterFeeds", fn := fun _ => fun
  | [d1, d2, d3] => { results := [.lit (.bool true)], args := [d1, d2, d3] }
  | _ => none }
def interpreterFeedsRow : OpenClaim := { program := "ytgjjklajipekdaagreat", sum := "e2c003cf4d501eece882c29a9a6ef32078ba597d177ece882c3590070816b227", func := "compactor/compactorlaw22.InterpreterFeeds", spec := "interpreterFeeds", unfollowed := true, recurses := true, apart := false }
def InterpreterFeedsSaid : Prop := interpreterFeedsRow.holds Tryz.pinned (OpenSpec.ofChange interpreterFeedsSpec)

/-- ITS FALSE NEIGHBOUR: 'it returns false'. Refute it at one input. -/
def interpreterFeedsWrong : ChangeSpec := { name := "interpreterFeeds", fn := fun _ => fun
  | [d1, d2, d3] => { results := [.lit (.bool false)], args := [d1, d2, d3] }
  | _ => none }
def InterpreterFeedsWrongFalsely : Prop := interpreterFeedsRow.holds Tryz.pinned (OpenSpec.ofChange interpreterFeedsWrong)

/-- 'compactorlaw22.InterpreterSplits': WHATEVER THE INPUT: true; the input reads as it did. -/
def interpreterSplitsSpec : ChangeSpec := { name := "interpreterSplits", fn := fun _ => fun
  | [d1, d2] => { results := [.lit (.bool true)], args := [d1, d2] }
  | _ => none }
def interpreterSplitsRow : OpenClaim := { program := "ytgjjklajipekdaagreat", sum := "e2c003cf4d501eece882c29a9a6ef32078ba597d177ece882c3590070816b227", func := "compactor/compactorlaw22.InterpreterSplits", spec := "interpreterSplits", unfollowed := true, recurses := true, apart := false }
def InterpreterSplitsSaid : Prop := interpreterSplitsRow.holds Tryz.pinned (OpenSpec.ofChange interpreterSplitsSpec)

/-- ITS FALSE NEIGHBOUR: 'it returns false'. Refute it at one input. -/
def interpreterSplitsWrong : ChangeSpec := { name := "interpreterSplits", fn := fun _ => fun
  | [d1, d2] => { results := [.lit (.bool false)], args := [d1, d2] }
  | _ => none }
def InterpreterSplitsWrongFalsely : Prop := interpreterSplitsRow.holds Tryz.pinned (OpenSpec.ofChange interpreterSplitsWrong)

/-- 'compactorlaw22.InterpreterSpends': WHATEVER THE INPUT: true; the input reads as it did. -/
def interpreterSpendsSpec : ChangeSpec := { name := "interpreterSpends", fn := fun _ => fun
  | [d1, d2, d3] => { results := [.lit (.bool true)], args := [d1, d2, d3] }
  | _ => none }
def interpreterSpendsRow : OpenClaim := { program := "ytgjjklajipekdaagreat", sum := "e2c003cf4d501eece882c29a9a6ef32078ba597d177ece882c3590070816b227", func := "compactor/compactorlaw22.InterpreterSpends", spec := "interpreterSpends", unfollowed := true, recurses := true, apart := false }
def InterpreterSpendsSaid : Prop := interpreterSpendsRow.holds Tryz.pinned (OpenSpec.ofChange interpreterSpendsSpec)

/-- ITS FALSE NEIGHBOUR: 'it returns false'. Refute it at one input. -/
def interpreterSpendsWrong : ChangeSpec := { name := "interpreterSpends", fn := fun _ => fun
  | [d1, d2, d3] => { results := [.lit (.bool false)], args := [d1, d2, d3] }
  | _ => none }
def InterpreterSpendsWrongFalsely : Prop := interpreterSpendsRow.holds Tryz.pinned (OpenSpec.ofChange interpreterSpendsWrong)

/-- 'compactorlaw22.InterpreterRepeats': WHATEVER THE INPUT: true; the input reads as it did. -/
def interpreterRepeatsSpec : ChangeSpec := { name := "interpreterRepeats", fn := fun _ => fun
  | [d1, d2] => { results := [.lit (.bool true)], args := [d1, d2] }
  | _ => none }
def interpreterRepeatsRow : OpenClaim := { program := "ytgjjklajipekdaagreat", sum := "e2c003cf4d501eece882c29a9a6ef32078ba597d177ece882c3590070816b227", func := "compactor/compactorlaw22.InterpreterRepeats", spec := "interpreterRepeats", unfollowed := true, recurses := true, apart := false }
def InterpreterRepeatsSaid : Prop := interpreterRepeatsRow.holds Tryz.pinned (OpenSpec.ofChange interpreterRepeatsSpec)

/-- ITS FALSE NEIGHBOUR: 'it returns false'. Refute it at one input. -/
def interpreterRepeatsWrong : ChangeSpec := { name := "interpreterRepeats", fn := fun _ => fun
  | [d1, d2] => { results := [.lit (.bool false)], args := [d1, d2] }
  | _ => none }
def InterpreterRepeatsWrongFalsely : Prop := interpreterRepeatsRow.holds Tryz.pinned (OpenSpec.ofChange interpreterRepeatsWrong)

/-- 'compactorlaw22.InterpreterChooses': WHATEVER THE INPUT: true; the input reads as it did. -/
def interpreterChoosesSpec : ChangeSpec := { name := "interpreterChooses", fn := fun _ => fun
  | [d1, d2, d3] => { results := [.lit (.bool true)], args := [d1, d2, d3] }
  | _ => none }
def interpreterChoosesRow : OpenClaim := { program := "ytgjjklajipekdaagreat", sum := "e2c003cf4d501eece882c29a9a6ef32078ba597d177ece882c3590070816b227", func := "compactor/compactorlaw22.InterpreterChooses", spec := "interpreterChooses", unfollowed := true, recurses := true, apart := false }
def InterpreterChoosesSaid : Prop := interpreterChoosesRow.holds Tryz.pinned (OpenSpec.ofChange interpreterChoosesSpec)

/-- ITS FALSE NEIGHBOUR: 'it returns false'. Refute it at one input. -/
def interpreterChoosesWrong : ChangeSpec := { name := "interpreterChooses", fn := fun _ => fun
  | [d1, d2, d3] => { results := [.lit (.bool false)], args := [d1, d2, d3] }
  | _ => none }
def InterpreterChoosesWrongFalsely : Prop := interpreterChoosesRow.holds Tryz.pinned (OpenSpec.ofChange interpreterChoosesWrong)

/- THE SECOND FORM. 'bulk': how many values and letters a reading holds, each counted each time it is reached (what is shared counts as often as it is met; a slice's spare places count too). A statement '..UptoSaid' is the law's where the arguments, and the package variables that the reading takes, are together of bulk at most 1048576: NARROWER than '..Said'. Prove '..Said' where nothing that the law and all that it calls make is longer than what came in: it says more and counts as full. Else prove '..UptoSaid'. A law counts once. -/
mutual
def uptoBulk {H : Type} : DataW H → Nat
  | .lit (.string bytes) => bytes.length + 1
  | .lit _ => 1
  | .nil => 1
  | .ptr d => uptoBulk d + 1
  | .slice elems spare => uptoBulkAll elems + uptoBulkAll spare + 1
  | .agg parts => uptoBulkAll parts + 1
  | .iface _ d => uptoBulk d + 1
  | .map entries => uptoBulkEntries entries + 1
  | .held _ => 1
def uptoBulkAll {H : Type} : List (DataW H) → Nat
  | [] => 0
  | d :: r => uptoBulk d + uptoBulkAll r
def uptoBulkEntries {H : Type} : List (Lit × DataW H) → Nat
  | [] => 0
  | x :: r => uptoBulkEntry x + uptoBulkEntries r
def uptoBulkEntry {H : Type} : Lit × DataW H → Nat
  | (.string bytes, d) => bytes.length + uptoBulk d + 1
  | (_, d) => uptoBulk d + 1
 end
def uptoSmall : (H : Type) → List (DataW H) → Bool := fun _ ds => decide (uptoBulkAll ds ≤ 1048576)
def OpenSpec.upto (s : _root_.Go.ChangeSpec) : _root_.Go.OpenSpec := { _root_.Go.OpenSpec.ofChange s with cond := some uptoSmall }

/-- 'compactorlaw22.InterpreterStarts', WHERE WHAT IT READS IS OF BULK AT MOST 1048576: true; the input reads as it did. -/
def interpreterStartsUptoRow : OpenClaim := { program := "ytgjjklajipekdaagreat", sum := "e2c003cf4d501eece882c29a9a6ef32078ba597d177ece882c3590070816b227", func := "compactor/compactorlaw22.InterpreterStarts", spec := "interpreterStarts", unfollowed := true, recurses := true, apart := false, narrowed := true }
def InterpreterStartsUptoSaid : Prop := interpreterStartsUptoRow.holds Tryz.pinned (OpenSpec.upto interpreterStartsSpec)

/-- 'compactorlaw22.InterpreterRuns', WHERE WHAT IT READS IS OF BULK AT MOST 1048576: true; the input reads as it did. -/
def interpreterRunsUptoRow : OpenClaim := { program := "ytgjjklajipekdaagreat", sum := "e2c003cf4d501eece882c29a9a6ef32078ba597d177ece882c3590070816b227", func := "compactor/compactorlaw22.InterpreterRuns", spec := "interpreterRuns", unfollowed := true, recurses := true, apart := false, narrowed := true }
def InterpreterRunsUptoSaid : Prop := interpreterRunsUptoRow.holds Tryz.pinned (OpenSpec.upto interpreterRunsSpec)

/-- 'compactorlaw22.InterpreterFeeds', WHERE WHAT IT READS IS OF BULK AT MOST 1048576: true; the input reads as it did. -/
def interpreterFeedsUptoRow : OpenClaim := { program := "ytgjjklajipekdaagreat", sum := "e2c003cf4d501eece882c29a9a6ef32078ba597d177ece882c3590070816b227", func := "compactor/compactorlaw22.InterpreterFeeds", spec := "interpreterFeeds", unfollowed := true, recurses := true, apart := false, narrowed := true }
def InterpreterFeedsUptoSaid : Prop := interpreterFeedsUptoRow.holds Tryz.pinned (OpenSpec.upto interpreterFeedsSpec)

/-- 'compactorlaw22.InterpreterSplits', WHERE WHAT IT READS IS OF BULK AT MOST 1048576: true; the input reads as it did. -/
def interpreterSplitsUptoRow : OpenClaim := { program := "ytgjjklajipekdaagreat", sum := "e2c003cf4d501eece882c29a9a6ef32078ba597d177ece882c3590070816b227", func := "compactor/compactorlaw22.InterpreterSplits", spec := "interpreterSplits", unfollowed := true, recurses := true, apart := false, narrowed := true }
def InterpreterSplitsUptoSaid : Prop := interpreterSplitsUptoRow.holds Tryz.pinned (OpenSpec.upto interpreterSplitsSpec)

/-- 'compactorlaw22.InterpreterSpends', WHERE WHAT IT READS IS OF BULK AT MOST 1048576: true; the input reads as it did. -/
def interpreterSpendsUptoRow : OpenClaim := { program := "ytgjjklajipekdaagreat", sum := "e2c003cf4d501eece882c29a9a6ef32078ba597d177ece882c3590070816b227", func := "compactor/compactorlaw22.InterpreterSpends", spec := "interpreterSpends", unfollowed := true, recurses := true, apart := false, narrowed := true }
def InterpreterSpendsUptoSaid : Prop := interpreterSpendsUptoRow.holds Tryz.pinned (OpenSpec.upto interpreterSpendsSpec)

/-- 'compactorlaw22.InterpreterRepeats', WHERE WHAT IT READS IS OF BULK AT MOST 1048576: true; the input reads as it did. -/
def interpreterRepeatsUptoRow : OpenClaim := { program := "ytgjjklajipekdaagreat", sum := "e2c003cf4d501eece882c29a9a6ef32078ba597d177ece882c3590070816b227", func := "compactor/compactorlaw22.InterpreterRepeats", spec := "interpreterRepeats", unfollowed := true, recurses := true, apart := false, narrowed := true }
def InterpreterRepeatsUptoSaid : Prop := interpreterRepeatsUptoRow.holds Tryz.pinned (OpenSpec.upto interpreterRepeatsSpec)

/-- 'compactorlaw22.InterpreterChooses', WHERE WHAT IT READS IS OF BULK AT MOST 1048576: true; the input reads as it did. -/
def interpreterChoosesUptoRow : OpenClaim := { program := "ytgjjklajipekdaagreat", sum := "e2c003cf4d501eece882c29a9a6ef32078ba597d177ece882c3590070816b227", func := "compactor/compactorlaw22.InterpreterChooses", spec := "interpreterChooses", unfollowed := true, recurses := true, apart := false, narrowed := true }
def InterpreterChoosesUptoSaid : Prop := interpreterChoosesUptoRow.holds Tryz.pinned (OpenSpec.upto interpreterChoosesSpec)

end Rows
end Go.Proofs.YtgjjklajipekdaaGreat
