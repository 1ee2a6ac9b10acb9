/-
  No cell of these rows narrows 'for every input' (looked for: loops, veiled, ifaces, maps, wideKeys, modest, calm, conditions, laid).
  DERIVED. THE GIVEN ROWS OF THIS SEAT. 6 by the template 'for every input the law returns true; each argument reads behind the call as it read before'; 0 by the template 'total and deterministic' (their statements: YtcnbljohhajkhaaTotals.lean).
  GIVEN WITH THE SEED: the statements are not yours to turn. If you find one false, say at which input.
  Laid BY PROGRAM, IN A SANDBOX (cutbox-rows.mjs): the forced cells as the released guide's own fill.sh prints them over the translation 11461429a508f46e… (all of the seat's roots in one cut). By AI agents, Wed Nov 11 2026. No macro, syntax, notation, axiom, sorry.
-/
import Derived.Test.YtcnbljohhajkhaaChecked
import GoSem.Claim
import GoSem.ClaimJoined
import GoSem.ClaimMapViews
import Derived.JoinedTies
import Derived.KernelRfl
namespace Go.Proofs.Ytcnbljohhajkhaa
/- THE CELL 'sum', in the pinned program and in every row, IS THE sha256 OF THE DUMP (.gsa) THAT YtcnbljohhajkhaaProg.lean LOADS. Nothing in Lean hashes anything: it is a label: what it is worth is what the hold of that sum in a sandbox is worth. -/
noncomputable def Try.pinned : Pinned := { name := "ytcnbljohhajkhaa", sum := "11461429a508f46ebc3eae7e18cd67addaabf25c31995070a1aa4bad5b7ff3c4", checked := Try.checked }
namespace Rows
def none {H : Type} : Left H := { results := [], args := [] }

/-- 'compactorlaw18.FlowParses': WHATEVER THE INPUT: true; the input reads as it did. -/
def flowParsesSpec : ChangeSpec := { name := "flowParses", fn := fun _ => fun
  | [d] => { results := [.lit (.bool true)], args := [d] }
  | _ => none }
def flowParsesRow : OpenClaim := { program := "ytcnbljohhajkhaa", sum := "11461429a508f46ebc3eae7e18cd67addaabf25c31995070a1aa4bad5b7ff3c4", func := "compactor/compactorlaw18.FlowParses", spec := "flowParses", recurses := true, apart := false }
def FlowParsesSaid : Prop := flowParsesRow.holds Try.pinned (OpenSpec.ofChange flowParsesSpec)

/-- ITS FALSE NEIGHBOUR: 'it returns false'. Refute it at one input. -/
def flowParsesWrong : ChangeSpec := { name := "flowParses", fn := fun _ => fun
  | [d] => { results := [.lit (.bool false)], args := [d] }
  | _ => none }
def FlowParsesWrongFalsely : Prop := flowParsesRow.holds Try.pinned (OpenSpec.ofChange flowParsesWrong)

/-- 'compactorlaw18.FlowPairs': WHATEVER THE INPUT: true; the input reads as it did. -/
def flowPairsSpec : ChangeSpec := { name := "flowPairs", fn := fun _ => fun
  | [d] => { results := [.lit (.bool true)], args := [d] }
  | _ => none }
def flowPairsRow : OpenClaim := { program := "ytcnbljohhajkhaa", sum := "11461429a508f46ebc3eae7e18cd67addaabf25c31995070a1aa4bad5b7ff3c4", func := "compactor/compactorlaw18.FlowPairs", spec := "flowPairs", recurses := true, apart := false }
def FlowPairsSaid : Prop := flowPairsRow.holds Try.pinned (OpenSpec.ofChange flowPairsSpec)

/-- ITS FALSE NEIGHBOUR: 'it returns false'. Refute it at one input. -/
def flowPairsWrong : ChangeSpec := { name := "flowPairs", fn := fun _ => fun
  | [d] => { results := [.lit (.bool false)], args := [d] }
  | _ => none }
def FlowPairsWrongFalsely : Prop := flowPairsRow.holds Try.pinned (OpenSpec.ofChange flowPairsWrong)

/-- 'compactorlaw18.FlowReturns': WHATEVER THE INPUT: true; the input reads as it did. -/
def flowReturnsSpec : ChangeSpec := { name := "flowReturns", fn := fun _ => fun
  | [d] => { results := [.lit (.bool true)], args := [d] }
  | _ => none }
def flowReturnsRow : OpenClaim := { program := "ytcnbljohhajkhaa", sum := "11461429a508f46ebc3eae7e18cd67addaabf25c31995070a1aa4bad5b7ff3c4", func := "compactor/compactorlaw18.FlowReturns", spec := "flowReturns", recurses := true, apart := false }
def FlowReturnsSaid : Prop := flowReturnsRow.holds Try.pinned (OpenSpec.ofChange flowReturnsSpec)

/-- ITS FALSE NEIGHBOUR: 'it returns false'. Refute it at one input. -/
def flowReturnsWrong : ChangeSpec := { name := "flowReturns", fn := fun _ => fun
  | [d] => { results := [.lit (.bool false)], args := [d] }
  | _ => none }
def FlowReturnsWrongFalsely : Prop := flowReturnsRow.holds Try.pinned (OpenSpec.ofChange flowReturnsWrong)

/-- 'compactorlaw18.FlowLeadsBack': WHATEVER THE INPUT: true; the input reads as it did. -/
def flowLeadsBackSpec : ChangeSpec := { name := "flowLeadsBack", fn := fun _ => fun
  | [d] => { results := [.lit (.bool true)], args := [d] }
  | _ => none }
def flowLeadsBackRow : OpenClaim := { program := "ytcnbljohhajkhaa", sum := "11461429a508f46ebc3eae7e18cd67addaabf25c31995070a1aa4bad5b7ff3c4", func := "compactor/compactorlaw18.FlowLeadsBack", spec := "flowLeadsBack", recurses := true, apart := false }
def FlowLeadsBackSaid : Prop := flowLeadsBackRow.holds Try.pinned (OpenSpec.ofChange flowLeadsBackSpec)

/-- ITS FALSE NEIGHBOUR: 'it returns false'. Refute it at one input. -/
def flowLeadsBackWrong : ChangeSpec := { name := "flowLeadsBack", fn := fun _ => fun
  | [d] => { results := [.lit (.bool false)], args := [d] }
  | _ => none }
def FlowLeadsBackWrongFalsely : Prop := flowLeadsBackRow.holds Try.pinned (OpenSpec.ofChange flowLeadsBackWrong)

/-- 'compactorlaw18.FlowWraps': WHATEVER THE INPUT: true; the input reads as it did. -/
def flowWrapsSpec : ChangeSpec := { name := "flowWraps", fn := fun _ => fun
  | [d1, d2] => { results := [.lit (.bool true)], args := [d1, d2] }
  | _ => none }
def flowWrapsRow : OpenClaim := { program := "ytcnbljohhajkhaa", sum := "11461429a508f46ebc3eae7e18cd67addaabf25c31995070a1aa4bad5b7ff3c4", func := "compactor/compactorlaw18.FlowWraps", spec := "flowWraps", recurses := true, apart := false }
def FlowWrapsSaid : Prop := flowWrapsRow.holds Try.pinned (OpenSpec.ofChange flowWrapsSpec)

/-- ITS FALSE NEIGHBOUR: 'it returns false'. Refute it at one input. -/
def flowWrapsWrong : ChangeSpec := { name := "flowWraps", fn := fun _ => fun
  | [d1, d2] => { results := [.lit (.bool false)], args := [d1, d2] }
  | _ => none }
def FlowWrapsWrongFalsely : Prop := flowWrapsRow.holds Try.pinned (OpenSpec.ofChange flowWrapsWrong)

/-- 'compactorlaw18.FlowJoins': WHATEVER THE INPUT: true; the input reads as it did. -/
def flowJoinsSpec : ChangeSpec := { name := "flowJoins", fn := fun _ => fun
  | [d1, d2] => { results := [.lit (.bool true)], args := [d1, d2] }
  | _ => none }
def flowJoinsRow : OpenClaim := { program := "ytcnbljohhajkhaa", sum := "11461429a508f46ebc3eae7e18cd67addaabf25c31995070a1aa4bad5b7ff3c4", func := "compactor/compactorlaw18.FlowJoins", spec := "flowJoins", recurses := true, apart := false }
def FlowJoinsSaid : Prop := flowJoinsRow.holds Try.pinned (OpenSpec.ofChange flowJoinsSpec)

/-- ITS FALSE NEIGHBOUR: 'it returns false'. Refute it at one input. -/
def flowJoinsWrong : ChangeSpec := { name := "flowJoins", fn := fun _ => fun
  | [d1, d2] => { results := [.lit (.bool false)], args := [d1, d2] }
  | _ => none }
def FlowJoinsWrongFalsely : Prop := flowJoinsRow.holds Try.pinned (OpenSpec.ofChange flowJoinsWrong)

/- THE SECOND FORM. 'bulk': how many values and letters a reading holds, each counted each time it is reached (what is shared counts as often as it is met; a slice's spare places count too). A statement '..UptoSaid' is the law's where the arguments, and the package variables that the reading takes, are together of bulk at most 1048576: NARROWER than '..Said'. Prove '..Said' where nothing that the law and all that it calls make is longer than what came in: it says more and counts as full. Else prove '..UptoSaid'. A law counts once. -/
mutual
def uptoBulk {H : Type} : DataW H → Nat
  | .lit (.string bytes) => bytes.length + 1
  | .lit _ => 1
  | .nil => 1
  | .ptr d => uptoBulk d + 1
  | .slice elems spare => uptoBulkAll elems + uptoBulkAll spare + 1
  | .agg parts => uptoBulkAll parts + 1
  | .iface _ d => uptoBulk d + 1
  | .map entries => uptoBulkEntries entries + 1
  | .held _ => 1
def uptoBulkAll {H : Type} : List (DataW H) → Nat
  | [] => 0
  | d :: r => uptoBulk d + uptoBulkAll r
def uptoBulkEntries {H : Type} : List (Lit × DataW H) → Nat
  | [] => 0
  | x :: r => uptoBulkEntry x + uptoBulkEntries r
def uptoBulkEntry {H : Type} : Lit × DataW H → Nat
  | (.string bytes, d) => bytes.length + uptoBulk d + 1
  | (_, d) => uptoBulk d + 1
 end
def uptoSmall : (H : Type) → List (DataW H) → Bool := fun _ ds => decide (uptoBulkAll ds ≤ 1048576)
def OpenSpec.upto (s : _root_.Go.ChangeSpec) : _root_.Go.OpenSpec := { _root_.Go.OpenSpec.ofChange s with cond := some uptoSmall }

/-- 'compactorlaw18.FlowParses', WHERE WHAT IT READS IS OF BULK AT MOST 1048576: true; the input reads as it did. -/
def flowParsesUptoRow : OpenClaim := { program := "ytcnbljohhajkhaa", sum := "11461429a508f46ebc3eae7e18cd67addaabf25c31995070a1aa4bad5b7ff3c4", func := "compactor/compactorlaw18.FlowParses", spec := "flowParses", recurses := true, apart := false, narrowed := true }
def FlowParsesUptoSaid : Prop := flowParsesUptoRow.holds Try.pinned (OpenSpec.upto flowParsesSpec)

/-- 'compactorlaw18.FlowPairs', WHERE WHAT IT READS IS OF BULK AT MOST 1048576: true; the input reads as it did. -/
def flowPairsUptoRow : OpenClaim := { program := "ytcnbljohhajkhaa", sum := "11461429a508f46ebc3eae7e18cd67addaabf25c31995070a1aa4bad5b7ff3c4", func := "compactor/compactorlaw18.FlowPairs", spec := "flowPairs", recurses := true, apart := false, narrowed := true }
def FlowPairsUptoSaid : Prop := flowPairsUptoRow.holds Try.pinned (OpenSpec.upto flowPairsSpec)

/-- 'compactorlaw18.FlowReturns', WHERE WHAT IT READS IS OF BULK AT MOST 1048576: true; the input reads as it did. -/
def flowReturnsUptoRow : OpenClaim := { program := "ytcnbljohhajkhaa", sum := "11461429a508f46ebc3eae7e18cd67addaabf25c31995070a1aa4bad5b7ff3c4", func := "compactor/compactorlaw18.FlowReturns", spec := "flowReturns", recurses := true, apart := false, narrowed := true }
def FlowReturnsUptoSaid : Prop := flowReturnsUptoRow.holds Try.pinned (OpenSpec.upto flowReturnsSpec)

/-- 'compactorlaw18.FlowLeadsBack', WHERE WHAT IT READS IS OF BULK AT MOST 1048576: true; the input reads as it did. -/
def flowLeadsBackUptoRow : OpenClaim := { program := "ytcnbljohhajkhaa", sum := "11461429a508f46ebc3eae7e18cd67addaabf25c31995070a1aa4bad5b7ff3c4", func := "compactor/compactorlaw18.FlowLeadsBack", spec := "flowLeadsBack", recurses := true, apart := false, narrowed := true }
def FlowLeadsBackUptoSaid : Prop := flowLeadsBackUptoRow.holds Try.pinned (OpenSpec.upto flowLeadsBackSpec)

/-- 'compactorlaw18.FlowWraps', WHERE WHAT IT READS IS OF BULK AT MOST 1048576: true; the input reads as it did. -/
def flowWrapsUptoRow : OpenClaim := { program := "ytcnbljohhajkhaa", sum := "11461429a508f46ebc3eae7e18cd67addaabf25c31995070a1aa4bad5b7ff3c4", func := "compactor/compactorlaw18.FlowWraps", spec := "flowWraps", recurses := true, apart := false, narrowed := true }
def FlowWrapsUptoSaid : Prop := flowWrapsUptoRow.holds Try.pinned (OpenSpec.upto flowWrapsSpec)

/-- 'compactorlaw18.FlowJoins', WHERE WHAT IT READS IS OF BULK AT MOST 1048576: true; the input reads as it did. -/
def flowJoinsUptoRow : OpenClaim := { program := "ytcnbljohhajkhaa", sum := "11461429a508f46ebc3eae7e18cd67addaabf25c31995070a1aa4bad5b7ff3c4", func := "compactor/compactorlaw18.FlowJoins", spec := "flowJoins", recurses := true, apart := false, narrowed := true }
def FlowJoinsUptoSaid : Prop := flowJoinsUptoRow.holds Try.pinned (OpenSpec.upto flowJoinsSpec)

end Rows
end Go.Proofs.Ytcnbljohhajkhaa
