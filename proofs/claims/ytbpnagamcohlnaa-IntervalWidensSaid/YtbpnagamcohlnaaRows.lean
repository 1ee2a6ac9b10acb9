/-
  No cell of these rows narrows 'for every input' (looked for: loops, veiled, ifaces, maps, wideKeys, modest, calm, conditions, laid).
  DERIVED. THE GIVEN ROWS OF THIS SEAT. 7 by the template 'for every input the law returns true; each argument reads behind the call as it read before'; 0 by the template 'total and deterministic' (their statements: YtbpnagamcohlnaaTotals.lean).
  GIVEN WITH THE SEED: the statements are not yours to turn. If you find one false, say at which input.
  Laid BY PROGRAM, IN A SANDBOX (cutbox-rows.mjs): the forced cells as the released guide's own fill.sh prints them over the translation ac04eec1523aa05a… (all of the seat's roots in one cut). By AI agents, Wed Nov 11 2026. No macro, syntax, notation, axiom, sorry.
-/
import Derived.Test.YtbpnagamcohlnaaChecked
import GoSem.Claim
import GoSem.ClaimJoined
import GoSem.ClaimMapViews
import Derived.JoinedTies
import Derived.KernelRfl
namespace Go.Proofs.Ytbpnagamcohlnaa
/- THE CELL 'sum', in the pinned program and in every row, IS THE sha256 OF THE DUMP (.gsa) THAT YtbpnagamcohlnaaProg.lean LOADS. Nothing in Lean hashes anything: it is a label: what it is worth is what the hold of that sum in a sandbox is worth. -/
noncomputable def Try.pinned : Pinned := { name := "ytbpnagamcohlnaa", sum := "ac04eec1523aa05a9cc3e5cf7e0afb505c9f7fa1052a04574b88686d9c5bd832", checked := Try.checked }
namespace Rows
def none {H : Type} : Left H := { results := [], args := [] }

/-- 'compactorlaw19.IntervalApplies': WHATEVER THE INPUT: true; the input reads as it did. -/
def intervalAppliesSpec : ChangeSpec := { name := "intervalApplies", fn := fun _ => fun
  | [d1, d2, d3] => { results := [.lit (.bool true)], args := [d1, d2, d3] }
  | _ => none }
def intervalAppliesRow : OpenClaim := { program := "ytbpnagamcohlnaa", sum := "ac04eec1523aa05a9cc3e5cf7e0afb505c9f7fa1052a04574b88686d9c5bd832", func := "compactor/compactorlaw19.IntervalApplies", spec := "intervalApplies", unfollowed := true, recurses := true, apart := false }
def IntervalAppliesSaid : Prop := intervalAppliesRow.holds Try.pinned (OpenSpec.ofChange intervalAppliesSpec)

/-- ITS FALSE NEIGHBOUR: 'it returns false'. Refute it at one input. -/
def intervalAppliesWrong : ChangeSpec := { name := "intervalApplies", fn := fun _ => fun
  | [d1, d2, d3] => { results := [.lit (.bool false)], args := [d1, d2, d3] }
  | _ => none }
def IntervalAppliesWrongFalsely : Prop := intervalAppliesRow.holds Try.pinned (OpenSpec.ofChange intervalAppliesWrong)

/-- 'compactorlaw19.IntervalMonotone': WHATEVER THE INPUT: true; the input reads as it did. -/
def intervalMonotoneSpec : ChangeSpec := { name := "intervalMonotone", fn := fun _ => fun
  | [d1, d2, d3] => { results := [.lit (.bool true)], args := [d1, d2, d3] }
  | _ => none }
def intervalMonotoneRow : OpenClaim := { program := "ytbpnagamcohlnaa", sum := "ac04eec1523aa05a9cc3e5cf7e0afb505c9f7fa1052a04574b88686d9c5bd832", func := "compactor/compactorlaw19.IntervalMonotone", spec := "intervalMonotone", unfollowed := true, recurses := true, apart := false }
def IntervalMonotoneSaid : Prop := intervalMonotoneRow.holds Try.pinned (OpenSpec.ofChange intervalMonotoneSpec)

/-- ITS FALSE NEIGHBOUR: 'it returns false'. Refute it at one input. -/
def intervalMonotoneWrong : ChangeSpec := { name := "intervalMonotone", fn := fun _ => fun
  | [d1, d2, d3] => { results := [.lit (.bool false)], args := [d1, d2, d3] }
  | _ => none }
def IntervalMonotoneWrongFalsely : Prop := intervalMonotoneRow.holds Try.pinned (OpenSpec.ofChange intervalMonotoneWrong)

/-- 'compactorlaw19.IntervalWidens': WHATEVER THE INPUT: true; the input reads as it did. -/
def intervalWidensSpec : ChangeSpec := { name := "intervalWidens", fn := fun _ => fun
  | [d1, d2] => { results := [.lit (.bool true)], args := [d1, d2] }
  | _ => none }
def intervalWidensRow : OpenClaim := { program := "ytbpnagamcohlnaa", sum := "ac04eec1523aa05a9cc3e5cf7e0afb505c9f7fa1052a04574b88686d9c5bd832", func := "compactor/compactorlaw19.IntervalWidens", spec := "intervalWidens", unfollowed := true, recurses := true, apart := false }
def IntervalWidensSaid : Prop := intervalWidensRow.holds Try.pinned (OpenSpec.ofChange intervalWidensSpec)

/-- ITS FALSE NEIGHBOUR: 'it returns false'. Refute it at one input. -/
def intervalWidensWrong : ChangeSpec := { name := "intervalWidens", fn := fun _ => fun
  | [d1, d2] => { results := [.lit (.bool false)], args := [d1, d2] }
  | _ => none }
def IntervalWidensWrongFalsely : Prop := intervalWidensRow.holds Try.pinned (OpenSpec.ofChange intervalWidensWrong)

/-- 'compactorlaw19.IntervalChecks': WHATEVER THE INPUT: true; the input reads as it did. -/
def intervalChecksSpec : ChangeSpec := { name := "intervalChecks", fn := fun _ => fun
  | [d1, d2] => { results := [.lit (.bool true)], args := [d1, d2] }
  | _ => none }
def intervalChecksRow : OpenClaim := { program := "ytbpnagamcohlnaa", sum := "ac04eec1523aa05a9cc3e5cf7e0afb505c9f7fa1052a04574b88686d9c5bd832", func := "compactor/compactorlaw19.IntervalChecks", spec := "intervalChecks", unfollowed := true, recurses := true, apart := false }
def IntervalChecksSaid : Prop := intervalChecksRow.holds Try.pinned (OpenSpec.ofChange intervalChecksSpec)

/-- ITS FALSE NEIGHBOUR: 'it returns false'. Refute it at one input. -/
def intervalChecksWrong : ChangeSpec := { name := "intervalChecks", fn := fun _ => fun
  | [d1, d2] => { results := [.lit (.bool false)], args := [d1, d2] }
  | _ => none }
def IntervalChecksWrongFalsely : Prop := intervalChecksRow.holds Try.pinned (OpenSpec.ofChange intervalChecksWrong)

/-- 'compactorlaw19.IntervalSound': WHATEVER THE INPUT: true; the input reads as it did. -/
def intervalSoundSpec : ChangeSpec := { name := "intervalSound", fn := fun _ => fun
  | [d1, d2] => { results := [.lit (.bool true)], args := [d1, d2] }
  | _ => none }
def intervalSoundRow : OpenClaim := { program := "ytbpnagamcohlnaa", sum := "ac04eec1523aa05a9cc3e5cf7e0afb505c9f7fa1052a04574b88686d9c5bd832", func := "compactor/compactorlaw19.IntervalSound", spec := "intervalSound", unfollowed := true, recurses := true, apart := false }
def IntervalSoundSaid : Prop := intervalSoundRow.holds Try.pinned (OpenSpec.ofChange intervalSoundSpec)

/-- ITS FALSE NEIGHBOUR: 'it returns false'. Refute it at one input. -/
def intervalSoundWrong : ChangeSpec := { name := "intervalSound", fn := fun _ => fun
  | [d1, d2] => { results := [.lit (.bool false)], args := [d1, d2] }
  | _ => none }
def IntervalSoundWrongFalsely : Prop := intervalSoundRow.holds Try.pinned (OpenSpec.ofChange intervalSoundWrong)

/-- 'compactorlaw19.IntervalJoins': WHATEVER THE INPUT: true; the input reads as it did. -/
def intervalJoinsSpec : ChangeSpec := { name := "intervalJoins", fn := fun _ => fun
  | [d1, d2] => { results := [.lit (.bool true)], args := [d1, d2] }
  | _ => none }
def intervalJoinsRow : OpenClaim := { program := "ytbpnagamcohlnaa", sum := "ac04eec1523aa05a9cc3e5cf7e0afb505c9f7fa1052a04574b88686d9c5bd832", func := "compactor/compactorlaw19.IntervalJoins", spec := "intervalJoins", unfollowed := true, recurses := true, apart := false }
def IntervalJoinsSaid : Prop := intervalJoinsRow.holds Try.pinned (OpenSpec.ofChange intervalJoinsSpec)

/-- ITS FALSE NEIGHBOUR: 'it returns false'. Refute it at one input. -/
def intervalJoinsWrong : ChangeSpec := { name := "intervalJoins", fn := fun _ => fun
  | [d1, d2] => { results := [.lit (.bool false)], args := [d1, d2] }
  | _ => none }
def IntervalJoinsWrongFalsely : Prop := intervalJoinsRow.holds Try.pinned (OpenSpec.ofChange intervalJoinsWrong)

/-- 'compactorlaw19.IntervalLeast': WHATEVER THE INPUT: true; the input reads as it did. -/
def intervalLeastSpec : ChangeSpec := { name := "intervalLeast", fn := fun _ => fun
  | [d1, d2, d3] => { results := [.lit (.bool true)], args := [d1, d2, d3] }
  | _ => none }
def intervalLeastRow : OpenClaim := { program := "ytbpnagamcohlnaa", sum := "ac04eec1523aa05a9cc3e5cf7e0afb505c9f7fa1052a04574b88686d9c5bd832", func := "compactor/compactorlaw19.IntervalLeast", spec := "intervalLeast", unfollowed := true, recurses := true, apart := false }
def IntervalLeastSaid : Prop := intervalLeastRow.holds Try.pinned (OpenSpec.ofChange intervalLeastSpec)

/-- ITS FALSE NEIGHBOUR: 'it returns false'. Refute it at one input. -/
def intervalLeastWrong : ChangeSpec := { name := "intervalLeast", fn := fun _ => fun
  | [d1, d2, d3] => { results := [.lit (.bool false)], args := [d1, d2, d3] }
  | _ => none }
def IntervalLeastWrongFalsely : Prop := intervalLeastRow.holds Try.pinned (OpenSpec.ofChange intervalLeastWrong)

/- THE SECOND FORM. 'bulk': how many values and letters a reading holds, each counted each time it is reached (what is shared counts as often as it is met; a slice's spare places count too). A statement '..UptoSaid' is the law's where the arguments, and the package variables that the reading takes, are together of bulk at most 1048576: NARROWER than '..Said'. Prove '..Said' where nothing that the law and all that it calls make is longer than what came in: it says more and counts as full. Else prove '..UptoSaid'. A law counts once. -/
mutual
def uptoBulk {H : Type} : DataW H → Nat
  | .lit (.string bytes) => bytes.length + 1
  | .lit _ => 1
  | .nil => 1
  | .ptr d => uptoBulk d + 1
  | .slice elems spare => uptoBulkAll elems + uptoBulkAll spare + 1
  | .agg parts => uptoBulkAll parts + 1
  | .iface _ d => uptoBulk d + 1
  | .map entries => uptoBulkEntries entries + 1
  | .held _ => 1
def uptoBulkAll {H : Type} : List (DataW H) → Nat
  | [] => 0
  | d :: r => uptoBulk d + uptoBulkAll r
def uptoBulkEntries {H : Type} : List (Lit × DataW H) → Nat
  | [] => 0
  | x :: r => uptoBulkEntry x + uptoBulkEntries r
def uptoBulkEntry {H : Type} : Lit × DataW H → Nat
  | (.string bytes, d) => bytes.length + uptoBulk d + 1
  | (_, d) => uptoBulk d + 1
 end
def uptoSmall : (H : Type) → List (DataW H) → Bool := fun _ ds => decide (uptoBulkAll ds ≤ 1048576)
def OpenSpec.upto (s : _root_.Go.ChangeSpec) : _root_.Go.OpenSpec := { _root_.Go.OpenSpec.ofChange s with cond := some uptoSmall }

/-- 'compactorlaw19.IntervalApplies', WHERE WHAT IT READS IS OF BULK AT MOST 1048576: true; the input reads as it did. -/
def intervalAppliesUptoRow : OpenClaim := { program := "ytbpnagamcohlnaa", sum := "ac04eec1523aa05a9cc3e5cf7e0afb505c9f7fa1052a04574b88686d9c5bd832", func := "compactor/compactorlaw19.IntervalApplies", spec := "intervalApplies", unfollowed := true, recurses := true, apart := false, narrowed := true }
def IntervalAppliesUptoSaid : Prop := intervalAppliesUptoRow.holds Try.pinned (OpenSpec.upto intervalAppliesSpec)

/-- 'compactorlaw19.IntervalMonotone', WHERE WHAT IT READS IS OF BULK AT MOST 1048576: true; the input reads as it did. -/
def intervalMonotoneUptoRow : OpenClaim := { program := "ytbpnagamcohlnaa", sum := "ac04eec1523aa05a9cc3e5cf7e0afb505c9f7fa1052a04574b88686d9c5bd832", func := "compactor/compactorlaw19.IntervalMonotone", spec := "intervalMonotone", unfollowed := true, recurses := true, apart := false, narrowed := true }
def IntervalMonotoneUptoSaid : Prop := intervalMonotoneUptoRow.holds Try.pinned (OpenSpec.upto intervalMonotoneSpec)

/-- 'compactorlaw19.IntervalWidens', WHERE WHAT IT READS IS OF BULK AT MOST 1048576: true; the input reads as it did. -/
def intervalWidensUptoRow : OpenClaim := { program := "ytbpnagamcohlnaa", sum := "ac04eec1523aa05a9cc3e5cf7e0afb505c9f7fa1052a04574b88686d9c5bd832", func := "compactor/compactorlaw19.IntervalWidens", spec := "intervalWidens", unfollowed := true, recurses := true, apart := false, narrowed := true }
def IntervalWidensUptoSaid : Prop := intervalWidensUptoRow.holds Try.pinned (OpenSpec.upto intervalWidensSpec)

/-- 'compactorlaw19.IntervalChecks', WHERE WHAT IT READS IS OF BULK AT MOST 1048576: true; the input reads as it did. -/
def intervalChecksUptoRow : OpenClaim := { program := "ytbpnagamcohlnaa", sum := "ac04eec1523aa05a9cc3e5cf7e0afb505c9f7fa1052a04574b88686d9c5bd832", func := "compactor/compactorlaw19.IntervalChecks", spec := "intervalChecks", unfollowed := true, recurses := true, apart := false, narrowed := true }
def IntervalChecksUptoSaid : Prop := intervalChecksUptoRow.holds Try.pinned (OpenSpec.upto intervalChecksSpec)

/-- 'compactorlaw19.IntervalSound', WHERE WHAT IT READS IS OF BULK AT MOST 1048576: true; the input reads as it did. -/
def intervalSoundUptoRow : OpenClaim := { program := "ytbpnagamcohlnaa", sum := "ac04eec1523aa05a9cc3e5cf7e0afb505c9f7fa1052a04574b88686d9c5bd832", func := "compactor/compactorlaw19.IntervalSound", spec := "intervalSound", unfollowed := true, recurses := true, apart := false, narrowed := true }
def IntervalSoundUptoSaid : Prop := intervalSoundUptoRow.holds Try.pinned (OpenSpec.upto intervalSoundSpec)

/-- 'compactorlaw19.IntervalJoins', WHERE WHAT IT READS IS OF BULK AT MOST 1048576: true; the input reads as it did. -/
def intervalJoinsUptoRow : OpenClaim := { program := "ytbpnagamcohlnaa", sum := "ac04eec1523aa05a9cc3e5cf7e0afb505c9f7fa1052a04574b88686d9c5bd832", func := "compactor/compactorlaw19.IntervalJoins", spec := "intervalJoins", unfollowed := true, recurses := true, apart := false, narrowed := true }
def IntervalJoinsUptoSaid : Prop := intervalJoinsUptoRow.holds Try.pinned (OpenSpec.upto intervalJoinsSpec)

/-- 'compactorlaw19.IntervalLeast', WHERE WHAT IT READS IS OF BULK AT MOST 1048576: true; the input reads as it did. -/
def intervalLeastUptoRow : OpenClaim := { program := "ytbpnagamcohlnaa", sum := "ac04eec1523aa05a9cc3e5cf7e0afb505c9f7fa1052a04574b88686d9c5bd832", func := "compactor/compactorlaw19.IntervalLeast", spec := "intervalLeast", unfollowed := true, recurses := true, apart := false, narrowed := true }
def IntervalLeastUptoSaid : Prop := intervalLeastUptoRow.holds Try.pinned (OpenSpec.upto intervalLeastSpec)

end Rows
end Go.Proofs.Ytbpnagamcohlnaa
