/-
  No cell of these rows narrows 'for every input' (looked for: loops, veiled, ifaces, maps, wideKeys, modest, calm, conditions, laid).
  DERIVED. THE GIVEN ROWS OF THIS SEAT. 5 by the template 'for every input the law returns true; each argument reads behind the call as it read before'; 0 by the template 'total and deterministic' (their statements: YtfnlekehcaehkaaTotals.lean).
  GIVEN WITH THE SEED: the statements are not yours to turn. If you find one false, say at which input.
  Laid BY PROGRAM, IN A SANDBOX (cutbox-rows.mjs): the forced cells as the released guide's own fill.sh prints them over the translation 840706878b4155de… (all of the seat's roots in one cut). By AI agents, Wed Nov 11 2026. No macro, syntax, notation, axiom, sorry.
-/
import Derived.Test.YtfnlekehcaehkaaChecked
import GoSem.Claim
import GoSem.ClaimJoined
import GoSem.ClaimMapViews
import Derived.JoinedTies
import Derived.KernelRfl
namespace Go.Proofs.Ytfnlekehcaehkaa
/- THE CELL 'sum', in the pinned program and in every row, IS THE sha256 OF THE DUMP (.gsa) THAT YtfnlekehcaehkaaProg.lean LOADS. Nothing in Lean hashes anything: it is a label: what it is worth is what the hold of that sum in a sandbox is worth. -/
noncomputable def Try.pinned : Pinned := { name := "ytfnlekehcaehkaa", sum := "840706878b4155de6713c7c328b8cfb8ca1eab9aa8881e67ca10cce4b58d8bf3", checked := Try.checked }
namespace Rows
def none {H : Type} : Left H := { results := [], args := [] }

/-- 'compactorlaw01.BitsGammas': WHATEVER THE INPUT: true; the input reads as it did. -/
def bitsGammasSpec : ChangeSpec := { name := "bitsGammas", fn := fun _ => fun
  | [d1, d2, d3] => { results := [.lit (.bool true)], args := [d1, d2, d3] }
  | _ => none }
def bitsGammasRow : OpenClaim := { program := "ytfnlekehcaehkaa", sum := "840706878b4155de6713c7c328b8cfb8ca1eab9aa8881e67ca10cce4b58d8bf3", func := "compactor/compactorlaw01.BitsGammas", spec := "bitsGammas", unfollowed := true, recurses := true, apart := false }
def BitsGammasSaid : Prop := bitsGammasRow.holds Try.pinned (OpenSpec.ofChange bitsGammasSpec)

/-- ITS FALSE NEIGHBOUR: 'it returns false'. Refute it at one input. -/
def bitsGammasWrong : ChangeSpec := { name := "bitsGammas", fn := fun _ => fun
  | [d1, d2, d3] => { results := [.lit (.bool false)], args := [d1, d2, d3] }
  | _ => none }
def BitsGammasWrongFalsely : Prop := bitsGammasRow.holds Try.pinned (OpenSpec.ofChange bitsGammasWrong)

/-- 'compactorlaw01.BitsCodes': WHATEVER THE INPUT: true; the input reads as it did. -/
def bitsCodesSpec : ChangeSpec := { name := "bitsCodes", fn := fun _ => fun
  | [d] => { results := [.lit (.bool true)], args := [d] }
  | _ => none }
def bitsCodesRow : OpenClaim := { program := "ytfnlekehcaehkaa", sum := "840706878b4155de6713c7c328b8cfb8ca1eab9aa8881e67ca10cce4b58d8bf3", func := "compactor/compactorlaw01.BitsCodes", spec := "bitsCodes", unfollowed := true, recurses := true, apart := false }
def BitsCodesSaid : Prop := bitsCodesRow.holds Try.pinned (OpenSpec.ofChange bitsCodesSpec)

/-- ITS FALSE NEIGHBOUR: 'it returns false'. Refute it at one input. -/
def bitsCodesWrong : ChangeSpec := { name := "bitsCodes", fn := fun _ => fun
  | [d] => { results := [.lit (.bool false)], args := [d] }
  | _ => none }
def BitsCodesWrongFalsely : Prop := bitsCodesRow.holds Try.pinned (OpenSpec.ofChange bitsCodesWrong)

/-- 'compactorlaw01.BitsPrefixes': WHATEVER THE INPUT: true; the input reads as it did. -/
def bitsPrefixesSpec : ChangeSpec := { name := "bitsPrefixes", fn := fun _ => fun
  | [d1, d2] => { results := [.lit (.bool true)], args := [d1, d2] }
  | _ => none }
def bitsPrefixesRow : OpenClaim := { program := "ytfnlekehcaehkaa", sum := "840706878b4155de6713c7c328b8cfb8ca1eab9aa8881e67ca10cce4b58d8bf3", func := "compactor/compactorlaw01.BitsPrefixes", spec := "bitsPrefixes", unfollowed := true, recurses := true, apart := false }
def BitsPrefixesSaid : Prop := bitsPrefixesRow.holds Try.pinned (OpenSpec.ofChange bitsPrefixesSpec)

/-- ITS FALSE NEIGHBOUR: 'it returns false'. Refute it at one input. -/
def bitsPrefixesWrong : ChangeSpec := { name := "bitsPrefixes", fn := fun _ => fun
  | [d1, d2] => { results := [.lit (.bool false)], args := [d1, d2] }
  | _ => none }
def BitsPrefixesWrongFalsely : Prop := bitsPrefixesRow.holds Try.pinned (OpenSpec.ofChange bitsPrefixesWrong)

/-- 'compactorlaw01.BitsBytes': WHATEVER THE INPUT: true; the input reads as it did. -/
def bitsBytesSpec : ChangeSpec := { name := "bitsBytes", fn := fun _ => fun
  | [d1, d2] => { results := [.lit (.bool true)], args := [d1, d2] }
  | _ => none }
def bitsBytesRow : OpenClaim := { program := "ytfnlekehcaehkaa", sum := "840706878b4155de6713c7c328b8cfb8ca1eab9aa8881e67ca10cce4b58d8bf3", func := "compactor/compactorlaw01.BitsBytes", spec := "bitsBytes", unfollowed := true, recurses := true, apart := false }
def BitsBytesSaid : Prop := bitsBytesRow.holds Try.pinned (OpenSpec.ofChange bitsBytesSpec)

/-- ITS FALSE NEIGHBOUR: 'it returns false'. Refute it at one input. -/
def bitsBytesWrong : ChangeSpec := { name := "bitsBytes", fn := fun _ => fun
  | [d1, d2] => { results := [.lit (.bool false)], args := [d1, d2] }
  | _ => none }
def BitsBytesWrongFalsely : Prop := bitsBytesRow.holds Try.pinned (OpenSpec.ofChange bitsBytesWrong)

/-- 'compactorlaw01.BitsJoins': WHATEVER THE INPUT: true; the input reads as it did. -/
def bitsJoinsSpec : ChangeSpec := { name := "bitsJoins", fn := fun _ => fun
  | [d1, d2, d3] => { results := [.lit (.bool true)], args := [d1, d2, d3] }
  | _ => none }
def bitsJoinsRow : OpenClaim := { program := "ytfnlekehcaehkaa", sum := "840706878b4155de6713c7c328b8cfb8ca1eab9aa8881e67ca10cce4b58d8bf3", func := "compactor/compactorlaw01.BitsJoins", spec := "bitsJoins", unfollowed := true, recurses := true, apart := false }
def BitsJoinsSaid : Prop := bitsJoinsRow.holds Try.pinned (OpenSpec.ofChange bitsJoinsSpec)

/-- ITS FALSE NEIGHBOUR: 'it returns false'. Refute it at one input. -/
def bitsJoinsWrong : ChangeSpec := { name := "bitsJoins", fn := fun _ => fun
  | [d1, d2, d3] => { results := [.lit (.bool false)], args := [d1, d2, d3] }
  | _ => none }
def BitsJoinsWrongFalsely : Prop := bitsJoinsRow.holds Try.pinned (OpenSpec.ofChange bitsJoinsWrong)

/- THE SECOND FORM. 'bulk': how many values and letters a reading holds, each counted each time it is reached (what is shared counts as often as it is met; a slice's spare places count too). A statement '..UptoSaid' is the law's where the arguments, and the package variables that the reading takes, are together of bulk at most 1048576: NARROWER than '..Said'. Prove '..Said' where nothing that the law and all that it calls make is longer than what came in: it says more and counts as full. Else prove '..UptoSaid'. A law counts once. -/
mutual
def uptoBulk {H : Type} : DataW H → Nat
  | .lit (.string bytes) => bytes.length + 1
  | .lit _ => 1
  | .nil => 1
  | .ptr d => uptoBulk d + 1
  | .slice elems spare => uptoBulkAll elems + uptoBulkAll spare + 1
  | .agg parts => uptoBulkAll parts + 1
  | .iface _ d => uptoBulk d + 1
  | .map entries => uptoBulkEntries entries + 1
  | .held _ => 1
def uptoBulkAll {H : Type} : List (DataW H) → Nat
  | [] => 0
  | d :: r => uptoBulk d + uptoBulkAll r
def uptoBulkEntries {H : Type} : List (Lit × DataW H) → Nat
  | [] => 0
  | x :: r => uptoBulkEntry x + uptoBulkEntries r
def uptoBulkEntry {H : Type} : Lit × DataW H → Nat
  | (.string bytes, d) => bytes.length + uptoBulk d + 1
  | (_, d) => uptoBulk d + 1
 end
def uptoSmall : (H : Type) → List (DataW H) → Bool := fun _ ds => decide (uptoBulkAll ds ≤ 1048576)
def OpenSpec.upto (s : _root_.Go.ChangeSpec) : _root_.Go.OpenSpec := { _root_.Go.OpenSpec.ofChange s with cond := some uptoSmall }

/-- 'compactorlaw01.BitsGammas', WHERE WHAT IT READS IS OF BULK AT MOST 1048576: true; the input reads as it did. -/
def bitsGammasUptoRow : OpenClaim := { program := "ytfnlekehcaehkaa", sum := "840706878b4155de6713c7c328b8cfb8ca1eab9aa8881e67ca10cce4b58d8bf3", func := "compactor/compactorlaw01.BitsGammas", spec := "bitsGammas", unfollowed := true, recurses := true, apart := false, narrowed := true }
def BitsGammasUptoSaid : Prop := bitsGammasUptoRow.holds Try.pinned (OpenSpec.upto bitsGammasSpec)

/-- 'compactorlaw01.BitsCodes', WHERE WHAT IT READS IS OF BULK AT MOST 1048576: true; the input reads as it did. -/
def bitsCodesUptoRow : OpenClaim := { program := "ytfnlekehcaehkaa", sum := "840706878b4155de6713c7c328b8cfb8ca1eab9aa8881e67ca10cce4b58d8bf3", func := "compactor/compactorlaw01.BitsCodes", spec := "bitsCodes", unfollowed := true, recurses := true, apart := false, narrowed := true }
def BitsCodesUptoSaid : Prop := bitsCodesUptoRow.holds Try.pinned (OpenSpec.upto bitsCodesSpec)

/-- 'compactorlaw01.BitsPrefixes', WHERE WHAT IT READS IS OF BULK AT MOST 1048576: true; the input reads as it did. -/
def bitsPrefixesUptoRow : OpenClaim := { program := "ytfnlekehcaehkaa", sum := "840706878b4155de6713c7c328b8cfb8ca1eab9aa8881e67ca10cce4b58d8bf3", func := "compactor/compactorlaw01.BitsPrefixes", spec := "bitsPrefixes", unfollowed := true, recurses := true, apart := false, narrowed := true }
def BitsPrefixesUptoSaid : Prop := bitsPrefixesUptoRow.holds Try.pinned (OpenSpec.upto bitsPrefixesSpec)

/-- 'compactorlaw01.BitsBytes', WHERE WHAT IT READS IS OF BULK AT MOST 1048576: true; the input reads as it did. -/
def bitsBytesUptoRow : OpenClaim := { program := "ytfnlekehcaehkaa", sum := "840706878b4155de6713c7c328b8cfb8ca1eab9aa8881e67ca10cce4b58d8bf3", func := "compactor/compactorlaw01.BitsBytes", spec := "bitsBytes", unfollowed := true, recurses := true, apart := false, narrowed := true }
def BitsBytesUptoSaid : Prop := bitsBytesUptoRow.holds Try.pinned (OpenSpec.upto bitsBytesSpec)

/-- 'compactorlaw01.BitsJoins', WHERE WHAT IT READS IS OF BULK AT MOST 1048576: true; the input reads as it did. -/
def bitsJoinsUptoRow : OpenClaim := { program := "ytfnlekehcaehkaa", sum := "840706878b4155de6713c7c328b8cfb8ca1eab9aa8881e67ca10cce4b58d8bf3", func := "compactor/compactorlaw01.BitsJoins", spec := "bitsJoins", unfollowed := true, recurses := true, apart := false, narrowed := true }
def BitsJoinsUptoSaid : Prop := bitsJoinsUptoRow.holds Try.pinned (OpenSpec.upto bitsJoinsSpec)

end Rows
end Go.Proofs.Ytfnlekehcaehkaa
