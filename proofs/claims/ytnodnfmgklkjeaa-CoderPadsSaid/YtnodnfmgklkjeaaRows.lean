/-
  No cell of these rows narrows 'for every input' (looked for: loops, veiled, ifaces, maps, wideKeys, modest, calm, conditions, laid).
  DERIVED. THE GIVEN ROWS OF THIS SEAT. 8 by the template 'for every input the law returns true; each argument reads behind the call as it read before'; 0 by the template 'total and deterministic' (their statements: YtnodnfmgklkjeaaTotals.lean).
  GIVEN WITH THE SEED: the statements are not yours to turn. If you find one false, say at which input.
  Laid BY PROGRAM, IN A SANDBOX (cutbox-rows.mjs): the forced cells as the released guide's own fill.sh prints them over the translation a4c11007d5133bd5… (all of the seat's roots in one cut). By AI agents, Wed Nov 11 2026. No macro, syntax, notation, axiom, sorry.
-/
import Derived.Test.YtnodnfmgklkjeaaChecked
import GoSem.Claim
import GoSem.ClaimJoined
import GoSem.ClaimMapViews
import Derived.JoinedTies
import Derived.KernelRfl
namespace Go.Proofs.Ytnodnfmgklkjeaa
/- THE CELL 'sum', in the pinned program and in every row, IS THE sha256 OF THE DUMP (.gsa) THAT YtnodnfmgklkjeaaProg.lean LOADS. Nothing in Lean hashes anything: it is a label: what it is worth is what the hold of that sum in a sandbox is worth. -/
noncomputable def Try.pinned : Pinned := { name := "ytnodnfmgklkjeaa", sum := "a4c11007d5133bd58b88faae5faaa0f3ce6d671f18e37f7bc6bafe6e745026f2", checked := Try.checked }
namespace Rows
def none {H : Type} : Left H := { results := [], args := [] }

/-- 'compactorlaw07.CoderEncodes': WHATEVER THE INPUT: true; the input reads as it did. -/
def coderEncodesSpec : ChangeSpec := { name := "coderEncodes", fn := fun _ => fun
  | [d1, d2, d3] => { results := [.lit (.bool true)], args := [d1, d2, d3] }
  | _ => none }
def coderEncodesRow : OpenClaim := { program := "ytnodnfmgklkjeaa", sum := "a4c11007d5133bd58b88faae5faaa0f3ce6d671f18e37f7bc6bafe6e745026f2", func := "compactor/compactorlaw07.CoderEncodes", spec := "coderEncodes", apart := false }
def CoderEncodesSaid : Prop := coderEncodesRow.holds Try.pinned (OpenSpec.ofChange coderEncodesSpec)

/-- ITS FALSE NEIGHBOUR: 'it returns false'. Refute it at one input. -/
def coderEncodesWrong : ChangeSpec := { name := "coderEncodes", fn := fun _ => fun
  | [d1, d2, d3] => { results := [.lit (.bool false)], args := [d1, d2, d3] }
  | _ => none }
def CoderEncodesWrongFalsely : Prop := coderEncodesRow.holds Try.pinned (OpenSpec.ofChange coderEncodesWrong)

/-- 'compactorlaw07.CoderFinishes': WHATEVER THE INPUT: true; the input reads as it did. -/
def coderFinishesSpec : ChangeSpec := { name := "coderFinishes", fn := fun _ => fun
  | [d] => { results := [.lit (.bool true)], args := [d] }
  | _ => none }
def coderFinishesRow : OpenClaim := { program := "ytnodnfmgklkjeaa", sum := "a4c11007d5133bd58b88faae5faaa0f3ce6d671f18e37f7bc6bafe6e745026f2", func := "compactor/compactorlaw07.CoderFinishes", spec := "coderFinishes", apart := false }
def CoderFinishesSaid : Prop := coderFinishesRow.holds Try.pinned (OpenSpec.ofChange coderFinishesSpec)

/-- ITS FALSE NEIGHBOUR: 'it returns false'. Refute it at one input. -/
def coderFinishesWrong : ChangeSpec := { name := "coderFinishes", fn := fun _ => fun
  | [d] => { results := [.lit (.bool false)], args := [d] }
  | _ => none }
def CoderFinishesWrongFalsely : Prop := coderFinishesRow.holds Try.pinned (OpenSpec.ofChange coderFinishesWrong)

/-- 'compactorlaw07.CoderDecodes': WHATEVER THE INPUT: true; the input reads as it did. -/
def coderDecodesSpec : ChangeSpec := { name := "coderDecodes", fn := fun _ => fun
  | [d1, d2] => { results := [.lit (.bool true)], args := [d1, d2] }
  | _ => none }
def coderDecodesRow : OpenClaim := { program := "ytnodnfmgklkjeaa", sum := "a4c11007d5133bd58b88faae5faaa0f3ce6d671f18e37f7bc6bafe6e745026f2", func := "compactor/compactorlaw07.CoderDecodes", spec := "coderDecodes", apart := false }
def CoderDecodesSaid : Prop := coderDecodesRow.holds Try.pinned (OpenSpec.ofChange coderDecodesSpec)

/-- ITS FALSE NEIGHBOUR: 'it returns false'. Refute it at one input. -/
def coderDecodesWrong : ChangeSpec := { name := "coderDecodes", fn := fun _ => fun
  | [d1, d2] => { results := [.lit (.bool false)], args := [d1, d2] }
  | _ => none }
def CoderDecodesWrongFalsely : Prop := coderDecodesRow.holds Try.pinned (OpenSpec.ofChange coderDecodesWrong)

/-- 'compactorlaw07.CoderOpens': WHATEVER THE INPUT: true; the input reads as it did. -/
def coderOpensSpec : ChangeSpec := { name := "coderOpens", fn := fun _ => fun
  | [d] => { results := [.lit (.bool true)], args := [d] }
  | _ => none }
def coderOpensRow : OpenClaim := { program := "ytnodnfmgklkjeaa", sum := "a4c11007d5133bd58b88faae5faaa0f3ce6d671f18e37f7bc6bafe6e745026f2", func := "compactor/compactorlaw07.CoderOpens", spec := "coderOpens", apart := false }
def CoderOpensSaid : Prop := coderOpensRow.holds Try.pinned (OpenSpec.ofChange coderOpensSpec)

/-- ITS FALSE NEIGHBOUR: 'it returns false'. Refute it at one input. -/
def coderOpensWrong : ChangeSpec := { name := "coderOpens", fn := fun _ => fun
  | [d] => { results := [.lit (.bool false)], args := [d] }
  | _ => none }
def CoderOpensWrongFalsely : Prop := coderOpensRow.holds Try.pinned (OpenSpec.ofChange coderOpensWrong)

/-- 'compactorlaw07.CoderReturns': WHATEVER THE INPUT: true; the input reads as it did. -/
def coderReturnsSpec : ChangeSpec := { name := "coderReturns", fn := fun _ => fun
  | [d] => { results := [.lit (.bool true)], args := [d] }
  | _ => none }
def coderReturnsRow : OpenClaim := { program := "ytnodnfmgklkjeaa", sum := "a4c11007d5133bd58b88faae5faaa0f3ce6d671f18e37f7bc6bafe6e745026f2", func := "compactor/compactorlaw07.CoderReturns", spec := "coderReturns", apart := false }
def CoderReturnsSaid : Prop := coderReturnsRow.holds Try.pinned (OpenSpec.ofChange coderReturnsSpec)

/-- ITS FALSE NEIGHBOUR: 'it returns false'. Refute it at one input. -/
def coderReturnsWrong : ChangeSpec := { name := "coderReturns", fn := fun _ => fun
  | [d] => { results := [.lit (.bool false)], args := [d] }
  | _ => none }
def CoderReturnsWrongFalsely : Prop := coderReturnsRow.holds Try.pinned (OpenSpec.ofChange coderReturnsWrong)

/-- 'compactorlaw07.CoderPads': WHATEVER THE INPUT: true; the input reads as it did. -/
def coderPadsSpec : ChangeSpec := { name := "coderPads", fn := fun _ => fun
  | [d1, d2, d3] => { results := [.lit (.bool true)], args := [d1, d2, d3] }
  | _ => none }
def coderPadsRow : OpenClaim := { program := "ytnodnfmgklkjeaa", sum := "a4c11007d5133bd58b88faae5faaa0f3ce6d671f18e37f7bc6bafe6e745026f2", func := "compactor/compactorlaw07.CoderPads", spec := "coderPads", apart := false }
def CoderPadsSaid : Prop := coderPadsRow.holds Try.pinned (OpenSpec.ofChange coderPadsSpec)

/-- ITS FALSE NEIGHBOUR: 'it returns false'. Refute it at one input. -/
def coderPadsWrong : ChangeSpec := { name := "coderPads", fn := fun _ => fun
  | [d1, d2, d3] => { results := [.lit (.bool false)], args := [d1, d2, d3] }
  | _ => none }
def CoderPadsWrongFalsely : Prop := coderPadsRow.holds Try.pinned (OpenSpec.ofChange coderPadsWrong)

/-- 'compactorlaw07.CoderOrders': WHATEVER THE INPUT: true; the input reads as it did. -/
def coderOrdersSpec : ChangeSpec := { name := "coderOrders", fn := fun _ => fun
  | [d1, d2] => { results := [.lit (.bool true)], args := [d1, d2] }
  | _ => none }
def coderOrdersRow : OpenClaim := { program := "ytnodnfmgklkjeaa", sum := "a4c11007d5133bd58b88faae5faaa0f3ce6d671f18e37f7bc6bafe6e745026f2", func := "compactor/compactorlaw07.CoderOrders", spec := "coderOrders", inPlace := ["internal/bytealg.Compare"], apart := false }
def CoderOrdersSaid : Prop := coderOrdersRow.holds Try.pinned (OpenSpec.ofChange coderOrdersSpec)

/-- ITS FALSE NEIGHBOUR: 'it returns false'. Refute it at one input. -/
def coderOrdersWrong : ChangeSpec := { name := "coderOrders", fn := fun _ => fun
  | [d1, d2] => { results := [.lit (.bool false)], args := [d1, d2] }
  | _ => none }
def CoderOrdersWrongFalsely : Prop := coderOrdersRow.holds Try.pinned (OpenSpec.ofChange coderOrdersWrong)

/-- 'compactorlaw07.CoderShort': WHATEVER THE INPUT: true; the input reads as it did. -/
def coderShortSpec : ChangeSpec := { name := "coderShort", fn := fun _ => fun
  | [d] => { results := [.lit (.bool true)], args := [d] }
  | _ => none }
def coderShortRow : OpenClaim := { program := "ytnodnfmgklkjeaa", sum := "a4c11007d5133bd58b88faae5faaa0f3ce6d671f18e37f7bc6bafe6e745026f2", func := "compactor/compactorlaw07.CoderShort", spec := "coderShort", apart := false }
def CoderShortSaid : Prop := coderShortRow.holds Try.pinned (OpenSpec.ofChange coderShortSpec)

/-- ITS FALSE NEIGHBOUR: 'it returns false'. Refute it at one input. -/
def coderShortWrong : ChangeSpec := { name := "coderShort", fn := fun _ => fun
  | [d] => { results := [.lit (.bool false)], args := [d] }
  | _ => none }
def CoderShortWrongFalsely : Prop := coderShortRow.holds Try.pinned (OpenSpec.ofChange coderShortWrong)

/- THE SECOND FORM. 'bulk': how many values and letters a reading holds, each counted each time it is reached (what is shared counts as often as it is met; a slice's spare places count too). A statement '..UptoSaid' is the law's where the arguments, and the package variables that the reading takes, are together of bulk at most 1048576: NARROWER than '..Said'. Prove '..Said' where nothing that the law and all that it calls make is longer than what came in: it says more and counts as full. Else prove '..UptoSaid'. A law counts once. -/
mutual
def uptoBulk {H : Type} : DataW H → Nat
  | .lit (.string bytes) => bytes.length + 1
  | .lit _ => 1
  | .nil => 1
  | .ptr d => uptoBulk d + 1
  | .slice elems spare => uptoBulkAll elems + uptoBulkAll spare + 1
  | .agg parts => uptoBulkAll parts + 1
  | .iface _ d => uptoBulk d + 1
  | .map entries => uptoBulkEntries entries + 1
  | .held _ => 1
def uptoBulkAll {H : Type} : List (DataW H) → Nat
  | [] => 0
  | d :: r => uptoBulk d + uptoBulkAll r
def uptoBulkEntries {H : Type} : List (Lit × DataW H) → Nat
  | [] => 0
  | x :: r => uptoBulkEntry x + uptoBulkEntries r
def uptoBulkEntry {H : Type} : Lit × DataW H → Nat
  | (.string bytes, d) => bytes.length + uptoBulk d + 1
  | (_, d) => uptoBulk d + 1
 end
def uptoSmall : (H : Type) → List (DataW H) → Bool := fun _ ds => decide (uptoBulkAll ds ≤ 1048576)
def OpenSpec.upto (s : _root_.Go.ChangeSpec) : _root_.Go.OpenSpec := { _root_.Go.OpenSpec.ofChange s with cond := some uptoSmall }

/-- 'compactorlaw07.CoderEncodes', WHERE WHAT IT READS IS OF BULK AT MOST 1048576: true; the input reads as it did. -/
def coderEncodesUptoRow : OpenClaim := { program := "ytnodnfmgklkjeaa", sum := "a4c11007d5133bd58b88faae5faaa0f3ce6d671f18e37f7bc6bafe6e745026f2", func := "compactor/compactorlaw07.CoderEncodes", spec := "coderEncodes", apart := false, narrowed := true }
def CoderEncodesUptoSaid : Prop := coderEncodesUptoRow.holds Try.pinned (OpenSpec.upto coderEncodesSpec)

/-- 'compactorlaw07.CoderFinishes', WHERE WHAT IT READS IS OF BULK AT MOST 1048576: true; the input reads as it did. -/
def coderFinishesUptoRow : OpenClaim := { program := "ytnodnfmgklkjeaa", sum := "a4c11007d5133bd58b88faae5faaa0f3ce6d671f18e37f7bc6bafe6e745026f2", func := "compactor/compactorlaw07.CoderFinishes", spec := "coderFinishes", apart := false, narrowed := true }
def CoderFinishesUptoSaid : Prop := coderFinishesUptoRow.holds Try.pinned (OpenSpec.upto coderFinishesSpec)

/-- 'compactorlaw07.CoderDecodes', WHERE WHAT IT READS IS OF BULK AT MOST 1048576: true; the input reads as it did. -/
def coderDecodesUptoRow : OpenClaim := { program := "ytnodnfmgklkjeaa", sum := "a4c11007d5133bd58b88faae5faaa0f3ce6d671f18e37f7bc6bafe6e745026f2", func := "compactor/compactorlaw07.CoderDecodes", spec := "coderDecodes", apart := false, narrowed := true }
def CoderDecodesUptoSaid : Prop := coderDecodesUptoRow.holds Try.pinned (OpenSpec.upto coderDecodesSpec)

/-- 'compactorlaw07.CoderOpens', WHERE WHAT IT READS IS OF BULK AT MOST 1048576: true; the input reads as it did. -/
def coderOpensUptoRow : OpenClaim := { program := "ytnodnfmgklkjeaa", sum := "a4c11007d5133bd58b88faae5faaa0f3ce6d671f18e37f7bc6bafe6e745026f2", func := "compactor/compactorlaw07.CoderOpens", spec := "coderOpens", apart := false, narrowed := true }
def CoderOpensUptoSaid : Prop := coderOpensUptoRow.holds Try.pinned (OpenSpec.upto coderOpensSpec)

/-- 'compactorlaw07.CoderReturns', WHERE WHAT IT READS IS OF BULK AT MOST 1048576: true; the input reads as it did. -/
def coderReturnsUptoRow : OpenClaim := { program := "ytnodnfmgklkjeaa", sum := "a4c11007d5133bd58b88faae5faaa0f3ce6d671f18e37f7bc6bafe6e745026f2", func := "compactor/compactorlaw07.CoderReturns", spec := "coderReturns", apart := false, narrowed := true }
def CoderReturnsUptoSaid : Prop := coderReturnsUptoRow.holds Try.pinned (OpenSpec.upto coderReturnsSpec)

/-- 'compactorlaw07.CoderPads', WHERE WHAT IT READS IS OF BULK AT MOST 1048576: true; the input reads as it did. -/
def coderPadsUptoRow : OpenClaim := { program := "ytnodnfmgklkjeaa", sum := "a4c11007d5133bd58b88faae5faaa0f3ce6d671f18e37f7bc6bafe6e745026f2", func := "compactor/compactorlaw07.CoderPads", spec := "coderPads", apart := false, narrowed := true }
def CoderPadsUptoSaid : Prop := coderPadsUptoRow.holds Try.pinned (OpenSpec.upto coderPadsSpec)

/-- 'compactorlaw07.CoderOrders', WHERE WHAT IT READS IS OF BULK AT MOST 1048576: true; the input reads as it did. -/
def coderOrdersUptoRow : OpenClaim := { program := "ytnodnfmgklkjeaa", sum := "a4c11007d5133bd58b88faae5faaa0f3ce6d671f18e37f7bc6bafe6e745026f2", func := "compactor/compactorlaw07.CoderOrders", spec := "coderOrders", inPlace := ["internal/bytealg.Compare"], apart := false, narrowed := true }
def CoderOrdersUptoSaid : Prop := coderOrdersUptoRow.holds Try.pinned (OpenSpec.upto coderOrdersSpec)

/-- 'compactorlaw07.CoderShort', WHERE WHAT IT READS IS OF BULK AT MOST 1048576: true; the input reads as it did. -/
def coderShortUptoRow : OpenClaim := { program := "ytnodnfmgklkjeaa", sum := "a4c11007d5133bd58b88faae5faaa0f3ce6d671f18e37f7bc6bafe6e745026f2", func := "compactor/compactorlaw07.CoderShort", spec := "coderShort", apart := false, narrowed := true }
def CoderShortUptoSaid : Prop := coderShortUptoRow.holds Try.pinned (OpenSpec.upto coderShortSpec)

end Rows
end Go.Proofs.Ytnodnfmgklkjeaa
