/-
  No cell of these rows narrows 'for every input' (looked for: loops, veiled, ifaces, maps, wideKeys, modest, calm, conditions, laid).
  DERIVED. THE GIVEN ROWS OF THIS SEAT. 7 by the template 'for every input the law returns true; each argument reads behind the call as it read before'; 0 by the template 'total and deterministic' (their statements: YtjfdmhdmadnkoaaTotals.lean).
  GIVEN WITH THE SEED: the statements are not yours to turn. If you find one false, say at which input.
  Laid BY PROGRAM, IN A SANDBOX (cutbox-rows.mjs): the forced cells as the released guide's own fill.sh prints them over the translation 2db12c8aaf070224… (all of the seat's roots in one cut). By AI agents, Wed Nov 11 2026. No macro, syntax, notation, axiom, sorry.
-/
import Derived.Test.YtjfdmhdmadnkoaaChecked
import GoSem.Claim
import GoSem.ClaimJoined
import GoSem.ClaimMapViews
import Derived.JoinedTies
import Derived.KernelRfl
namespace Go.Proofs.Ytjfdmhdmadnkoaa
/- THE CELL 'sum', in the pinned program and in every row, IS THE sha256 OF THE DUMP (.gsa) THAT YtjfdmhdmadnkoaaProg.lean LOADS. Nothing in Lean hashes anything: it is a label: what it is worth is what the hold of that sum in a sandbox is worth. -/
noncomputable def Try.pinned : Pinned := { name := "ytjfdmhdmadnkoaa", sum := "2db12c8aaf0702240be7cc82091dee4464cf1acacf8778f3635cc38b15be9db0", checked := Try.checked }
namespace Rows
def none {H : Type} : Left H := { results := [], args := [] }

/-- 'compactorlaw36.ParseChooses': WHATEVER THE INPUT: true; the input reads as it did. -/
def parseChoosesSpec : ChangeSpec := { name := "parseChooses", fn := fun _ => fun
  | [d1, d2] => { results := [.lit (.bool true)], args := [d1, d2] }
  | _ => none }
def parseChoosesRow : OpenClaim := { program := "ytjfdmhdmadnkoaa", sum := "2db12c8aaf0702240be7cc82091dee4464cf1acacf8778f3635cc38b15be9db0", func := "compactor/compactorlaw36.ParseChooses", spec := "parseChooses", unfollowed := true, recurses := true, apart := false }
def ParseChoosesSaid : Prop := parseChoosesRow.holds Try.pinned (OpenSpec.ofChange parseChoosesSpec)

/-- ITS FALSE NEIGHBOUR: 'it returns false'. Refute it at one input. -/
def parseChoosesWrong : ChangeSpec := { name := "parseChooses", fn := fun _ => fun
  | [d1, d2] => { results := [.lit (.bool false)], args := [d1, d2] }
  | _ => none }
def ParseChoosesWrongFalsely : Prop := parseChoosesRow.holds Try.pinned (OpenSpec.ofChange parseChoosesWrong)

/-- 'compactorlaw36.ParseOptimizes': WHATEVER THE INPUT: true; the input reads as it did. -/
def parseOptimizesSpec : ChangeSpec := { name := "parseOptimizes", fn := fun _ => fun
  | [d] => { results := [.lit (.bool true)], args := [d] }
  | _ => none }
def parseOptimizesRow : OpenClaim := { program := "ytjfdmhdmadnkoaa", sum := "2db12c8aaf0702240be7cc82091dee4464cf1acacf8778f3635cc38b15be9db0", func := "compactor/compactorlaw36.ParseOptimizes", spec := "parseOptimizes", unfollowed := true, recurses := true, apart := false }
def ParseOptimizesSaid : Prop := parseOptimizesRow.holds Try.pinned (OpenSpec.ofChange parseOptimizesSpec)

/-- ITS FALSE NEIGHBOUR: 'it returns false'. Refute it at one input. -/
def parseOptimizesWrong : ChangeSpec := { name := "parseOptimizes", fn := fun _ => fun
  | [d] => { results := [.lit (.bool false)], args := [d] }
  | _ => none }
def ParseOptimizesWrongFalsely : Prop := parseOptimizesRow.holds Try.pinned (OpenSpec.ofChange parseOptimizesWrong)

/-- 'compactorlaw36.ParseCertifies': WHATEVER THE INPUT: true; the input reads as it did. -/
def parseCertifiesSpec : ChangeSpec := { name := "parseCertifies", fn := fun _ => fun
  | [d1, d2, d3] => { results := [.lit (.bool true)], args := [d1, d2, d3] }
  | _ => none }
def parseCertifiesRow : OpenClaim := { program := "ytjfdmhdmadnkoaa", sum := "2db12c8aaf0702240be7cc82091dee4464cf1acacf8778f3635cc38b15be9db0", func := "compactor/compactorlaw36.ParseCertifies", spec := "parseCertifies", unfollowed := true, recurses := true, apart := false }
def ParseCertifiesSaid : Prop := parseCertifiesRow.holds Try.pinned (OpenSpec.ofChange parseCertifiesSpec)

/-- ITS FALSE NEIGHBOUR: 'it returns false'. Refute it at one input. -/
def parseCertifiesWrong : ChangeSpec := { name := "parseCertifies", fn := fun _ => fun
  | [d1, d2, d3] => { results := [.lit (.bool false)], args := [d1, d2, d3] }
  | _ => none }
def ParseCertifiesWrongFalsely : Prop := parseCertifiesRow.holds Try.pinned (OpenSpec.ofChange parseCertifiesWrong)

/-- 'compactorlaw36.ParseProves': WHATEVER THE INPUT: true; the input reads as it did. -/
def parseProvesSpec : ChangeSpec := { name := "parseProves", fn := fun _ => fun
  | [d1, d2, d3] => { results := [.lit (.bool true)], args := [d1, d2, d3] }
  | _ => none }
def parseProvesRow : OpenClaim := { program := "ytjfdmhdmadnkoaa", sum := "2db12c8aaf0702240be7cc82091dee4464cf1acacf8778f3635cc38b15be9db0", func := "compactor/compactorlaw36.ParseProves", spec := "parseProves", unfollowed := true, recurses := true, apart := false }
def ParseProvesSaid : Prop := parseProvesRow.holds Try.pinned (OpenSpec.ofChange parseProvesSpec)

/-- ITS FALSE NEIGHBOUR: 'it returns false'. Refute it at one input. -/
def parseProvesWrong : ChangeSpec := { name := "parseProves", fn := fun _ => fun
  | [d1, d2, d3] => { results := [.lit (.bool false)], args := [d1, d2, d3] }
  | _ => none }
def ParseProvesWrongFalsely : Prop := parseProvesRow.holds Try.pinned (OpenSpec.ofChange parseProvesWrong)

/-- 'compactorlaw36.ParseJoins': WHATEVER THE INPUT: true; the input reads as it did. -/
def parseJoinsSpec : ChangeSpec := { name := "parseJoins", fn := fun _ => fun
  | [d1, d2] => { results := [.lit (.bool true)], args := [d1, d2] }
  | _ => none }
def parseJoinsRow : OpenClaim := { program := "ytjfdmhdmadnkoaa", sum := "2db12c8aaf0702240be7cc82091dee4464cf1acacf8778f3635cc38b15be9db0", func := "compactor/compactorlaw36.ParseJoins", spec := "parseJoins", unfollowed := true, recurses := true, apart := false }
def ParseJoinsSaid : Prop := parseJoinsRow.holds Try.pinned (OpenSpec.ofChange parseJoinsSpec)

/-- ITS FALSE NEIGHBOUR: 'it returns false'. Refute it at one input. -/
def parseJoinsWrong : ChangeSpec := { name := "parseJoins", fn := fun _ => fun
  | [d1, d2] => { results := [.lit (.bool false)], args := [d1, d2] }
  | _ => none }
def ParseJoinsWrongFalsely : Prop := parseJoinsRow.holds Try.pinned (OpenSpec.ofChange parseJoinsWrong)

/-- 'compactorlaw36.ParseBeats': WHATEVER THE INPUT: true; the input reads as it did. -/
def parseBeatsSpec : ChangeSpec := { name := "parseBeats", fn := fun _ => fun
  | [d1, d2] => { results := [.lit (.bool true)], args := [d1, d2] }
  | _ => none }
def parseBeatsRow : OpenClaim := { program := "ytjfdmhdmadnkoaa", sum := "2db12c8aaf0702240be7cc82091dee4464cf1acacf8778f3635cc38b15be9db0", func := "compactor/compactorlaw36.ParseBeats", spec := "parseBeats", unfollowed := true, recurses := true, apart := false }
def ParseBeatsSaid : Prop := parseBeatsRow.holds Try.pinned (OpenSpec.ofChange parseBeatsSpec)

/-- ITS FALSE NEIGHBOUR: 'it returns false'. Refute it at one input. -/
def parseBeatsWrong : ChangeSpec := { name := "parseBeats", fn := fun _ => fun
  | [d1, d2] => { results := [.lit (.bool false)], args := [d1, d2] }
  | _ => none }
def ParseBeatsWrongFalsely : Prop := parseBeatsRow.holds Try.pinned (OpenSpec.ofChange parseBeatsWrong)

/-- 'compactorlaw36.ParseReturns': WHATEVER THE INPUT: true; the input reads as it did. -/
def parseReturnsSpec : ChangeSpec := { name := "parseReturns", fn := fun _ => fun
  | [d] => { results := [.lit (.bool true)], args := [d] }
  | _ => none }
def parseReturnsRow : OpenClaim := { program := "ytjfdmhdmadnkoaa", sum := "2db12c8aaf0702240be7cc82091dee4464cf1acacf8778f3635cc38b15be9db0", func := "compactor/compactorlaw36.ParseReturns", spec := "parseReturns", unfollowed := true, recurses := true, apart := false }
def ParseReturnsSaid : Prop := parseReturnsRow.holds Try.pinned (OpenSpec.ofChange parseReturnsSpec)

/-- ITS FALSE NEIGHBOUR: 'it returns false'. Refute it at one input. -/
def parseReturnsWrong : ChangeSpec := { name := "parseReturns", fn := fun _ => fun
  | [d] => { results := [.lit (.bool false)], args := [d] }
  | _ => none }
def ParseReturnsWrongFalsely : Prop := parseReturnsRow.holds Try.pinned (OpenSpec.ofChange parseReturnsWrong)

/- THE SECOND FORM. 'bulk': how many values and letters a reading holds, each counted each time it is reached (what is shared counts as often as it is met; a slice's spare places count too). A statement '..UptoSaid' is the law's where the arguments, and the package variables that the reading takes, are together of bulk at most 1048576: NARROWER than '..Said'. Prove '..Said' where nothing that the law and all that it calls make is longer than what came in: it says more and counts as full. Else prove '..UptoSaid'. A law counts once. -/
mutual
def uptoBulk {H : Type} : DataW H → Nat
  | .lit (.string bytes) => bytes.length + 1
  | .lit _ => 1
  | .nil => 1
  | .ptr d => uptoBulk d + 1
  | .slice elems spare => uptoBulkAll elems + uptoBulkAll spare + 1
  | .agg parts => uptoBulkAll parts + 1
  | .iface _ d => uptoBulk d + 1
  | .map entries => uptoBulkEntries entries + 1
  | .held _ => 1
def uptoBulkAll {H : Type} : List (DataW H) → Nat
  | [] => 0
  | d :: r => uptoBulk d + uptoBulkAll r
def uptoBulkEntries {H : Type} : List (Lit × DataW H) → Nat
  | [] => 0
  | x :: r => uptoBulkEntry x + uptoBulkEntries r
def uptoBulkEntry {H : Type} : Lit × DataW H → Nat
  | (.string bytes, d) => bytes.length + uptoBulk d + 1
  | (_, d) => uptoBulk d + 1
 end
def uptoSmall : (H : Type) → List (DataW H) → Bool := fun _ ds => decide (uptoBulkAll ds ≤ 1048576)
def OpenSpec.upto (s : _root_.Go.ChangeSpec) : _root_.Go.OpenSpec := { _root_.Go.OpenSpec.ofChange s with cond := some uptoSmall }

/-- 'compactorlaw36.ParseChooses', WHERE WHAT IT READS IS OF BULK AT MOST 1048576: true; the input reads as it did. -/
def parseChoosesUptoRow : OpenClaim := { program := "ytjfdmhdmadnkoaa", sum := "2db12c8aaf0702240be7cc82091dee4464cf1acacf8778f3635cc38b15be9db0", func := "compactor/compactorlaw36.ParseChooses", spec := "parseChooses", unfollowed := true, recurses := true, apart := false, narrowed := true }
def ParseChoosesUptoSaid : Prop := parseChoosesUptoRow.holds Try.pinned (OpenSpec.upto parseChoosesSpec)

/-- 'compactorlaw36.ParseOptimizes', WHERE WHAT IT READS IS OF BULK AT MOST 1048576: true; the input reads as it did. -/
def parseOptimizesUptoRow : OpenClaim := { program := "ytjfdmhdmadnkoaa", sum := "2db12c8aaf0702240be7cc82091dee4464cf1acacf8778f3635cc38b15be9db0", func := "compactor/compactorlaw36.ParseOptimizes", spec := "parseOptimizes", unfollowed := true, recurses := true, apart := false, narrowed := true }
def ParseOptimizesUptoSaid : Prop := parseOptimizesUptoRow.holds Try.pinned (OpenSpec.upto parseOptimizesSpec)

/-- 'compactorlaw36.ParseCertifies', WHERE WHAT IT READS IS OF BULK AT MOST 1048576: true; the input reads as it did. -/
def parseCertifiesUptoRow : OpenClaim := { program := "ytjfdmhdmadnkoaa", sum := "2db12c8aaf0702240be7cc82091dee4464cf1acacf8778f3635cc38b15be9db0", func := "compactor/compactorlaw36.ParseCertifies", spec := "parseCertifies", unfollowed := true, recurses := true, apart := false, narrowed := true }
def ParseCertifiesUptoSaid : Prop := parseCertifiesUptoRow.holds Try.pinned (OpenSpec.upto parseCertifiesSpec)

/-- 'compactorlaw36.ParseProves', WHERE WHAT IT READS IS OF BULK AT MOST 1048576: true; the input reads as it did. -/
def parseProvesUptoRow : OpenClaim := { program := "ytjfdmhdmadnkoaa", sum := "2db12c8aaf0702240be7cc82091dee4464cf1acacf8778f3635cc38b15be9db0", func := "compactor/compactorlaw36.ParseProves", spec := "parseProves", unfollowed := true, recurses := true, apart := false, narrowed := true }
def ParseProvesUptoSaid : Prop := parseProvesUptoRow.holds Try.pinned (OpenSpec.upto parseProvesSpec)

/-- 'compactorlaw36.ParseJoins', WHERE WHAT IT READS IS OF BULK AT MOST 1048576: true; the input reads as it did. -/
def parseJoinsUptoRow : OpenClaim := { program := "ytjfdmhdmadnkoaa", sum := "2db12c8aaf0702240be7cc82091dee4464cf1acacf8778f3635cc38b15be9db0", func := "compactor/compactorlaw36.ParseJoins", spec := "parseJoins", unfollowed := true, recurses := true, apart := false, narrowed := true }
def ParseJoinsUptoSaid : Prop := parseJoinsUptoRow.holds Try.pinned (OpenSpec.upto parseJoinsSpec)

/-- 'compactorlaw36.ParseBeats', WHERE WHAT IT READS IS OF BULK AT MOST 1048576: true; the input reads as it did. -/
def parseBeatsUptoRow : OpenClaim := { program := "ytjfdmhdmadnkoaa", sum := "2db12c8aaf0702240be7cc82091dee4464cf1acacf8778f3635cc38b15be9db0", func := "compactor/compactorlaw36.ParseBeats", spec := "parseBeats", unfollowed := true, recurses := true, apart := false, narrowed := true }
def ParseBeatsUptoSaid : Prop := parseBeatsUptoRow.holds Try.pinned (OpenSpec.upto parseBeatsSpec)

/-- 'compactorlaw36.ParseReturns', WHERE WHAT IT READS IS OF BULK AT MOST 1048576: true; the input reads as it did. -/
def parseReturnsUptoRow : OpenClaim := { program := "ytjfdmhdmadnkoaa", sum := "2db12c8aaf0702240be7cc82091dee4464cf1acacf8778f3635cc38b15be9db0", func := "compactor/compactorlaw36.ParseReturns", spec := "parseReturns", unfollowed := true, recurses := true, apart := false, narrowed := true }
def ParseReturnsUptoSaid : Prop := parseReturnsUptoRow.holds Try.pinned (OpenSpec.upto parseReturnsSpec)

end Rows
end Go.Proofs.Ytjfdmhdmadnkoaa
