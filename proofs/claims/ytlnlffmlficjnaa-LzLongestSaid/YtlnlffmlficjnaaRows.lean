/-
  No cell of these rows narrows 'for every input' (looked for: loops, veiled, ifaces, maps, wideKeys, modest, calm, conditions, laid).
  DERIVED. THE GIVEN ROWS OF THIS SEAT. 8 by the template 'for every input the law returns true; each argument reads behind the call as it read before'; 0 by the template 'total and deterministic' (their statements: YtlnlffmlficjnaaTotals.lean).
  GIVEN WITH THE SEED: the statements are not yours to turn. If you find one false, say at which input.
  Laid BY PROGRAM, IN A SANDBOX (cutbox-rows.mjs): the forced cells as the released guide's own fill.sh prints them over the translation 1a83fae2efa63fc4… (all of the seat's roots in one cut). By AI agents, Wed Nov 11 2026. No macro, syntax, notation, axiom, sorry.
-/
import Derived.Test.YtlnlffmlficjnaaChecked
import GoSem.Claim
import GoSem.ClaimJoined
import GoSem.ClaimMapViews
import Derived.JoinedTies
import Derived.KernelRfl
namespace Go.Proofs.Ytlnlffmlficjnaa
/- THE CELL 'sum', in the pinned program and in every row, IS THE sha256 OF THE DUMP (.gsa) THAT YtlnlffmlficjnaaProg.lean LOADS. Nothing in Lean hashes anything: it is a label: what it is worth is what the hold of that sum in a sandbox is worth. -/
noncomputable def Try.pinned : Pinned := { name := "ytlnlffmlficjnaa", sum := "1a83fae2efa63fc44a523fd27d8c7d1d5c44cc394e45610af5a23960a0898816", checked := Try.checked }
namespace Rows
def none {H : Type} : Left H := { results := [], args := [] }

/-- 'compactorlaw35.LzChecks': WHATEVER THE INPUT: true; the input reads as it did. -/
def lzChecksSpec : ChangeSpec := { name := "lzChecks", fn := fun _ => fun
  | [d] => { results := [.lit (.bool true)], args := [d] }
  | _ => none }
def lzChecksRow : OpenClaim := { program := "ytlnlffmlficjnaa", sum := "1a83fae2efa63fc44a523fd27d8c7d1d5c44cc394e45610af5a23960a0898816", func := "compactor/compactorlaw35.LzChecks", spec := "lzChecks", unfollowed := true, recurses := true, apart := false }
def LzChecksSaid : Prop := lzChecksRow.holds Try.pinned (OpenSpec.ofChange lzChecksSpec)

/-- ITS FALSE NEIGHBOUR: 'it returns false'. Refute it at one input. -/
def lzChecksWrong : ChangeSpec := { name := "lzChecks", fn := fun _ => fun
  | [d] => { results := [.lit (.bool false)], args := [d] }
  | _ => none }
def LzChecksWrongFalsely : Prop := lzChecksRow.holds Try.pinned (OpenSpec.ofChange lzChecksWrong)

/-- 'compactorlaw35.LzEncodes': WHATEVER THE INPUT: true; the input reads as it did. -/
def lzEncodesSpec : ChangeSpec := { name := "lzEncodes", fn := fun _ => fun
  | [d] => { results := [.lit (.bool true)], args := [d] }
  | _ => none }
def lzEncodesRow : OpenClaim := { program := "ytlnlffmlficjnaa", sum := "1a83fae2efa63fc44a523fd27d8c7d1d5c44cc394e45610af5a23960a0898816", func := "compactor/compactorlaw35.LzEncodes", spec := "lzEncodes", unfollowed := true, recurses := true, apart := false }
def LzEncodesSaid : Prop := lzEncodesRow.holds Try.pinned (OpenSpec.ofChange lzEncodesSpec)

/-- ITS FALSE NEIGHBOUR: 'it returns false'. Refute it at one input. -/
def lzEncodesWrong : ChangeSpec := { name := "lzEncodes", fn := fun _ => fun
  | [d] => { results := [.lit (.bool false)], args := [d] }
  | _ => none }
def LzEncodesWrongFalsely : Prop := lzEncodesRow.holds Try.pinned (OpenSpec.ofChange lzEncodesWrong)

/-- 'compactorlaw35.LzRestores': WHATEVER THE INPUT: true; the input reads as it did. -/
def lzRestoresSpec : ChangeSpec := { name := "lzRestores", fn := fun _ => fun
  | [d] => { results := [.lit (.bool true)], args := [d] }
  | _ => none }
def lzRestoresRow : OpenClaim := { program := "ytlnlffmlficjnaa", sum := "1a83fae2efa63fc44a523fd27d8c7d1d5c44cc394e45610af5a23960a0898816", func := "compactor/compactorlaw35.LzRestores", spec := "lzRestores", unfollowed := true, recurses := true, apart := false }
def LzRestoresSaid : Prop := lzRestoresRow.holds Try.pinned (OpenSpec.ofChange lzRestoresSpec)

/-- ITS FALSE NEIGHBOUR: 'it returns false'. Refute it at one input. -/
def lzRestoresWrong : ChangeSpec := { name := "lzRestores", fn := fun _ => fun
  | [d] => { results := [.lit (.bool false)], args := [d] }
  | _ => none }
def LzRestoresWrongFalsely : Prop := lzRestoresRow.holds Try.pinned (OpenSpec.ofChange lzRestoresWrong)

/-- 'compactorlaw35.LzPrices': WHATEVER THE INPUT: true; the input reads as it did. -/
def lzPricesSpec : ChangeSpec := { name := "lzPrices", fn := fun _ => fun
  | [d] => { results := [.lit (.bool true)], args := [d] }
  | _ => none }
def lzPricesRow : OpenClaim := { program := "ytlnlffmlficjnaa", sum := "1a83fae2efa63fc44a523fd27d8c7d1d5c44cc394e45610af5a23960a0898816", func := "compactor/compactorlaw35.LzPrices", spec := "lzPrices", unfollowed := true, recurses := true, apart := false }
def LzPricesSaid : Prop := lzPricesRow.holds Try.pinned (OpenSpec.ofChange lzPricesSpec)

/-- ITS FALSE NEIGHBOUR: 'it returns false'. Refute it at one input. -/
def lzPricesWrong : ChangeSpec := { name := "lzPrices", fn := fun _ => fun
  | [d] => { results := [.lit (.bool false)], args := [d] }
  | _ => none }
def LzPricesWrongFalsely : Prop := lzPricesRow.holds Try.pinned (OpenSpec.ofChange lzPricesWrong)

/-- 'compactorlaw35.LzOnce': WHATEVER THE INPUT: true; the input reads as it did. -/
def lzOnceSpec : ChangeSpec := { name := "lzOnce", fn := fun _ => fun
  | [d] => { results := [.lit (.bool true)], args := [d] }
  | _ => none }
def lzOnceRow : OpenClaim := { program := "ytlnlffmlficjnaa", sum := "1a83fae2efa63fc44a523fd27d8c7d1d5c44cc394e45610af5a23960a0898816", func := "compactor/compactorlaw35.LzOnce", spec := "lzOnce", unfollowed := true, recurses := true, apart := false }
def LzOnceSaid : Prop := lzOnceRow.holds Try.pinned (OpenSpec.ofChange lzOnceSpec)

/-- ITS FALSE NEIGHBOUR: 'it returns false'. Refute it at one input. -/
def lzOnceWrong : ChangeSpec := { name := "lzOnce", fn := fun _ => fun
  | [d] => { results := [.lit (.bool false)], args := [d] }
  | _ => none }
def LzOnceWrongFalsely : Prop := lzOnceRow.holds Try.pinned (OpenSpec.ofChange lzOnceWrong)

/-- 'compactorlaw35.LzGrows': WHATEVER THE INPUT: true; the input reads as it did. -/
def lzGrowsSpec : ChangeSpec := { name := "lzGrows", fn := fun _ => fun
  | [d1, d2, d3] => { results := [.lit (.bool true)], args := [d1, d2, d3] }
  | _ => none }
def lzGrowsRow : OpenClaim := { program := "ytlnlffmlficjnaa", sum := "1a83fae2efa63fc44a523fd27d8c7d1d5c44cc394e45610af5a23960a0898816", func := "compactor/compactorlaw35.LzGrows", spec := "lzGrows", unfollowed := true, recurses := true, apart := false }
def LzGrowsSaid : Prop := lzGrowsRow.holds Try.pinned (OpenSpec.ofChange lzGrowsSpec)

/-- ITS FALSE NEIGHBOUR: 'it returns false'. Refute it at one input. -/
def lzGrowsWrong : ChangeSpec := { name := "lzGrows", fn := fun _ => fun
  | [d1, d2, d3] => { results := [.lit (.bool false)], args := [d1, d2, d3] }
  | _ => none }
def LzGrowsWrongFalsely : Prop := lzGrowsRow.holds Try.pinned (OpenSpec.ofChange lzGrowsWrong)

/-- 'compactorlaw35.LzSearches': WHATEVER THE INPUT: true; the input reads as it did. -/
def lzSearchesSpec : ChangeSpec := { name := "lzSearches", fn := fun _ => fun
  | [d1, d2] => { results := [.lit (.bool true)], args := [d1, d2] }
  | _ => none }
def lzSearchesRow : OpenClaim := { program := "ytlnlffmlficjnaa", sum := "1a83fae2efa63fc44a523fd27d8c7d1d5c44cc394e45610af5a23960a0898816", func := "compactor/compactorlaw35.LzSearches", spec := "lzSearches", unfollowed := true, recurses := true, apart := false }
def LzSearchesSaid : Prop := lzSearchesRow.holds Try.pinned (OpenSpec.ofChange lzSearchesSpec)

/-- ITS FALSE NEIGHBOUR: 'it returns false'. Refute it at one input. -/
def lzSearchesWrong : ChangeSpec := { name := "lzSearches", fn := fun _ => fun
  | [d1, d2] => { results := [.lit (.bool false)], args := [d1, d2] }
  | _ => none }
def LzSearchesWrongFalsely : Prop := lzSearchesRow.holds Try.pinned (OpenSpec.ofChange lzSearchesWrong)

/-- 'compactorlaw35.LzLongest': WHATEVER THE INPUT: true; the input reads as it did. -/
def lzLongestSpec : ChangeSpec := { name := "lzLongest", fn := fun _ => fun
  | [d1, d2] => { results := [.lit (.bool true)], args := [d1, d2] }
  | _ => none }
def lzLongestRow : OpenClaim := { program := "ytlnlffmlficjnaa", sum := "1a83fae2efa63fc44a523fd27d8c7d1d5c44cc394e45610af5a23960a0898816", func := "compactor/compactorlaw35.LzLongest", spec := "lzLongest", unfollowed := true, recurses := true, apart := false }
def LzLongestSaid : Prop := lzLongestRow.holds Try.pinned (OpenSpec.ofChange lzLongestSpec)

/-- ITS FALSE NEIGHBOUR: 'it returns false'. Refute it at one input. -/
def lzLongestWrong : ChangeSpec := { name := "lzLongest", fn := fun _ => fun
  | [d1, d2] => { results := [.lit (.bool false)], args := [d1, d2] }
  | _ => none }
def LzLongestWrongFalsely : Prop := lzLongestRow.holds Try.pinned (OpenSpec.ofChange lzLongestWrong)

/- THE SECOND FORM. 'bulk': how many values and letters a reading holds, each counted each time it is reached (what is shared counts as often as it is met; a slice's spare places count too). A statement '..UptoSaid' is the law's where the arguments, and the package variables that the reading takes, are together of bulk at most 1048576: NARROWER than '..Said'. Prove '..Said' where nothing that the law and all that it calls make is longer than what came in: it says more and counts as full. Else prove '..UptoSaid'. A law counts once. -/
mutual
def uptoBulk {H : Type} : DataW H → Nat
  | .lit (.string bytes) => bytes.length + 1
  | .lit _ => 1
  | .nil => 1
  | .ptr d => uptoBulk d + 1
  | .slice elems spare => uptoBulkAll elems + uptoBulkAll spare + 1
  | .agg parts => uptoBulkAll parts + 1
  | .iface _ d => uptoBulk d + 1
  | .map entries => uptoBulkEntries entries + 1
  | .held _ => 1
def uptoBulkAll {H : Type} : List (DataW H) → Nat
  | [] => 0
  | d :: r => uptoBulk d + uptoBulkAll r
def uptoBulkEntries {H : Type} : List (Lit × DataW H) → Nat
  | [] => 0
  | x :: r => uptoBulkEntry x + uptoBulkEntries r
def uptoBulkEntry {H : Type} : Lit × DataW H → Nat
  | (.string bytes, d) => bytes.length + uptoBulk d + 1
  | (_, d) => uptoBulk d + 1
 end
def uptoSmall : (H : Type) → List (DataW H) → Bool := fun _ ds => decide (uptoBulkAll ds ≤ 1048576)
def OpenSpec.upto (s : _root_.Go.ChangeSpec) : _root_.Go.OpenSpec := { _root_.Go.OpenSpec.ofChange s with cond := some uptoSmall }

/-- 'compactorlaw35.LzChecks', WHERE WHAT IT READS IS OF BULK AT MOST 1048576: true; the input reads as it did. -/
def lzChecksUptoRow : OpenClaim := { program := "ytlnlffmlficjnaa", sum := "1a83fae2efa63fc44a523fd27d8c7d1d5c44cc394e45610af5a23960a0898816", func := "compactor/compactorlaw35.LzChecks", spec := "lzChecks", unfollowed := true, recurses := true, apart := false, narrowed := true }
def LzChecksUptoSaid : Prop := lzChecksUptoRow.holds Try.pinned (OpenSpec.upto lzChecksSpec)

/-- 'compactorlaw35.LzEncodes', WHERE WHAT IT READS IS OF BULK AT MOST 1048576: true; the input reads as it did. -/
def lzEncodesUptoRow : OpenClaim := { program := "ytlnlffmlficjnaa", sum := "1a83fae2efa63fc44a523fd27d8c7d1d5c44cc394e45610af5a23960a0898816", func := "compactor/compactorlaw35.LzEncodes", spec := "lzEncodes", unfollowed := true, recurses := true, apart := false, narrowed := true }
def LzEncodesUptoSaid : Prop := lzEncodesUptoRow.holds Try.pinned (OpenSpec.upto lzEncodesSpec)

/-- 'compactorlaw35.LzRestores', WHERE WHAT IT READS IS OF BULK AT MOST 1048576: true; the input reads as it did. -/
def lzRestoresUptoRow : OpenClaim := { program := "ytlnlffmlficjnaa", sum := "1a83fae2efa63fc44a523fd27d8c7d1d5c44cc394e45610af5a23960a0898816", func := "compactor/compactorlaw35.LzRestores", spec := "lzRestores", unfollowed := true, recurses := true, apart := false, narrowed := true }
def LzRestoresUptoSaid : Prop := lzRestoresUptoRow.holds Try.pinned (OpenSpec.upto lzRestoresSpec)

/-- 'compactorlaw35.LzPrices', WHERE WHAT IT READS IS OF BULK AT MOST 1048576: true; the input reads as it did. -/
def lzPricesUptoRow : OpenClaim := { program := "ytlnlffmlficjnaa", sum := "1a83fae2efa63fc44a523fd27d8c7d1d5c44cc394e45610af5a23960a0898816", func := "compactor/compactorlaw35.LzPrices", spec := "lzPrices", unfollowed := true, recurses := true, apart := false, narrowed := true }
def LzPricesUptoSaid : Prop := lzPricesUptoRow.holds Try.pinned (OpenSpec.upto lzPricesSpec)

/-- 'compactorlaw35.LzOnce', WHERE WHAT IT READS IS OF BULK AT MOST 1048576: true; the input reads as it did. -/
def lzOnceUptoRow : OpenClaim := { program := "ytlnlffmlficjnaa", sum := "1a83fae2efa63fc44a523fd27d8c7d1d5c44cc394e45610af5a23960a0898816", func := "compactor/compactorlaw35.LzOnce", spec := "lzOnce", unfollowed := true, recurses := true, apart := false, narrowed := true }
def LzOnceUptoSaid : Prop := lzOnceUptoRow.holds Try.pinned (OpenSpec.upto lzOnceSpec)

/-- 'compactorlaw35.LzGrows', WHERE WHAT IT READS IS OF BULK AT MOST 1048576: true; the input reads as it did. -/
def lzGrowsUptoRow : OpenClaim := { program := "ytlnlffmlficjnaa", sum := "1a83fae2efa63fc44a523fd27d8c7d1d5c44cc394e45610af5a23960a0898816", func := "compactor/compactorlaw35.LzGrows", spec := "lzGrows", unfollowed := true, recurses := true, apart := false, narrowed := true }
def LzGrowsUptoSaid : Prop := lzGrowsUptoRow.holds Try.pinned (OpenSpec.upto lzGrowsSpec)

/-- 'compactorlaw35.LzSearches', WHERE WHAT IT READS IS OF BULK AT MOST 1048576: true; the input reads as it did. -/
def lzSearchesUptoRow : OpenClaim := { program := "ytlnlffmlficjnaa", sum := "1a83fae2efa63fc44a523fd27d8c7d1d5c44cc394e45610af5a23960a0898816", func := "compactor/compactorlaw35.LzSearches", spec := "lzSearches", unfollowed := true, recurses := true, apart := false, narrowed := true }
def LzSearchesUptoSaid : Prop := lzSearchesUptoRow.holds Try.pinned (OpenSpec.upto lzSearchesSpec)

/-- 'compactorlaw35.LzLongest', WHERE WHAT IT READS IS OF BULK AT MOST 1048576: true; the input reads as it did. -/
def lzLongestUptoRow : OpenClaim := { program := "ytlnlffmlficjnaa", sum := "1a83fae2efa63fc44a523fd27d8c7d1d5c44cc394e45610af5a23960a0898816", func := "compactor/compactorlaw35.LzLongest", spec := "lzLongest", unfollowed := true, recurses := true, apart := false, narrowed := true }
def LzLongestUptoSaid : Prop := lzLongestUptoRow.holds Try.pinned (OpenSpec.upto lzLongestSpec)

end Rows
end Go.Proofs.Ytlnlffmlficjnaa
