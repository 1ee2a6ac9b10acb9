/-
  DERIVED. GIVEN WITH THE SEED: THE CARDS: each row of YthjnchjfmbblfaaGreatDoorRows.lean that lists a variable, with what it lists TIED to the program's text (the seventh form; the later family's looks); each row that meets fmt, with fmt's text TOLD by the authors' own Lean function (tested against real Go, not proved from fmt's source: count such statements apart). THE CARD IS WHAT COUNTS. Prove the row's statement (the work); the ties are given (YthjnchjfmbblfaaGreatDoorTie.lean); close each card by the builder's one call (the guide's Derived/Test/ToyasCard.lean, 'card_holds'). Laid BY PROGRAM, IN A SANDBOX (cutbox-door.mjs). By AI agents, Wed Nov 11 2026. No macro, syntax, notation, axiom, sorry.
-/
import Derived.Test.YthjnchjfmbblfaaGreatDoorRows
import GoSem.ClaimSeven
namespace Go.Proofs.YthjnchjfmbblfaaGreatDoor
namespace Rows

/-- THE TIED CARD OF 'compactortop.TopSourcesSettled'. -/
def topSourcesSettledCard : Claim7 := { stood := { row := topSourcesSettledRow, standIns := [], harness := (true, "81667b670d9e4d8696cfbd8658dc7d17fb6dbe1cbdf89f98bacf3c3e402b975d"), looks := true }, kinds := [], alts := [], laidByText := true, laidKinds := [.data, .data, .data, .sentinel, .sentinel], laidTests := true, laidLooks := .later }
def TopSourcesSettledCardSaid : Prop := Claim7.holds Tryz.pinned (.plain (OpenSpec.ofChange topSourcesSettledSpec)) topSourcesSettledCard

/-- THE TIED CARD OF 'compactortop.TopDecodedPrinted'. -/
def topDecodedPrintedCard : Claim7 := { stood := { row := topDecodedPrintedRow, standIns := [], harness := (true, "81667b670d9e4d8696cfbd8658dc7d17fb6dbe1cbdf89f98bacf3c3e402b975d"), looks := true }, kinds := [], alts := [], laidByText := true, laidKinds := [.data, .data, .data, .sentinel, .sentinel], laidTests := true, laidLooks := .later }
def TopDecodedPrintedCardSaid : Prop := Claim7.holds Tryz.pinned (.plain (OpenSpec.ofChange topDecodedPrintedSpec)) topDecodedPrintedCard

/-- THE TIED CARD OF 'compactortop.TopProgramsWritten'. -/
def topProgramsWrittenCard : Claim7 := { stood := { row := topProgramsWrittenRow, standIns := [], harness := (true, "81667b670d9e4d8696cfbd8658dc7d17fb6dbe1cbdf89f98bacf3c3e402b975d"), looks := true }, kinds := [], alts := [], laidByText := true, laidKinds := [.data, .data, .data, .sentinel, .sentinel], laidTests := true, laidLooks := .later }
def TopProgramsWrittenCardSaid : Prop := Claim7.holds Tryz.pinned (.plain (OpenSpec.ofChange topProgramsWrittenSpec)) topProgramsWrittenCard

/-- THE SECOND FORM's CARD OF 'compactortop.TopSourcesSettled'. -/
def topSourcesSettledUptoCard : Claim7 := { stood := { row := topSourcesSettledUptoRow, standIns := [], harness := (true, "81667b670d9e4d8696cfbd8658dc7d17fb6dbe1cbdf89f98bacf3c3e402b975d"), looks := true }, kinds := [], alts := [], laidByText := true, laidKinds := [.data, .data, .data, .sentinel, .sentinel], laidTests := true, laidLooks := .later }
def TopSourcesSettledUptoCardSaid : Prop := Claim7.holds Tryz.pinned (.plain (OpenSpec.upto topSourcesSettledSpec)) topSourcesSettledUptoCard

/-- THE SECOND FORM's CARD OF 'compactortop.TopDecodedPrinted'. -/
def topDecodedPrintedUptoCard : Claim7 := { stood := { row := topDecodedPrintedUptoRow, standIns := [], harness := (true, "81667b670d9e4d8696cfbd8658dc7d17fb6dbe1cbdf89f98bacf3c3e402b975d"), looks := true }, kinds := [], alts := [], laidByText := true, laidKinds := [.data, .data, .data, .sentinel, .sentinel], laidTests := true, laidLooks := .later }
def TopDecodedPrintedUptoCardSaid : Prop := Claim7.holds Tryz.pinned (.plain (OpenSpec.upto topDecodedPrintedSpec)) topDecodedPrintedUptoCard

/-- THE SECOND FORM's CARD OF 'compactortop.TopProgramsWritten'. -/
def topProgramsWrittenUptoCard : Claim7 := { stood := { row := topProgramsWrittenUptoRow, standIns := [], harness := (true, "81667b670d9e4d8696cfbd8658dc7d17fb6dbe1cbdf89f98bacf3c3e402b975d"), looks := true }, kinds := [], alts := [], laidByText := true, laidKinds := [.data, .data, .data, .sentinel, .sentinel], laidTests := true, laidLooks := .later }
def TopProgramsWrittenUptoCardSaid : Prop := Claim7.holds Tryz.pinned (.plain (OpenSpec.upto topProgramsWrittenSpec)) topProgramsWrittenUptoCard
end Rows
end Go.Proofs.YthjnchjfmbblfaaGreatDoor
