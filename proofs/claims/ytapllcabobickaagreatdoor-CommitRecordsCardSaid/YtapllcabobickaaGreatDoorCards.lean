/-
  DERIVED. GIVEN WITH THE SEED: THE CARDS: each row of YtapllcabobickaaGreatDoorRows.lean that lists a variable, with what it lists TIED to the program's text (the seventh form; the later family's looks); each row that meets fmt, with fmt's text TOLD by the authors' own Lean function (tested against real Go, not proved from fmt's source: count such statements apart). THE CARD IS WHAT COUNTS. Prove the row's statement (the work); the ties are given (YtapllcabobickaaGreatDoorTie.lean); close each card by the builder's one call (the guide's Derived/Test/ToyasCard.lean, 'card_holds'). Laid BY PROGRAM, IN A SANDBOX (cutbox-door.mjs). By AI agents, Wed Nov 11 2026. No macro, syntax, notation, axiom, sorry.
-/
import Derived.Test.YtapllcabobickaaGreatDoorRows
import GoSem.ClaimSeven
namespace Go.Proofs.YtapllcabobickaaGreatDoor
namespace Rows

/-- THE TIED CARD OF 'triremelaw14.CommitRecords'. -/
def commitRecordsCard : Claim7 := { stood := { row := commitRecordsRow, standIns := [], harness := (true, "e9178df9c149ed66efe7b37a11f72ba663eae9602fbaea927ea3f255cdfef0e9"), looks := true }, kinds := [], alts := [], laidByText := true, laidKinds := [.data, .data, .data, .pinned], laidTests := true, laidLooks := .later }
def CommitRecordsCardSaid : Prop := Claim7.holds Tryz.pinned (.plain (OpenSpec.ofChange commitRecordsSpec)) commitRecordsCard

/-- THE TIED CARD OF 'triremelaw14.CommitBegins'. -/
def commitBeginsCard : Claim7 := { stood := { row := commitBeginsRow, standIns := [], harness := (true, "e9178df9c149ed66efe7b37a11f72ba663eae9602fbaea927ea3f255cdfef0e9"), looks := true }, kinds := [], alts := [], laidByText := true, laidKinds := [.data, .data, .data, .pinned], laidTests := true, laidLooks := .later }
def CommitBeginsCardSaid : Prop := Claim7.holds Tryz.pinned (.plain (OpenSpec.ofChange commitBeginsSpec)) commitBeginsCard

/-- THE SECOND FORM's CARD OF 'triremelaw14.CommitRecords'. -/
def commitRecordsUptoCard : Claim7 := { stood := { row := commitRecordsUptoRow, standIns := [], harness := (true, "e9178df9c149ed66efe7b37a11f72ba663eae9602fbaea927ea3f255cdfef0e9"), looks := true }, kinds := [], alts := [], laidByText := true, laidKinds := [.data, .data, .data, .pinned], laidTests := true, laidLooks := .later }
def CommitRecordsUptoCardSaid : Prop := Claim7.holds Tryz.pinned (.plain (OpenSpec.upto commitRecordsSpec)) commitRecordsUptoCard

/-- THE SECOND FORM's CARD OF 'triremelaw14.CommitBegins'. -/
def commitBeginsUptoCard : Claim7 := { stood := { row := commitBeginsUptoRow, standIns := [], harness := (true, "e9178df9c149ed66efe7b37a11f72ba663eae9602fbaea927ea3f255cdfef0e9"), looks := true }, kinds := [], alts := [], laidByText := true, laidKinds := [.data, .data, .data, .pinned], laidTests := true, laidLooks := .later }
def CommitBeginsUptoCardSaid : Prop := Claim7.holds Tryz.pinned (.plain (OpenSpec.upto commitBeginsSpec)) commitBeginsUptoCard
end Rows
end Go.Proofs.YtapllcabobickaaGreatDoor
