/-
  DERIVED. GIVEN WITH THE SEED: THE CARDS: each row of YthcjjjnphgopjaaGreatDoorRows.lean that lists a variable, with what it lists TIED to the program's text (the seventh form; the later family's looks); each row that meets fmt, with fmt's text TOLD by the authors' own Lean function (tested against real Go, not proved from fmt's source: count such statements apart). THE CARD IS WHAT COUNTS. Prove the row's statement (the work); the ties are given (YthcjjjnphgopjaaGreatDoorTie.lean); close each card by the builder's one call (the guide's Derived/Test/ToyasCard.lean, 'card_holds'). Laid BY PROGRAM, IN A SANDBOX (cutbox-door.mjs). By AI agents, Wed Nov 11 2026. No macro, syntax, notation, axiom, sorry.
-/
import Derived.Test.YthcjjjnphgopjaaGreatDoorRows
import GoSem.ClaimSeven
namespace Go.Proofs.YthcjjjnphgopjaaGreatDoor
namespace Rows

/-- THE TIED CARD OF 'triremelaw11.FilesDoes'. -/
def filesDoesCard : Claim7 := { stood := { row := filesDoesRow, standIns := [], harness := (true, "f710335c7109080312796fb4267c79a3110958e2972520cb9f0cbe67ac5049f4"), looks := true }, kinds := [], alts := [], laidByText := true, laidKinds := [.data, .pinned], laidTests := true, laidLooks := .later }
def FilesDoesCardSaid : Prop := Claim7.holds Tryz.pinned (.plain (OpenSpec.ofChange filesDoesSpec)) filesDoesCard

/-- THE TIED CARD OF 'triremelaw11.FilesPlays'. -/
def filesPlaysCard : Claim7 := { stood := { row := filesPlaysRow, standIns := [], harness := (true, "f710335c7109080312796fb4267c79a3110958e2972520cb9f0cbe67ac5049f4"), looks := true }, kinds := [], alts := [], laidByText := true, laidKinds := [.data, .pinned], laidTests := true, laidLooks := .later }
def FilesPlaysCardSaid : Prop := Claim7.holds Tryz.pinned (.plain (OpenSpec.ofChange filesPlaysSpec)) filesPlaysCard

/-- THE TIED CARD OF 'triremelaw11.FilesReads'. -/
def filesReadsCard : Claim7 := { stood := { row := filesReadsRow, standIns := [], harness := (true, "f710335c7109080312796fb4267c79a3110958e2972520cb9f0cbe67ac5049f4"), looks := true }, kinds := [], alts := [], laidByText := true, laidKinds := [.data, .pinned], laidTests := true, laidLooks := .later }
def FilesReadsCardSaid : Prop := Claim7.holds Tryz.pinned (.plain (OpenSpec.ofChange filesReadsSpec)) filesReadsCard

/-- THE TIED CARD OF 'triremelaw11.FilesMoves'. -/
def filesMovesCard : Claim7 := { stood := { row := filesMovesRow, standIns := [], harness := (true, "f710335c7109080312796fb4267c79a3110958e2972520cb9f0cbe67ac5049f4"), looks := true }, kinds := [], alts := [], laidByText := true, laidKinds := [.data, .pinned], laidTests := true, laidLooks := .later }
def FilesMovesCardSaid : Prop := Claim7.holds Tryz.pinned (.plain (OpenSpec.ofChange filesMovesSpec)) filesMovesCard

/-- THE TIED CARD OF 'triremelaw11.FilesErrors'. -/
def filesErrorsCard : Claim7 := { stood := { row := filesErrorsRow, standIns := [], harness := (true, "f710335c7109080312796fb4267c79a3110958e2972520cb9f0cbe67ac5049f4"), looks := true }, kinds := [], alts := [], laidByText := true, laidKinds := [.data, .pinned], laidTests := true, laidLooks := .later }
def FilesErrorsCardSaid : Prop := Claim7.holds Tryz.pinned (.plain (OpenSpec.ofChange filesErrorsSpec)) filesErrorsCard

/-- THE TIED CARD OF 'triremelaw11.FilesLists'. -/
def filesListsCard : Claim7 := { stood := { row := filesListsRow, standIns := [], harness := (true, "f710335c7109080312796fb4267c79a3110958e2972520cb9f0cbe67ac5049f4"), looks := true }, kinds := [], alts := [], laidByText := true, laidKinds := [.data, .pinned], laidTests := true, laidLooks := .later }
def FilesListsCardSaid : Prop := Claim7.holds Tryz.pinned (.plain (OpenSpec.ofChange filesListsSpec)) filesListsCard

/-- THE TIED CARD OF 'triremelaw11.FilesUndone'. -/
def filesUndoneCard : Claim7 := { stood := { row := filesUndoneRow, standIns := [], harness := (true, "f710335c7109080312796fb4267c79a3110958e2972520cb9f0cbe67ac5049f4"), looks := true }, kinds := [], alts := [], laidByText := true, laidKinds := [.data, .pinned], laidTests := true, laidLooks := .later }
def FilesUndoneCardSaid : Prop := Claim7.holds Tryz.pinned (.plain (OpenSpec.ofChange filesUndoneSpec)) filesUndoneCard

/-- THE SECOND FORM's CARD OF 'triremelaw11.FilesDoes'. -/
def filesDoesUptoCard : Claim7 := { stood := { row := filesDoesUptoRow, standIns := [], harness := (true, "f710335c7109080312796fb4267c79a3110958e2972520cb9f0cbe67ac5049f4"), looks := true }, kinds := [], alts := [], laidByText := true, laidKinds := [.data, .pinned], laidTests := true, laidLooks := .later }
def FilesDoesUptoCardSaid : Prop := Claim7.holds Tryz.pinned (.plain (OpenSpec.upto filesDoesSpec)) filesDoesUptoCard

/-- THE SECOND FORM's CARD OF 'triremelaw11.FilesPlays'. -/
def filesPlaysUptoCard : Claim7 := { stood := { row := filesPlaysUptoRow, standIns := [], harness := (true, "f710335c7109080312796fb4267c79a3110958e2972520cb9f0cbe67ac5049f4"), looks := true }, kinds := [], alts := [], laidByText := true, laidKinds := [.data, .pinned], laidTests := true, laidLooks := .later }
def FilesPlaysUptoCardSaid : Prop := Claim7.holds Tryz.pinned (.plain (OpenSpec.upto filesPlaysSpec)) filesPlaysUptoCard

/-- THE SECOND FORM's CARD OF 'triremelaw11.FilesReads'. -/
def filesReadsUptoCard : Claim7 := { stood := { row := filesReadsUptoRow, standIns := [], harness := (true, "f710335c7109080312796fb4267c79a3110958e2972520cb9f0cbe67ac5049f4"), looks := true }, kinds := [], alts := [], laidByText := true, laidKinds := [.data, .pinned], laidTests := true, laidLooks := .later }
def FilesReadsUptoCardSaid : Prop := Claim7.holds Tryz.pinned (.plain (OpenSpec.upto filesReadsSpec)) filesReadsUptoCard

/-- THE SECOND FORM's CARD OF 'triremelaw11.FilesMoves'. -/
def filesMovesUptoCard : Claim7 := { stood := { row := filesMovesUptoRow, standIns := [], harness := (true, "f710335c7109080312796fb4267c79a3110958e2972520cb9f0cbe67ac5049f4"), looks := true }, kinds := [], alts := [], laidByText := true, laidKinds := [.data, .pinned], laidTests := true, laidLooks := .later }
def FilesMovesUptoCardSaid : Prop := Claim7.holds Tryz.pinned (.plain (OpenSpec.upto filesMovesSpec)) filesMovesUptoCard

/-- THE SECOND FORM's CARD OF 'triremelaw11.FilesErrors'. -/
def filesErrorsUptoCard : Claim7 := { stood := { row := filesErrorsUptoRow, standIns := [], harness := (true, "f710335c7109080312796fb4267c79a3110958e2972520cb9f0cbe67ac5049f4"), looks := true }, kinds := [], alts := [], laidByText := true, laidKinds := [.data, .pinned], laidTests := true, laidLooks := .later }
def FilesErrorsUptoCardSaid : Prop := Claim7.holds Tryz.pinned (.plain (OpenSpec.upto filesErrorsSpec)) filesErrorsUptoCard

/-- THE SECOND FORM's CARD OF 'triremelaw11.FilesLists'. -/
def filesListsUptoCard : Claim7 := { stood := { row := filesListsUptoRow, standIns := [], harness := (true, "f710335c7109080312796fb4267c79a3110958e2972520cb9f0cbe67ac5049f4"), looks := true }, kinds := [], alts := [], laidByText := true, laidKinds := [.data, .pinned], laidTests := true, laidLooks := .later }
def FilesListsUptoCardSaid : Prop := Claim7.holds Tryz.pinned (.plain (OpenSpec.upto filesListsSpec)) filesListsUptoCard

/-- THE SECOND FORM's CARD OF 'triremelaw11.FilesUndone'. -/
def filesUndoneUptoCard : Claim7 := { stood := { row := filesUndoneUptoRow, standIns := [], harness := (true, "f710335c7109080312796fb4267c79a3110958e2972520cb9f0cbe67ac5049f4"), looks := true }, kinds := [], alts := [], laidByText := true, laidKinds := [.data, .pinned], laidTests := true, laidLooks := .later }
def FilesUndoneUptoCardSaid : Prop := Claim7.holds Tryz.pinned (.plain (OpenSpec.upto filesUndoneSpec)) filesUndoneUptoCard
end Rows
end Go.Proofs.YthcjjjnphgopjaaGreatDoor
