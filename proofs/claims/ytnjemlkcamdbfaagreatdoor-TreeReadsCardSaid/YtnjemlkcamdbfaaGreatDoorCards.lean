/-
  DERIVED. GIVEN WITH THE SEED: THE CARDS: each row of YtnjemlkcamdbfaaGreatDoorRows.lean that lists a variable, with what it lists TIED to the program's text (the seventh form; the later family's looks); each row that meets fmt, with fmt's text TOLD by the authors' own Lean function (tested against real Go, not proved from fmt's source: count such statements apart). THE CARD IS WHAT COUNTS. Prove the row's statement (the work); the ties are given (YtnjemlkcamdbfaaGreatDoorTie.lean); close each card by the builder's one call (the guide's Derived/Test/ToyasCard.lean, 'card_holds'). Laid BY PROGRAM, IN A SANDBOX (cutbox-door.mjs). By AI agents, Wed Nov 11 2026. No macro, syntax, notation, axiom, sorry.
-/
import Derived.Test.YtnjemlkcamdbfaaGreatDoorRows
import GoSem.ClaimSeven
namespace Go.Proofs.YtnjemlkcamdbfaaGreatDoor
namespace Rows

/-- THE TIED CARD OF 'triremelaw08.TreeReads'. -/
def treeReadsCard : Claim7 := { stood := { row := treeReadsRow, standIns := [], harness := (true, "047abb7a7422a9c6efab4e5db5a2ab7b8fe5948a8b9db3561671d450082c1fc1"), looks := false }, kinds := [], alts := [], laidByText := true, laidKinds := [.data, .data], laidTests := true, laidLooks := .later }
def TreeReadsCardSaid : Prop := Claim7.holds Tryz.pinned (.plain (OpenSpec.ofChange treeReadsSpec)) treeReadsCard

/-- THE SECOND FORM's CARD OF 'triremelaw08.TreeReads'. -/
def treeReadsUptoCard : Claim7 := { stood := { row := treeReadsUptoRow, standIns := [], harness := (true, "047abb7a7422a9c6efab4e5db5a2ab7b8fe5948a8b9db3561671d450082c1fc1"), looks := false }, kinds := [], alts := [], laidByText := true, laidKinds := [.data, .data], laidTests := true, laidLooks := .later }
def TreeReadsUptoCardSaid : Prop := Claim7.holds Tryz.pinned (.plain (OpenSpec.upto treeReadsSpec)) treeReadsUptoCard
end Rows
end Go.Proofs.YtnjemlkcamdbfaaGreatDoor
