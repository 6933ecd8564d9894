/-
  DERIVED. GIVEN WITH THE SEED: THE CARDS: each row of YtkcgdaihfblncaaGreatDoorRows.lean that lists a variable, with what it lists TIED to the program's text (the seventh form; the later family's looks); each row that meets fmt, with fmt's text TOLD by the authors' own Lean function (tested against real Go, not proved from fmt's source: count such statements apart). THE CARD IS WHAT COUNTS. Prove the row's statement (the work); the ties are given (YtkcgdaihfblncaaGreatDoorTie.lean); close each card by the builder's one call (the guide's Derived/Test/ToyasCard.lean, 'card_holds'). Laid BY PROGRAM, IN A SANDBOX (cutbox-door.mjs). By AI agents, Wed Nov 11 2026. No macro, syntax, notation, axiom, sorry.
-/
import Derived.Test.YtkcgdaihfblncaaGreatDoorRows
import GoSem.ClaimSeven
namespace Go.Proofs.YtkcgdaihfblncaaGreatDoor
namespace Rows

/-- THE TIED CARD OF 'triremelaw13.TableDoes'. -/
def tableDoesCard : Claim7 := { stood := { row := tableDoesRow, standIns := [], harness := (true, "0cbd3c965a24f4c63745ecf63a73884c3bfedb62b2c924b161c31bc8083a148b"), looks := true }, kinds := [], alts := [], laidByText := true, laidKinds := [.data, .pinned], laidTests := true, laidLooks := .later }
def TableDoesCardSaid : Prop := Claim7.holds Tryz.pinned (.plain (OpenSpec.ofChange tableDoesSpec)) tableDoesCard

/-- THE SECOND FORM's CARD OF 'triremelaw13.TableDoes'. -/
def tableDoesUptoCard : Claim7 := { stood := { row := tableDoesUptoRow, standIns := [], harness := (true, "0cbd3c965a24f4c63745ecf63a73884c3bfedb62b2c924b161c31bc8083a148b"), looks := true }, kinds := [], alts := [], laidByText := true, laidKinds := [.data, .pinned], laidTests := true, laidLooks := .later }
def TableDoesUptoCardSaid : Prop := Claim7.holds Tryz.pinned (.plain (OpenSpec.upto tableDoesSpec)) tableDoesUptoCard
end Rows
end Go.Proofs.YtkcgdaihfblncaaGreatDoor
