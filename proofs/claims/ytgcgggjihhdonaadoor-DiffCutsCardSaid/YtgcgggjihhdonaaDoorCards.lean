/-
  DERIVED. GIVEN WITH THE SEED: THE CARDS: each row of YtgcgggjihhdonaaDoorRows.lean that lists a variable, with what it lists TIED to the program's text (the seventh form; the later family's looks); each row that meets fmt, with fmt's text TOLD by the authors' own Lean function (tested against real Go, not proved from fmt's source: count such statements apart). THE CARD IS WHAT COUNTS. Prove the row's statement (the work); the ties are given (YtgcgggjihhdonaaDoorTie.lean); close each card by the builder's one call (the guide's Derived/Test/ToyasCard.lean, 'card_holds'). Laid BY PROGRAM, IN A SANDBOX (cutbox-door.mjs). By AI agents, Wed Nov 11 2026. No macro, syntax, notation, axiom, sorry.
-/
import Derived.Test.YtgcgggjihhdonaaDoorRows
import GoSem.ClaimSeven
namespace Go.Proofs.YtgcgggjihhdonaaDoor
namespace Rows

/-- THE TIED CARD OF 'triremelaw17.DiffCuts'. -/
def diffCutsCard : Claim7 := { stood := { row := diffCutsRow, standIns := [], harness := (true, "d3f5864b230ed6a9cf152e19fa1ef4972aaf181695f4a187e685aba12886631c"), looks := false }, kinds := [], alts := [], laidByText := true, laidKinds := [.data, .data], laidTests := true, laidLooks := .later }
def DiffCutsCardSaid : Prop := Claim7.holds Tryd.pinned (.plain (OpenSpec.ofChange diffCutsSpec)) diffCutsCard

/-- THE SECOND FORM's CARD OF 'triremelaw17.DiffCuts'. -/
def diffCutsUptoCard : Claim7 := { stood := { row := diffCutsUptoRow, standIns := [], harness := (true, "d3f5864b230ed6a9cf152e19fa1ef4972aaf181695f4a187e685aba12886631c"), looks := false }, kinds := [], alts := [], laidByText := true, laidKinds := [.data, .data], laidTests := true, laidLooks := .later }
def DiffCutsUptoCardSaid : Prop := Claim7.holds Tryd.pinned (.plain (OpenSpec.upto diffCutsSpec)) diffCutsUptoCard
end Rows
end Go.Proofs.YtgcgggjihhdonaaDoor
