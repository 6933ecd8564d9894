/-
  DERIVED. GIVEN WITH THE SEED: THE CARDS: each row of YtnagibpmfabkjaaGreatDoorRows.lean that lists a variable, with what it lists TIED to the program's text (the seventh form; the later family's looks); each row that meets fmt, with fmt's text TOLD by the authors' own Lean function (tested against real Go, not proved from fmt's source: count such statements apart). THE CARD IS WHAT COUNTS. Prove the row's statement (the work); the ties are given (YtnagibpmfabkjaaGreatDoorTie.lean); close each card by the builder's one call (the guide's Derived/Test/ToyasCard.lean, 'card_holds'). Laid BY PROGRAM, IN A SANDBOX (cutbox-door.mjs). By AI agents, Wed Nov 11 2026. No macro, syntax, notation, axiom, sorry.
-/
import Derived.Test.YtnagibpmfabkjaaGreatDoorRows
import GoSem.ClaimSeven
namespace Go.Proofs.YtnagibpmfabkjaaGreatDoor
namespace Rows

/-- THE TIED CARD OF 'triremelaw12.SnapsStay'. -/
def snapsStayCard : Claim7 := { stood := { row := snapsStayRow, standIns := [], harness := (true, "d1d111daf6d1042f20b1cb456d3195e3806965cf5569042062f52f0d7336d7f7"), looks := true }, kinds := [], alts := [], laidByText := true, laidKinds := [.data, .pinned], laidTests := true, laidLooks := .later }
def SnapsStayCardSaid : Prop := Claim7.holds Tryz.pinned (.plain (OpenSpec.ofChange snapsStaySpec)) snapsStayCard

/-- THE TIED CARD OF 'triremelaw12.SnapsDoes'. -/
def snapsDoesCard : Claim7 := { stood := { row := snapsDoesRow, standIns := [], harness := (true, "d1d111daf6d1042f20b1cb456d3195e3806965cf5569042062f52f0d7336d7f7"), looks := true }, kinds := [], alts := [], laidByText := true, laidKinds := [.data, .pinned], laidTests := true, laidLooks := .later }
def SnapsDoesCardSaid : Prop := Claim7.holds Tryz.pinned (.plain (OpenSpec.ofChange snapsDoesSpec)) snapsDoesCard

/-- THE TIED CARD OF 'triremelaw12.SnapsPlays'. -/
def snapsPlaysCard : Claim7 := { stood := { row := snapsPlaysRow, standIns := [], harness := (true, "d1d111daf6d1042f20b1cb456d3195e3806965cf5569042062f52f0d7336d7f7"), looks := true }, kinds := [], alts := [], laidByText := true, laidKinds := [.data, .pinned], laidTests := true, laidLooks := .later }
def SnapsPlaysCardSaid : Prop := Claim7.holds Tryz.pinned (.plain (OpenSpec.ofChange snapsPlaysSpec)) snapsPlaysCard

/-- THE TIED CARD OF 'triremelaw12.SnapsFull'. -/
def snapsFullCard : Claim7 := { stood := { row := snapsFullRow, standIns := [], harness := (true, "d1d111daf6d1042f20b1cb456d3195e3806965cf5569042062f52f0d7336d7f7"), looks := true }, kinds := [], alts := [], laidByText := true, laidKinds := [.data, .pinned], laidTests := true, laidLooks := .later }
def SnapsFullCardSaid : Prop := Claim7.holds Tryz.pinned (.plain (OpenSpec.ofChange snapsFullSpec)) snapsFullCard

/-- THE TIED CARD OF 'triremelaw12.SnapsUnits'. -/
def snapsUnitsCard : Claim7 := { stood := { row := snapsUnitsRow, standIns := [], harness := (true, "d1d111daf6d1042f20b1cb456d3195e3806965cf5569042062f52f0d7336d7f7"), looks := true }, kinds := [], alts := [], laidByText := true, laidKinds := [.data, .pinned], laidTests := true, laidLooks := .later }
def SnapsUnitsCardSaid : Prop := Claim7.holds Tryz.pinned (.plain (OpenSpec.ofChange snapsUnitsSpec)) snapsUnitsCard

/-- THE TIED CARD OF 'triremelaw12.SnapsTwice'. -/
def snapsTwiceCard : Claim7 := { stood := { row := snapsTwiceRow, standIns := [], harness := (true, "d1d111daf6d1042f20b1cb456d3195e3806965cf5569042062f52f0d7336d7f7"), looks := true }, kinds := [], alts := [], laidByText := true, laidKinds := [.data, .pinned], laidTests := true, laidLooks := .later }
def SnapsTwiceCardSaid : Prop := Claim7.holds Tryz.pinned (.plain (OpenSpec.ofChange snapsTwiceSpec)) snapsTwiceCard

/-- THE TIED CARD OF 'triremelaw12.SnapsLists'. -/
def snapsListsCard : Claim7 := { stood := { row := snapsListsRow, standIns := [], harness := (true, "d1d111daf6d1042f20b1cb456d3195e3806965cf5569042062f52f0d7336d7f7"), looks := true }, kinds := [], alts := [], laidByText := true, laidKinds := [.data, .pinned], laidTests := true, laidLooks := .later }
def SnapsListsCardSaid : Prop := Claim7.holds Tryz.pinned (.plain (OpenSpec.ofChange snapsListsSpec)) snapsListsCard

/-- THE TIED CARD OF 'triremelaw13.TableDoes'. -/
def tableDoesCard : Claim7 := { stood := { row := tableDoesRow, standIns := [], harness := (true, "d1d111daf6d1042f20b1cb456d3195e3806965cf5569042062f52f0d7336d7f7"), looks := true }, kinds := [], alts := [], laidByText := true, laidKinds := [.data, .pinned], laidTests := true, laidLooks := .later }
def TableDoesCardSaid : Prop := Claim7.holds Tryz.pinned (.plain (OpenSpec.ofChange tableDoesSpec)) tableDoesCard

/-- THE TIED CARD OF 'triremelaw13.TableOnce'. -/
def tableOnceCard : Claim7 := { stood := { row := tableOnceRow, standIns := [], harness := (true, "d1d111daf6d1042f20b1cb456d3195e3806965cf5569042062f52f0d7336d7f7"), looks := true }, kinds := [], alts := [], laidByText := true, laidKinds := [.data, .pinned], laidTests := true, laidLooks := .later }
def TableOnceCardSaid : Prop := Claim7.holds Tryz.pinned (.plain (OpenSpec.ofChange tableOnceSpec)) tableOnceCard

/-- THE TIED CARD OF 'triremelaw13.TableApart'. -/
def tableApartCard : Claim7 := { stood := { row := tableApartRow, standIns := [], harness := (true, "d1d111daf6d1042f20b1cb456d3195e3806965cf5569042062f52f0d7336d7f7"), looks := true }, kinds := [], alts := [], laidByText := true, laidKinds := [.data, .pinned], laidTests := true, laidLooks := .later }
def TableApartCardSaid : Prop := Claim7.holds Tryz.pinned (.plain (OpenSpec.ofChange tableApartSpec)) tableApartCard

/-- THE SECOND FORM's CARD OF 'triremelaw12.SnapsStay'. -/
def snapsStayUptoCard : Claim7 := { stood := { row := snapsStayUptoRow, standIns := [], harness := (true, "d1d111daf6d1042f20b1cb456d3195e3806965cf5569042062f52f0d7336d7f7"), looks := true }, kinds := [], alts := [], laidByText := true, laidKinds := [.data, .pinned], laidTests := true, laidLooks := .later }
def SnapsStayUptoCardSaid : Prop := Claim7.holds Tryz.pinned (.plain (OpenSpec.upto snapsStaySpec)) snapsStayUptoCard

/-- THE SECOND FORM's CARD OF 'triremelaw12.SnapsDoes'. -/
def snapsDoesUptoCard : Claim7 := { stood := { row := snapsDoesUptoRow, standIns := [], harness := (true, "d1d111daf6d1042f20b1cb456d3195e3806965cf5569042062f52f0d7336d7f7"), looks := true }, kinds := [], alts := [], laidByText := true, laidKinds := [.data, .pinned], laidTests := true, laidLooks := .later }
def SnapsDoesUptoCardSaid : Prop := Claim7.holds Tryz.pinned (.plain (OpenSpec.upto snapsDoesSpec)) snapsDoesUptoCard

/-- THE SECOND FORM's CARD OF 'triremelaw12.SnapsPlays'. -/
def snapsPlaysUptoCard : Claim7 := { stood := { row := snapsPlaysUptoRow, standIns := [], harness := (true, "d1d111daf6d1042f20b1cb456d3195e3806965cf5569042062f52f0d7336d7f7"), looks := true }, kinds := [], alts := [], laidByText := true, laidKinds := [.data, .pinned], laidTests := true, laidLooks := .later }
def SnapsPlaysUptoCardSaid : Prop := Claim7.holds Tryz.pinned (.plain (OpenSpec.upto snapsPlaysSpec)) snapsPlaysUptoCard

/-- THE SECOND FORM's CARD OF 'triremelaw12.SnapsFull'. -/
def snapsFullUptoCard : Claim7 := { stood := { row := snapsFullUptoRow, standIns := [], harness := (true, "d1d111daf6d1042f20b1cb456d3195e3806965cf5569042062f52f0d7336d7f7"), looks := true }, kinds := [], alts := [], laidByText := true, laidKinds := [.data, .pinned], laidTests := true, laidLooks := .later }
def SnapsFullUptoCardSaid : Prop := Claim7.holds Tryz.pinned (.plain (OpenSpec.upto snapsFullSpec)) snapsFullUptoCard

/-- THE SECOND FORM's CARD OF 'triremelaw12.SnapsUnits'. -/
def snapsUnitsUptoCard : Claim7 := { stood := { row := snapsUnitsUptoRow, standIns := [], harness := (true, "d1d111daf6d1042f20b1cb456d3195e3806965cf5569042062f52f0d7336d7f7"), looks := true }, kinds := [], alts := [], laidByText := true, laidKinds := [.data, .pinned], laidTests := true, laidLooks := .later }
def SnapsUnitsUptoCardSaid : Prop := Claim7.holds Tryz.pinned (.plain (OpenSpec.upto snapsUnitsSpec)) snapsUnitsUptoCard

/-- THE SECOND FORM's CARD OF 'triremelaw12.SnapsTwice'. -/
def snapsTwiceUptoCard : Claim7 := { stood := { row := snapsTwiceUptoRow, standIns := [], harness := (true, "d1d111daf6d1042f20b1cb456d3195e3806965cf5569042062f52f0d7336d7f7"), looks := true }, kinds := [], alts := [], laidByText := true, laidKinds := [.data, .pinned], laidTests := true, laidLooks := .later }
def SnapsTwiceUptoCardSaid : Prop := Claim7.holds Tryz.pinned (.plain (OpenSpec.upto snapsTwiceSpec)) snapsTwiceUptoCard

/-- THE SECOND FORM's CARD OF 'triremelaw12.SnapsLists'. -/
def snapsListsUptoCard : Claim7 := { stood := { row := snapsListsUptoRow, standIns := [], harness := (true, "d1d111daf6d1042f20b1cb456d3195e3806965cf5569042062f52f0d7336d7f7"), looks := true }, kinds := [], alts := [], laidByText := true, laidKinds := [.data, .pinned], laidTests := true, laidLooks := .later }
def SnapsListsUptoCardSaid : Prop := Claim7.holds Tryz.pinned (.plain (OpenSpec.upto snapsListsSpec)) snapsListsUptoCard

/-- THE SECOND FORM's CARD OF 'triremelaw13.TableDoes'. -/
def tableDoesUptoCard : Claim7 := { stood := { row := tableDoesUptoRow, standIns := [], harness := (true, "d1d111daf6d1042f20b1cb456d3195e3806965cf5569042062f52f0d7336d7f7"), looks := true }, kinds := [], alts := [], laidByText := true, laidKinds := [.data, .pinned], laidTests := true, laidLooks := .later }
def TableDoesUptoCardSaid : Prop := Claim7.holds Tryz.pinned (.plain (OpenSpec.upto tableDoesSpec)) tableDoesUptoCard

/-- THE SECOND FORM's CARD OF 'triremelaw13.TableOnce'. -/
def tableOnceUptoCard : Claim7 := { stood := { row := tableOnceUptoRow, standIns := [], harness := (true, "d1d111daf6d1042f20b1cb456d3195e3806965cf5569042062f52f0d7336d7f7"), looks := true }, kinds := [], alts := [], laidByText := true, laidKinds := [.data, .pinned], laidTests := true, laidLooks := .later }
def TableOnceUptoCardSaid : Prop := Claim7.holds Tryz.pinned (.plain (OpenSpec.upto tableOnceSpec)) tableOnceUptoCard

/-- THE SECOND FORM's CARD OF 'triremelaw13.TableApart'. -/
def tableApartUptoCard : Claim7 := { stood := { row := tableApartUptoRow, standIns := [], harness := (true, "d1d111daf6d1042f20b1cb456d3195e3806965cf5569042062f52f0d7336d7f7"), looks := true }, kinds := [], alts := [], laidByText := true, laidKinds := [.data, .pinned], laidTests := true, laidLooks := .later }
def TableApartUptoCardSaid : Prop := Claim7.holds Tryz.pinned (.plain (OpenSpec.upto tableApartSpec)) tableApartUptoCard
end Rows
end Go.Proofs.YtnagibpmfabkjaaGreatDoor
