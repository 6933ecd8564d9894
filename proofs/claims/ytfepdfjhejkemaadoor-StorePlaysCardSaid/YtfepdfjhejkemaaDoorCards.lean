/-
  DERIVED. GIVEN WITH THE SEED: THE CARDS: each row of YtfepdfjhejkemaaDoorRows.lean that lists a variable, with what it lists TIED to the program's text (the seventh form; the later family's looks); each row that meets fmt, with fmt's text TOLD by the authors' own Lean function (tested against real Go, not proved from fmt's source: count such statements apart). THE CARD IS WHAT COUNTS. Prove the row's statement (the work); the ties are given (YtfepdfjhejkemaaDoorTie.lean); close each card by the builder's one call (the guide's Derived/Test/ToyasCard.lean, 'card_holds'). Laid BY PROGRAM, IN A SANDBOX (cutbox-door.mjs). By AI agents, Wed Nov 11 2026. No macro, syntax, notation, axiom, sorry.
-/
import Derived.Test.YtfepdfjhejkemaaDoorRows
import GoSem.ClaimSeven
namespace Go.Proofs.YtfepdfjhejkemaaDoor
namespace Rows

/-- THE TIED CARD OF 'triremelaw05.StoreKeeps'. -/
def storeKeepsCard : Claim7 := { stood := { row := storeKeepsRow, standIns := [], harness := (true, "09412d33d194a0e3d548bc16765f1de22aa5f6ce827cbbecbfd243fc8caf3bcb"), looks := false }, kinds := [], alts := [], laidByText := true, laidKinds := [.data, .data], laidTests := true, laidLooks := .later }
def StoreKeepsCardSaid : Prop := Claim7.holds Tryd.pinned (.plain (OpenSpec.ofChange storeKeepsSpec)) storeKeepsCard

/-- THE TIED CARD OF 'triremelaw05.StoreFull'. -/
def storeFullCard : Claim7 := { stood := { row := storeFullRow, standIns := [], harness := (true, "09412d33d194a0e3d548bc16765f1de22aa5f6ce827cbbecbfd243fc8caf3bcb"), looks := false }, kinds := [], alts := [], laidByText := true, laidKinds := [.data, .data], laidTests := true, laidLooks := .later }
def StoreFullCardSaid : Prop := Claim7.holds Tryd.pinned (.plain (OpenSpec.ofChange storeFullSpec)) storeFullCard

/-- THE TIED CARD OF 'triremelaw05.StoreAny'. -/
def storeAnyCard : Claim7 := { stood := { row := storeAnyRow, standIns := [], harness := (true, "09412d33d194a0e3d548bc16765f1de22aa5f6ce827cbbecbfd243fc8caf3bcb"), looks := false }, kinds := [], alts := [], laidByText := true, laidKinds := [.data, .data], laidTests := true, laidLooks := .later }
def StoreAnyCardSaid : Prop := Claim7.holds Tryd.pinned (.plain (OpenSpec.ofChange storeAnySpec)) storeAnyCard

/-- THE TIED CARD OF 'triremelaw05.StoreTwice'. -/
def storeTwiceCard : Claim7 := { stood := { row := storeTwiceRow, standIns := [], harness := (true, "09412d33d194a0e3d548bc16765f1de22aa5f6ce827cbbecbfd243fc8caf3bcb"), looks := false }, kinds := [], alts := [], laidByText := true, laidKinds := [.data, .data], laidTests := true, laidLooks := .later }
def StoreTwiceCardSaid : Prop := Claim7.holds Tryd.pinned (.plain (OpenSpec.ofChange storeTwiceSpec)) storeTwiceCard

/-- THE TIED CARD OF 'triremelaw05.StorePlays'. -/
def storePlaysCard : Claim7 := { stood := { row := storePlaysRow, standIns := [], harness := (true, "09412d33d194a0e3d548bc16765f1de22aa5f6ce827cbbecbfd243fc8caf3bcb"), looks := false }, kinds := [], alts := [], laidByText := true, laidKinds := [.data, .data], laidTests := true, laidLooks := .later }
def StorePlaysCardSaid : Prop := Claim7.holds Tryd.pinned (.plain (OpenSpec.ofChange storePlaysSpec)) storePlaysCard

/-- THE SECOND FORM's CARD OF 'triremelaw05.StoreKeeps'. -/
def storeKeepsUptoCard : Claim7 := { stood := { row := storeKeepsUptoRow, standIns := [], harness := (true, "09412d33d194a0e3d548bc16765f1de22aa5f6ce827cbbecbfd243fc8caf3bcb"), looks := false }, kinds := [], alts := [], laidByText := true, laidKinds := [.data, .data], laidTests := true, laidLooks := .later }
def StoreKeepsUptoCardSaid : Prop := Claim7.holds Tryd.pinned (.plain (OpenSpec.upto storeKeepsSpec)) storeKeepsUptoCard

/-- THE SECOND FORM's CARD OF 'triremelaw05.StoreFull'. -/
def storeFullUptoCard : Claim7 := { stood := { row := storeFullUptoRow, standIns := [], harness := (true, "09412d33d194a0e3d548bc16765f1de22aa5f6ce827cbbecbfd243fc8caf3bcb"), looks := false }, kinds := [], alts := [], laidByText := true, laidKinds := [.data, .data], laidTests := true, laidLooks := .later }
def StoreFullUptoCardSaid : Prop := Claim7.holds Tryd.pinned (.plain (OpenSpec.upto storeFullSpec)) storeFullUptoCard

/-- THE SECOND FORM's CARD OF 'triremelaw05.StoreAny'. -/
def storeAnyUptoCard : Claim7 := { stood := { row := storeAnyUptoRow, standIns := [], harness := (true, "09412d33d194a0e3d548bc16765f1de22aa5f6ce827cbbecbfd243fc8caf3bcb"), looks := false }, kinds := [], alts := [], laidByText := true, laidKinds := [.data, .data], laidTests := true, laidLooks := .later }
def StoreAnyUptoCardSaid : Prop := Claim7.holds Tryd.pinned (.plain (OpenSpec.upto storeAnySpec)) storeAnyUptoCard

/-- THE SECOND FORM's CARD OF 'triremelaw05.StoreTwice'. -/
def storeTwiceUptoCard : Claim7 := { stood := { row := storeTwiceUptoRow, standIns := [], harness := (true, "09412d33d194a0e3d548bc16765f1de22aa5f6ce827cbbecbfd243fc8caf3bcb"), looks := false }, kinds := [], alts := [], laidByText := true, laidKinds := [.data, .data], laidTests := true, laidLooks := .later }
def StoreTwiceUptoCardSaid : Prop := Claim7.holds Tryd.pinned (.plain (OpenSpec.upto storeTwiceSpec)) storeTwiceUptoCard

/-- THE SECOND FORM's CARD OF 'triremelaw05.StorePlays'. -/
def storePlaysUptoCard : Claim7 := { stood := { row := storePlaysUptoRow, standIns := [], harness := (true, "09412d33d194a0e3d548bc16765f1de22aa5f6ce827cbbecbfd243fc8caf3bcb"), looks := false }, kinds := [], alts := [], laidByText := true, laidKinds := [.data, .data], laidTests := true, laidLooks := .later }
def StorePlaysUptoCardSaid : Prop := Claim7.holds Tryd.pinned (.plain (OpenSpec.upto storePlaysSpec)) storePlaysUptoCard
end Rows
end Go.Proofs.YtfepdfjhejkemaaDoor
