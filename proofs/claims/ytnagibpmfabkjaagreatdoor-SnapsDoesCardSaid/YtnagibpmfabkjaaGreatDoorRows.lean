/-
  NARROWER THAN 'FOR EVERY INPUT', by the rows' own cells (each row's printed sentence says how): SnapsStay: laid · SnapsDoes: laid · SnapsPlays: laid · SnapsFull: laid · SnapsUnits: laid · SnapsTwice: laid · SnapsLists: laid · TableDoes: laid · TableOnce: laid · TableApart: laid.
  DERIVED. THE GIVEN ROWS OF THIS SEAT. 10 by the template 'for every input the law returns true; each argument reads behind the call as it read before'; 0 by the template 'total and deterministic' (their statements: YtnagibpmfabkjaaGreatDoorTotals.lean).
  GIVEN WITH THE SEED: the statements are not yours to turn. If you find one false, say at which input.
  Laid BY PROGRAM, IN A SANDBOX (cutbox-rows.mjs): the forced cells as the released guide's own fill.sh prints them over the translation b19c6cd4e12ce62a… (all of the seat's roots in one cut). By AI agents, Wed Nov 11 2026. No macro, syntax, notation, axiom, sorry.
-/
import Derived.Test.YtnagibpmfabkjaaGreatDoorChecked
import GoSem.PinnedTables
import GoSem.Claim
import GoSem.ClaimJoined
import GoSem.ClaimMapViews
import Derived.JoinedTies
import Derived.KernelRfl
namespace Go.Proofs.YtnagibpmfabkjaaGreatDoor
/- THE CELL 'sum', in the pinned program and in every row, IS THE sha256 OF THE DUMP (.gsa) THAT YtnagibpmfabkjaaGreatDoorProg.lean LOADS. Nothing in Lean hashes anything: it is a label: what it is worth is what the hold of that sum in a sandbox is worth. -/
noncomputable def Tryz.pinned : Pinned := { name := "ytnagibpmfabkjaagreatdoor", sum := "b19c6cd4e12ce62a06cb363685fbe0bdc9271f45257bbc8c0584cad36047d080", checked := Tryz.checked }
namespace Rows
def none {H : Type} : Left H := { results := [], args := [] }

/- WHAT THE LISTED PACKAGE-LEVEL VARIABLES READ AS WHEN THE CALL BEGINS. Each datum BY PROGRAM (the guide's laid-datum.mjs) off the statement by which the dump's own 'gosem.cut.vars' lays the variable. In a bare row this is a premise. The card (YtnagibpmfabkjaaGreatDoorCards.lean) ties it to the program's text. -/
def laid_unicode_utf8_acceptRanges {H : Type} : DataW H := .agg [.agg [.lit (.int .u8 128), .lit (.int .u8 191)], .agg [.lit (.int .u8 160), .lit (.int .u8 191)], .agg [.lit (.int .u8 128), .lit (.int .u8 159)], .agg [.lit (.int .u8 144), .lit (.int .u8 191)], .agg [.lit (.int .u8 128), .lit (.int .u8 143)], .agg [.lit (.int .u8 0), .lit (.int .u8 0)], .agg [.lit (.int .u8 0), .lit (.int .u8 0)], .agg [.lit (.int .u8 0), .lit (.int .u8 0)], .agg [.lit (.int .u8 0), .lit (.int .u8 0)], .agg [.lit (.int .u8 0), .lit (.int .u8 0)], .agg [.lit (.int .u8 0), .lit (.int .u8 0)], .agg [.lit (.int .u8 0), .lit (.int .u8 0)], .agg [.lit (.int .u8 0), .lit (.int .u8 0)], .agg [.lit (.int .u8 0), .lit (.int .u8 0)], .agg [.lit (.int .u8 0), .lit (.int .u8 0)], .agg [.lit (.int .u8 0), .lit (.int .u8 0)]]
/-- One of Go's own tables, pinned by name: the form's constant. -/
def laid_unicode_utf8_first : DataW Unit := Go.Pinned.utf8First

/-- 'triremelaw12.SnapsStay': WHATEVER THE INPUT: true; the input reads as it did. -/
def snapsStaySpec : ChangeSpec := { name := "snapsStay", fn := fun _ => fun
  | [d1, d2, d3] => { results := [.lit (.bool true)], args := [d1, d2, d3] }
  | _ => none }
def snapsStayRow : OpenClaim := { program := "ytnagibpmfabkjaagreatdoor", sum := "b19c6cd4e12ce62a06cb363685fbe0bdc9271f45257bbc8c0584cad36047d080", func := "trireme/triremelaw12.SnapsStay", spec := "snapsStay", inPlace := ["internal/bytealg.Compare", "internal/bytealg.abigen_runtime_cmpstring", "slices.overlaps[trireme/api.Snap]", "internal/bytealg.IndexByteString", "internal/bytealg.IndexString", "maps.clone", "internal/bytealg.CountString", "internal/abi.NoEscape", "internal/bytealg.MakeNoZero"], unfollowed := true, recurses := true, named := ["internal/bytealg.MaxLen", "unicode/utf8.first", "unicode/utf8.acceptRanges"], apart := false, laid := [("unicode/utf8.acceptRanges", laid_unicode_utf8_acceptRanges), ("unicode/utf8.first", laid_unicode_utf8_first)] }
def SnapsStaySaid : Prop := snapsStayRow.holds Tryz.pinned (OpenSpec.ofChange snapsStaySpec)

/-- ITS FALSE NEIGHBOUR: 'it returns false'. Refute it at one input. -/
def snapsStayWrong : ChangeSpec := { name := "snapsStay", fn := fun _ => fun
  | [d1, d2, d3] => { results := [.lit (.bool false)], args := [d1, d2, d3] }
  | _ => none }
def SnapsStayWrongFalsely : Prop := snapsStayRow.holds Tryz.pinned (OpenSpec.ofChange snapsStayWrong)

/-- 'triremelaw12.SnapsDoes': WHATEVER THE INPUT: true; the input reads as it did. -/
def snapsDoesSpec : ChangeSpec := { name := "snapsDoes", fn := fun _ => fun
  | [d1, d2, d3] => { results := [.lit (.bool true)], args := [d1, d2, d3] }
  | _ => none }
def snapsDoesRow : OpenClaim := { program := "ytnagibpmfabkjaagreatdoor", sum := "b19c6cd4e12ce62a06cb363685fbe0bdc9271f45257bbc8c0584cad36047d080", func := "trireme/triremelaw12.SnapsDoes", spec := "snapsDoes", inPlace := ["internal/bytealg.Compare", "internal/bytealg.abigen_runtime_cmpstring", "slices.overlaps[trireme/api.Snap]", "internal/bytealg.IndexByteString", "internal/bytealg.IndexString", "maps.clone", "internal/bytealg.CountString", "internal/abi.NoEscape", "internal/bytealg.MakeNoZero"], unfollowed := true, recurses := true, named := ["internal/bytealg.MaxLen", "unicode/utf8.first", "unicode/utf8.acceptRanges"], apart := false, laid := [("unicode/utf8.acceptRanges", laid_unicode_utf8_acceptRanges), ("unicode/utf8.first", laid_unicode_utf8_first)] }
def SnapsDoesSaid : Prop := snapsDoesRow.holds Tryz.pinned (OpenSpec.ofChange snapsDoesSpec)

/-- ITS FALSE NEIGHBOUR: 'it returns false'. Refute it at one input. -/
def snapsDoesWrong : ChangeSpec := { name := "snapsDoes", fn := fun _ => fun
  | [d1, d2, d3] => { results := [.lit (.bool false)], args := [d1, d2, d3] }
  | _ => none }
def SnapsDoesWrongFalsely : Prop := snapsDoesRow.holds Tryz.pinned (OpenSpec.ofChange snapsDoesWrong)

/-- 'triremelaw12.SnapsPlays': WHATEVER THE INPUT: true; the input reads as it did. -/
def snapsPlaysSpec : ChangeSpec := { name := "snapsPlays", fn := fun _ => fun
  | [d] => { results := [.lit (.bool true)], args := [d] }
  | _ => none }
def snapsPlaysRow : OpenClaim := { program := "ytnagibpmfabkjaagreatdoor", sum := "b19c6cd4e12ce62a06cb363685fbe0bdc9271f45257bbc8c0584cad36047d080", func := "trireme/triremelaw12.SnapsPlays", spec := "snapsPlays", inPlace := ["internal/bytealg.Compare", "internal/bytealg.abigen_runtime_cmpstring", "slices.overlaps[trireme/api.Snap]", "internal/bytealg.IndexByteString", "internal/bytealg.IndexString", "maps.clone", "internal/bytealg.CountString", "internal/abi.NoEscape", "internal/bytealg.MakeNoZero"], unfollowed := true, recurses := true, named := ["internal/bytealg.MaxLen", "unicode/utf8.first", "unicode/utf8.acceptRanges"], apart := false, laid := [("unicode/utf8.acceptRanges", laid_unicode_utf8_acceptRanges), ("unicode/utf8.first", laid_unicode_utf8_first)] }
def SnapsPlaysSaid : Prop := snapsPlaysRow.holds Tryz.pinned (OpenSpec.ofChange snapsPlaysSpec)

/-- ITS FALSE NEIGHBOUR: 'it returns false'. Refute it at one input. -/
def snapsPlaysWrong : ChangeSpec := { name := "snapsPlays", fn := fun _ => fun
  | [d] => { results := [.lit (.bool false)], args := [d] }
  | _ => none }
def SnapsPlaysWrongFalsely : Prop := snapsPlaysRow.holds Tryz.pinned (OpenSpec.ofChange snapsPlaysWrong)

/-- 'triremelaw12.SnapsFull': WHATEVER THE INPUT: true; the input reads as it did. -/
def snapsFullSpec : ChangeSpec := { name := "snapsFull", fn := fun _ => fun
  | [d1, d2] => { results := [.lit (.bool true)], args := [d1, d2] }
  | _ => none }
def snapsFullRow : OpenClaim := { program := "ytnagibpmfabkjaagreatdoor", sum := "b19c6cd4e12ce62a06cb363685fbe0bdc9271f45257bbc8c0584cad36047d080", func := "trireme/triremelaw12.SnapsFull", spec := "snapsFull", inPlace := ["internal/bytealg.Compare", "internal/bytealg.abigen_runtime_cmpstring", "slices.overlaps[trireme/api.Snap]", "internal/bytealg.IndexByteString", "internal/bytealg.IndexString", "maps.clone", "internal/bytealg.CountString", "internal/abi.NoEscape", "internal/bytealg.MakeNoZero"], unfollowed := true, recurses := true, named := ["internal/bytealg.MaxLen", "unicode/utf8.first", "unicode/utf8.acceptRanges"], apart := false, laid := [("unicode/utf8.acceptRanges", laid_unicode_utf8_acceptRanges), ("unicode/utf8.first", laid_unicode_utf8_first)] }
def SnapsFullSaid : Prop := snapsFullRow.holds Tryz.pinned (OpenSpec.ofChange snapsFullSpec)

/-- ITS FALSE NEIGHBOUR: 'it returns false'. Refute it at one input. -/
def snapsFullWrong : ChangeSpec := { name := "snapsFull", fn := fun _ => fun
  | [d1, d2] => { results := [.lit (.bool false)], args := [d1, d2] }
  | _ => none }
def SnapsFullWrongFalsely : Prop := snapsFullRow.holds Tryz.pinned (OpenSpec.ofChange snapsFullWrong)

/-- 'triremelaw12.SnapsUnits': WHATEVER THE INPUT: true; the input reads as it did. -/
def snapsUnitsSpec : ChangeSpec := { name := "snapsUnits", fn := fun _ => fun
  | [d1, d2] => { results := [.lit (.bool true)], args := [d1, d2] }
  | _ => none }
def snapsUnitsRow : OpenClaim := { program := "ytnagibpmfabkjaagreatdoor", sum := "b19c6cd4e12ce62a06cb363685fbe0bdc9271f45257bbc8c0584cad36047d080", func := "trireme/triremelaw12.SnapsUnits", spec := "snapsUnits", inPlace := ["internal/bytealg.Compare", "internal/bytealg.abigen_runtime_cmpstring", "slices.overlaps[trireme/api.Snap]", "internal/bytealg.IndexByteString", "internal/bytealg.IndexString", "maps.clone", "internal/bytealg.CountString", "internal/abi.NoEscape", "internal/bytealg.MakeNoZero"], unfollowed := true, recurses := true, named := ["internal/bytealg.MaxLen", "unicode/utf8.first", "unicode/utf8.acceptRanges"], apart := false, laid := [("unicode/utf8.acceptRanges", laid_unicode_utf8_acceptRanges), ("unicode/utf8.first", laid_unicode_utf8_first)] }
def SnapsUnitsSaid : Prop := snapsUnitsRow.holds Tryz.pinned (OpenSpec.ofChange snapsUnitsSpec)

/-- ITS FALSE NEIGHBOUR: 'it returns false'. Refute it at one input. -/
def snapsUnitsWrong : ChangeSpec := { name := "snapsUnits", fn := fun _ => fun
  | [d1, d2] => { results := [.lit (.bool false)], args := [d1, d2] }
  | _ => none }
def SnapsUnitsWrongFalsely : Prop := snapsUnitsRow.holds Tryz.pinned (OpenSpec.ofChange snapsUnitsWrong)

/-- 'triremelaw12.SnapsTwice': WHATEVER THE INPUT: true; the input reads as it did. -/
def snapsTwiceSpec : ChangeSpec := { name := "snapsTwice", fn := fun _ => fun
  | [d1, d2] => { results := [.lit (.bool true)], args := [d1, d2] }
  | _ => none }
def snapsTwiceRow : OpenClaim := { program := "ytnagibpmfabkjaagreatdoor", sum := "b19c6cd4e12ce62a06cb363685fbe0bdc9271f45257bbc8c0584cad36047d080", func := "trireme/triremelaw12.SnapsTwice", spec := "snapsTwice", inPlace := ["internal/bytealg.Compare", "internal/bytealg.abigen_runtime_cmpstring", "slices.overlaps[trireme/api.Snap]", "internal/bytealg.IndexByteString", "internal/bytealg.IndexString", "maps.clone", "internal/bytealg.CountString", "internal/abi.NoEscape", "internal/bytealg.MakeNoZero"], unfollowed := true, recurses := true, named := ["internal/bytealg.MaxLen", "unicode/utf8.first", "unicode/utf8.acceptRanges"], apart := false, laid := [("unicode/utf8.acceptRanges", laid_unicode_utf8_acceptRanges), ("unicode/utf8.first", laid_unicode_utf8_first)] }
def SnapsTwiceSaid : Prop := snapsTwiceRow.holds Tryz.pinned (OpenSpec.ofChange snapsTwiceSpec)

/-- ITS FALSE NEIGHBOUR: 'it returns false'. Refute it at one input. -/
def snapsTwiceWrong : ChangeSpec := { name := "snapsTwice", fn := fun _ => fun
  | [d1, d2] => { results := [.lit (.bool false)], args := [d1, d2] }
  | _ => none }
def SnapsTwiceWrongFalsely : Prop := snapsTwiceRow.holds Tryz.pinned (OpenSpec.ofChange snapsTwiceWrong)

/-- 'triremelaw12.SnapsLists': WHATEVER THE INPUT: true; the input reads as it did. -/
def snapsListsSpec : ChangeSpec := { name := "snapsLists", fn := fun _ => fun
  | [d] => { results := [.lit (.bool true)], args := [d] }
  | _ => none }
def snapsListsRow : OpenClaim := { program := "ytnagibpmfabkjaagreatdoor", sum := "b19c6cd4e12ce62a06cb363685fbe0bdc9271f45257bbc8c0584cad36047d080", func := "trireme/triremelaw12.SnapsLists", spec := "snapsLists", inPlace := ["internal/bytealg.Compare", "internal/bytealg.abigen_runtime_cmpstring", "slices.overlaps[trireme/api.Snap]", "internal/bytealg.IndexByteString", "internal/bytealg.IndexString", "maps.clone", "internal/bytealg.CountString", "internal/abi.NoEscape", "internal/bytealg.MakeNoZero"], unfollowed := true, recurses := true, named := ["internal/bytealg.MaxLen", "unicode/utf8.first", "unicode/utf8.acceptRanges"], apart := false, laid := [("unicode/utf8.acceptRanges", laid_unicode_utf8_acceptRanges), ("unicode/utf8.first", laid_unicode_utf8_first)] }
def SnapsListsSaid : Prop := snapsListsRow.holds Tryz.pinned (OpenSpec.ofChange snapsListsSpec)

/-- ITS FALSE NEIGHBOUR: 'it returns false'. Refute it at one input. -/
def snapsListsWrong : ChangeSpec := { name := "snapsLists", fn := fun _ => fun
  | [d] => { results := [.lit (.bool false)], args := [d] }
  | _ => none }
def SnapsListsWrongFalsely : Prop := snapsListsRow.holds Tryz.pinned (OpenSpec.ofChange snapsListsWrong)

/-- 'triremelaw13.TableDoes': WHATEVER THE INPUT: true; the input reads as it did. -/
def tableDoesSpec : ChangeSpec := { name := "tableDoes", fn := fun _ => fun
  | [d1, d2, d3] => { results := [.lit (.bool true)], args := [d1, d2, d3] }
  | _ => none }
def tableDoesRow : OpenClaim := { program := "ytnagibpmfabkjaagreatdoor", sum := "b19c6cd4e12ce62a06cb363685fbe0bdc9271f45257bbc8c0584cad36047d080", func := "trireme/triremelaw13.TableDoes", spec := "tableDoes", inPlace := ["internal/bytealg.Compare", "internal/bytealg.abigen_runtime_cmpstring", "slices.overlaps[trireme/api.Snap]", "internal/bytealg.IndexByteString", "internal/bytealg.IndexString", "maps.clone", "internal/bytealg.CountString", "internal/abi.NoEscape", "internal/bytealg.MakeNoZero", "slices.overlaps[trireme/api.Seat]"], unfollowed := true, recurses := true, named := ["internal/bytealg.MaxLen", "unicode/utf8.first", "unicode/utf8.acceptRanges"], apart := false, laid := [("unicode/utf8.acceptRanges", laid_unicode_utf8_acceptRanges), ("unicode/utf8.first", laid_unicode_utf8_first)] }
def TableDoesSaid : Prop := tableDoesRow.holds Tryz.pinned (OpenSpec.ofChange tableDoesSpec)

/-- ITS FALSE NEIGHBOUR: 'it returns false'. Refute it at one input. -/
def tableDoesWrong : ChangeSpec := { name := "tableDoes", fn := fun _ => fun
  | [d1, d2, d3] => { results := [.lit (.bool false)], args := [d1, d2, d3] }
  | _ => none }
def TableDoesWrongFalsely : Prop := tableDoesRow.holds Tryz.pinned (OpenSpec.ofChange tableDoesWrong)

/-- 'triremelaw13.TableOnce': WHATEVER THE INPUT: true; the input reads as it did. -/
def tableOnceSpec : ChangeSpec := { name := "tableOnce", fn := fun _ => fun
  | [d] => { results := [.lit (.bool true)], args := [d] }
  | _ => none }
def tableOnceRow : OpenClaim := { program := "ytnagibpmfabkjaagreatdoor", sum := "b19c6cd4e12ce62a06cb363685fbe0bdc9271f45257bbc8c0584cad36047d080", func := "trireme/triremelaw13.TableOnce", spec := "tableOnce", inPlace := ["internal/bytealg.Compare", "internal/bytealg.abigen_runtime_cmpstring", "slices.overlaps[trireme/api.Snap]", "internal/bytealg.IndexByteString", "internal/bytealg.IndexString", "maps.clone", "internal/bytealg.CountString", "internal/abi.NoEscape", "internal/bytealg.MakeNoZero", "slices.overlaps[trireme/api.Seat]"], unfollowed := true, recurses := true, named := ["internal/bytealg.MaxLen", "unicode/utf8.first", "unicode/utf8.acceptRanges"], apart := false, laid := [("unicode/utf8.acceptRanges", laid_unicode_utf8_acceptRanges), ("unicode/utf8.first", laid_unicode_utf8_first)] }
def TableOnceSaid : Prop := tableOnceRow.holds Tryz.pinned (OpenSpec.ofChange tableOnceSpec)

/-- ITS FALSE NEIGHBOUR: 'it returns false'. Refute it at one input. -/
def tableOnceWrong : ChangeSpec := { name := "tableOnce", fn := fun _ => fun
  | [d] => { results := [.lit (.bool false)], args := [d] }
  | _ => none }
def TableOnceWrongFalsely : Prop := tableOnceRow.holds Tryz.pinned (OpenSpec.ofChange tableOnceWrong)

/-- 'triremelaw13.TableApart': WHATEVER THE INPUT: true; the input reads as it did. -/
def tableApartSpec : ChangeSpec := { name := "tableApart", fn := fun _ => fun
  | [d1, d2] => { results := [.lit (.bool true)], args := [d1, d2] }
  | _ => none }
def tableApartRow : OpenClaim := { program := "ytnagibpmfabkjaagreatdoor", sum := "b19c6cd4e12ce62a06cb363685fbe0bdc9271f45257bbc8c0584cad36047d080", func := "trireme/triremelaw13.TableApart", spec := "tableApart", inPlace := ["internal/bytealg.Compare", "internal/bytealg.abigen_runtime_cmpstring", "slices.overlaps[trireme/api.Snap]", "internal/bytealg.IndexByteString", "internal/bytealg.IndexString", "maps.clone", "internal/bytealg.CountString", "internal/abi.NoEscape", "internal/bytealg.MakeNoZero", "slices.overlaps[trireme/api.Seat]"], unfollowed := true, recurses := true, named := ["internal/bytealg.MaxLen", "unicode/utf8.first", "unicode/utf8.acceptRanges"], apart := false, laid := [("unicode/utf8.acceptRanges", laid_unicode_utf8_acceptRanges), ("unicode/utf8.first", laid_unicode_utf8_first)] }
def TableApartSaid : Prop := tableApartRow.holds Tryz.pinned (OpenSpec.ofChange tableApartSpec)

/-- ITS FALSE NEIGHBOUR: 'it returns false'. Refute it at one input. -/
def tableApartWrong : ChangeSpec := { name := "tableApart", fn := fun _ => fun
  | [d1, d2] => { results := [.lit (.bool false)], args := [d1, d2] }
  | _ => none }
def TableApartWrongFalsely : Prop := tableApartRow.holds Tryz.pinned (OpenSpec.ofChange tableApartWrong)

/- THE SECOND FORM. 'bulk': how many values and letters a reading holds, each counted each time it is reached (what is shared counts as often as it is met; a slice's spare places count too). A statement '..UptoSaid' is the law's where the arguments, and the package variables that the reading takes, are together of bulk at most 1048576: NARROWER than '..Said'. Prove '..Said' where nothing that the law and all that it calls make is longer than what came in: it says more and counts as full. Else prove '..UptoSaid'. A law counts once. -/
mutual
def uptoBulk {H : Type} : DataW H → Nat
  | .lit (.string bytes) => bytes.length + 1
  | .lit _ => 1
  | .nil => 1
  | .ptr d => uptoBulk d + 1
  | .slice elems spare => uptoBulkAll elems + uptoBulkAll spare + 1
  | .agg parts => uptoBulkAll parts + 1
  | .iface _ d => uptoBulk d + 1
  | .map entries => uptoBulkEntries entries + 1
  | .held _ => 1
def uptoBulkAll {H : Type} : List (DataW H) → Nat
  | [] => 0
  | d :: r => uptoBulk d + uptoBulkAll r
def uptoBulkEntries {H : Type} : List (Lit × DataW H) → Nat
  | [] => 0
  | x :: r => uptoBulkEntry x + uptoBulkEntries r
def uptoBulkEntry {H : Type} : Lit × DataW H → Nat
  | (.string bytes, d) => bytes.length + uptoBulk d + 1
  | (_, d) => uptoBulk d + 1
 end
def uptoSmall : (H : Type) → List (DataW H) → Bool := fun _ ds => decide (uptoBulkAll ds ≤ 1048576)
def OpenSpec.upto (s : _root_.Go.ChangeSpec) : _root_.Go.OpenSpec := { _root_.Go.OpenSpec.ofChange s with cond := some uptoSmall }

/-- 'triremelaw12.SnapsStay', WHERE WHAT IT READS IS OF BULK AT MOST 1048576: true; the input reads as it did. -/
def snapsStayUptoRow : OpenClaim := { program := "ytnagibpmfabkjaagreatdoor", sum := "b19c6cd4e12ce62a06cb363685fbe0bdc9271f45257bbc8c0584cad36047d080", func := "trireme/triremelaw12.SnapsStay", spec := "snapsStay", inPlace := ["internal/bytealg.Compare", "internal/bytealg.abigen_runtime_cmpstring", "slices.overlaps[trireme/api.Snap]", "internal/bytealg.IndexByteString", "internal/bytealg.IndexString", "maps.clone", "internal/bytealg.CountString", "internal/abi.NoEscape", "internal/bytealg.MakeNoZero"], unfollowed := true, recurses := true, named := ["internal/bytealg.MaxLen", "unicode/utf8.first", "unicode/utf8.acceptRanges"], apart := false, laid := [("unicode/utf8.acceptRanges", laid_unicode_utf8_acceptRanges), ("unicode/utf8.first", laid_unicode_utf8_first)], narrowed := true }
def SnapsStayUptoSaid : Prop := snapsStayUptoRow.holds Tryz.pinned (OpenSpec.upto snapsStaySpec)

/-- 'triremelaw12.SnapsDoes', WHERE WHAT IT READS IS OF BULK AT MOST 1048576: true; the input reads as it did. -/
def snapsDoesUptoRow : OpenClaim := { program := "ytnagibpmfabkjaagreatdoor", sum := "b19c6cd4e12ce62a06cb363685fbe0bdc9271f45257bbc8c0584cad36047d080", func := "trireme/triremelaw12.SnapsDoes", spec := "snapsDoes", inPlace := ["internal/bytealg.Compare", "internal/bytealg.abigen_runtime_cmpstring", "slices.overlaps[trireme/api.Snap]", "internal/bytealg.IndexByteString", "internal/bytealg.IndexString", "maps.clone", "internal/bytealg.CountString", "internal/abi.NoEscape", "internal/bytealg.MakeNoZero"], unfollowed := true, recurses := true, named := ["internal/bytealg.MaxLen", "unicode/utf8.first", "unicode/utf8.acceptRanges"], apart := false, laid := [("unicode/utf8.acceptRanges", laid_unicode_utf8_acceptRanges), ("unicode/utf8.first", laid_unicode_utf8_first)], narrowed := true }
def SnapsDoesUptoSaid : Prop := snapsDoesUptoRow.holds Tryz.pinned (OpenSpec.upto snapsDoesSpec)

/-- 'triremelaw12.SnapsPlays', WHERE WHAT IT READS IS OF BULK AT MOST 1048576: true; the input reads as it did. -/
def snapsPlaysUptoRow : OpenClaim := { program := "ytnagibpmfabkjaagreatdoor", sum := "b19c6cd4e12ce62a06cb363685fbe0bdc9271f45257bbc8c0584cad36047d080", func := "trireme/triremelaw12.SnapsPlays", spec := "snapsPlays", inPlace := ["internal/bytealg.Compare", "internal/bytealg.abigen_runtime_cmpstring", "slices.overlaps[trireme/api.Snap]", "internal/bytealg.IndexByteString", "internal/bytealg.IndexString", "maps.clone", "internal/bytealg.CountString", "internal/abi.NoEscape", "internal/bytealg.MakeNoZero"], unfollowed := true, recurses := true, named := ["internal/bytealg.MaxLen", "unicode/utf8.first", "unicode/utf8.acceptRanges"], apart := false, laid := [("unicode/utf8.acceptRanges", laid_unicode_utf8_acceptRanges), ("unicode/utf8.first", laid_unicode_utf8_first)], narrowed := true }
def SnapsPlaysUptoSaid : Prop := snapsPlaysUptoRow.holds Tryz.pinned (OpenSpec.upto snapsPlaysSpec)

/-- 'triremelaw12.SnapsFull', WHERE WHAT IT READS IS OF BULK AT MOST 1048576: true; the input reads as it did. -/
def snapsFullUptoRow : OpenClaim := { program := "ytnagibpmfabkjaagreatdoor", sum := "b19c6cd4e12ce62a06cb363685fbe0bdc9271f45257bbc8c0584cad36047d080", func := "trireme/triremelaw12.SnapsFull", spec := "snapsFull", inPlace := ["internal/bytealg.Compare", "internal/bytealg.abigen_runtime_cmpstring", "slices.overlaps[trireme/api.Snap]", "internal/bytealg.IndexByteString", "internal/bytealg.IndexString", "maps.clone", "internal/bytealg.CountString", "internal/abi.NoEscape", "internal/bytealg.MakeNoZero"], unfollowed := true, recurses := true, named := ["internal/bytealg.MaxLen", "unicode/utf8.first", "unicode/utf8.acceptRanges"], apart := false, laid := [("unicode/utf8.acceptRanges", laid_unicode_utf8_acceptRanges), ("unicode/utf8.first", laid_unicode_utf8_first)], narrowed := true }
def SnapsFullUptoSaid : Prop := snapsFullUptoRow.holds Tryz.pinned (OpenSpec.upto snapsFullSpec)

/-- 'triremelaw12.SnapsUnits', WHERE WHAT IT READS IS OF BULK AT MOST 1048576: true; the input reads as it did. -/
def snapsUnitsUptoRow : OpenClaim := { program := "ytnagibpmfabkjaagreatdoor", sum := "b19c6cd4e12ce62a06cb363685fbe0bdc9271f45257bbc8c0584cad36047d080", func := "trireme/triremelaw12.SnapsUnits", spec := "snapsUnits", inPlace := ["internal/bytealg.Compare", "internal/bytealg.abigen_runtime_cmpstring", "slices.overlaps[trireme/api.Snap]", "internal/bytealg.IndexByteString", "internal/bytealg.IndexString", "maps.clone", "internal/bytealg.CountString", "internal/abi.NoEscape", "internal/bytealg.MakeNoZero"], unfollowed := true, recurses := true, named := ["internal/bytealg.MaxLen", "unicode/utf8.first", "unicode/utf8.acceptRanges"], apart := false, laid := [("unicode/utf8.acceptRanges", laid_unicode_utf8_acceptRanges), ("unicode/utf8.first", laid_unicode_utf8_first)], narrowed := true }
def SnapsUnitsUptoSaid : Prop := snapsUnitsUptoRow.holds Tryz.pinned (OpenSpec.upto snapsUnitsSpec)

/-- 'triremelaw12.SnapsTwice', WHERE WHAT IT READS IS OF BULK AT MOST 1048576: true; the input reads as it did. -/
def snapsTwiceUptoRow : OpenClaim := { program := "ytnagibpmfabkjaagreatdoor", sum := "b19c6cd4e12ce62a06cb363685fbe0bdc9271f45257bbc8c0584cad36047d080", func := "trireme/triremelaw12.SnapsTwice", spec := "snapsTwice", inPlace := ["internal/bytealg.Compare", "internal/bytealg.abigen_runtime_cmpstring", "slices.overlaps[trireme/api.Snap]", "internal/bytealg.IndexByteString", "internal/bytealg.IndexString", "maps.clone", "internal/bytealg.CountString", "internal/abi.NoEscape", "internal/bytealg.MakeNoZero"], unfollowed := true, recurses := true, named := ["internal/bytealg.MaxLen", "unicode/utf8.first", "unicode/utf8.acceptRanges"], apart := false, laid := [("unicode/utf8.acceptRanges", laid_unicode_utf8_acceptRanges), ("unicode/utf8.first", laid_unicode_utf8_first)], narrowed := true }
def SnapsTwiceUptoSaid : Prop := snapsTwiceUptoRow.holds Tryz.pinned (OpenSpec.upto snapsTwiceSpec)

/-- 'triremelaw12.SnapsLists', WHERE WHAT IT READS IS OF BULK AT MOST 1048576: true; the input reads as it did. -/
def snapsListsUptoRow : OpenClaim := { program := "ytnagibpmfabkjaagreatdoor", sum := "b19c6cd4e12ce62a06cb363685fbe0bdc9271f45257bbc8c0584cad36047d080", func := "trireme/triremelaw12.SnapsLists", spec := "snapsLists", inPlace := ["internal/bytealg.Compare", "internal/bytealg.abigen_runtime_cmpstring", "slices.overlaps[trireme/api.Snap]", "internal/bytealg.IndexByteString", "internal/bytealg.IndexString", "maps.clone", "internal/bytealg.CountString", "internal/abi.NoEscape", "internal/bytealg.MakeNoZero"], unfollowed := true, recurses := true, named := ["internal/bytealg.MaxLen", "unicode/utf8.first", "unicode/utf8.acceptRanges"], apart := false, laid := [("unicode/utf8.acceptRanges", laid_unicode_utf8_acceptRanges), ("unicode/utf8.first", laid_unicode_utf8_first)], narrowed := true }
def SnapsListsUptoSaid : Prop := snapsListsUptoRow.holds Tryz.pinned (OpenSpec.upto snapsListsSpec)

/-- 'triremelaw13.TableDoes', WHERE WHAT IT READS IS OF BULK AT MOST 1048576: true; the input reads as it did. -/
def tableDoesUptoRow : OpenClaim := { program := "ytnagibpmfabkjaagreatdoor", sum := "b19c6cd4e12ce62a06cb363685fbe0bdc9271f45257bbc8c0584cad36047d080", func := "trireme/triremelaw13.TableDoes", spec := "tableDoes", inPlace := ["internal/bytealg.Compare", "internal/bytealg.abigen_runtime_cmpstring", "slices.overlaps[trireme/api.Snap]", "internal/bytealg.IndexByteString", "internal/bytealg.IndexString", "maps.clone", "internal/bytealg.CountString", "internal/abi.NoEscape", "internal/bytealg.MakeNoZero", "slices.overlaps[trireme/api.Seat]"], unfollowed := true, recurses := true, named := ["internal/bytealg.MaxLen", "unicode/utf8.first", "unicode/utf8.acceptRanges"], apart := false, laid := [("unicode/utf8.acceptRanges", laid_unicode_utf8_acceptRanges), ("unicode/utf8.first", laid_unicode_utf8_first)], narrowed := true }
def TableDoesUptoSaid : Prop := tableDoesUptoRow.holds Tryz.pinned (OpenSpec.upto tableDoesSpec)

/-- 'triremelaw13.TableOnce', WHERE WHAT IT READS IS OF BULK AT MOST 1048576: true; the input reads as it did. -/
def tableOnceUptoRow : OpenClaim := { program := "ytnagibpmfabkjaagreatdoor", sum := "b19c6cd4e12ce62a06cb363685fbe0bdc9271f45257bbc8c0584cad36047d080", func := "trireme/triremelaw13.TableOnce", spec := "tableOnce", inPlace := ["internal/bytealg.Compare", "internal/bytealg.abigen_runtime_cmpstring", "slices.overlaps[trireme/api.Snap]", "internal/bytealg.IndexByteString", "internal/bytealg.IndexString", "maps.clone", "internal/bytealg.CountString", "internal/abi.NoEscape", "internal/bytealg.MakeNoZero", "slices.overlaps[trireme/api.Seat]"], unfollowed := true, recurses := true, named := ["internal/bytealg.MaxLen", "unicode/utf8.first", "unicode/utf8.acceptRanges"], apart := false, laid := [("unicode/utf8.acceptRanges", laid_unicode_utf8_acceptRanges), ("unicode/utf8.first", laid_unicode_utf8_first)], narrowed := true }
def TableOnceUptoSaid : Prop := tableOnceUptoRow.holds Tryz.pinned (OpenSpec.upto tableOnceSpec)

/-- 'triremelaw13.TableApart', WHERE WHAT IT READS IS OF BULK AT MOST 1048576: true; the input reads as it did. -/
def tableApartUptoRow : OpenClaim := { program := "ytnagibpmfabkjaagreatdoor", sum := "b19c6cd4e12ce62a06cb363685fbe0bdc9271f45257bbc8c0584cad36047d080", func := "trireme/triremelaw13.TableApart", spec := "tableApart", inPlace := ["internal/bytealg.Compare", "internal/bytealg.abigen_runtime_cmpstring", "slices.overlaps[trireme/api.Snap]", "internal/bytealg.IndexByteString", "internal/bytealg.IndexString", "maps.clone", "internal/bytealg.CountString", "internal/abi.NoEscape", "internal/bytealg.MakeNoZero", "slices.overlaps[trireme/api.Seat]"], unfollowed := true, recurses := true, named := ["internal/bytealg.MaxLen", "unicode/utf8.first", "unicode/utf8.acceptRanges"], apart := false, laid := [("unicode/utf8.acceptRanges", laid_unicode_utf8_acceptRanges), ("unicode/utf8.first", laid_unicode_utf8_first)], narrowed := true }
def TableApartUptoSaid : Prop := tableApartUptoRow.holds Tryz.pinned (OpenSpec.upto tableApartSpec)

end Rows
end Go.Proofs.YtnagibpmfabkjaaGreatDoor
