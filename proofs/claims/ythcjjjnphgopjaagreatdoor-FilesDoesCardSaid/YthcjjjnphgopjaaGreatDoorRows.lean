/-
  NARROWER THAN 'FOR EVERY INPUT', by the rows' own cells (each row's printed sentence says how): FilesDoes: laid · FilesPlays: laid · FilesReads: laid · FilesMoves: laid · FilesErrors: laid · FilesLists: laid · FilesUndone: laid.
  DERIVED. THE GIVEN ROWS OF THIS SEAT. 7 by the template 'for every input the law returns true; each argument reads behind the call as it read before'; 0 by the template 'total and deterministic' (their statements: YthcjjjnphgopjaaGreatDoorTotals.lean).
  GIVEN WITH THE SEED: the statements are not yours to turn. If you find one false, say at which input.
  Laid BY PROGRAM, IN A SANDBOX (cutbox-rows.mjs): the forced cells as the released guide's own fill.sh prints them over the translation e22ee0d4dd001d57… (all of the seat's roots in one cut). By AI agents, Wed Nov 11 2026. No macro, syntax, notation, axiom, sorry.
-/
import Derived.Test.YthcjjjnphgopjaaGreatDoorChecked
import GoSem.PinnedTables
import GoSem.Claim
import GoSem.ClaimJoined
import GoSem.ClaimMapViews
import Derived.JoinedTies
import Derived.KernelRfl
namespace Go.Proofs.YthcjjjnphgopjaaGreatDoor
/- THE CELL 'sum', in the pinned program and in every row, IS THE sha256 OF THE DUMP (.gsa) THAT YthcjjjnphgopjaaGreatDoorProg.lean LOADS. Nothing in Lean hashes anything: it is a label: what it is worth is what the hold of that sum in a sandbox is worth. -/
noncomputable def Tryz.pinned : Pinned := { name := "ythcjjjnphgopjaagreatdoor", sum := "e22ee0d4dd001d5751d53d3a64fdabd21a198e9790985234c646feaa078da2e6", checked := Tryz.checked }
namespace Rows
def none {H : Type} : Left H := { results := [], args := [] }

/- WHAT THE LISTED PACKAGE-LEVEL VARIABLES READ AS WHEN THE CALL BEGINS. Each datum BY PROGRAM (the guide's laid-datum.mjs) off the statement by which the dump's own 'gosem.cut.vars' lays the variable. In a bare row this is a premise. The card (YthcjjjnphgopjaaGreatDoorCards.lean) ties it to the program's text. -/
def laid_unicode_utf8_acceptRanges {H : Type} : DataW H := .agg [.agg [.lit (.int .u8 128), .lit (.int .u8 191)], .agg [.lit (.int .u8 160), .lit (.int .u8 191)], .agg [.lit (.int .u8 128), .lit (.int .u8 159)], .agg [.lit (.int .u8 144), .lit (.int .u8 191)], .agg [.lit (.int .u8 128), .lit (.int .u8 143)], .agg [.lit (.int .u8 0), .lit (.int .u8 0)], .agg [.lit (.int .u8 0), .lit (.int .u8 0)], .agg [.lit (.int .u8 0), .lit (.int .u8 0)], .agg [.lit (.int .u8 0), .lit (.int .u8 0)], .agg [.lit (.int .u8 0), .lit (.int .u8 0)], .agg [.lit (.int .u8 0), .lit (.int .u8 0)], .agg [.lit (.int .u8 0), .lit (.int .u8 0)], .agg [.lit (.int .u8 0), .lit (.int .u8 0)], .agg [.lit (.int .u8 0), .lit (.int .u8 0)], .agg [.lit (.int .u8 0), .lit (.int .u8 0)], .agg [.lit (.int .u8 0), .lit (.int .u8 0)]]
/-- One of Go's own tables, pinned by name: the form's constant. -/
def laid_unicode_utf8_first : DataW Unit := Go.Pinned.utf8First

/-- 'triremelaw11.FilesDoes': WHATEVER THE INPUT: true; the input reads as it did. -/
def filesDoesSpec : ChangeSpec := { name := "filesDoes", fn := fun _ => fun
  | [d1, d2] => { results := [.lit (.bool true)], args := [d1, d2] }
  | _ => none }
def filesDoesRow : OpenClaim := { program := "ythcjjjnphgopjaagreatdoor", sum := "e22ee0d4dd001d5751d53d3a64fdabd21a198e9790985234c646feaa078da2e6", func := "trireme/triremelaw11.FilesDoes", spec := "filesDoes", inPlace := ["internal/bytealg.Compare", "internal/bytealg.IndexByteString", "internal/bytealg.IndexString", "maps.clone", "internal/bytealg.CountString", "internal/abi.NoEscape", "internal/bytealg.MakeNoZero"], unfollowed := true, recurses := true, named := ["internal/bytealg.MaxLen", "unicode/utf8.first", "unicode/utf8.acceptRanges"], apart := false, laid := [("unicode/utf8.acceptRanges", laid_unicode_utf8_acceptRanges), ("unicode/utf8.first", laid_unicode_utf8_first)] }
def FilesDoesSaid : Prop := filesDoesRow.holds Tryz.pinned (OpenSpec.ofChange filesDoesSpec)

/-- ITS FALSE NEIGHBOUR: 'it returns false'. Refute it at one input. -/
def filesDoesWrong : ChangeSpec := { name := "filesDoes", fn := fun _ => fun
  | [d1, d2] => { results := [.lit (.bool false)], args := [d1, d2] }
  | _ => none }
def FilesDoesWrongFalsely : Prop := filesDoesRow.holds Tryz.pinned (OpenSpec.ofChange filesDoesWrong)

/-- 'triremelaw11.FilesPlays': WHATEVER THE INPUT: true; the input reads as it did. -/
def filesPlaysSpec : ChangeSpec := { name := "filesPlays", fn := fun _ => fun
  | [d] => { results := [.lit (.bool true)], args := [d] }
  | _ => none }
def filesPlaysRow : OpenClaim := { program := "ythcjjjnphgopjaagreatdoor", sum := "e22ee0d4dd001d5751d53d3a64fdabd21a198e9790985234c646feaa078da2e6", func := "trireme/triremelaw11.FilesPlays", spec := "filesPlays", inPlace := ["internal/bytealg.Compare", "internal/bytealg.IndexByteString", "internal/bytealg.IndexString", "maps.clone", "internal/bytealg.CountString", "internal/abi.NoEscape", "internal/bytealg.MakeNoZero"], unfollowed := true, recurses := true, named := ["internal/bytealg.MaxLen", "unicode/utf8.first", "unicode/utf8.acceptRanges"], apart := false, laid := [("unicode/utf8.acceptRanges", laid_unicode_utf8_acceptRanges), ("unicode/utf8.first", laid_unicode_utf8_first)] }
def FilesPlaysSaid : Prop := filesPlaysRow.holds Tryz.pinned (OpenSpec.ofChange filesPlaysSpec)

/-- ITS FALSE NEIGHBOUR: 'it returns false'. Refute it at one input. -/
def filesPlaysWrong : ChangeSpec := { name := "filesPlays", fn := fun _ => fun
  | [d] => { results := [.lit (.bool false)], args := [d] }
  | _ => none }
def FilesPlaysWrongFalsely : Prop := filesPlaysRow.holds Tryz.pinned (OpenSpec.ofChange filesPlaysWrong)

/-- 'triremelaw11.FilesReads': WHATEVER THE INPUT: true; the input reads as it did. -/
def filesReadsSpec : ChangeSpec := { name := "filesReads", fn := fun _ => fun
  | [d1, d2] => { results := [.lit (.bool true)], args := [d1, d2] }
  | _ => none }
def filesReadsRow : OpenClaim := { program := "ythcjjjnphgopjaagreatdoor", sum := "e22ee0d4dd001d5751d53d3a64fdabd21a198e9790985234c646feaa078da2e6", func := "trireme/triremelaw11.FilesReads", spec := "filesReads", inPlace := ["internal/bytealg.Compare", "internal/bytealg.IndexByteString", "internal/bytealg.IndexString", "maps.clone", "internal/bytealg.CountString", "internal/abi.NoEscape", "internal/bytealg.MakeNoZero"], unfollowed := true, recurses := true, named := ["internal/bytealg.MaxLen", "unicode/utf8.first", "unicode/utf8.acceptRanges"], apart := false, laid := [("unicode/utf8.acceptRanges", laid_unicode_utf8_acceptRanges), ("unicode/utf8.first", laid_unicode_utf8_first)] }
def FilesReadsSaid : Prop := filesReadsRow.holds Tryz.pinned (OpenSpec.ofChange filesReadsSpec)

/-- ITS FALSE NEIGHBOUR: 'it returns false'. Refute it at one input. -/
def filesReadsWrong : ChangeSpec := { name := "filesReads", fn := fun _ => fun
  | [d1, d2] => { results := [.lit (.bool false)], args := [d1, d2] }
  | _ => none }
def FilesReadsWrongFalsely : Prop := filesReadsRow.holds Tryz.pinned (OpenSpec.ofChange filesReadsWrong)

/-- 'triremelaw11.FilesMoves': WHATEVER THE INPUT: true; the input reads as it did. -/
def filesMovesSpec : ChangeSpec := { name := "filesMoves", fn := fun _ => fun
  | [d1, d2, d3] => { results := [.lit (.bool true)], args := [d1, d2, d3] }
  | _ => none }
def filesMovesRow : OpenClaim := { program := "ythcjjjnphgopjaagreatdoor", sum := "e22ee0d4dd001d5751d53d3a64fdabd21a198e9790985234c646feaa078da2e6", func := "trireme/triremelaw11.FilesMoves", spec := "filesMoves", inPlace := ["internal/bytealg.Compare", "internal/bytealg.IndexByteString", "internal/bytealg.IndexString", "maps.clone", "internal/bytealg.CountString", "internal/abi.NoEscape", "internal/bytealg.MakeNoZero"], unfollowed := true, recurses := true, named := ["internal/bytealg.MaxLen", "unicode/utf8.first", "unicode/utf8.acceptRanges"], apart := false, laid := [("unicode/utf8.acceptRanges", laid_unicode_utf8_acceptRanges), ("unicode/utf8.first", laid_unicode_utf8_first)] }
def FilesMovesSaid : Prop := filesMovesRow.holds Tryz.pinned (OpenSpec.ofChange filesMovesSpec)

/-- ITS FALSE NEIGHBOUR: 'it returns false'. Refute it at one input. -/
def filesMovesWrong : ChangeSpec := { name := "filesMoves", fn := fun _ => fun
  | [d1, d2, d3] => { results := [.lit (.bool false)], args := [d1, d2, d3] }
  | _ => none }
def FilesMovesWrongFalsely : Prop := filesMovesRow.holds Tryz.pinned (OpenSpec.ofChange filesMovesWrong)

/-- 'triremelaw11.FilesErrors': WHATEVER THE INPUT: true; the input reads as it did. -/
def filesErrorsSpec : ChangeSpec := { name := "filesErrors", fn := fun _ => fun
  | [d1, d2] => { results := [.lit (.bool true)], args := [d1, d2] }
  | _ => none }
def filesErrorsRow : OpenClaim := { program := "ythcjjjnphgopjaagreatdoor", sum := "e22ee0d4dd001d5751d53d3a64fdabd21a198e9790985234c646feaa078da2e6", func := "trireme/triremelaw11.FilesErrors", spec := "filesErrors", inPlace := ["internal/bytealg.Compare", "internal/bytealg.IndexByteString", "internal/bytealg.IndexString", "maps.clone", "internal/bytealg.CountString", "internal/abi.NoEscape", "internal/bytealg.MakeNoZero"], unfollowed := true, recurses := true, named := ["internal/bytealg.MaxLen", "unicode/utf8.first", "unicode/utf8.acceptRanges"], apart := false, laid := [("unicode/utf8.acceptRanges", laid_unicode_utf8_acceptRanges), ("unicode/utf8.first", laid_unicode_utf8_first)] }
def FilesErrorsSaid : Prop := filesErrorsRow.holds Tryz.pinned (OpenSpec.ofChange filesErrorsSpec)

/-- ITS FALSE NEIGHBOUR: 'it returns false'. Refute it at one input. -/
def filesErrorsWrong : ChangeSpec := { name := "filesErrors", fn := fun _ => fun
  | [d1, d2] => { results := [.lit (.bool false)], args := [d1, d2] }
  | _ => none }
def FilesErrorsWrongFalsely : Prop := filesErrorsRow.holds Tryz.pinned (OpenSpec.ofChange filesErrorsWrong)

/-- 'triremelaw11.FilesLists': WHATEVER THE INPUT: true; the input reads as it did. -/
def filesListsSpec : ChangeSpec := { name := "filesLists", fn := fun _ => fun
  | [d1, d2] => { results := [.lit (.bool true)], args := [d1, d2] }
  | _ => none }
def filesListsRow : OpenClaim := { program := "ythcjjjnphgopjaagreatdoor", sum := "e22ee0d4dd001d5751d53d3a64fdabd21a198e9790985234c646feaa078da2e6", func := "trireme/triremelaw11.FilesLists", spec := "filesLists", inPlace := ["internal/bytealg.Compare", "internal/bytealg.IndexByteString", "internal/bytealg.IndexString", "maps.clone", "internal/bytealg.CountString", "internal/abi.NoEscape", "internal/bytealg.MakeNoZero"], unfollowed := true, recurses := true, named := ["internal/bytealg.MaxLen", "unicode/utf8.first", "unicode/utf8.acceptRanges"], apart := false, laid := [("unicode/utf8.acceptRanges", laid_unicode_utf8_acceptRanges), ("unicode/utf8.first", laid_unicode_utf8_first)] }
def FilesListsSaid : Prop := filesListsRow.holds Tryz.pinned (OpenSpec.ofChange filesListsSpec)

/-- ITS FALSE NEIGHBOUR: 'it returns false'. Refute it at one input. -/
def filesListsWrong : ChangeSpec := { name := "filesLists", fn := fun _ => fun
  | [d1, d2] => { results := [.lit (.bool false)], args := [d1, d2] }
  | _ => none }
def FilesListsWrongFalsely : Prop := filesListsRow.holds Tryz.pinned (OpenSpec.ofChange filesListsWrong)

/-- 'triremelaw11.FilesUndone': WHATEVER THE INPUT: true; the input reads as it did. -/
def filesUndoneSpec : ChangeSpec := { name := "filesUndone", fn := fun _ => fun
  | [d1, d2, d3] => { results := [.lit (.bool true)], args := [d1, d2, d3] }
  | _ => none }
def filesUndoneRow : OpenClaim := { program := "ythcjjjnphgopjaagreatdoor", sum := "e22ee0d4dd001d5751d53d3a64fdabd21a198e9790985234c646feaa078da2e6", func := "trireme/triremelaw11.FilesUndone", spec := "filesUndone", inPlace := ["internal/bytealg.Compare", "internal/bytealg.IndexByteString", "internal/bytealg.IndexString", "maps.clone", "internal/bytealg.CountString", "internal/abi.NoEscape", "internal/bytealg.MakeNoZero"], unfollowed := true, recurses := true, named := ["internal/bytealg.MaxLen", "unicode/utf8.first", "unicode/utf8.acceptRanges"], apart := false, laid := [("unicode/utf8.acceptRanges", laid_unicode_utf8_acceptRanges), ("unicode/utf8.first", laid_unicode_utf8_first)] }
def FilesUndoneSaid : Prop := filesUndoneRow.holds Tryz.pinned (OpenSpec.ofChange filesUndoneSpec)

/-- ITS FALSE NEIGHBOUR: 'it returns false'. Refute it at one input. -/
def filesUndoneWrong : ChangeSpec := { name := "filesUndone", fn := fun _ => fun
  | [d1, d2, d3] => { results := [.lit (.bool false)], args := [d1, d2, d3] }
  | _ => none }
def FilesUndoneWrongFalsely : Prop := filesUndoneRow.holds Tryz.pinned (OpenSpec.ofChange filesUndoneWrong)

/- THE SECOND FORM. 'bulk': how many values and letters a reading holds, each counted each time it is reached (what is shared counts as often as it is met; a slice's spare places count too). A statement '..UptoSaid' is the law's where the arguments, and the package variables that the reading takes, are together of bulk at most 1048576: NARROWER than '..Said'. Prove '..Said' where nothing that the law and all that it calls make is longer than what came in: it says more and counts as full. Else prove '..UptoSaid'. A law counts once. -/
mutual
def uptoBulk {H : Type} : DataW H → Nat
  | .lit (.string bytes) => bytes.length + 1
  | .lit _ => 1
  | .nil => 1
  | .ptr d => uptoBulk d + 1
  | .slice elems spare => uptoBulkAll elems + uptoBulkAll spare + 1
  | .agg parts => uptoBulkAll parts + 1
  | .iface _ d => uptoBulk d + 1
  | .map entries => uptoBulkEntries entries + 1
  | .held _ => 1
def uptoBulkAll {H : Type} : List (DataW H) → Nat
  | [] => 0
  | d :: r => uptoBulk d + uptoBulkAll r
def uptoBulkEntries {H : Type} : List (Lit × DataW H) → Nat
  | [] => 0
  | x :: r => uptoBulkEntry x + uptoBulkEntries r
def uptoBulkEntry {H : Type} : Lit × DataW H → Nat
  | (.string bytes, d) => bytes.length + uptoBulk d + 1
  | (_, d) => uptoBulk d + 1
 end
def uptoSmall : (H : Type) → List (DataW H) → Bool := fun _ ds => decide (uptoBulkAll ds ≤ 1048576)
def OpenSpec.upto (s : _root_.Go.ChangeSpec) : _root_.Go.OpenSpec := { _root_.Go.OpenSpec.ofChange s with cond := some uptoSmall }

/-- 'triremelaw11.FilesDoes', WHERE WHAT IT READS IS OF BULK AT MOST 1048576: true; the input reads as it did. -/
def filesDoesUptoRow : OpenClaim := { program := "ythcjjjnphgopjaagreatdoor", sum := "e22ee0d4dd001d5751d53d3a64fdabd21a198e9790985234c646feaa078da2e6", func := "trireme/triremelaw11.FilesDoes", spec := "filesDoes", inPlace := ["internal/bytealg.Compare", "internal/bytealg.IndexByteString", "internal/bytealg.IndexString", "maps.clone", "internal/bytealg.CountString", "internal/abi.NoEscape", "internal/bytealg.MakeNoZero"], unfollowed := true, recurses := true, named := ["internal/bytealg.MaxLen", "unicode/utf8.first", "unicode/utf8.acceptRanges"], apart := false, laid := [("unicode/utf8.acceptRanges", laid_unicode_utf8_acceptRanges), ("unicode/utf8.first", laid_unicode_utf8_first)], narrowed := true }
def FilesDoesUptoSaid : Prop := filesDoesUptoRow.holds Tryz.pinned (OpenSpec.upto filesDoesSpec)

/-- 'triremelaw11.FilesPlays', WHERE WHAT IT READS IS OF BULK AT MOST 1048576: true; the input reads as it did. -/
def filesPlaysUptoRow : OpenClaim := { program := "ythcjjjnphgopjaagreatdoor", sum := "e22ee0d4dd001d5751d53d3a64fdabd21a198e9790985234c646feaa078da2e6", func := "trireme/triremelaw11.FilesPlays", spec := "filesPlays", inPlace := ["internal/bytealg.Compare", "internal/bytealg.IndexByteString", "internal/bytealg.IndexString", "maps.clone", "internal/bytealg.CountString", "internal/abi.NoEscape", "internal/bytealg.MakeNoZero"], unfollowed := true, recurses := true, named := ["internal/bytealg.MaxLen", "unicode/utf8.first", "unicode/utf8.acceptRanges"], apart := false, laid := [("unicode/utf8.acceptRanges", laid_unicode_utf8_acceptRanges), ("unicode/utf8.first", laid_unicode_utf8_first)], narrowed := true }
def FilesPlaysUptoSaid : Prop := filesPlaysUptoRow.holds Tryz.pinned (OpenSpec.upto filesPlaysSpec)

/-- 'triremelaw11.FilesReads', WHERE WHAT IT READS IS OF BULK AT MOST 1048576: true; the input reads as it did. -/
def filesReadsUptoRow : OpenClaim := { program := "ythcjjjnphgopjaagreatdoor", sum := "e22ee0d4dd001d5751d53d3a64fdabd21a198e9790985234c646feaa078da2e6", func := "trireme/triremelaw11.FilesReads", spec := "filesReads", inPlace := ["internal/bytealg.Compare", "internal/bytealg.IndexByteString", "internal/bytealg.IndexString", "maps.clone", "internal/bytealg.CountString", "internal/abi.NoEscape", "internal/bytealg.MakeNoZero"], unfollowed := true, recurses := true, named := ["internal/bytealg.MaxLen", "unicode/utf8.first", "unicode/utf8.acceptRanges"], apart := false, laid := [("unicode/utf8.acceptRanges", laid_unicode_utf8_acceptRanges), ("unicode/utf8.first", laid_unicode_utf8_first)], narrowed := true }
def FilesReadsUptoSaid : Prop := filesReadsUptoRow.holds Tryz.pinned (OpenSpec.upto filesReadsSpec)

/-- 'triremelaw11.FilesMoves', WHERE WHAT IT READS IS OF BULK AT MOST 1048576: true; the input reads as it did. -/
def filesMovesUptoRow : OpenClaim := { program := "ythcjjjnphgopjaagreatdoor", sum := "e22ee0d4dd001d5751d53d3a64fdabd21a198e9790985234c646feaa078da2e6", func := "trireme/triremelaw11.FilesMoves", spec := "filesMoves", inPlace := ["internal/bytealg.Compare", "internal/bytealg.IndexByteString", "internal/bytealg.IndexString", "maps.clone", "internal/bytealg.CountString", "internal/abi.NoEscape", "internal/bytealg.MakeNoZero"], unfollowed := true, recurses := true, named := ["internal/bytealg.MaxLen", "unicode/utf8.first", "unicode/utf8.acceptRanges"], apart := false, laid := [("unicode/utf8.acceptRanges", laid_unicode_utf8_acceptRanges), ("unicode/utf8.first", laid_unicode_utf8_first)], narrowed := true }
def FilesMovesUptoSaid : Prop := filesMovesUptoRow.holds Tryz.pinned (OpenSpec.upto filesMovesSpec)

/-- 'triremelaw11.FilesErrors', WHERE WHAT IT READS IS OF BULK AT MOST 1048576: true; the input reads as it did. -/
def filesErrorsUptoRow : OpenClaim := { program := "ythcjjjnphgopjaagreatdoor", sum := "e22ee0d4dd001d5751d53d3a64fdabd21a198e9790985234c646feaa078da2e6", func := "trireme/triremelaw11.FilesErrors", spec := "filesErrors", inPlace := ["internal/bytealg.Compare", "internal/bytealg.IndexByteString", "internal/bytealg.IndexString", "maps.clone", "internal/bytealg.CountString", "internal/abi.NoEscape", "internal/bytealg.MakeNoZero"], unfollowed := true, recurses := true, named := ["internal/bytealg.MaxLen", "unicode/utf8.first", "unicode/utf8.acceptRanges"], apart := false, laid := [("unicode/utf8.acceptRanges", laid_unicode_utf8_acceptRanges), ("unicode/utf8.first", laid_unicode_utf8_first)], narrowed := true }
def FilesErrorsUptoSaid : Prop := filesErrorsUptoRow.holds Tryz.pinned (OpenSpec.upto filesErrorsSpec)

/-- 'triremelaw11.FilesLists', WHERE WHAT IT READS IS OF BULK AT MOST 1048576: true; the input reads as it did. -/
def filesListsUptoRow : OpenClaim := { program := "ythcjjjnphgopjaagreatdoor", sum := "e22ee0d4dd001d5751d53d3a64fdabd21a198e9790985234c646feaa078da2e6", func := "trireme/triremelaw11.FilesLists", spec := "filesLists", inPlace := ["internal/bytealg.Compare", "internal/bytealg.IndexByteString", "internal/bytealg.IndexString", "maps.clone", "internal/bytealg.CountString", "internal/abi.NoEscape", "internal/bytealg.MakeNoZero"], unfollowed := true, recurses := true, named := ["internal/bytealg.MaxLen", "unicode/utf8.first", "unicode/utf8.acceptRanges"], apart := false, laid := [("unicode/utf8.acceptRanges", laid_unicode_utf8_acceptRanges), ("unicode/utf8.first", laid_unicode_utf8_first)], narrowed := true }
def FilesListsUptoSaid : Prop := filesListsUptoRow.holds Tryz.pinned (OpenSpec.upto filesListsSpec)

/-- 'triremelaw11.FilesUndone', WHERE WHAT IT READS IS OF BULK AT MOST 1048576: true; the input reads as it did. -/
def filesUndoneUptoRow : OpenClaim := { program := "ythcjjjnphgopjaagreatdoor", sum := "e22ee0d4dd001d5751d53d3a64fdabd21a198e9790985234c646feaa078da2e6", func := "trireme/triremelaw11.FilesUndone", spec := "filesUndone", inPlace := ["internal/bytealg.Compare", "internal/bytealg.IndexByteString", "internal/bytealg.IndexString", "maps.clone", "internal/bytealg.CountString", "internal/abi.NoEscape", "internal/bytealg.MakeNoZero"], unfollowed := true, recurses := true, named := ["internal/bytealg.MaxLen", "unicode/utf8.first", "unicode/utf8.acceptRanges"], apart := false, laid := [("unicode/utf8.acceptRanges", laid_unicode_utf8_acceptRanges), ("unicode/utf8.first", laid_unicode_utf8_first)], narrowed := true }
def FilesUndoneUptoSaid : Prop := filesUndoneUptoRow.holds Tryz.pinned (OpenSpec.upto filesUndoneSpec)

end Rows
end Go.Proofs.YthcjjjnphgopjaaGreatDoor
