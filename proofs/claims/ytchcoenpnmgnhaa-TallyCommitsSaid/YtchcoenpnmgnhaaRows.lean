/-
  No cell of these rows narrows 'for every input' (looked for: loops, veiled, ifaces, maps, wideKeys, modest, calm, conditions, laid).
  DERIVED. THE GIVEN ROWS OF THIS SEAT. 5 by the template 'for every input the law returns true; each argument reads behind the call as it read before'; 0 by the template 'total and deterministic' (their statements: YtchcoenpnmgnhaaTotals.lean).
  GIVEN WITH THE SEED: the statements are not yours to turn. If you find one false, say at which input.
  Laid BY PROGRAM, IN A SANDBOX (cutbox-rows.mjs): the forced cells as the released guide's own fill.sh prints them over the translation c63fe56eaa99813d… (all of the seat's roots in one cut). By AI agents, Wed Nov 11 2026. No macro, syntax, notation, axiom, sorry.
-/
import Derived.Test.YtchcoenpnmgnhaaChecked
import GoSem.Claim
import GoSem.ClaimJoined
import GoSem.ClaimMapViews
import Derived.JoinedTies
import Derived.KernelRfl
namespace Go.Proofs.Ytchcoenpnmgnhaa
/- THE CELL 'sum', in the pinned program and in every row, IS THE sha256 OF THE DUMP (.gsa) THAT YtchcoenpnmgnhaaProg.lean LOADS. Nothing in Lean hashes anything: it is a label: what it is worth is what the hold of that sum in a sandbox is worth. -/
noncomputable def Try.pinned : Pinned := { name := "ytchcoenpnmgnhaa", sum := "c63fe56eaa99813dc6de3f7a1a31166537c558716541f156e1a96519ce6f1994", checked := Try.checked }
namespace Rows
def none {H : Type} : Left H := { results := [], args := [] }

/-- 'triremelaw21.TallyCommits': WHATEVER THE INPUT: true; the input reads as it did. -/
def tallyCommitsSpec : ChangeSpec := { name := "tallyCommits", fn := fun _ => fun
  | [d1, d2] => { results := [.lit (.bool true)], args := [d1, d2] }
  | _ => none }
def tallyCommitsRow : OpenClaim := { program := "ytchcoenpnmgnhaa", sum := "c63fe56eaa99813dc6de3f7a1a31166537c558716541f156e1a96519ce6f1994", func := "trireme/triremelaw21.TallyCommits", spec := "tallyCommits", unfollowed := true, recurses := true, apart := false }
def TallyCommitsSaid : Prop := tallyCommitsRow.holds Try.pinned (OpenSpec.ofChange tallyCommitsSpec)

/-- ITS FALSE NEIGHBOUR: 'it returns false'. Refute it at one input. -/
def tallyCommitsWrong : ChangeSpec := { name := "tallyCommits", fn := fun _ => fun
  | [d1, d2] => { results := [.lit (.bool false)], args := [d1, d2] }
  | _ => none }
def TallyCommitsWrongFalsely : Prop := tallyCommitsRow.holds Try.pinned (OpenSpec.ofChange tallyCommitsWrong)

/-- 'triremelaw21.TallyAdds': WHATEVER THE INPUT: true; the input reads as it did. -/
def tallyAddsSpec : ChangeSpec := { name := "tallyAdds", fn := fun _ => fun
  | [d1, d2] => { results := [.lit (.bool true)], args := [d1, d2] }
  | _ => none }
def tallyAddsRow : OpenClaim := { program := "ytchcoenpnmgnhaa", sum := "c63fe56eaa99813dc6de3f7a1a31166537c558716541f156e1a96519ce6f1994", func := "trireme/triremelaw21.TallyAdds", spec := "tallyAdds", inPlace := ["slices.overlaps[trireme/api.Mark]"], unfollowed := true, recurses := true, apart := false }
def TallyAddsSaid : Prop := tallyAddsRow.holds Try.pinned (OpenSpec.ofChange tallyAddsSpec)

/-- ITS FALSE NEIGHBOUR: 'it returns false'. Refute it at one input. -/
def tallyAddsWrong : ChangeSpec := { name := "tallyAdds", fn := fun _ => fun
  | [d1, d2] => { results := [.lit (.bool false)], args := [d1, d2] }
  | _ => none }
def TallyAddsWrongFalsely : Prop := tallyAddsRow.holds Try.pinned (OpenSpec.ofChange tallyAddsWrong)

/-- 'triremelaw21.TallyGrows': WHATEVER THE INPUT: true; the input reads as it did. -/
def tallyGrowsSpec : ChangeSpec := { name := "tallyGrows", fn := fun _ => fun
  | [d1, d2, d3] => { results := [.lit (.bool true)], args := [d1, d2, d3] }
  | _ => none }
def tallyGrowsRow : OpenClaim := { program := "ytchcoenpnmgnhaa", sum := "c63fe56eaa99813dc6de3f7a1a31166537c558716541f156e1a96519ce6f1994", func := "trireme/triremelaw21.TallyGrows", spec := "tallyGrows", inPlace := ["slices.overlaps[trireme/api.Mark]"], unfollowed := true, recurses := true, apart := false }
def TallyGrowsSaid : Prop := tallyGrowsRow.holds Try.pinned (OpenSpec.ofChange tallyGrowsSpec)

/-- ITS FALSE NEIGHBOUR: 'it returns false'. Refute it at one input. -/
def tallyGrowsWrong : ChangeSpec := { name := "tallyGrows", fn := fun _ => fun
  | [d1, d2, d3] => { results := [.lit (.bool false)], args := [d1, d2, d3] }
  | _ => none }
def TallyGrowsWrongFalsely : Prop := tallyGrowsRow.holds Try.pinned (OpenSpec.ofChange tallyGrowsWrong)

/-- 'triremelaw21.TallyBounds': WHATEVER THE INPUT: true; the input reads as it did. -/
def tallyBoundsSpec : ChangeSpec := { name := "tallyBounds", fn := fun _ => fun
  | [d] => { results := [.lit (.bool true)], args := [d] }
  | _ => none }
def tallyBoundsRow : OpenClaim := { program := "ytchcoenpnmgnhaa", sum := "c63fe56eaa99813dc6de3f7a1a31166537c558716541f156e1a96519ce6f1994", func := "trireme/triremelaw21.TallyBounds", spec := "tallyBounds", inPlace := ["slices.overlaps[trireme/api.Mark]"], unfollowed := true, recurses := true, apart := false }
def TallyBoundsSaid : Prop := tallyBoundsRow.holds Try.pinned (OpenSpec.ofChange tallyBoundsSpec)

/-- ITS FALSE NEIGHBOUR: 'it returns false'. Refute it at one input. -/
def tallyBoundsWrong : ChangeSpec := { name := "tallyBounds", fn := fun _ => fun
  | [d] => { results := [.lit (.bool false)], args := [d] }
  | _ => none }
def TallyBoundsWrongFalsely : Prop := tallyBoundsRow.holds Try.pinned (OpenSpec.ofChange tallyBoundsWrong)

/-- 'triremelaw21.TallyOrder': WHATEVER THE INPUT: true; the input reads as it did. -/
def tallyOrderSpec : ChangeSpec := { name := "tallyOrder", fn := fun _ => fun
  | [d1, d2] => { results := [.lit (.bool true)], args := [d1, d2] }
  | _ => none }
def tallyOrderRow : OpenClaim := { program := "ytchcoenpnmgnhaa", sum := "c63fe56eaa99813dc6de3f7a1a31166537c558716541f156e1a96519ce6f1994", func := "trireme/triremelaw21.TallyOrder", spec := "tallyOrder", inPlace := ["slices.overlaps[trireme/api.Mark]"], unfollowed := true, recurses := true, apart := false }
def TallyOrderSaid : Prop := tallyOrderRow.holds Try.pinned (OpenSpec.ofChange tallyOrderSpec)

/-- ITS FALSE NEIGHBOUR: 'it returns false'. Refute it at one input. -/
def tallyOrderWrong : ChangeSpec := { name := "tallyOrder", fn := fun _ => fun
  | [d1, d2] => { results := [.lit (.bool false)], args := [d1, d2] }
  | _ => none }
def TallyOrderWrongFalsely : Prop := tallyOrderRow.holds Try.pinned (OpenSpec.ofChange tallyOrderWrong)

/- THE SECOND FORM. 'bulk': how many values and letters a reading holds, each counted each time it is reached (what is shared counts as often as it is met; a slice's spare places count too). A statement '..UptoSaid' is the law's where the arguments, and the package variables that the reading takes, are together of bulk at most 1048576: NARROWER than '..Said'. Prove '..Said' where nothing that the law and all that it calls make is longer than what came in: it says more and counts as full. Else prove '..UptoSaid'. A law counts once. -/
mutual
def uptoBulk {H : Type} : DataW H → Nat
  | .lit (.string bytes) => bytes.length + 1
  | .lit _ => 1
  | .nil => 1
  | .ptr d => uptoBulk d + 1
  | .slice elems spare => uptoBulkAll elems + uptoBulkAll spare + 1
  | .agg parts => uptoBulkAll parts + 1
  | .iface _ d => uptoBulk d + 1
  | .map entries => uptoBulkEntries entries + 1
  | .held _ => 1
def uptoBulkAll {H : Type} : List (DataW H) → Nat
  | [] => 0
  | d :: r => uptoBulk d + uptoBulkAll r
def uptoBulkEntries {H : Type} : List (Lit × DataW H) → Nat
  | [] => 0
  | x :: r => uptoBulkEntry x + uptoBulkEntries r
def uptoBulkEntry {H : Type} : Lit × DataW H → Nat
  | (.string bytes, d) => bytes.length + uptoBulk d + 1
  | (_, d) => uptoBulk d + 1
 end
def uptoSmall : (H : Type) → List (DataW H) → Bool := fun _ ds => decide (uptoBulkAll ds ≤ 1048576)
def OpenSpec.upto (s : _root_.Go.ChangeSpec) : _root_.Go.OpenSpec := { _root_.Go.OpenSpec.ofChange s with cond := some uptoSmall }

/-- 'triremelaw21.TallyCommits', WHERE WHAT IT READS IS OF BULK AT MOST 1048576: true; the input reads as it did. -/
def tallyCommitsUptoRow : OpenClaim := { program := "ytchcoenpnmgnhaa", sum := "c63fe56eaa99813dc6de3f7a1a31166537c558716541f156e1a96519ce6f1994", func := "trireme/triremelaw21.TallyCommits", spec := "tallyCommits", unfollowed := true, recurses := true, apart := false, narrowed := true }
def TallyCommitsUptoSaid : Prop := tallyCommitsUptoRow.holds Try.pinned (OpenSpec.upto tallyCommitsSpec)

/-- 'triremelaw21.TallyAdds', WHERE WHAT IT READS IS OF BULK AT MOST 1048576: true; the input reads as it did. -/
def tallyAddsUptoRow : OpenClaim := { program := "ytchcoenpnmgnhaa", sum := "c63fe56eaa99813dc6de3f7a1a31166537c558716541f156e1a96519ce6f1994", func := "trireme/triremelaw21.TallyAdds", spec := "tallyAdds", inPlace := ["slices.overlaps[trireme/api.Mark]"], unfollowed := true, recurses := true, apart := false, narrowed := true }
def TallyAddsUptoSaid : Prop := tallyAddsUptoRow.holds Try.pinned (OpenSpec.upto tallyAddsSpec)

/-- 'triremelaw21.TallyGrows', WHERE WHAT IT READS IS OF BULK AT MOST 1048576: true; the input reads as it did. -/
def tallyGrowsUptoRow : OpenClaim := { program := "ytchcoenpnmgnhaa", sum := "c63fe56eaa99813dc6de3f7a1a31166537c558716541f156e1a96519ce6f1994", func := "trireme/triremelaw21.TallyGrows", spec := "tallyGrows", inPlace := ["slices.overlaps[trireme/api.Mark]"], unfollowed := true, recurses := true, apart := false, narrowed := true }
def TallyGrowsUptoSaid : Prop := tallyGrowsUptoRow.holds Try.pinned (OpenSpec.upto tallyGrowsSpec)

/-- 'triremelaw21.TallyBounds', WHERE WHAT IT READS IS OF BULK AT MOST 1048576: true; the input reads as it did. -/
def tallyBoundsUptoRow : OpenClaim := { program := "ytchcoenpnmgnhaa", sum := "c63fe56eaa99813dc6de3f7a1a31166537c558716541f156e1a96519ce6f1994", func := "trireme/triremelaw21.TallyBounds", spec := "tallyBounds", inPlace := ["slices.overlaps[trireme/api.Mark]"], unfollowed := true, recurses := true, apart := false, narrowed := true }
def TallyBoundsUptoSaid : Prop := tallyBoundsUptoRow.holds Try.pinned (OpenSpec.upto tallyBoundsSpec)

/-- 'triremelaw21.TallyOrder', WHERE WHAT IT READS IS OF BULK AT MOST 1048576: true; the input reads as it did. -/
def tallyOrderUptoRow : OpenClaim := { program := "ytchcoenpnmgnhaa", sum := "c63fe56eaa99813dc6de3f7a1a31166537c558716541f156e1a96519ce6f1994", func := "trireme/triremelaw21.TallyOrder", spec := "tallyOrder", inPlace := ["slices.overlaps[trireme/api.Mark]"], unfollowed := true, recurses := true, apart := false, narrowed := true }
def TallyOrderUptoSaid : Prop := tallyOrderUptoRow.holds Try.pinned (OpenSpec.upto tallyOrderSpec)

end Rows
end Go.Proofs.Ytchcoenpnmgnhaa
