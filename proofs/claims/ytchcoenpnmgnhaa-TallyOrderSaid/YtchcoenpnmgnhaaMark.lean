/- Marks as data. -/
import Derived.Test.YtchcoenpnmgnhaaL
import Derived.Test.YtchcoenpnmgnhaaRows
set_option linter.unusedSimpArgs false
set_option linter.unusedVariables false
namespace Go.Tri
structure Mrk where
  node : Int
  gen : Int
def Mrk.cells (x : Mrk) : List Value := [.int .i64 x.node, .int .u64 x.gen]
structure Mrk.wf (x : Mrk) : Prop where
  node : (Lit.int .i64 x.node).wf = true
  gen : (Lit.int .u64 x.gen).wf = true
theorem Mrk.len_cells {x : Mrk} (_ : x.wf) : x.cells.length = 2 := rfl
theorem Mrk.len (x : Mrk) (_ : x.wf) : x.cells.length = 2 := rfl
theorem Mrk.flat (x : Mrk) : Flat x.cells := by
  intro v hv
  simp only [Mrk.cells, List.mem_cons, List.not_mem_nil, or_false] at hv
  rcases hv with rfl | rfl <;> rfl
def Mrk.zero : Mrk := ⟨0, 0⟩
noncomputable instance markDec : DecidableEq Mrk := fun _ _ => Classical.propDecidable _
theorem Mrk.nodeB {x : Mrk} (h : x.wf) : -9223372036854775808 ≤ x.node ∧ x.node ≤ 9223372036854775807 := by
  have := h.node; simp [Lit.wf, IntKind.min, IntKind.max, IntKind.signed, IntKind.bits] at this; omega
theorem Mrk.genB {x : Mrk} (h : x.wf) : 0 ≤ x.gen ∧ x.gen ≤ 18446744073709551615 := by
  have := h.gen; simp [Lit.wf, IntKind.min, IntKind.max, IntKind.signed, IntKind.bits] at this; omega
end Go.Tri
namespace Go.Proofs.Ytchcoenpnmgnhaa
open Go.ChangeShapes Go.WideShapes Go.ChangeAt Go.RowKit Go.Tri
theorem aggMark : AggT Try.prog 28 2 Mrk.zero.cells := ⟨by kernel_rfl, by kernel_rfl, rfl⟩
theorem elemMark : ElemT Try.prog 22 28 2 16 (.agg Mrk.zero.cells.toArray) := ⟨Try.underlying22, by kernel_rfl, rfl, by decide⟩
theorem elemU64 : ElemT Try.prog 33 24 1 8 (.int .u64 0) := ⟨Try.underlying33, by kernel_rfl, rfl, by decide⟩
theorem mfld0 : FieldT Try.prog 28 0 0 := by unfold FieldT; kernel_rfl
theorem mfld1 : FieldT Try.prog 28 1 1 := by unfold FieldT; kernel_rfl
theorem plInt : Plain Try.prog 3 := by unfold Plain; kernel_rfl
theorem plU64 : Plain Try.prog 24 := by unfold Plain; kernel_rfl
theorem plSU64 : Plain Try.prog 33 := by unfold Plain; kernel_rfl
theorem plMap : Plain Try.prog 36 := by unfold Plain; kernel_rfl
theorem z1U64 : Zero1 Try.prog 24 (.int .u64 0) := ⟨by kernel_rfl, rfl⟩
theorem z1Int : Zero1 Try.prog 3 (.int .i64 0) := ⟨by kernel_rfl, rfl⟩
theorem z1SU64 : Zero1 Try.prog 33 (.slice none 0 0) := ⟨by kernel_rfl, rfl⟩
def _root_.Go.Tri.Mrk.lits (x : Mrk) : List Lit := [.int .i64 x.node, .int .u64 x.gen]
theorem lits_mark (y : Mrk) (h : y.wf) : Try.prog.keyLits 4 28 y.cells = some y.lits := by
  have hc : Try.prog.cellsOf 28 = 2 := by kernel_rfl
  have hi : Try.prog.cellsOf 3 = 1 := by kernel_rfl
  have hu : Try.prog.cellsOf 24 = 1 := by kernel_rfl
  unfold Program.keyLits
  simp only [Try.underlying28]
  rw [if_pos ⟨by rw [hc]; exact Mrk.len_cells h, by simp⟩]
  simp only [List.mapM_cons, List.mapM_nil, hi, hu, Mrk.cells, List.drop_zero, List.drop_succ_cons, List.take_succ_cons, List.take_zero, Go.Tri.keyLits_int Try.underlying3 2 _ h.node,
    Go.Tri.keyLits_int Try.underlying24 2 _ h.gen]
  rfl
theorem formed_mark (y : Mrk) (h : y.wf) : (Value.agg y.cells.toArray).formed Try.prog 28 = true := by
  have hc : Try.prog.cellsOf 28 = 2 := by kernel_rfl
  simp [Value.formed, Try.underlying28, hc, Mrk.len_cells h]
theorem run_eq_mark (x y : Mrk) (hx : x.wf) (hy : y.wf) (a b : Operand) (w : World) (c : Bool) (hc : c = true ↔ x = y) :
    (do eqGuard .eql 28 a b (.agg x.cells.toArray) (.agg y.cells.toArray); binOp .eql 28 (.agg x.cells.toArray) (.agg y.cells.toArray)).run Try.prog w = .ok (.bool c) w ∧
    (do eqGuard .neq 28 a b (.agg x.cells.toArray) (.agg y.cells.toArray); binOp .neq 28 (.agg x.cells.toArray) (.agg y.cells.toArray)).run Try.prog w = .ok (.bool (!c)) w :=
  run_eqAgg (P := Try.prog) (t := 28) (m := 4) (by decide) (by kernel_rfl) (formed_mark x hx) (formed_mark y hy) (lits_mark x hx) (lits_mark y hy) (by kernel_rfl) w a b c
    (hc.trans ⟨fun e => by rw [e], fun e => by
      simp only [Mrk.lits, List.cons.injEq, Lit.int.injEq, true_and, and_true] at e
      cases x; cases y; simp_all⟩)
end Go.Proofs.Ytchcoenpnmgnhaa
