/- Marks that came in. -/
import Derived.Test.YtchcoenpnmgnhaaMark
import Derived.Test.YtchcoenpnmgnhaaLibO
import Derived.ShutString
set_option linter.unusedSimpArgs false
set_option linter.unusedVariables false
namespace Go.Proofs.Ytchcoenpnmgnhaa
open Go.ChangeShapes Go.WideShapes Go.ChangeAt Go.RowKit Go.Tri

def U64ok (y : Int) : Prop := (Lit.int .u64 y).wf = true
theorem inC_len1 {y : Int} (_ : U64ok y) : (inC .u64 y).length = 1 := rfl
section
variable {H : Type} {enc : TypeId × Value → H} {w : World} {base : Nat} {spare : Nat → Bool} {held : Bool}
theorem open_mark {fuel : Nat} {cs : List Value} {x : DataW H × List MemPlace} (h : DataW.trod enc Try.prog w base spare held fuel 28 cs = some x) : ∃ y : Mrk, y.wf ∧ cs = y.cells := by
  have hc : Try.prog.cellsOf 28 = 2 := by kernel_rfl
  have hi : Try.prog.cellsOf 3 = 1 := by kernel_rfl
  have hu : Try.prog.cellsOf 24 = 1 := by kernel_rfl
  obtain ⟨xs, n, _, _, hl, hxl, hf⟩ := DataW.trod_struct Try.underlying28 h
  rw [hc] at hl
  have hx : ∀ i, i < 2 → ∃ z, xs[i]? = some z := fun i hi => ⟨_, List.getElem?_eq_getElem (by rw [hxl]; exact hi)⟩
  obtain ⟨z0, e0⟩ := hx 0 (by omega); obtain ⟨z1, e1⟩ := hx 1 (by omega)
  have f0 : DataW.trod enc Try.prog w base spare held n 3 ((cs.drop 0).take (Try.prog.cellsOf 3)) = xs[0]? := hf 0 _ rfl
  have f1 : DataW.trod enc Try.prog w base spare held n 24 ((cs.drop 1).take (Try.prog.cellsOf 24)) = xs[1]? := hf 1 _ rfl
  rw [e0] at f0; rw [e1] at f1
  obtain ⟨n0, g0, _, w0⟩ := DataW.trod_int Try.underlying3 f0
  obtain ⟨n1, g1, _, w1⟩ := DataW.trod_int Try.underlying24 f1
  rw [hi] at g0; rw [hu] at g1
  refine ⟨⟨n0, n1⟩, ⟨w0, w1⟩, ?_⟩
  match cs, hl with
  | [c0, c1], hl =>
    simp at g0 g1
    simp [Mrk.cells, g0, g1]
/-- Numbers of 64 bits. -/
theorem open_u64 {fuel : Nat} {cs : List Value} {x : DataW H × List MemPlace} (h : DataW.trod enc Try.prog w base spare held fuel 24 cs = some x) : ∃ y : Int, U64ok y ∧ cs = inC .u64 y := by
  obtain ⟨n0, g0, _, w0⟩ := DataW.trod_int Try.underlying24 h
  exact ⟨n0, w0, g0⟩
end
theorem u64B {y : Int} (h : U64ok y) : 0 ≤ y ∧ y ≤ 18446744073709551615 := by
  unfold U64ok at h
  simp [Lit.wf, IntKind.min, IntKind.max, IntKind.signed, IntKind.bits] at h; omega
theorem own : ownKnob Try.prog.godebug = none := by kernel_rfl
theorem laidOut : laidOutB Try.prog = true := by kernel_rfl
end Go.Proofs.Ytchcoenpnmgnhaa
