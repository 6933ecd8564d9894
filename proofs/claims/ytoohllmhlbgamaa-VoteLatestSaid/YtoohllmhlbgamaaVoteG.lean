/- The law's own example. -/
import Derived.Test.YtoohllmhlbgamaaVoteF
set_option linter.unusedSimpArgs false
set_option linter.unusedVariables false
namespace Go.Proofs.Ytoohllmhlbgamaa
open Go.ChangeShapes Go.WideShapes Go.ChangeAt Go.RowKit Go.Tri

def sv1 : Vote := ⟨0, 3, 1, 5, 0, Vote.zero.head⟩
def sv2 : Vote := ⟨2, 3, 2, 3, 0, Vote.zero.head⟩
theorem sv1_wf : sv1.wf := ⟨rfl, rfl, rfl, rfl, rfl, rfl⟩
theorem sv2_wf : sv2.wf := ⟨rfl, rfl, rfl, rfl, rfl, rfl⟩
theorem speak1 : chooseV 3 3 [sv1, sv2] = .tuple #[.agg sv2.cells.toArray, .int .u64 0, .bool true] := by kernel_rfl
theorem speak2 : chooseV 3 3 [sv1] = .tuple #[.agg Vote.zero.cells.toArray, .int .u64 0, .bool false] := by kernel_rfl

set_option maxRecDepth 100000 in
set_option maxHeartbeats 1000000 in
theorem speaks (w : World) : Calls Try.prog 8 #[] w fun e w' => e = .returned (.bool true) ∧ Below w.heap.size w w' := by
  have hw2 : ∀ x ∈ [sv1, sv2], x.wf := by simp [sv1_wf, sv2_wf]
  have hw1 : ∀ x ∈ [sv1], x.wf := by simp [sv1_wf]
  have HW2 := Lib.hid hw2; have HW1 := Lib.hid hw1; clear hw2 hw1
  have HS := Lib.hid (show Row (w.alloc (.cells (votes [sv1, sv2]).toArray 28)) w.heap.size 0 (votes [sv1, sv2]) from Row.new _ _ _ _)
  have HB := Lib.hid (show Below w.heap.size w (w.alloc (.cells (votes [sv1, sv2]).toArray 28)) from (Below.refl _ _).alloc (Nat.le_refl _) _)
  have hsz : w.heap.size < (w.alloc (.cells (votes [sv1, sv2]).toArray 28)).heap.size := by simp
  go_enter Try.func8, Try.ntmps8
  go_wp2_with (fail)
  change Calls _ _ _ (w.alloc (.cells (votes [sv1, sv2]).toArray 28)) _
  generalize w.alloc (.cells (votes [sv1, sv2]).toArray 28) = w0 at *
  refine (choose [sv1, sv2] HW2.out (by simp) _ 3 3 (by omega) (by omega) _ (.inr (.inr ⟨_, _, _, rfl, Nat.le_refl _, HS.out⟩))).mono ?_
  rintro e w1 ⟨rfl, hb1⟩
  rw [speak1]
  have H1 := Lib.hid (And.intro (HB.out.trans (hb1.mono (Nat.le_of_lt hsz))) (HS.out.grow hb1))
  have hs1 := hb1.size
  clear hb1
  go_wp2_with (first
    | ((with_reducible refine wl_alloc aggVote rfl ?_ ?_); exact rfl)
    | ((with_reducible refine wl_store (cs := sv2.cells) aggVote rfl ?_ ?_ ?_ (Blk.new _ _ _) ?_ ?_ ?_ ?_); exact rfl; exact rfl; exact rfl; exact rfl; exact rfl; exact Vote.flat _; rw [setRow_alloc])
    | ((with_reducible refine wl_store (cs := Vote.zero.cells) aggVote rfl ?_ ?_ ?_ (Blk.new _ _ _) ?_ ?_ ?_ ?_); exact rfl; exact rfl; exact rfl; exact rfl; exact rfl; exact Vote.flat _; rw [setRow_alloc]))
  refine (choose [sv1] HW1.out (by simp) _ 3 3 (by omega) (by omega) _ (.inr (.inr ⟨_, _, _, rfl, ?_, (Row.left (ys := sv2.cells) H1.out.2).alloc _⟩))).mono ?_
  · decide
  rintro e w2 ⟨rfl, hb2⟩
  rw [speak2]
  have H2 := Lib.hid (And.intro hb2 ((Blk.new w1 sv2.cells 28).grow hb2))
  have hs2 := hb2.size
  rw [World.size_alloc] at hs2
  have c2 : w2.cell? ⟨w1.heap.size, 0, none⟩ = some (.int .i64 2) := H2.out.2.cell 0
  have hne : w1.heap.size < w2.heap.size := by omega
  clear hb2
  go_wp2_with (first
    | ((with_reducible refine wl_alloc aggVote rfl ?_ ?_); exact rfl)
    | ((with_reducible refine wl_store (cs := Vote.zero.cells) aggVote rfl ?_ ?_ ?_ (Blk.new _ _ _) ?_ ?_ ?_ ?_); exact rfl; exact rfl; exact rfl; exact rfl; exact rfl; exact Vote.flat _; rw [setRow_alloc]))
  go_ret
  exact ⟨rfl, (((H1.out.1.alloc H1.out.1.size _).trans (H2.out.1.mono (by have := H1.out.1.size; simp; omega))).alloc (by have := H1.out.1.size; omega) _)⟩
end Go.Proofs.Ytoohllmhlbgamaa
