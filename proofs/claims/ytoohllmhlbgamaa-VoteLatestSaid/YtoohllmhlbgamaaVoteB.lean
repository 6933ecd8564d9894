/- vote.better. -/
import Derived.Test.YtoohllmhlbgamaaVote
set_option linter.unusedSimpArgs false
set_option linter.unusedVariables false
namespace Go.Proofs.Ytoohllmhlbgamaa
open Go.ChangeShapes Go.WideShapes Go.ChangeAt Go.RowKit Go.Tri

/-- How vote.better holds two votes against each other. -/
def betterI (a b : Vote) : Int := firstNot [cmp3 a.normal b.normal, cmp3 a.gen b.gen, Lib.compareBytes a.head b.head, cmp3 b.node a.node, cmp3 a.commit b.commit]

set_option maxRecDepth 100000 in
set_option maxHeartbeats 1000000 in
theorem better (x y : Vote) (hx : x.wf) (hy : y.wf) (w : World) :
    Calls Try.prog 17 #[.agg x.cells.toArray, .agg y.cells.toArray] w fun e w' => e = .returned (.int .i64 (betterI x y)) ∧ Below w.heap.size w w' := by
  have x0 : x.cells[0]? = some (.int .i64 x.node) := rfl
  have x2 : x.cells[2]? = some (.int .u64 x.normal) := rfl
  have x3 : x.cells[3]? = some (.int .u64 x.gen) := rfl
  have x4 : x.cells[4]? = some (.int .u64 x.commit) := rfl
  have y0 : y.cells[0]? = some (.int .i64 y.node) := rfl
  have y2 : y.cells[2]? = some (.int .u64 y.normal) := rfl
  have y3 : y.cells[3]? = some (.int .u64 y.gen) := rfl
  have y4 : y.cells[4]? = some (.int .u64 y.commit) := rfl
  have SX := Lib.hid (show ∀ n, Sl (((w.alloc (.cells x.cells.toArray 28)).alloc (.cells y.cells.toArray 28)).drewN n) (.slice (some ⟨w.heap.size, 5, none⟩) 32 32) x.head.length (bcells x.head) from fun n =>
    .inr (.inr ⟨_, _, 32, by rw [hx.len]; rfl, by rw [hx.len]; omega, (((Row.new w x.cells 28 (0, 0)).alloc _).right (xs := [_, _, _, _, _])).drewN n⟩))
  have SY := Lib.hid (show ∀ n, Sl (((w.alloc (.cells x.cells.toArray 28)).alloc (.cells y.cells.toArray 28)).drewN n) (.slice (some ⟨w.heap.size + 1, 5, none⟩) 32 32) y.head.length (bcells y.head) from fun n =>
    .inr (.inr ⟨_, _, 32, by rw [hy.len], by rw [hy.len]; omega, by
      have h := ((Row.new (w.alloc (.cells x.cells.toArray 28)) y.cells 28 (0, 0)).right (xs := [_, _, _, _, _])).drewN n
      rw [World.size_alloc] at h; exact h⟩))
  go_enter Try.func17, Try.ntmps17
  go_wp2
  refine wp_region_quiet_tail 25 (by kernel_rfl) (by kernel_rfl) ?_
  simp only [List.take_succ_cons, List.take_zero, List.drop_succ_cons, List.drop_zero]
  repeat (go_big_quiet_step (first
    | (go_at_call 25; exact quiet_same (compare_u64 _ _ _))
    | (go_at_call 22; exact quiet_same (compare_int _ _ _))
    | (go_at_call 26; exact quiet_same (bytes_compare (l := x.head) (m := y.head) (SX.out _) (SY.out _)))))
  refine wpQuiet_nil ?_
  intro _ hw'
  obtain ⟨nq, hw''⟩ := hw'
  subst hw''
  go_wp2_with fail
  refine (cmp_or _ _ [cmp3 x.normal y.normal, cmp3 x.gen y.gen, Lib.compareBytes x.head y.head, cmp3 y.node x.node, cmp3 x.commit y.commit] rfl _ _ ?_ (by simp)).mono ?_
  · exact Row.newAt _ _ _ (by simp [size_drewN])
  rintro e w' ⟨rfl, rfl⟩
  go_wp2
  go_ret
  exact ⟨rfl, ((((Below.refl _ _).alloc (Nat.le_refl _) _).alloc (by simp) _).drewN _).alloc (by simp [size_drewN]; omega) _⟩
end Go.Proofs.Ytoohllmhlbgamaa
