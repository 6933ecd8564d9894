/- The walk of VoteChooses. -/
import Derived.Test.YtoohllmhlbgamaaVoteG
set_option linter.unusedSimpArgs false
set_option linter.unusedVariables false
namespace Go.Proofs.Ytoohllmhlbgamaa
open Go.ChangeShapes Go.WideShapes Go.ChangeAt Go.RowKit Go.Tri

def _root_.Go.Tri.Vote.lits (y : Vote) : List Lit := [.int .i64 y.node] ++ ([.int .u64 y.view] ++ ([.int .u64 y.normal] ++ ([.int .u64 y.gen] ++ ([.int .u64 y.commit] ++ ((y.head.map fun c => Lit.int .u8 c.toNat) ++ [])))))
theorem lits_vote (y : Vote) (h : y.wf) : Try.prog.keyLits 4 28 y.cells = some y.lits := by
  have hc : Try.prog.cellsOf 28 = 37 := by kernel_rfl
  have hi : Try.prog.cellsOf 3 = 1 := by kernel_rfl
  have hu : Try.prog.cellsOf 23 = 1 := by kernel_rfl
  have hh : Try.prog.cellsOf 26 = 32 := by kernel_rfl
  have hb : (bcells y.head).take 32 = bcells y.head := List.take_of_length_le (by rw [bcells_length, h.len]; omega)
  unfold Program.keyLits
  simp only [Try.underlying28]
  rw [if_pos ⟨by rw [hc]; exact Vote.len_cells h, by simp⟩]
  simp only [List.mapM_cons, List.mapM_nil, hi, hu, hh, Vote.cells, List.drop_zero, List.drop_succ_cons, List.take_succ_cons, List.take_zero, hb, Go.Tri.keyLits_int Try.underlying3 2 _ h.node,
    Go.Tri.keyLits_int Try.underlying23 2 _ h.view, Go.Tri.keyLits_int Try.underlying23 2 _ h.normal, Go.Tri.keyLits_int Try.underlying23 2 _ h.gen, Go.Tri.keyLits_int Try.underlying23 2 _ h.commit, lits_hash 1 y.head h.len]
  rfl
theorem formed_vote (y : Vote) (h : y.wf) : (Value.agg y.cells.toArray).formed Try.prog 28 = true := by
  have hc : Try.prog.cellsOf 28 = 37 := by kernel_rfl
  simp [Value.formed, Try.underlying28, hc, Vote.len_cells h]
theorem _root_.Go.Tri.Vote.lits_inj (x y : Vote) (h : x.lits = y.lits) : x = y := by
  simp only [Vote.lits, List.cons_append, List.nil_append, List.append_nil, List.cons.injEq, Lit.int.injEq, true_and] at h
  obtain ⟨h0, h1, h2, h3, h4, h5⟩ := h
  have := Go.Tri.lits_inj _ _ h5
  cases x; cases y; simp_all
theorem run_eq_vote (x y : Vote) (hx : x.wf) (hy : y.wf) (a b : Operand) (w : World) (c : Bool) (hc : c = true ↔ x = y) :
    (do eqGuard .eql 28 a b (.agg x.cells.toArray) (.agg y.cells.toArray); binOp .eql 28 (.agg x.cells.toArray) (.agg y.cells.toArray)).run Try.prog w = .ok (.bool c) w ∧
    (do eqGuard .neq 28 a b (.agg x.cells.toArray) (.agg y.cells.toArray); binOp .neq 28 (.agg x.cells.toArray) (.agg y.cells.toArray)).run Try.prog w = .ok (.bool (!c)) w :=
  run_eqAgg (P := Try.prog) (t := 28) (m := 4) (by decide) (by kernel_rfl) (formed_vote x hx) (formed_vote y hy) (lits_vote x hx) (lits_vote y hy) (by kernel_rfl) w a b c
    (hc.trans ⟨fun e => by rw [e], Vote.lits_inj x y⟩)

theorem chooseV_form (view nodes : Int) (xs : List Vote) (hw : ∀ x ∈ xs, x.wf) : ∃ (y : Vote) (c : Int) (ok : Bool), y.wf ∧ chooseV view nodes xs = .tuple #[.agg y.cells.toArray, .int .u64 c, .bool ok] := by
  unfold chooseV
  split
  · exact ⟨_, _, _, Vote.zero_wf, rfl⟩
  · exact ⟨_, _, _, CSt.wf view xs hw, rfl⟩

theorem elemVote : ElemT Try.prog 22 28 37 72 (.agg Vote.zero.cells.toArray) := ⟨Try.underlying22, by kernel_rfl, rfl, by decide⟩
theorem votes_len (xs : List Vote) (h : ∀ x ∈ xs, x.wf) : (votes xs).length = xs.length * 37 := by
  induction xs with
  | nil => rfl
  | cons x xs ih =>
    have h1 := ih (fun y hy => h y (by simp [hy]))
    have h2 := Vote.len_cells (h x (by simp))
    simp only [votes, List.flatMap_cons, List.length_append, List.length_cons] at h1 ⊢
    omega
theorem votes_flat (xs : List Vote) : Flat (votes xs) := by
  intro v hv
  simp only [votes, List.mem_flatMap] at hv
  obtain ⟨x, _, hx⟩ := hv
  exact Vote.flat x v hx
set_option maxRecDepth 100000 in
set_option maxHeartbeats 1000000 in
theorem chooses (xs : List Vote) (hw : ∀ x ∈ xs, x.wf) (hm : xs.length ≤ 9223372036854775807) (v : Value) (view nodes : Int) (hno : -9223372036854775808 ≤ nodes) (hno' : nodes ≤ 9223372036854775807) (w : World) (hr : Sl w v xs.length (votes xs)) :
    Calls Try.prog 3 #[v, .int .u64 view, .int .i64 nodes] w fun e w' => e = .returned (.bool true) ∧ Below w.heap.size w w' := by
  obtain ⟨p, cap, rfl⟩ : ∃ p cap, v = .slice p xs.length cap := by
    rcases hr with ⟨rfl, h0, _⟩ | ⟨ad, cap, rfl, h0, _⟩ | ⟨b, off, cap, rfl, _, _⟩
    · exact ⟨none, 0, by rw [h0]⟩
    · exact ⟨some ad, cap, by rw [h0]⟩
    · exact ⟨_, _, rfl⟩
  have HR := Lib.hid hr; have HW := Lib.hid hw; clear hr hw
  obtain ⟨y, c, ok, hy, hcv⟩ := chooseV_form view nodes xs HW.out
  have HCV := Lib.hid hcv; clear hcv
  have hyl := Vote.len_cells hy
  by_cases hlen : 50 < xs.length
  · have hlb : decide (50 < (xs.length : Int)) = true := by simp; omega
    go_enter Try.func3, Try.ntmps3
    go_wp2_with (go_at_call 8; refine (speaks _).mono ?_; rintro e w1 ⟨rfl, hb1⟩; have H1 := Lib.hid hb1; clear hb1)
    go_ret
    exact ⟨rfl, H1.out⟩
  · have hlb : decide (50 < (xs.length : Int)) = false := by simp; omega
    go_enter Try.func3, Try.ntmps3
    go_wp2_with (first
      | (go_at_call 8; refine (speaks _).mono ?_; rintro e w1 ⟨rfl, hb1⟩; have H1 := Lib.hid (And.intro hb1 (HR.out.grow hb1)); clear hb1)
      | ((with_reducible refine wl_append (base := w1.heap.size) elemVote rfl ?_ ?_ ?_ (ownsRow_empty _ _ _ _ (Nat.le_refl _)) (H1.out.2.alloc _) (votes_len xs HW.out) (votes_flat xs) (by unfold maxLen; omega) (by omega) (by simp) ?_); exact rfl; exact rfl; exact rfl; intro v' w2 ho2 hg2; rw [Nat.zero_add, List.nil_append] at ho2; have H2 := Lib.hid (And.intro (ownsRow_sl ho2) (And.intro ((H1.out.1.alloc H1.out.1.size (.cells #[] 28)).grownNew hg2 (fun k hk => by simp [Value.ownBlock] at hk; rw [← hk]; exact H1.out.1.size)) (hg2.size))); clear ho2 hg2))
    refine (choose xs HW.out (by omega) _ view nodes hno hno' _ H2.out.1).mono ?_
    rintro e w3 ⟨rfl, hb3⟩
    rw [HCV.out]
    have H3 := Lib.hid (H2.out.2.1.trans (hb3.mono (H2.out.2.1.size)))
    clear hb3
    go_wp2_with (first
      | ((with_reducible refine wl_alloc aggVote rfl ?_ ?_); exact rfl)
      | ((with_reducible refine wl_store (cs := y.cells) aggVote rfl ?_ ?_ ?_ (Blk.new _ _ _) hyl ?_ ?_ ?_); exact rfl; exact rfl; exact rfl; exact rfl; exact Vote.flat _; rw [setRow_alloc]))
    refine (chooseR xs HW.out (by omega) _ view nodes hno hno' _ ((HR.out.grow H3.out).alloc _)).mono ?_
    rintro e w4 ⟨rfl, hb4⟩
    rw [HCV.out]
    have H4 := Lib.hid (And.intro ((H3.out.alloc H3.out.size (.cells y.cells.toArray 28)).trans (hb4.mono (by have := H3.out.size; simp; omega))) ((Blk.new w3 y.cells 28).grow hb4))
    clear hb4
    go_wp2_with (first
      | ((with_reducible refine wl_alloc aggVote rfl ?_ ?_); exact rfl)
      | ((with_reducible refine wl_load aggVote rfl ?_ ?_ (H4.out.2.alloc _).row hyl ?_); exact rfl; exact rfl)
      | ((with_reducible refine wl_load aggVote rfl ?_ ?_ (Blk.new _ _ _).row hyl ?_); exact rfl; exact rfl)
      | ((with_reducible refine wl_eqAgg rfl ?_ ?_ ?_ (run_eq_vote y y hy hy _ _ _ true (by simp)).1 ?_); exact rfl; exact rfl; exact rfl)
      | ((with_reducible refine wl_store (cs := y.cells) aggVote rfl ?_ ?_ ?_ (Blk.new _ _ _) hyl ?_ ?_ ?_); exact rfl; exact rfl; exact rfl; exact rfl; exact Vote.flat _; rw [setRow_alloc]))
    go_ret
    refine ⟨ret_bool ?_, H4.out.1.alloc H4.out.1.size _⟩
    simp
end Go.Proofs.Ytoohllmhlbgamaa
