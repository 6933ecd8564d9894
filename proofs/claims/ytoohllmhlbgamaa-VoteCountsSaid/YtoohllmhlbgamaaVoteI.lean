/- VoteCounts: for every number of nodes and every view the law returns true, and its arguments read as before. No condition. -/
import Derived.Test.YtoohllmhlbgamaaVoteZ
set_option linter.unusedSimpArgs false
set_option linter.unusedVariables false
namespace Go.Proofs.Ytoohllmhlbgamaa
open Go.ChangeShapes Go.WideShapes Go.ChangeAt Go.RowKit Go.Tri

theorem wrap_u64 (n : Int) (h0 : 0 ≤ n) (h1 : n ≤ 18446744073709551615) : IntKind.u64.wrap n = n := by
  unfold IntKind.wrap; simp [IntKind.signed, IntKind.bits]; omega
theorem wrap_i64 (n : Int) (h0 : -9223372036854775808 ≤ n) (h1 : n ≤ 9223372036854775807) : IntKind.i64.wrap n = n := by
  unfold IntKind.wrap; simp [IntKind.signed, IntKind.bits]; omega

theorem primary (view nodes : Int) (w : World) (h0 : 0 ≤ view) (hn : nodes ≤ 9223372036854775807) :
    Calls Try.prog 12 #[.int .u64 view, .int .i64 nodes] w fun e w' => e = .returned (.int .i64 (if nodes < 1 then 0 else view % nodes)) ∧ w = w' := by
  by_cases c : nodes < 1
  · go_enter Try.func12, Try.ntmps12
    go_wp2
    all_goals (go_ret; exact ⟨by simp [c], rfl⟩)
  · have h1 : 1 ≤ nodes := by omega
    have hm := Int.emod_lt_of_pos view (show 0 < nodes by omega)
    have hm0 := Int.emod_nonneg view (show nodes ≠ 0 by omega)
    have e1 : IntKind.u64.wrap nodes = nodes := wrap_u64 nodes (by omega) (by omega)
    have e2 : IntKind.i64.wrap (view % nodes) = view % nodes := wrap_i64 _ (by omega) (by omega)
    have e3 : view.tmod nodes = view % nodes := Int.tmod_eq_emod_of_nonneg h0
    have e4 : (nodes == 0) = false := by simp; omega
    go_enter Try.func12, Try.ntmps12
    go_wp2
    all_goals (go_ret; exact ⟨by simp [c], rfl⟩)

set_option maxRecDepth 100000 in
theorem counts (nodes view : Int) (w : World) (h0 : 0 ≤ view) (hno : -9223372036854775808 ≤ nodes) (hno' : nodes ≤ 9223372036854775807) :
    Calls Try.prog 5 #[.int .i64 nodes, .int .u64 view] w fun e w' => e = .returned (.bool true) ∧ Below w.heap.size w w' := by
  by_cases c : nodes < 1
  · have hm : majI nodes = 1 := by simp [majI, c]
    go_enter Try.func5, Try.ntmps5
    go_wp2_with (first
      | (go_at_call 8; refine (speaks _).mono ?_; rintro e w1 ⟨rfl, hb1⟩; have H1 := Lib.hid hb1; clear hb1)
      | (go_at_call 11; refine (majority _ _ hno hno').mono ?_; rintro e w' ⟨rfl, rfl⟩; rw [hm])
      | (go_at_call 12; refine (primary _ _ _ h0 hno').mono ?_; rintro e w' ⟨rfl, rfl⟩; rw [if_pos c]))
    go_ret
    exact ⟨rfl, H1.out⟩
  · have h1 : 1 ≤ nodes := by omega
    have hm : majI nodes = nodes / 2 + 1 := by simp [majI, c]
    obtain ⟨m, hmm⟩ : ∃ m, m = majI nodes := ⟨_, rfl⟩
    obtain ⟨r, hrr⟩ : ∃ r, r = view % nodes := ⟨_, rfl⟩
    have hr0 : 0 ≤ r := by rw [hrr]; exact Int.emod_nonneg view (by omega)
    have hr1 : r < nodes := by rw [hrr]; exact Int.emod_lt_of_pos view (by omega)
    have a1 : 1 ≤ m := by omega
    have a2 : m ≤ nodes := by omega
    have a3 : nodes - m < m := by omega
    have e0 : view.tmod nodes = r := by rw [hrr]; exact Int.tmod_eq_emod_of_nonneg h0
    have e1 : IntKind.u64.wrap nodes = nodes := wrap_u64 nodes (by omega) (by omega)
    have e2 : IntKind.u64.wrap r = r := wrap_u64 r (by omega) (by omega)
    have e4 : (nodes == 0) = false := by simp; omega
    have e5 : view % nodes = r := hrr.symm
    have b1 : decide (m ≤ nodes) = true := by simp [a2]
    have b2 : decide (0 < m - (nodes - m)) = true := by simp; omega
    have HM := Lib.hid hmm
    have HR := Lib.hid hrr
    have HC := Lib.hid c
    clear hmm hrr hm c
    go_enter Try.func5, Try.ntmps5
    go_wp2_with (first
      | (go_at_call 8; refine (speaks _).mono ?_; rintro e w1 ⟨rfl, hb1⟩; have H1 := Lib.hid hb1; clear hb1)
      | (go_at_call 11; refine (majority _ _ hno hno').mono ?_; rintro e w' ⟨rfl, rfl⟩; rw [← HM.out])
      | (go_at_call 13; refine (majorityR _ _ hno hno').mono ?_; rintro e w' ⟨rfl, rfl⟩; rw [← HM.out])
      | (go_at_call 12; refine (primary _ _ _ h0 hno').mono ?_; rintro e w' ⟨rfl, rfl⟩; rw [if_neg (by omega), ← HR.out]))
    go_ret
    refine ⟨ret_bool ?_, H1.out⟩
    simp

namespace counts
set_option maxRecDepth 100000 in
theorem lifted (os : Os) (started : os.Started) (H : Type) (enc : TypeId × Value → H) :
    ReturnsInHanded {} Try.checked os 5 .any (Rows.voteCountsSpec.pre6 enc Try.prog Try.f5 Rows.voteCountsRow.domain false) (Rows.voteCountsSpec.post enc Try.prog Try.f5 false true false false) := by
  refine returnsInHanded_of_change (C := Try.checked) own started (by kernel_rfl) Try.func5
    (ChangeSpec.witness6 (enc := enc) (C := Try.checked) false ⟨#[], #[.int .i64 0, .int .u64 0], []⟩ 8 (by kernel_rfl) (by kernel_rfl) (by kernel_rfl) (by kernel_rfl)) ?_
  intro W base args ds gs before hval0 hW hcnd _
  have hval : ∀ (j : Nat) t v, Try.f5.params[j]? = some t → args[j]? = some v → Value.okWide Try.prog W .any base t v := hval0
  have hW' := hW
  obtain ⟨p, q, hA0, hV, rfl, hfz, hnd⟩ := hW
  have hA : DataW.TrodAll enc Try.prog W 0 (fun _ => true) true Try.f5.params.toList args.toList ds p := hA0
  rw [Try.params5] at hA hval
  obtain ⟨v0, vs0, d0, ds0, p0, q0, hargs, rfl, rfl, h0, r0⟩ := trodAll_cons hA
  obtain ⟨v1, vs1, d1, ds1, p1, q1, rfl, rfl, rfl, h1, r1⟩ := trodAll_cons r0
  obtain ⟨rfl, rfl, rfl⟩ := trodAll_nil r1
  obtain rfl : args = #[v0, v1] := by cases args; simp_all
  obtain ⟨rfl, rfl⟩ := trodVars_none hV
  obtain ⟨a0, rfl, rfl, rfl, w0⟩ := open_int Try.underlying3 (hval 0 3 v0 rfl rfl) h0
  obtain ⟨a1, rfl, rfl, rfl, w1⟩ := open_int Try.underlying23 (hval 1 23 v1 rfl rfl) h1
  clear hA0 hval0
  have hb := int_bounds w0
  refine (Go.Proofs.Ytoohllmhlbgamaa.counts a0 a1 W (u64_bounds w1).1 hb.1 hb.2).mono fun e W' ⟨he, bel⟩ => ?_
  subst he
  exact ⟨_, rfl, _, _, _, [], _, [], hW', trodAll_mk1 (shut_bool Try.underlying4 _), (trodAll_cons_mk (shut_int Try.underlying3 w0) (trodAll_cons_mk (shut_int Try.underlying23 w1) trodAll_mk0)), rfl, bel.frame _, fun h => by cases h⟩

theorem proved : Rows.VoteCountsSaid :=
  OpenClaim.holds_of_wide 5 Try.f5 rfl rfl rfl rfl rfl rfl rfl ⟨rfl, rfl, rfl, rfl, rfl⟩ rfl rfl rfl rfl rfl (by kernel_rfl) Try.func5 (by kernel_rfl)
    (of_decide_eq_true (by kernel_rfl)) (by unfold Func.isWrapper; first | (rw [if_pos (by decide +kernel)]; kernel_rfl) | (rw [if_neg (by decide +kernel)]; exact ⟨rfl, rfl⟩))
    (fun os started H enc _ => lifted os started H enc)
end counts
#print axioms counts.proved
end Go.Proofs.Ytoohllmhlbgamaa
