/- Votes that came in; the statement of VoteChooses: for every list of votes, every view and every number of nodes the law returns true, and its arguments read as before. No condition. -/
import Derived.Test.YtoohllmhlbgamaaVoteH
import Derived.Test.YtoohllmhlbgamaaLibO
import Derived.ShutString
set_option linter.unusedSimpArgs false
set_option linter.unusedVariables false
namespace Go.Proofs.Ytoohllmhlbgamaa
open Go.ChangeShapes Go.WideShapes Go.ChangeAt Go.RowKit Go.Tri

section
variable {H : Type} {enc : TypeId × Value → H} {w : World} {base : Nat} {spare : Nat → Bool} {held : Bool}
theorem open_vote {fuel : Nat} {cs : List Value} {x : DataW H × List MemPlace} (h : DataW.trod enc Try.prog w base spare held fuel 28 cs = some x) : ∃ y : Vote, y.wf ∧ cs = y.cells := by
  have hc : Try.prog.cellsOf 28 = 37 := by kernel_rfl
  have hi : Try.prog.cellsOf 3 = 1 := by kernel_rfl
  have hu : Try.prog.cellsOf 23 = 1 := by kernel_rfl
  have hb : Try.prog.cellsOf 5 = 1 := by kernel_rfl
  have hh : Try.prog.cellsOf 26 = 32 := by kernel_rfl
  obtain ⟨xs, n, _, _, hl, hxl, hf⟩ := DataW.trod_struct Try.underlying28 h
  rw [hc] at hl
  have hx : ∀ i, i < 6 → ∃ z, xs[i]? = some z := fun i hi => ⟨_, List.getElem?_eq_getElem (by rw [hxl]; exact hi)⟩
  obtain ⟨z0, e0⟩ := hx 0 (by omega); obtain ⟨z1, e1⟩ := hx 1 (by omega); obtain ⟨z2, e2⟩ := hx 2 (by omega)
  obtain ⟨z3, e3⟩ := hx 3 (by omega); obtain ⟨z4, e4⟩ := hx 4 (by omega); obtain ⟨z5, e5⟩ := hx 5 (by omega)
  have f0 : DataW.trod enc Try.prog w base spare held n 3 ((cs.drop 0).take (Try.prog.cellsOf 3)) = xs[0]? := hf 0 _ rfl
  have f1 : DataW.trod enc Try.prog w base spare held n 23 ((cs.drop 1).take (Try.prog.cellsOf 23)) = xs[1]? := hf 1 _ rfl
  have f2 : DataW.trod enc Try.prog w base spare held n 23 ((cs.drop 2).take (Try.prog.cellsOf 23)) = xs[2]? := hf 2 _ rfl
  have f3 : DataW.trod enc Try.prog w base spare held n 23 ((cs.drop 3).take (Try.prog.cellsOf 23)) = xs[3]? := hf 3 _ rfl
  have f4 : DataW.trod enc Try.prog w base spare held n 23 ((cs.drop 4).take (Try.prog.cellsOf 23)) = xs[4]? := hf 4 _ rfl
  have f5 : DataW.trod enc Try.prog w base spare held n 26 ((cs.drop 5).take (Try.prog.cellsOf 26)) = xs[5]? := hf 5 _ rfl
  rw [e0] at f0; rw [e1] at f1; rw [e2] at f2; rw [e3] at f3; rw [e4] at f4; rw [e5] at f5
  obtain ⟨n0, g0, _, w0⟩ := DataW.trod_int Try.underlying3 f0
  obtain ⟨n1, g1, _, w1⟩ := DataW.trod_int Try.underlying23 f1
  obtain ⟨n2, g2, _, w2⟩ := DataW.trod_int Try.underlying23 f2
  obtain ⟨n3, g3, _, w3⟩ := DataW.trod_int Try.underlying23 f3
  obtain ⟨n4, g4, _, w4⟩ := DataW.trod_int Try.underlying23 f4
  obtain ⟨l, hll, g5⟩ := open_bytes Try.underlying26 Try.underlying5 hb hh f5
  rw [hi] at g0; rw [hu] at g1 g2 g3 g4; rw [hh] at g5
  refine ⟨⟨n0, n1, n2, n3, n4, l⟩, ⟨w0, w1, w2, w3, w4, hll⟩, ?_⟩
  match cs, hl with
  | c0 :: c1 :: c2 :: c3 :: c4 :: cs, hl =>
    simp at g0 g1 g2 g3 g4 g5
    rw [List.take_of_length_le (by simp at hl; omega)] at g5
    simp [Vote.cells, g0, g1, g2, g3, g4, g5]
end

theorem own : ownKnob Try.prog.godebug = none := by kernel_rfl
theorem laidOut : laidOutB Try.prog = true := by kernel_rfl
namespace chooses
set_option maxRecDepth 100000 in
theorem lifted (os : Os) (started : os.Started) (H : Type) (enc : TypeId × Value → H) :
    ReturnsInHanded {} Try.checked os 3 .any (Rows.voteChoosesSpec.pre6 enc Try.prog Try.f3 Rows.voteChoosesRow.domain false) (Rows.voteChoosesSpec.post enc Try.prog Try.f3 false true false false) := by
  refine returnsInHanded_of_change (C := Try.checked) own started (by kernel_rfl) Try.func3
    (ChangeSpec.witness6 (enc := enc) (C := Try.checked) false ⟨#[], #[.slice none 0 0, .int .u64 0, .int .i64 0], []⟩ 8 (by kernel_rfl) (by kernel_rfl) (by kernel_rfl) (by kernel_rfl)) ?_
  intro W base args ds gs before hval0 hW hcnd _
  have hval : ∀ (j : Nat) t v, Try.f3.params[j]? = some t → args[j]? = some v → Value.okWide Try.prog W .any base t v := hval0
  have hW' := hW
  obtain ⟨p, q, hA0, hV, rfl, hfz, hnd⟩ := hW
  have hA : DataW.TrodAll enc Try.prog W 0 (fun _ => true) true Try.f3.params.toList args.toList ds p := hA0
  rw [Try.params3] at hA hval
  obtain ⟨v0, vs0, d0, ds0, p0, q0, hargs, rfl, rfl, h0, r0⟩ := trodAll_cons hA
  obtain ⟨v1, vs1, d1, ds1, p1, q1, rfl, rfl, rfl, h1, r1⟩ := trodAll_cons r0
  obtain ⟨v2, vs2, d2, ds2, p2, q2, rfl, rfl, rfl, h2, r2⟩ := trodAll_cons r1
  obtain ⟨rfl, rfl, rfl⟩ := trodAll_nil r2
  obtain rfl : args = #[v0, v1, v2] := by cases args; simp_all
  obtain ⟨rfl, rfl⟩ := trodVars_none hV
  have k0 := h0
  have lt0 : ∀ x ∈ p0, x.block < W.heap.size := by obtain ⟨m, hm⟩ := k0; exact DataW.trod_lt m _ _ _ hm
  obtain ⟨xs, hxw, hsl, hxl⟩ : ∃ ys : List Vote, (∀ y ∈ ys, y.wf) ∧ Sl W v0 ys.length (ys.flatMap Vote.cells) ∧ ys.length ≤ maxLen := by
    obtain ⟨a0, len0, cap0, rfl⟩ := okWide_slice Try.underlying22 (hval 0 22 v0 rfl rfl)
    obtain ⟨fuel, hf⟩ := h0
    exact open_sl Vote.cells Vote.wf Try.underlying22 (by kernel_rfl) (fun _ _ _ h => open_vote h) (fun y hy => Vote.len_cells hy) (by decide) ⟨_, _, _, rfl⟩ hf
  obtain ⟨a1, rfl, rfl, rfl, w1⟩ := open_int Try.underlying23 (hval 1 23 v1 rfl rfl) h1
  obtain ⟨a2, rfl, rfl, rfl, w2⟩ := open_int Try.underlying3 (hval 2 3 v2 rfl rfl) h2
  clear hA0 hval0
  have hb2 := int_bounds w2
  unfold maxLen at hxl
  refine (Go.Proofs.Ytoohllmhlbgamaa.chooses xs hxw (by omega) v0 a1 a2 hb2.1 hb2.2 W hsl).mono fun e W' ⟨he, bel⟩ => ?_
  subst he
  exact ⟨_, rfl, _, _, _, [], _, [], hW', trodAll_mk1 (shut_bool Try.underlying4 _), (trodAll_cons_mk (Below.trod laidOut (by kernel_rfl) (of_decide_eq_true (by kernel_rfl)) k0 bel lt0) (trodAll_cons_mk (shut_int Try.underlying23 w1) (trodAll_cons_mk (shut_int Try.underlying3 w2) trodAll_mk0))), rfl, bel.frame _, fun h => by cases h⟩

theorem proved : Rows.VoteChoosesSaid :=
  OpenClaim.holds_of_wide 3 Try.f3 rfl rfl rfl rfl rfl rfl rfl ⟨rfl, rfl, rfl, rfl, rfl⟩ rfl rfl rfl rfl rfl (by kernel_rfl) Try.func3 (by kernel_rfl)
    (of_decide_eq_true (by kernel_rfl)) (by unfold Func.isWrapper; first | (rw [if_pos (by decide +kernel)]; kernel_rfl) | (rw [if_neg (by decide +kernel)]; exact ⟨rfl, rfl⟩))
    (fun os started H enc _ => lifted os started H enc)
end chooses
#print axioms chooses.proved
end Go.Proofs.Ytoohllmhlbgamaa
