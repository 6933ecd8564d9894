/- SnapsStay -/
import Derived.Test.YtnagibpmfabkjaaGreatDoorBaseZ
import Derived.Test.YtnagibpmfabkjaaGreatDoorQ4
import Derived.Test.YtnagibpmfabkjaaGreatDoorQ8
import Derived.Test.YtnagibpmfabkjaaGreatDoorQ10
import Derived.ShutString
import Derived.ChangeMaps5
import Derived.ProofKit
import Derived.OpenShut
import Derived.Lay
import Derived.LaidMore
import Derived.SevenTiedAt
import Derived.Stop.Joined
set_option linter.unusedSimpArgs false
set_option linter.unusedVariables false
namespace Go.Proofs.YtnagibpmfabkjaaGreatDoor
open Go.ChangeShapes Go.WideShapes Go.ChangeAt Go.RowKit Go.Tri
namespace snapsStayUptoLift
set_option maxRecDepth 100000 in
set_option maxHeartbeats 2000000 in
theorem lifted (os : Os) (started : os.Started) (H : Type) (enc : TypeId × Value → H) (F : Stop.Interp) :
    ReturnsInHanded {} Tryz.checked os 3 .any ((Rows.OpenSpec.upto Rows.snapsStaySpec).preRow enc Tryz.prog Tryz.f3 Rows.snapsStayUptoRow.domain false Rows.snapsStayUptoRow.laid) (((Rows.OpenSpec.upto Rows.snapsStaySpec).at F).post enc Tryz.prog Tryz.f3 false true false false) := by
  obtain ⟨places, hx⟩ : ∃ places, DataW.whole enc Tryz.prog ((World.laidAll Tryz.prog os Rows.snapsStayRow.laid).forCall (fun _ _ => 0) ⟨#[], #[.slice none 0 0, .slice none 0 0, .string .empty], []⟩).memory Tryz.f3.params.toList Rows.snapsStaySpec.vars false (#[.slice none 0 0, .slice none 0 0, .string .empty] : Array Value).toList 8 = some ([.nil, .nil, .lit (.string [])], [], places) := ⟨[], by kernel_rfl⟩
  refine returnsInHanded_of_row (C := Tryz.checked) (s := Rows.OpenSpec.upto Rows.snapsStaySpec) own started (by kernel_rfl) Tryz.func3
    ⟨World.laidAll Tryz.prog os Rows.snapsStayRow.laid, fun _ _ => 0, ⟨#[], #[.slice none 0 0, .slice none 0 0, .string .empty], []⟩, World.laidAll_os _ _ _, World.shaped_of_ZipB (by kernel_rfl) (by kernel_rfl), rfl, (Input.okWide_of_okWideB (by kernel_rfl)).2,
      OpenSpec.preRow_of_cond 8 hx (by kernel_rfl) (fun k hk => by cases hk; kernel_rfl) (by kernel_rfl) (by rw [MakeChecks.laidMetH_plain _ _ _ (by kernel_rfl)]; exact laidMet_laidAll _ (by kernel_rfl) (by kernel_rfl)), by
      simp only [Assume.holds]
      exact ⟨by simp, by simp, fun _ => Modest.zero, by simp, by simp⟩⟩ ?_
  intro W base args ds gs before hval0 hW _ hcond _ _ _ _
  have hk := hcond _ rfl
  have key : Calls Tryz.prog 3 args W fun e W' => ∃ v, e = .returned v ∧ Rows.snapsStaySpec.post enc Tryz.prog Tryz.f3 false true false false W args v W' := by
    have hval : ∀ (j : Nat) t v, Tryz.f3.params[j]? = some t → args[j]? = some v → Value.okWide Tryz.prog W .any base t v := hval0
    have hW' := hW
    obtain ⟨p, q, hA0, hV, rfl, hfz, hnd⟩ := hW
    have hA : DataW.TrodAll enc Tryz.prog W 0 (fun _ => true) true Tryz.f3.params.toList args.toList ds p := hA0
    rw [Tryz.params3] at hA hval
    obtain ⟨v0, vs0, d0, ds0, p0, q0, hargs, rfl, rfl, h0, r0⟩ := trodAll_cons hA
    obtain ⟨v1, vs1, d1, ds1, p1, q1, rfl, rfl, rfl, h1, r1⟩ := trodAll_cons r0
    obtain ⟨v2, vs2, d2, ds2, p2, q2, rfl, rfl, rfl, h2, r2⟩ := trodAll_cons r1
    obtain ⟨rfl, rfl, rfl⟩ := trodAll_nil r2
    obtain rfl : args = #[v0, v1, v2] := by cases args; simp_all
    obtain ⟨rfl, rfl⟩ := trodVars_none hV
    have k0 := h0
    have lt0 : ∀ x ∈ p0, x.block < W.heap.size := by obtain ⟨m, hm⟩ := k0; exact DataW.trod_lt m _ _ _ hm
    obtain ⟨a0, xs0, c0, rfl, s0, w0⟩ : ∃ p xs cap, v0 = .slice p xs.length cap ∧ (∀ (w' : World) (S : Nat → Prop), (HP.sl R_api_Op p cap xs).pr (baseOf W) w' S) ∧ (∀ op ∈ xs, OpOk op) := by
      obtain ⟨a0, len0, cap0, rfl⟩ := okWide_slice Tryz.underlying22 (hval 0 22 v0 rfl rfl)
      obtain ⟨fuel, hf⟩ := h0
      obtain ⟨p, xs, cap, e1, e2, e3⟩ := opnU_slice (opnU_struct Tryz.underlying31 (opnUs_cons (opnU_any (opn_int Tryz.underlying3)) rfl (by kernel_rfl) (opnUs_cons (opnU_str Tryz.underlying9) rfl (by kernel_rfl) (opnUs_cons (opnU_str Tryz.underlying9) rfl (by kernel_rfl) (opnUs_cons (opnU_any (opn_int Tryz.underlying3)) rfl (by kernel_rfl) (opnUs_cons (opnU_any (opn_int Tryz.underlying3)) rfl (by kernel_rfl) (opnUs_one (opnU_rSl (opnU_any (opn_byte Tryz.underlying5)) Tryz.underlying29 (by kernel_rfl) (by decide)) rfl (by kernel_rfl))))))) (by kernel_rfl)) Tryz.underlying22 (by kernel_rfl) (by decide) hf (up_bulk hk (by simp))
      exact ⟨p, xs, cap, by simpa [Value.cells] using e1, e2, fun op ho => ⟨by have := (e3.1 op ho).2.1; omega, by have := (e3.1 op ho).2.2.1; omega, by have := (e3.1 op ho).2.2.2.2.2.2; omega⟩⟩
    have k1 := h1
    have lt1 : ∀ x ∈ p1, x.block < W.heap.size := by obtain ⟨m, hm⟩ := k1; exact DataW.trod_lt m _ _ _ hm
    obtain ⟨a1, xs1, c1, rfl, s1, w1⟩ : ∃ p xs cap, v1 = .slice p xs.length cap ∧ (∀ (w' : World) (S : Nat → Prop), (HP.sl R_api_Op p cap xs).pr (baseOf W) w' S) ∧ (∀ op ∈ xs, OpOk op) := by
      obtain ⟨a0, len0, cap0, rfl⟩ := okWide_slice Tryz.underlying22 (hval 1 22 v1 rfl rfl)
      obtain ⟨fuel, hf⟩ := h1
      obtain ⟨p, xs, cap, e1, e2, e3⟩ := opnU_slice (opnU_struct Tryz.underlying31 (opnUs_cons (opnU_any (opn_int Tryz.underlying3)) rfl (by kernel_rfl) (opnUs_cons (opnU_str Tryz.underlying9) rfl (by kernel_rfl) (opnUs_cons (opnU_str Tryz.underlying9) rfl (by kernel_rfl) (opnUs_cons (opnU_any (opn_int Tryz.underlying3)) rfl (by kernel_rfl) (opnUs_cons (opnU_any (opn_int Tryz.underlying3)) rfl (by kernel_rfl) (opnUs_one (opnU_rSl (opnU_any (opn_byte Tryz.underlying5)) Tryz.underlying29 (by kernel_rfl) (by decide)) rfl (by kernel_rfl))))))) (by kernel_rfl)) Tryz.underlying22 (by kernel_rfl) (by decide) hf (up_bulk hk (by simp))
      exact ⟨p, xs, cap, by simpa [Value.cells] using e1, e2, fun op ho => ⟨by have := (e3.1 op ho).2.1; omega, by have := (e3.1 op ho).2.2.1; omega, by have := (e3.1 op ho).2.2.2.2.2.2; omega⟩⟩
    obtain ⟨b2, rfl, rfl, rfl, wd2⟩ := Go.ChangeMaps.open_string Tryz.underlying9 (hval 2 9 v2 rfl rfl) h2
    have w2 : b2.data.toList.length ≤ 1048576 := by
      have := up_bulk hk (d := .lit (.string b2.data.toList)) (by simp)
      simp only [Rows.uptoBulk] at this; omega
    obtain ⟨a2, rfl⟩ : ∃ l, b2 = txb l := ⟨b2.data.toList, rfl⟩
    clear hA0 hval0
    have H0 : St W W _ := St.start0 W [HP.sl R_api_Op a0 c0 xs0, HP.sl R_api_Op a1 c1 xs1, HP.all W] (by
      intro A hA
      simp only [List.mem_cons, List.not_mem_nil, or_false] at hA
      rcases hA with rfl | rfl | rfl
      · exact s0 _ _
      · exact s1 _ _
      · exact all_start _ _ _)
    refine ((w_lStay (stay_up xs0 w0 xs1 w1 a2 w2) H0 :)).mono fun e W' ⟨v, he, hv, hb⟩ => ?_
    subst he hv
    have bel := hb.finish
    exact ⟨_, rfl, _, _, _, [], _, [], hW', trodAll_mk1 (shut_bool Tryz.underlying4 _), (trodAll_cons_mk (Below.trod laidOut (by kernel_rfl) (of_decide_eq_true (by kernel_rfl)) k0 bel lt0) (trodAll_cons_mk (Below.trod laidOut (by kernel_rfl) (of_decide_eq_true (by kernel_rfl)) k1 bel lt1) (trodAll_cons_mk (Go.ChangeMaps.shut_string Tryz.underlying9 wd2) trodAll_mk0))), rfl, bel.frame _, fun h => by cases h⟩
  exact key
theorem holds : Rows.SnapsStayUptoSaid :=
  OpenClaim.holds_of_cond 3 Tryz.f3 rfl rfl rfl rfl rfl rfl rfl ⟨rfl, rfl, rfl, rfl, rfl⟩ rfl rfl rfl rfl rfl (by kernel_rfl) Tryz.func3 (by kernel_rfl)
    (of_decide_eq_true (by kernel_rfl)) (by unfold Func.isWrapper; first | (rw [if_pos (by decide +kernel)]; kernel_rfl) | (rw [if_neg (by decide +kernel)]; exact ⟨rfl, rfl⟩))
    (fun os started H enc _ F => by rw [OpenClaim.pre_eq_preRow]; exact lifted os started H enc F)
theorem proved : Rows.SnapsStayUptoCardSaid :=
  Claim7.holds_tied_plain_at .later [] [.data, .pinned] true (true, "d1d111daf6d1042f20b1cb456d3195e3806965cf5569042062f52f0d7336d7f7") true holds (fun _ h => by cases h) (by kernel_rfl) (fun _ h => by cases h) snapsStayUpto_row_tie rfl ⟨rfl, rfl⟩ (by kernel_rfl) rfl
    (fun f fn hf hfn => by
      obtain rfl : f = 3 := Option.some.inj ((show Tryz.prog.funcNamed "trireme/triremelaw12.SnapsStay" = some 3 by kernel_rfl).symm.trans hf) |>.symm
      obtain rfl : fn = Tryz.f3 := (Option.some.inj (Tryz.func3.symm.trans hfn)).symm
      exact ⟨by kernel_rfl, fun j t ht => by
        rw [Tryz.params3] at ht
        have hm : t ∈ [22, 22, 9] := by simpa using Array.mem_of_getElem? ht
        have hall : ([22, 22, 9].all fun u => !Tryz.prog.wantsStandIn u) = true := by kernel_rfl
        exact (show Tryz.prog.wantsStandIn t = false by simpa using List.all_eq_true.1 hall t hm)⟩)
    (by kernel_rfl)
end snapsStayUptoLift
#print axioms snapsStayUptoLift.proved
end Go.Proofs.YtnagibpmfabkjaaGreatDoor
