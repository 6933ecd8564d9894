/- SnapsPlays -/
import Derived.Test.YtnagibpmfabkjaaGreatDoorBaseZ
import Derived.Test.YtnagibpmfabkjaaGreatDoorQ11
import Derived.Test.YtnagibpmfabkjaaGreatDoorQ14
import Derived.ShutString
import Derived.ChangeMaps5
import Derived.ProofKit
import Derived.OpenShut
import Derived.Lay
import Derived.LaidMore
import Derived.SevenTiedAt
import Derived.Stop.Joined
set_option linter.unusedSimpArgs false
set_option linter.unusedVariables false
namespace Go.Proofs.YtnagibpmfabkjaaGreatDoor
open Go.ChangeShapes Go.WideShapes Go.ChangeAt Go.RowKit Go.Tri
namespace snapsPlaysLift
set_option maxRecDepth 100000 in
set_option maxHeartbeats 2000000 in
theorem lifted (os : Os) (started : os.Started) (H : Type) (enc : TypeId × Value → H) :
    ReturnsInHanded {} Tryz.checked os 5 .any (fun w args => (Rows.snapsPlaysSpec.pre enc Tryz.prog Tryz.f5 Rows.snapsPlaysRow.domain false w args ∧ laidMetH Tryz.prog Rows.snapsPlaysRow.laid w) ∧ sizedMet enc Tryz.prog Tryz.f5 (OpenSpec.ofChange Rows.snapsPlaysSpec) false w args)
      (Rows.snapsPlaysSpec.post enc Tryz.prog Tryz.f5 false true false false) := by
  refine returnsInHanded_of_change_and (C := Tryz.checked) (X := fun w _ => laidMetH Tryz.prog Rows.snapsPlaysRow.laid w) (fun _ _ _ hh h => h.of_heap hh) own started (by kernel_rfl) Tryz.func5
    (ChangeSpec.witness_shaped (enc := enc) (C := Tryz.checked) (os := os) (X := fun w _ => laidMetH Tryz.prog Rows.snapsPlaysRow.laid w) false (World.laidAll Tryz.prog os Rows.snapsPlaysRow.laid) #[.slice none 0 0] 8 (World.laidAll_os _ _ _)
      (World.shaped_of_ZipB (by kernel_rfl) (by kernel_rfl)) (by kernel_rfl) (by kernel_rfl) (by kernel_rfl)
      (by rw [MakeChecks.laidMetH_plain _ _ _ (by kernel_rfl)]; exact laidMet_laidAll _ (by kernel_rfl) (by kernel_rfl))) ?_
  intro W base args ds gs before hval0 hW hcnd hwt hL _
  rw [MakeChecks.laidMetH_plain _ _ _ (by kernel_rfl)] at hL
  have hval : ∀ (j : Nat) t v, Tryz.f5.params[j]? = some t → args[j]? = some v → Value.okWide Tryz.prog W .any base t v := hval0
  have hW' := hW
  obtain ⟨p, q, hA0, hV, rfl, hfz, hnd⟩ := hW
  have hA : DataW.TrodAll enc Tryz.prog W 0 (fun _ => true) true Tryz.f5.params.toList args.toList ds p := hA0
  rw [Tryz.params5] at hA hval
  obtain ⟨v0, vs0, d0, ds0, p0, q0, hargs, rfl, rfl, h0, r0⟩ := trodAll_cons hA
  obtain ⟨rfl, rfl, rfl⟩ := trodAll_nil r0
  obtain rfl : args = #[v0] := by cases args; simp_all
  obtain ⟨rfl, rfl⟩ := trodVars_none hV
  have k0 := h0
  have lt0 : ∀ x ∈ p0, x.block < W.heap.size := by obtain ⟨m, hm⟩ := k0; exact DataW.trod_lt m _ _ _ hm
  have wt0 : (d0.weights Tryz.prog 22).all (· ≤ reachBytes) = true := List.all_eq_true.2 fun n hn => List.all_eq_true.1 hwt n (DataW.weights_mem_each (j := 0) (by rw [Tryz.params5]; rfl) rfl n hn)
  obtain ⟨a0, xs0, c0, rfl, s0, w0⟩ : ∃ p xs cap, v0 = .slice p xs.length cap ∧ (∀ (w' : World) (S : Nat → Prop), (HP.sl R_api_Op p cap xs).pr (baseOf W) w' S) ∧ True := by
    obtain ⟨a0, len0, cap0, rfl⟩ := okWide_slice Tryz.underlying22 (hval 0 22 v0 rfl rfl)
    obtain ⟨fuel, hf⟩ := h0
    obtain ⟨p, xs, cap, e1, e2, e3⟩ := opnW_slice (opnW_struct Tryz.underlying31 (opnFs_cons (opnW_any (opn_int Tryz.underlying3)) rfl (by kernel_rfl) (opnFs_cons (opnW_any (opn_str Tryz.underlying9)) rfl (by kernel_rfl) (opnFs_cons (opnW_any (opn_str Tryz.underlying9)) rfl (by kernel_rfl) (opnFs_cons (opnW_any (opn_int Tryz.underlying3)) rfl (by kernel_rfl) (opnFs_cons (opnW_any (opn_int Tryz.underlying3)) rfl (by kernel_rfl) (opnFs_one (opnW_rSl (opnW_any (opn_byte Tryz.underlying5)) Tryz.underlying29 (by kernel_rfl) (by decide)) rfl (by kernel_rfl))))))) (by kernel_rfl)) Tryz.underlying22 (by kernel_rfl) (by decide) hf wt0
    exact ⟨p, xs, cap, by simpa [Value.cells] using e1, e2, trivial⟩
  clear hA0 hval0
  have H0 : St W W _ := St.start0 W [HP.sl R_api_Op a0 c0 xs0, HP.all W] (by
    intro A hA
    simp only [List.mem_cons, List.not_mem_nil, or_false] at hA
    rcases hA with rfl | rfl
    · exact s0 _ _
    · exact all_start _ _ _)
  refine ((w_lPlays (plays_true xs0) H0 :)).mono fun e W' ⟨v, he, hv, hb⟩ => ?_
  subst he hv
  have bel := hb.finish
  exact ⟨_, rfl, _, _, _, [], _, [], hW', trodAll_mk1 (shut_bool Tryz.underlying4 _), (trodAll_cons_mk (Below.trod laidOut (by kernel_rfl) (of_decide_eq_true (by kernel_rfl)) k0 bel lt0) trodAll_mk0), rfl, bel.frame _, fun h => by cases h⟩
theorem holds : Rows.SnapsPlaysSaid :=
  OpenClaim.holds_of_wide 5 Tryz.f5 rfl rfl rfl rfl rfl rfl rfl ⟨rfl, rfl, rfl, rfl, rfl⟩ rfl rfl rfl rfl rfl (by kernel_rfl) Tryz.func5 (by kernel_rfl)
    (of_decide_eq_true (by kernel_rfl)) (by unfold Func.isWrapper; first | (rw [if_pos (by decide +kernel)]; kernel_rfl) | (rw [if_neg (by decide +kernel)]; exact ⟨rfl, rfl⟩))
    (fun os started H enc _ => lifted os started H enc)
theorem proved : Rows.SnapsPlaysCardSaid :=
  Claim7.holds_tied_plain_at .later [] [.data, .pinned] true (true, "d1d111daf6d1042f20b1cb456d3195e3806965cf5569042062f52f0d7336d7f7") true holds (fun _ h => by cases h) (by kernel_rfl) (fun _ h => by cases h) snapsPlays_row_tie rfl ⟨rfl, rfl⟩ (by kernel_rfl) rfl
    (fun f fn hf hfn => by
      obtain rfl : f = 5 := Option.some.inj ((show Tryz.prog.funcNamed "trireme/triremelaw12.SnapsPlays" = some 5 by kernel_rfl).symm.trans hf) |>.symm
      obtain rfl : fn = Tryz.f5 := (Option.some.inj (Tryz.func5.symm.trans hfn)).symm
      exact ⟨by kernel_rfl, fun j t ht => by
        rw [Tryz.params5] at ht
        have hm : t ∈ [22] := by simpa using Array.mem_of_getElem? ht
        have hall : ([22].all fun u => !Tryz.prog.wantsStandIn u) = true := by kernel_rfl
        exact (show Tryz.prog.wantsStandIn t = false by simpa using List.all_eq_true.1 hall t hm)⟩)
    (by kernel_rfl)
end snapsPlaysLift
#print axioms snapsPlaysLift.proved
end Go.Proofs.YtnagibpmfabkjaaGreatDoor
