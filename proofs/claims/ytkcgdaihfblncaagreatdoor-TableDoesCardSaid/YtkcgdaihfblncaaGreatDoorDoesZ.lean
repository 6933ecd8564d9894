/- TableDoes: any call on any right whole answers exactly as the document says, and leaves the document's whole; no condition. -/
import Derived.Test.YtkcgdaihfblncaaGreatDoorBaseZ
import Derived.Test.YtkcgdaihfblncaaGreatDoorQ13
import Derived.Test.YtkcgdaihfblncaaGreatDoorQ17
import Derived.ShutString
import Derived.ChangeMaps5
import Derived.ProofKit
import Derived.OpenShut
import Derived.Lay
import Derived.LaidMore
import Derived.SevenTiedAt
import Derived.Stop.Joined
set_option linter.unusedSimpArgs false
set_option linter.unusedVariables false
namespace Go.Proofs.YtkcgdaihfblncaaGreatDoor
open Go.ChangeShapes Go.WideShapes Go.ChangeAt Go.RowKit Go.Tri
theorem doesT_true2 (w : WW) (h : ∀ y ∈ w.2, 0 ≤ y.2.1 ∧ SmA y.2.2) (c : Int × Int × Opr) (gen : Int) : nY w c gen = some true := aOc w (fun x hx => (h x hx).1) (fun x hx => (h x hx).2) c gen
namespace tableDoesLift
set_option maxRecDepth 100000 in
set_option maxHeartbeats 2000000 in
theorem lifted (os : Os) (started : os.Started) (H : Type) (enc : TypeId × Value → H) :
    ReturnsInHanded {} Tryz.checked os 3 .any (fun w args => (Rows.tableDoesSpec.pre enc Tryz.prog Tryz.f3 Rows.tableDoesRow.domain false w args ∧ laidMetH Tryz.prog Rows.tableDoesRow.laid w) ∧ sizedMet enc Tryz.prog Tryz.f3 (OpenSpec.ofChange Rows.tableDoesSpec) false w args)
      (Rows.tableDoesSpec.post enc Tryz.prog Tryz.f3 false true false false) := by
  refine returnsInHanded_of_change_and (C := Tryz.checked) (X := fun w _ => laidMetH Tryz.prog Rows.tableDoesRow.laid w) (fun _ _ _ hh h => h.of_heap hh) own started (by kernel_rfl) Tryz.func3
    (ChangeSpec.witness_shaped (enc := enc) (C := Tryz.checked) (os := os) (X := fun w _ => laidMetH Tryz.prog Rows.tableDoesRow.laid w) false (World.laidAll Tryz.prog os Rows.tableDoesRow.laid) #[.agg #[.slice none 0 0, .slice none 0 0, .slice none 0 0], .agg #[.int .i64 0, .int .u64 0, .int .i64 0, .string .empty, .string .empty, .int .i64 0, .int .i64 0, .slice none 0 0], .int .u64 0] 8 (World.laidAll_os _ _ _)
      (World.shaped_of_ZipB (by kernel_rfl) (by kernel_rfl)) (by kernel_rfl) (by kernel_rfl) (by kernel_rfl)
      (by rw [MakeChecks.laidMetH_plain _ _ _ (by kernel_rfl)]; exact laidMet_laidAll _ (by kernel_rfl) (by kernel_rfl))) ?_
  intro W base args ds gs before hval0 hW hcnd hwt hL _
  rw [MakeChecks.laidMetH_plain _ _ _ (by kernel_rfl)] at hL
  have hval : ∀ (j : Nat) t v, Tryz.f3.params[j]? = some t → args[j]? = some v → Value.okWide Tryz.prog W .any base t v := hval0
  have hW' := hW
  obtain ⟨p, q, hA0, hV, rfl, hfz, hnd⟩ := hW
  have hA : DataW.TrodAll enc Tryz.prog W 0 (fun _ => true) true Tryz.f3.params.toList args.toList ds p := hA0
  rw [Tryz.params3] at hA hval
  obtain ⟨v0, vs0, d0, ds0, p0, q0, hargs, rfl, rfl, h0, r0⟩ := trodAll_cons hA
  obtain ⟨v1, vs1, d1, ds1, p1, q1, rfl, rfl, rfl, h1, r1⟩ := trodAll_cons r0
  obtain ⟨v2, vs2, d2, ds2, p2, q2, rfl, rfl, rfl, h2, r2⟩ := trodAll_cons r1
  obtain ⟨rfl, rfl, rfl⟩ := trodAll_nil r2
  obtain rfl : args = #[v0, v1, v2] := by cases args; simp_all
  obtain ⟨rfl, rfl⟩ := trodVars_none hV
  have k0 := h0
  have lt0 : ∀ x ∈ p0, x.block < W.heap.size := by obtain ⟨m, hm⟩ := k0; exact DataW.trod_lt m _ _ _ hm
  have wt0 : (d0.weights Tryz.prog 28).all (· ≤ reachBytes) = true := List.all_eq_true.2 fun n hn => List.all_eq_true.1 hwt n (DataW.weights_mem_each (j := 0) (by rw [Tryz.params3]; rfl) rfl n hn)
  obtain ⟨c0, xs0, rfl, s0, w0⟩ : ∃ (cs : List Value) (x : _), v0 = .agg cs.toArray ∧ (R_api_Whole).rd (eB W) cs x ∧ (∀ y ∈ x.2, 0 ≤ y.2.1 ∧ SmA y.2.2) := by
    obtain ⟨cs0, rfl, _⟩ := okWide_struct Tryz.underlying28 (hval 0 28 v0 rfl rfl)
    obtain ⟨fuel, hf⟩ := h0
    obtain ⟨x, e1, e2⟩ := (gV Tryz.underlying28 (dK (gV Tryz.underlying25 (dK (fM (gV Tryz.underlying126 (dK (fM (dE (kM Tryz.underlying5)) Tryz.underlying30 (by kernel_rfl) (by decide)) rfl (by kernel_rfl) (hZ (fM (dE (kM Tryz.underlying5)) Tryz.underlying30 (by kernel_rfl) (by decide)) rfl (by kernel_rfl))) (by kernel_rfl)) Tryz.underlying22 (by kernel_rfl) (by decide)) rfl (by kernel_rfl) (hZ (fM (gV Tryz.underlying90 (dK (dE (rZ Tryz.underlying9)) rfl (by kernel_rfl) (dK (dE (gO Tryz.underlying29)) rfl (by kernel_rfl) (hZ (fM (gV Tryz.underlying126 (dK (fM (dE (kM Tryz.underlying5)) Tryz.underlying30 (by kernel_rfl) (by decide)) rfl (by kernel_rfl) (hZ (fM (dE (kM Tryz.underlying5)) Tryz.underlying30 (by kernel_rfl) (by decide)) rfl (by kernel_rfl))) (by kernel_rfl)) Tryz.underlying22 (by kernel_rfl) (by decide)) rfl (by kernel_rfl)))) (by kernel_rfl)) Tryz.underlying23 (by kernel_rfl) (by decide)) rfl (by kernel_rfl))) (by kernel_rfl)) rfl (by kernel_rfl) (hZ (fM (gV Tryz.underlying49 (dK (dE (gO Tryz.underlying3)) rfl (by kernel_rfl) (dK (aM4 Tryz.underlying29) rfl (by kernel_rfl) (hZ (gV Tryz.underlying47 (dK (dE (gO Tryz.underlying44)) rfl (by kernel_rfl) (dK (dE (gO Tryz.underlying3)) rfl (by kernel_rfl) (dK (fM (dE (kM Tryz.underlying5)) Tryz.underlying30 (by kernel_rfl) (by decide)) rfl (by kernel_rfl) (hZ (fM (dE (rZ Tryz.underlying9)) Tryz.underlying45 (by kernel_rfl) (by decide)) rfl (by kernel_rfl))))) (by kernel_rfl)) rfl (by kernel_rfl)))) (by kernel_rfl)) Tryz.underlying26 (by kernel_rfl) (by decide)) rfl (by kernel_rfl))) (by kernel_rfl)) fuel cs0.toList _ hf wt0
    exact ⟨cs0.toList, x, rfl, e1, fun y hy => ⟨(e2.2.1 y hy).2.1.1, ⟨by have := (e2.2.1 y hy).2.2.2.2.1.2; rw [show Tryz.prog.bytesOf 5 = 1 from by kernel_rfl] at this; unfold reachBytes at this; omega, by have := (e2.2.1 y hy).2.2.2.2.2.2; rw [show Tryz.prog.bytesOf 9 = 16 from by kernel_rfl] at this; unfold reachBytes at this; omega⟩⟩⟩
  have k1 := h1
  have lt1 : ∀ x ∈ p1, x.block < W.heap.size := by obtain ⟨m, hm⟩ := k1; exact DataW.trod_lt m _ _ _ hm
  have wt1 : (d1.weights Tryz.prog 34).all (· ≤ reachBytes) = true := List.all_eq_true.2 fun n hn => List.all_eq_true.1 hwt n (DataW.weights_mem_each (j := 1) (by rw [Tryz.params3]; rfl) rfl n hn)
  obtain ⟨c1, xs1, rfl, s1, w1⟩ : ∃ (cs : List Value) (x : _), v1 = .agg cs.toArray ∧ (R_api_Call).rd (eB W) cs x ∧ True := by
    obtain ⟨cs0, rfl, _⟩ := okWide_struct Tryz.underlying34 (hval 1 34 v1 rfl rfl)
    obtain ⟨fuel, hf⟩ := h1
    obtain ⟨x, e1, e2⟩ := (gV Tryz.underlying34 (dK (dE (gO Tryz.underlying3)) rfl (by kernel_rfl) (dK (dE (gO Tryz.underlying29)) rfl (by kernel_rfl) (hZ (gV Tryz.underlying32 (dK (dE (gO Tryz.underlying3)) rfl (by kernel_rfl) (dK (dE (rZ Tryz.underlying9)) rfl (by kernel_rfl) (dK (dE (rZ Tryz.underlying9)) rfl (by kernel_rfl) (dK (dE (gO Tryz.underlying3)) rfl (by kernel_rfl) (dK (dE (gO Tryz.underlying3)) rfl (by kernel_rfl) (hZ (fM (dE (kM Tryz.underlying5)) Tryz.underlying30 (by kernel_rfl) (by decide)) rfl (by kernel_rfl))))))) (by kernel_rfl)) rfl (by kernel_rfl)))) (by kernel_rfl)) fuel cs0.toList _ hf wt1
    exact ⟨cs0.toList, x, rfl, e1, trivial⟩
  obtain ⟨a2, rfl, rfl, rfl, wd2⟩ := open_int Tryz.underlying29 (hval 2 29 v2 rfl rfl) h2
  clear hA0 hval0
  have H0 : St W W _ := St.start0 W [HP.rc R_api_Whole c0 xs0, HP.rc R_api_Call c1 xs1, HP.all W] (by
    intro A hA
    simp only [List.mem_cons, List.not_mem_nil, or_false] at hA
    rcases hA with rfl | rfl | rfl
    · exact s0
    · exact s1
    · exact all_start _ _ _)
  refine ((xT  (doesT_true2 xs0 w0 xs1 a2) H0 :)).mono fun e W' ⟨v, he, hv, hb⟩ => ?_
  subst he hv
  have bel := hb.finish
  exact ⟨_, rfl, _, _, _, [], _, [], hW', trodAll_mk1 (shut_bool Tryz.underlying4 _), (trodAll_cons_mk (Below.trod laidOut (by kernel_rfl) (of_decide_eq_true (by kernel_rfl)) k0 bel lt0) (trodAll_cons_mk (Below.trod laidOut (by kernel_rfl) (of_decide_eq_true (by kernel_rfl)) k1 bel lt1) (trodAll_cons_mk (shut_int Tryz.underlying29 wd2) trodAll_mk0))), rfl, bel.frame _, fun h => by cases h⟩
theorem holds : Rows.TableDoesSaid :=
  OpenClaim.holds_of_wide 3 Tryz.f3 rfl rfl rfl rfl rfl rfl rfl ⟨rfl, rfl, rfl, rfl, rfl⟩ rfl rfl rfl rfl rfl (by kernel_rfl) Tryz.func3 (by kernel_rfl)
    (of_decide_eq_true (by kernel_rfl)) (by unfold Func.isWrapper; first | (rw [if_pos (by decide +kernel)]; kernel_rfl) | (rw [if_neg (by decide +kernel)]; exact ⟨rfl, rfl⟩))
    (fun os started H enc _ => lifted os started H enc)
theorem proved : Rows.TableDoesCardSaid :=
  Claim7.holds_tied_plain_at .later [] [.data, .pinned] true (true, "0cbd3c965a24f4c63745ecf63a73884c3bfedb62b2c924b161c31bc8083a148b") true holds (fun _ h => by cases h) (by kernel_rfl) (fun _ h => by cases h) tableDoes_row_tie rfl ⟨rfl, rfl⟩ (by kernel_rfl) rfl
    (fun f fn hf hfn => by
      obtain rfl : f = 3 := Option.some.inj ((show Tryz.prog.funcNamed "trireme/triremelaw13.TableDoes" = some 3 by kernel_rfl).symm.trans hf) |>.symm
      obtain rfl : fn = Tryz.f3 := (Option.some.inj (Tryz.func3.symm.trans hfn)).symm
      exact ⟨by kernel_rfl, fun j t ht => by
        rw [Tryz.params3] at ht
        have hm : t ∈ [28, 34, 29] := by simpa using Array.mem_of_getElem? ht
        have hall : ([28, 34, 29].all fun u => !Tryz.prog.wantsStandIn u) = true := by kernel_rfl
        exact (show Tryz.prog.wantsStandIn t = false by simpa using List.all_eq_true.1 hall t hm)⟩)
    (by kernel_rfl)
end tableDoesLift
#print axioms tableDoesLift.proved
end Go.Proofs.YtkcgdaihfblncaaGreatDoor
