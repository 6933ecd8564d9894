/- StorePlays -/
import Derived.Test.YtfepdfjhejkemaaDoorBaseZ
import Derived.Test.YtfepdfjhejkemaaDoorOq
import Derived.Test.YtfepdfjhejkemaaDoorLawF
import Derived.Test.YtfepdfjhejkemaaDoorDuoF
import Derived.ShutString
import Derived.ChangeMaps5
import Derived.ProofKit
import Derived.OpenShut
import Derived.Lay
import Derived.LaidMore
import Derived.SevenTiedAt
import Derived.Stop.Joined
set_option linter.unusedSimpArgs false
set_option linter.unusedVariables false
namespace Go.Proofs.YtfepdfjhejkemaaDoor
open Go.ChangeShapes Go.WideShapes Go.ChangeAt Go.RowKit Go.Tri
namespace storePlaysLift
set_option maxRecDepth 100000 in
set_option maxHeartbeats 2000000 in
theorem lifted (os : Os) (started : os.Started) (H : Type) (enc : TypeId × Value → H) :
    ReturnsInHanded {} Tryd.checked os 7 .any (fun w args => (Rows.storePlaysSpec.pre enc Tryd.prog Tryd.f7 Rows.storePlaysRow.domain false w args ∧ laidMetH Tryd.prog Rows.storePlaysRow.laid w) ∧ sizedMet enc Tryd.prog Tryd.f7 (OpenSpec.ofChange Rows.storePlaysSpec) false w args)
      (Rows.storePlaysSpec.post enc Tryd.prog Tryd.f7 false true false false) := by
  refine returnsInHanded_of_change_and (C := Tryd.checked) (X := fun w _ => laidMetH Tryd.prog Rows.storePlaysRow.laid w) (fun _ _ _ hh h => h.of_heap hh) own started (by kernel_rfl) Tryd.func7
    (ChangeSpec.witness_shaped (enc := enc) (C := Tryd.checked) (os := os) (X := fun w _ => laidMetH Tryd.prog Rows.storePlaysRow.laid w) false (World.laidAll Tryd.prog os Rows.storePlaysRow.laid) #[.int .i64 0, .slice none 0 0] 8 (World.laidAll_os _ _ _)
      (World.shaped_of_ZipB (by kernel_rfl) (by kernel_rfl)) (by kernel_rfl) (by kernel_rfl) (by kernel_rfl)
      (by rw [MakeChecks.laidMetH_plain _ _ _ (by kernel_rfl)]; exact laidMet_laidAll _ (by kernel_rfl) (by kernel_rfl))) ?_
  intro W base args ds gs before hval0 hW hcnd hwt hL _
  rw [MakeChecks.laidMetH_plain _ _ _ (by kernel_rfl)] at hL
  obtain ⟨rowS, rowR⟩ := laid_rows hL
  have hval : ∀ (j : Nat) t v, Tryd.f7.params[j]? = some t → args[j]? = some v → Value.okWide Tryd.prog W .any base t v := hval0
  have hW' := hW
  obtain ⟨p, q, hA0, hV, rfl, hfz, hnd⟩ := hW
  have hA : DataW.TrodAll enc Tryd.prog W 0 (fun _ => true) true Tryd.f7.params.toList args.toList ds p := hA0
  rw [Tryd.params7] at hA hval
  obtain ⟨v0, vs0, d0, ds0, p0, q0, hargs, rfl, rfl, h0, r0⟩ := trodAll_cons hA
  obtain ⟨v1, vs1, d1, ds1, p1, q1, rfl, rfl, rfl, h1, r1⟩ := trodAll_cons r0
  obtain ⟨rfl, rfl, rfl⟩ := trodAll_nil r1
  obtain rfl : args = #[v0, v1] := by cases args; simp_all
  obtain ⟨rfl, rfl⟩ := trodVars_none hV
  obtain ⟨a0, rfl, rfl, rfl, wd0⟩ := open_int Tryd.underlying3 (hval 0 3 v0 rfl rfl) h0
  have k1 := h1
  have lt1 : ∀ x ∈ p1, x.block < W.heap.size := by obtain ⟨m, hm⟩ := k1; exact DataW.trod_lt m _ _ _ hm
  have wt1 : (d1.weights Tryd.prog 51).all (· ≤ reachBytes) = true := List.all_eq_true.2 fun n hn => List.all_eq_true.1 hwt n (DataW.weights_mem_each (j := 1) (by rw [Tryd.params7]; rfl) rfl n hn)
  obtain ⟨a1, xs1, c1, rfl, s1, w1⟩ : ∃ p xs cap, v1 = .slice p xs.length cap ∧ (∀ (w' : World) (S : Nat → Prop), (HP.sl R_triremelaw05_Op p cap xs).pr (baseOf W) w' S) ∧ (∀ op ∈ xs, OpOk op) := by
    obtain ⟨a0, len0, cap0, rfl⟩ := okWide_slice Tryd.underlying51 (hval 1 51 v1 rfl rfl)
    obtain ⟨fuel, hf⟩ := h1
    obtain ⟨p, xs, cap, e1, e2, e3⟩ := opnW_slice (opnW_struct Tryd.underlying58 (opnFs_cons (opnW_int Tryd.underlying3) rfl (by kernel_rfl) (opnFs_cons (opnW_int Tryd.underlying3) rfl (by kernel_rfl) (opnFs_cons (opnW_rSl (opnW_any (opn_byte Tryd.underlying5)) Tryd.underlying33 (by kernel_rfl) (by decide)) rfl (by kernel_rfl) (opnFs_cons (opnW_rSl (opnW_rSl (opnW_any (opn_byte Tryd.underlying5)) Tryd.underlying33 (by kernel_rfl) (by decide)) Tryd.underlying22 (by kernel_rfl) (by decide)) rfl (by kernel_rfl) (opnFs_one (opnW_rSl (opnW_int Tryd.underlying3) Tryd.underlying23 (by kernel_rfl) (by decide)) rfl (by kernel_rfl)))))) (by kernel_rfl)) Tryd.underlying51 (by kernel_rfl) (by decide) hf wt1
    exact ⟨p, xs, cap, by simpa [Value.cells] using e1, e2, (fun op ho => ⟨fun b hb => by have h1 := ((e3.1 op ho).2.2.2.1.1 b hb).2; rw [show Tryd.prog.bytesOf 5 = 1 by kernel_rfl, Nat.mul_one] at h1; exact h1, fun f hf => (e3.1 op ho).2.2.2.2.1 f hf⟩)⟩
  clear hA0 hval0
  have H0 : St W W _ := St.start0 W [HP.row 0 0 (icells .u32 shaStart), HP.row 2 0 (icells .u32 shaRounds), HP.sl R_triremelaw05_Op a1 c1 xs1, HP.all W] (by
    intro A hA
    simp only [List.mem_cons, List.not_mem_nil, or_false] at hA
    rcases hA with rfl | rfl | rfl | rfl
    · exact row_start rowS _ _
    · exact row_start rowR _ _
    · exact s1 _ _
    · exact all_start _ _ _)
  refine ((w_m_triremelaw05_StorePlays (plays_true a0 xs1 w1) H0 :)).mono fun e W' ⟨v, he, hv, hb⟩ => ?_
  subst he hv
  have bel := hb.finish
  exact ⟨_, rfl, _, _, _, [], _, [], hW', trodAll_mk1 (shut_bool Tryd.underlying4 _), (trodAll_cons_mk (shut_int Tryd.underlying3 wd0) (trodAll_cons_mk (Below.trod laidOut (by kernel_rfl) (of_decide_eq_true (by kernel_rfl)) k1 bel lt1) trodAll_mk0)), rfl, bel.frame _, fun h => by cases h⟩
theorem holds : Rows.StorePlaysSaid :=
  OpenClaim.holds_of_wide 7 Tryd.f7 rfl rfl rfl rfl rfl rfl rfl ⟨rfl, rfl, rfl, rfl, rfl⟩ rfl rfl rfl rfl rfl (by kernel_rfl) Tryd.func7 (by kernel_rfl)
    (of_decide_eq_true (by kernel_rfl)) (by unfold Func.isWrapper; first | (rw [if_pos (by decide +kernel)]; kernel_rfl) | (rw [if_neg (by decide +kernel)]; exact ⟨rfl, rfl⟩))
    (fun os started H enc _ => lifted os started H enc)
theorem proved : Rows.StorePlaysCardSaid :=
  Claim7.holds_tied_plain_at .later [] [.data, .data] true (true, "09412d33d194a0e3d548bc16765f1de22aa5f6ce827cbbecbfd243fc8caf3bcb") false holds (fun _ h => by cases h) (by kernel_rfl) (fun _ h => by cases h) storePlays_row_tie rfl ⟨rfl, rfl⟩ (by kernel_rfl) rfl
    (fun f fn hf hfn => by
      obtain rfl : f = 7 := Option.some.inj ((show Tryd.prog.funcNamed "trireme/triremelaw05.StorePlays" = some 7 by kernel_rfl).symm.trans hf) |>.symm
      obtain rfl : fn = Tryd.f7 := (Option.some.inj (Tryd.func7.symm.trans hfn)).symm
      exact ⟨by kernel_rfl, fun j t ht => by
        rw [Tryd.params7] at ht
        have hm : t ∈ [3, 51] := by simpa using Array.mem_of_getElem? ht
        have hall : ([3, 51].all fun u => !Tryd.prog.wantsStandIn u) = true := by kernel_rfl
        exact (show Tryd.prog.wantsStandIn t = false by simpa using List.all_eq_true.1 hall t hm)⟩)
    (by kernel_rfl)
end storePlaysLift
#print axioms storePlaysLift.proved
end Go.Proofs.YtfepdfjhejkemaaDoor
