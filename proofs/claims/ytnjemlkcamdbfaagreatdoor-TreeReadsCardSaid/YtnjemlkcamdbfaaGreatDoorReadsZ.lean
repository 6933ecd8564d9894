/- TreeReads: whatever the bag, the root and the question, the statement answers true, and the input reads as it did. -/
import Derived.Test.YtnjemlkcamdbfaaGreatDoorBaseZ
import Derived.Test.YtnjemlkcamdbfaaGreatDoorLawA
import Derived.Test.YtnjemlkcamdbfaaGreatDoorTrR
import Derived.ShutString
import Derived.ChangeMaps5
import Derived.ProofKit
import Derived.OpenShut
import Derived.Lay
import Derived.LaidMore
import Derived.SevenTiedAt
import Derived.Stop.Joined
set_option linter.unusedSimpArgs false
set_option linter.unusedVariables false
namespace Go.Proofs.YtnjemlkcamdbfaaGreatDoor
open Go.ChangeShapes Go.WideShapes Go.ChangeAt Go.RowKit Go.Tri
namespace treeReadsLift
set_option maxRecDepth 100000 in
set_option maxHeartbeats 2000000 in
theorem lifted (os : Os) (started : os.Started) (H : Type) (enc : TypeId × Value → H) :
    ReturnsInHanded {} Tryz.checked os 3 .any (fun w args => (Rows.treeReadsSpec.pre enc Tryz.prog Tryz.f3 Rows.treeReadsRow.domain false w args ∧ laidMetH Tryz.prog Rows.treeReadsRow.laid w) ∧ sizedMet enc Tryz.prog Tryz.f3 (OpenSpec.ofChange Rows.treeReadsSpec) false w args)
      (Rows.treeReadsSpec.post enc Tryz.prog Tryz.f3 false true false false) := by
  refine returnsInHanded_of_change_and (C := Tryz.checked) (X := fun w _ => laidMetH Tryz.prog Rows.treeReadsRow.laid w) (fun _ _ _ hh h => h.of_heap hh) own started (by kernel_rfl) Tryz.func3
    (ChangeSpec.witness_shaped (enc := enc) (C := Tryz.checked) (os := os) (X := fun w _ => laidMetH Tryz.prog Rows.treeReadsRow.laid w) false (World.laidAll Tryz.prog os Rows.treeReadsRow.laid) #[.map none, .agg #[.int .u8 0, .int .u8 0, .int .u8 0, .int .u8 0, .int .u8 0, .int .u8 0, .int .u8 0, .int .u8 0, .int .u8 0, .int .u8 0, .int .u8 0, .int .u8 0, .int .u8 0, .int .u8 0, .int .u8 0, .int .u8 0, .int .u8 0, .int .u8 0, .int .u8 0, .int .u8 0, .int .u8 0, .int .u8 0, .int .u8 0, .int .u8 0, .int .u8 0, .int .u8 0, .int .u8 0, .int .u8 0, .int .u8 0, .int .u8 0, .int .u8 0, .int .u8 0], .agg #[.slice none 0 0, .int .i64 0]] 8 (World.laidAll_os _ _ _)
      (World.shaped_of_ZipB (by kernel_rfl) (by kernel_rfl)) (by kernel_rfl) (by kernel_rfl) (by kernel_rfl)
      (by rw [MakeChecks.laidMetH_plain _ _ _ (by kernel_rfl)]; exact laidMet_laidAll _ (by kernel_rfl) (by kernel_rfl))) ?_
  intro W base args ds gs before hval0 hW hcnd hwt hL _
  rw [MakeChecks.laidMetH_plain _ _ _ (by kernel_rfl)] at hL
  obtain ⟨rowS, rowR⟩ := laid_rows hL
  have hval : ∀ (j : Nat) t v, Tryz.f3.params[j]? = some t → args[j]? = some v → Value.okWide Tryz.prog W .any base t v := hval0
  have hW' := hW
  obtain ⟨p, q, hA0, hV, rfl, hfz, hnd⟩ := hW
  have hA : DataW.TrodAll enc Tryz.prog W 0 (fun _ => true) true Tryz.f3.params.toList args.toList ds p := hA0
  rw [Tryz.params3] at hA hval
  obtain ⟨v0, vs0, d0, ds0, p0, q0, hargs, rfl, rfl, h0, r0⟩ := trodAll_cons hA
  obtain ⟨v1, vs1, d1, ds1, p1, q1, rfl, rfl, rfl, h1, r1⟩ := trodAll_cons r0
  obtain ⟨v2, vs2, d2, ds2, p2, q2, rfl, rfl, rfl, h2, r2⟩ := trodAll_cons r1
  obtain ⟨rfl, rfl, rfl⟩ := trodAll_nil r2
  obtain rfl : args = #[v0, v1, v2] := by cases args; simp_all
  obtain ⟨rfl, rfl⟩ := trodVars_none hV
  have k0 := h0
  have lt0 : ∀ x ∈ p0, x.block < W.heap.size := by obtain ⟨m, hm⟩ := k0; exact DataW.trod_lt m _ _ _ hm
  obtain ⟨q00, m0, kv0, rfl, s0, e0⟩ : ∃ (q : Option Nat) (m : List UInt8 → Option (List UInt8)) (kv : List (List UInt8 × List UInt8)), v0 = .map q ∧ (∀ (w' : World) (S : Nat → Prop), (HP.fm q hv false (rSl rByte) (fun l => l.length = 32) m).pr (baseOf W) w' S) ∧ Enum m kv := by
    obtain ⟨a0, rfl⟩ := okWide_map Tryz.underlying23 (hval 0 23 v0 rfl rfl)
    obtain ⟨fuel, hf⟩ := h0
    obtain ⟨q, m, kv, e1, e2, e3⟩ := opn_fmH Tryz.underlying23 Tryz.underlying25 Tryz.underlying5 (by kernel_rfl) (by kernel_rfl) Tryz.underlying26 (opn_rSl (opn_byte Tryz.underlying5) Tryz.underlying26 (by kernel_rfl) (by decide)) hf
    exact ⟨q, m, kv, by simpa [Value.cells] using e1, e2, e3⟩
  have k1 := h1
  have lt1 : ∀ x ∈ p1, x.block < W.heap.size := by obtain ⟨m, hm⟩ := k1; exact DataW.trod_lt m _ _ _ hm
  obtain ⟨xs1, rfl, w1⟩ : ∃ x : List UInt8, v1 = .agg (bcells x).toArray ∧ x.length = 32 := by
    obtain ⟨cs0, rfl, _⟩ := okWide_array Tryz.underlying25 (hval 1 25 v1 rfl rfl)
    obtain ⟨fuel, hf⟩ := h1
    obtain ⟨x, e1, e2⟩ := opn_bytes Tryz.underlying25 Tryz.underlying5 (by kernel_rfl) (by kernel_rfl) fuel cs0.toList _ hf
    have e1 : cs0.toList = bcells x := e1
    exact ⟨x, by rw [← e1], e2⟩
  have k2 := h2
  have lt2 : ∀ x ∈ p2, x.block < W.heap.size := by obtain ⟨m, hm⟩ := k2; exact DataW.trod_lt m _ _ _ hm
  have wt2 : (d2.weights Tryz.prog 28).all (· ≤ reachBytes) = true := List.all_eq_true.2 fun n hn => List.all_eq_true.1 hwt n (DataW.weights_mem_each (j := 2) (by rw [Tryz.params3]; rfl) rfl n hn)
  obtain ⟨c2, xs2, rfl, s2, w2⟩ : ∃ (cs : List Value) (x : _), v2 = .agg cs.toArray ∧ (R_triremelaw08_Query).rd (baseOf W) cs x ∧ True := by
    obtain ⟨cs0, rfl, _⟩ := okWide_struct Tryz.underlying28 (hval 2 28 v2 rfl rfl)
    obtain ⟨fuel, hf⟩ := h2
    obtain ⟨x, e1, e2⟩ := (opnW_struct Tryz.underlying28 (opnFs_cons (opnW_rSl (opnW_any (opn_byte Tryz.underlying5)) Tryz.underlying26 (by kernel_rfl) (by decide)) rfl (by kernel_rfl) (opnFs_one (opnW_any (opn_int Tryz.underlying3)) rfl (by kernel_rfl))) (by kernel_rfl)) fuel cs0.toList _ hf wt2
    exact ⟨cs0.toList, x, rfl, e1, trivial⟩
  clear hA0 hval0
  have H0 : St W W _ := St.start0 W [HP.row 1 0 (icells .u32 shaStart), HP.row 2 0 (icells .u32 shaRounds), HP.fm q00 hv false (rSl rByte) (fun l => l.length = 32) m0, HP.rc R_triremelaw08_Query c2 xs2, HP.all W] (by
    intro A hA
    simp only [List.mem_cons, List.not_mem_nil, or_false] at hA
    rcases hA with rfl | rfl | rfl | rfl | rfl
    · exact row_start rowS _ _
    · exact row_start rowR _ _
    · exact s0 _ _
    · exact s2
    · exact all_start _ _ _)
  refine ((w_lReads w1 (reads_eq e0 xs1 xs2) H0 :)).mono fun e W' ⟨v, he, hv, hb⟩ => ?_
  subst he hv
  have bel := hb.finish
  exact ⟨_, rfl, _, _, _, [], _, [], hW', trodAll_mk1 (shut_bool Tryz.underlying4 _), (trodAll_cons_mk (Below.trod laidOut (by kernel_rfl) (of_decide_eq_true (by kernel_rfl)) k0 bel lt0) (trodAll_cons_mk (Below.trod laidOut (by kernel_rfl) (of_decide_eq_true (by kernel_rfl)) k1 bel lt1) (trodAll_cons_mk (Below.trod laidOut (by kernel_rfl) (of_decide_eq_true (by kernel_rfl)) k2 bel lt2) trodAll_mk0))), rfl, bel.frame _, fun h => by cases h⟩
theorem holds : Rows.TreeReadsSaid :=
  OpenClaim.holds_of_wide 3 Tryz.f3 rfl rfl rfl rfl rfl rfl rfl ⟨rfl, rfl, rfl, rfl, rfl⟩ rfl rfl rfl rfl rfl (by kernel_rfl) Tryz.func3 (by kernel_rfl)
    (of_decide_eq_true (by kernel_rfl)) (by unfold Func.isWrapper; first | (rw [if_pos (by decide +kernel)]; kernel_rfl) | (rw [if_neg (by decide +kernel)]; exact ⟨rfl, rfl⟩))
    (fun os started H enc _ => lifted os started H enc)
theorem proved : Rows.TreeReadsCardSaid :=
  Claim7.holds_tied_plain_at .later [] [.data, .data] true (true, "047abb7a7422a9c6efab4e5db5a2ab7b8fe5948a8b9db3561671d450082c1fc1") false holds (fun _ h => by cases h) (by kernel_rfl) (fun _ h => by cases h) treeReads_row_tie rfl ⟨rfl, rfl⟩ (by kernel_rfl) rfl
    (fun f fn hf hfn => by
      obtain rfl : f = 3 := Option.some.inj ((show Tryz.prog.funcNamed "trireme/triremelaw08.TreeReads" = some 3 by kernel_rfl).symm.trans hf) |>.symm
      obtain rfl : fn = Tryz.f3 := (Option.some.inj (Tryz.func3.symm.trans hfn)).symm
      exact ⟨by kernel_rfl, fun j t ht => by
        rw [Tryz.params3] at ht
        have hm : t ∈ [23, 25, 28] := by simpa using Array.mem_of_getElem? ht
        have hall : ([23, 25, 28].all fun u => !Tryz.prog.wantsStandIn u) = true := by kernel_rfl
        exact (show Tryz.prog.wantsStandIn t = false by simpa using List.all_eq_true.1 hall t hm)⟩)
    (by kernel_rfl)
end treeReadsLift
#print axioms treeReadsLift.proved
end Go.Proofs.YtnjemlkcamdbfaaGreatDoor
