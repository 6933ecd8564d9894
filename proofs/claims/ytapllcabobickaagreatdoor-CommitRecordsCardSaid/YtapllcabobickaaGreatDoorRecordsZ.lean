/- CommitRecords: records are written and read as the document says: the statement answers true. -/
import Derived.Test.YtapllcabobickaaGreatDoorBaseZ
import Derived.Test.YtapllcabobickaaGreatDoorQ5
import Derived.Test.YtapllcabobickaaGreatDoorQ13
import Derived.Test.YtapllcabobickaaGreatDoorQ14
import Derived.ShutString
import Derived.ChangeMaps5
import Derived.ProofKit
import Derived.OpenShut
import Derived.Lay
import Derived.LaidMore
import Derived.SevenTiedAt
import Derived.Stop.Joined
set_option linter.unusedSimpArgs false
set_option linter.unusedVariables false
namespace Go.Proofs.YtapllcabobickaaGreatDoor
open Go.ChangeShapes Go.WideShapes Go.ChangeAt Go.RowKit Go.Tri
theorem opnW_bytes {H : Type} {enc : TypeId × Value → H} {P : Program} {w : World} {base : Nat} {spare : Nat → Bool} {held : Bool} {t e : TypeId} {n : Nat} (ht : P.underlying t = some (.array n e)) (he : P.underlying e = some (.int .u8)) (hc : P.cellsOf e = 1) (hC : P.cellsOf t = n) : OpnW enc P w base spare held (rBytesN n) t (fun l => l.length = n) := fun fuel cs x h _ => by
  obtain ⟨l, h1⟩ := opn_bytes ht he hc hC fuel cs x h
  exact ⟨l, h1, h1.2⟩
theorem records_t (r : T_api_Record) (w : WF r) (raw : List UInt8) : lRecords r raw = some true := records_true r raw w
namespace commitRecordsLift
set_option maxRecDepth 100000 in
set_option maxHeartbeats 2000000 in
theorem lifted (os : Os) (started : os.Started) (H : Type) (enc : TypeId × Value → H) :
    ReturnsInHanded {} Tryz.checked os 3 .any (fun w args => (Rows.commitRecordsSpec.pre enc Tryz.prog Tryz.f3 Rows.commitRecordsRow.domain false w args ∧ laidMetH Tryz.prog Rows.commitRecordsRow.laid w) ∧ sizedMet enc Tryz.prog Tryz.f3 (OpenSpec.ofChange Rows.commitRecordsSpec) false w args)
      (Rows.commitRecordsSpec.post enc Tryz.prog Tryz.f3 false true false false) := by
  refine returnsInHanded_of_change_and (C := Tryz.checked) (X := fun w _ => laidMetH Tryz.prog Rows.commitRecordsRow.laid w) (fun _ _ _ hh h => h.of_heap hh) own started (by kernel_rfl) Tryz.func3
    (ChangeSpec.witness_shaped (enc := enc) (C := Tryz.checked) (os := os) (X := fun w _ => laidMetH Tryz.prog Rows.commitRecordsRow.laid w) false (World.laidAll Tryz.prog os Rows.commitRecordsRow.laid) #[.agg #[.int .u64 0, .int .u64 0, .int .u8 0, .int .u8 0, .int .u8 0, .int .u8 0, .int .u8 0, .int .u8 0, .int .u8 0, .int .u8 0, .int .u8 0, .int .u8 0, .int .u8 0, .int .u8 0, .int .u8 0, .int .u8 0, .int .u8 0, .int .u8 0, .int .u8 0, .int .u8 0, .int .u8 0, .int .u8 0, .int .u8 0, .int .u8 0, .int .u8 0, .int .u8 0, .int .u8 0, .int .u8 0, .int .u8 0, .int .u8 0, .int .u8 0, .int .u8 0, .int .u8 0, .int .u8 0, .int .u8 0, .int .u8 0, .int .u8 0, .int .u8 0, .int .u8 0, .int .u8 0, .int .u8 0, .int .u8 0, .int .u8 0, .int .u8 0, .int .u8 0, .int .u8 0, .int .u8 0, .int .u8 0, .int .u8 0, .int .u8 0, .int .u8 0, .int .u8 0, .int .u8 0, .int .u8 0, .int .u8 0, .int .u8 0, .int .u8 0, .int .u8 0, .int .u8 0, .int .u8 0, .int .u8 0, .int .u8 0, .int .u8 0, .int .u8 0, .int .u8 0, .int .u8 0, .int .u8 0, .int .u8 0, .int .u8 0, .int .u8 0, .int .u8 0, .int .u8 0, .int .u8 0, .int .u8 0, .int .u8 0, .int .u8 0, .int .u8 0, .int .u8 0, .int .u8 0, .int .u8 0, .int .u8 0, .int .u8 0, .int .u8 0, .int .u8 0, .int .u8 0, .int .u8 0, .int .u8 0, .int .u8 0, .int .u8 0, .int .u8 0, .int .u8 0, .int .u8 0, .int .u8 0, .int .u8 0, .int .u8 0, .int .u8 0, .int .u8 0, .int .u8 0, .int .u8 0, .int .u8 0, .int .u8 0, .int .u8 0, .int .u8 0, .int .u8 0, .int .u8 0, .int .u8 0, .int .u8 0, .int .u8 0, .int .u8 0, .int .u8 0, .int .u8 0, .int .u8 0, .int .u8 0, .int .u8 0, .int .u8 0, .int .u8 0, .int .u8 0, .int .u8 0, .int .u8 0, .int .u8 0, .int .u8 0, .int .u8 0, .int .u8 0, .int .u8 0, .int .u8 0, .int .u8 0, .int .u8 0, .int .u8 0, .int .u8 0, .int .u8 0, .int .i64 0, .int .u64 0, .int .i64 0, .string .empty, .string .empty, .int .i64 0, .int .i64 0, .slice none 0 0], .slice none 0 0] 8 (World.laidAll_os _ _ _)
      (World.shaped_of_ZipB (by kernel_rfl) (by kernel_rfl)) (by kernel_rfl) (by kernel_rfl) (by kernel_rfl)
      (by rw [MakeChecks.laidMetH_plain _ _ _ (by kernel_rfl)]; exact laidMet_laidAll _ (by kernel_rfl) (by kernel_rfl))) ?_
  intro W base args ds gs before hval0 hW hcnd hwt hL _
  rw [MakeChecks.laidMetH_plain _ _ _ (by kernel_rfl)] at hL
  obtain ⟨rowS, rowR⟩ := laid_rows hL
  have hval : ∀ (j : Nat) t v, Tryz.f3.params[j]? = some t → args[j]? = some v → Value.okWide Tryz.prog W .any base t v := hval0
  have hW' := hW
  obtain ⟨p, q, hA0, hV, rfl, hfz, hnd⟩ := hW
  have hA : DataW.TrodAll enc Tryz.prog W 0 (fun _ => true) true Tryz.f3.params.toList args.toList ds p := hA0
  rw [Tryz.params3] at hA hval
  obtain ⟨v0, vs0, d0, ds0, p0, q0, hargs, rfl, rfl, h0, r0⟩ := trodAll_cons hA
  obtain ⟨v1, vs1, d1, ds1, p1, q1, rfl, rfl, rfl, h1, r1⟩ := trodAll_cons r0
  obtain ⟨rfl, rfl, rfl⟩ := trodAll_nil r1
  obtain rfl : args = #[v0, v1] := by cases args; simp_all
  obtain ⟨rfl, rfl⟩ := trodVars_none hV
  have k0 := h0
  have lt0 : ∀ x ∈ p0, x.block < W.heap.size := by obtain ⟨m, hm⟩ := k0; exact DataW.trod_lt m _ _ _ hm
  have wt0 : (d0.weights Tryz.prog 31).all (· ≤ reachBytes) = true := List.all_eq_true.2 fun n hn => List.all_eq_true.1 hwt n (DataW.weights_mem_each (j := 0) (by rw [Tryz.params3]; rfl) rfl n hn)
  obtain ⟨c0, xs0, rfl, s0, w0⟩ : ∃ (cs : List Value) (x : _), v0 = .agg cs.toArray ∧ (R_api_Record).rd (baseOf W) cs x ∧ WF x := by
    obtain ⟨cs0, rfl, _⟩ := okWide_struct Tryz.underlying31 (hval 0 31 v0 rfl rfl)
    obtain ⟨fuel, hf⟩ := h0
    obtain ⟨x, e1, e2⟩ := (opnW_struct Tryz.underlying31 (opnFs_cons (opnW_u64 Tryz.underlying22) rfl (by kernel_rfl) (opnFs_cons (opnW_u64 Tryz.underlying22) rfl (by kernel_rfl) (opnFs_cons (opnW_bytes Tryz.underlying24 Tryz.underlying5 (by kernel_rfl) (by kernel_rfl)) rfl (by kernel_rfl) (opnFs_cons (opnW_bytes Tryz.underlying24 Tryz.underlying5 (by kernel_rfl) (by kernel_rfl)) rfl (by kernel_rfl) (opnFs_cons (opnW_bytes Tryz.underlying24 Tryz.underlying5 (by kernel_rfl) (by kernel_rfl)) rfl (by kernel_rfl) (opnFs_cons (opnW_bytes Tryz.underlying24 Tryz.underlying5 (by kernel_rfl) (by kernel_rfl)) rfl (by kernel_rfl) (opnFs_one (opnW_struct Tryz.underlying29 (opnFs_cons (opnW_any (opn_int Tryz.underlying3)) rfl (by kernel_rfl) (opnFs_cons (opnW_u64 Tryz.underlying22) rfl (by kernel_rfl) (opnFs_one (opnW_struct Tryz.underlying27 (opnFs_cons (opnW_any (opn_int Tryz.underlying3)) rfl (by kernel_rfl) (opnFs_cons (opnW_any (opn_str Tryz.underlying9)) rfl (by kernel_rfl) (opnFs_cons (opnW_any (opn_str Tryz.underlying9)) rfl (by kernel_rfl) (opnFs_cons (opnW_any (opn_int Tryz.underlying3)) rfl (by kernel_rfl) (opnFs_cons (opnW_any (opn_int Tryz.underlying3)) rfl (by kernel_rfl) (opnFs_one (opnW_rSl (opnW_any (opn_byte Tryz.underlying5)) Tryz.underlying25 (by kernel_rfl) (by decide)) rfl (by kernel_rfl))))))) (by kernel_rfl)) rfl (by kernel_rfl)))) (by kernel_rfl)) rfl (by kernel_rfl)))))))) (by kernel_rfl)) fuel cs0.toList _ hf wt0
    exact ⟨cs0.toList, x, rfl, e1, ⟨e2.1.1, by have := e2.1.2; omega, e2.2.1.1, by have := e2.2.1.2; omega, e2.2.2.2.2.2.2.2.1.1, by have := e2.2.2.2.2.2.2.2.1.2; omega, e2.2.2.1, e2.2.2.2.1, e2.2.2.2.2.1, e2.2.2.2.2.2.1⟩⟩
  have k1 := h1
  have lt1 : ∀ x ∈ p1, x.block < W.heap.size := by obtain ⟨m, hm⟩ := k1; exact DataW.trod_lt m _ _ _ hm
  have wt1 : (d1.weights Tryz.prog 25).all (· ≤ reachBytes) = true := List.all_eq_true.2 fun n hn => List.all_eq_true.1 hwt n (DataW.weights_mem_each (j := 1) (by rw [Tryz.params3]; rfl) rfl n hn)
  obtain ⟨a1, xs1, c1, rfl, s1, w1⟩ : ∃ p xs cap, v1 = .slice p xs.length cap ∧ (∀ (w' : World) (S : Nat → Prop), (HP.sl rByte p cap xs).pr (baseOf W) w' S) ∧ True := by
    obtain ⟨a0, len0, cap0, rfl⟩ := okWide_slice Tryz.underlying25 (hval 1 25 v1 rfl rfl)
    obtain ⟨fuel, hf⟩ := h1
    obtain ⟨p, xs, cap, e1, e2, e3⟩ := opnW_slice (opnW_any (opn_byte Tryz.underlying5)) Tryz.underlying25 (by kernel_rfl) (by decide) hf wt1
    exact ⟨p, xs, cap, by simpa [Value.cells] using e1, e2, trivial⟩
  clear hA0 hval0
  have H0 : St W W _ := St.start0 W [HP.row 0 0 (icells .u32 shaStart), HP.row 1 0 (icells .u32 shaRounds), HP.rc R_api_Record c0 xs0, HP.sl rByte a1 c1 xs1, HP.all W] (by
    intro A hA
    simp only [List.mem_cons, List.not_mem_nil, or_false] at hA
    rcases hA with rfl | rfl | rfl | rfl | rfl
    · exact row_start rowS _ _
    · exact row_start rowR _ _
    · exact s0
    · exact s1 _ _
    · exact all_start _ _ _)
  refine ((w_lRecords  (records_t xs0 w0 xs1) H0 :)).mono fun e W' ⟨v, he, hv, hb⟩ => ?_
  subst he hv
  have bel := hb.finish
  exact ⟨_, rfl, _, _, _, [], _, [], hW', trodAll_mk1 (shut_bool Tryz.underlying4 _), (trodAll_cons_mk (Below.trod laidOut (by kernel_rfl) (of_decide_eq_true (by kernel_rfl)) k0 bel lt0) (trodAll_cons_mk (Below.trod laidOut (by kernel_rfl) (of_decide_eq_true (by kernel_rfl)) k1 bel lt1) trodAll_mk0)), rfl, bel.frame _, fun h => by cases h⟩
theorem holds : Rows.CommitRecordsSaid :=
  OpenClaim.holds_of_wide 3 Tryz.f3 rfl rfl rfl rfl rfl rfl rfl ⟨rfl, rfl, rfl, rfl, rfl⟩ rfl rfl rfl rfl rfl (by kernel_rfl) Tryz.func3 (by kernel_rfl)
    (of_decide_eq_true (by kernel_rfl)) (by unfold Func.isWrapper; first | (rw [if_pos (by decide +kernel)]; kernel_rfl) | (rw [if_neg (by decide +kernel)]; exact ⟨rfl, rfl⟩))
    (fun os started H enc _ => lifted os started H enc)
theorem proved : Rows.CommitRecordsCardSaid :=
  Claim7.holds_tied_plain_at .later [] [.data, .data, .data, .pinned] true (true, "e9178df9c149ed66efe7b37a11f72ba663eae9602fbaea927ea3f255cdfef0e9") true holds (fun _ h => by cases h) (by kernel_rfl) (fun _ h => by cases h) commitRecords_row_tie rfl ⟨rfl, rfl⟩ (by kernel_rfl) rfl
    (fun f fn hf hfn => by
      obtain rfl : f = 3 := Option.some.inj ((show Tryz.prog.funcNamed "trireme/triremelaw14.CommitRecords" = some 3 by kernel_rfl).symm.trans hf) |>.symm
      obtain rfl : fn = Tryz.f3 := (Option.some.inj (Tryz.func3.symm.trans hfn)).symm
      exact ⟨by kernel_rfl, fun j t ht => by
        rw [Tryz.params3] at ht
        have hm : t ∈ [31, 25] := by simpa using Array.mem_of_getElem? ht
        have hall : ([31, 25].all fun u => !Tryz.prog.wantsStandIn u) = true := by kernel_rfl
        exact (show Tryz.prog.wantsStandIn t = false by simpa using List.all_eq_true.1 hall t hm)⟩)
    (by kernel_rfl)
end commitRecordsLift
#print axioms commitRecordsLift.proved
end Go.Proofs.YtapllcabobickaaGreatDoor
