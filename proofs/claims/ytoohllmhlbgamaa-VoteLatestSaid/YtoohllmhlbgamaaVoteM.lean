/- slices.BinarySearchFunc by a node's number. NOT DONE: the last region is being turned (see NOTES). -/
import Derived.Test.YtoohllmhlbgamaaVoteK
import Derived.Test.YtoohllmhlbgamaaLibI
set_option linter.unusedSimpArgs false
set_option linter.unusedVariables false
namespace Go.Proofs.Ytoohllmhlbgamaa
open Go.ChangeShapes Go.WideShapes Go.ChangeAt Go.RowKit Go.Tri

set_option maxRecDepth 100000 in
set_option maxHeartbeats 8000000 in
theorem search_core (xs : List Vote) (hw : ∀ x ∈ xs, x.wf) (hn : xs.length ≤ 1000) (p : Option Addr) (cap : Nat) (v : Vote) (hv : v.wf) (w : World) (hr : 0 < xs.length → ∃ b off, p = some ⟨b, off, none⟩ ∧ Row w b off (votes xs)) :
    Calls Try.prog 20 #[.slice p xs.length cap, .agg v.cells.toArray, .func (.func 21) #[] #[]] w fun e w' =>
      e = .returned (.tuple #[.int .i64 (findAt xs v), .bool (foundAt xs v)]) ∧ Below w.heap.size w w' := by
  have HR := Lib.hid hr; have HW := Lib.hid hw; clear hr hw
  go_enter Try.func20, Try.ntmps20
  go_wp2
  have H0 := Lib.hid (And.intro (Blk.new w v.cells 28) ((Below.refl w.heap.size w).alloc (Nat.le_refl _) (.cells v.cells.toArray 28)))
  generalize w.alloc (.cells v.cells.toArray 28) = w0 at *
  go_loopw [9, 10] (fun a c wr => ∃ i j : Nat, i ≤ j ∧ j ≤ xs.length ∧ a = .int .i64 i ∧ c = .int .i64 j ∧ Hid (bsL (belowAt xs v) i j = findAt xs v ∧ Blk wr w.heap.size v.cells 28 ∧ Below w.heap.size w wr)) (fun a c _ => (intOf c).toNat - (intOf a).toNat)
  case atStart => exact ⟨0, xs.length, Nat.zero_le _, Nat.le_refl _, rfl, rfl, rfl, H0.out⟩
  case round =>
    obtain ⟨i, j, hij, hj, rfl, rfl, HI⟩ := hrel
    clear H0
    by_cases hlt : i < j
    · obtain ⟨b, off, rfl, hrb⟩ := HR.out (by omega)
      obtain ⟨h, hh⟩ : ∃ h, h = (i + j) / 2 := ⟨_, rfl⟩
      have hhi : i ≤ h := by omega
      have hhj : h < j := by omega
      obtain ⟨x, hx⟩ : ∃ x, xs[h]? = some x := ⟨_, List.getElem?_eq_getElem (by omega)⟩
      have HXW := Lib.hid (HW.out x (List.mem_of_getElem? hx))
      have HRX := Lib.hid (Row.vote (hrb.grow HI.out.2.2) HW.out hx)
      have HBA := Lib.hid (show belowAt xs v h = decide (x.node < v.node) by simp [belowAt, hx])
      have HH := Lib.hid hh
      clear hx hrb hh
      have hhx : h < xs.length := by omega
      go_wp2
      rw [show ((i : Int) + (j : Int)) / 2 = (h : Int) by rw [HH.out]; omega]
      refine wp_region_quiet_tail 6 (by kernel_rfl) (by kernel_rfl) ?_
      simp only [List.take_succ_cons, List.take_zero, List.drop_succ_cons, List.drop_zero]
      repeat (first
        | ((with_reducible refine wq_load aggVote rfl ?_ ?_ HRX.out (Vote.len_cells HXW.out) ?_); exact rfl; exact rfl; simp only [Act.put, List.setIfInBounds_toArray, List.set_cons_succ, List.set_cons_zero])
        | ((with_reducible refine wq_load aggVote rfl ?_ ?_ HI.out.2.1.row (Vote.len_cells hv) ?_); exact rfl; exact rfl; simp only [Act.put, List.setIfInBounds_toArray, List.set_cons_succ, List.set_cons_zero])
        | (go_big_quiet_step (fail)))
      refine wpQuiet_nil ?_
      intro _ hw'
      obtain ⟨nq, hw''⟩ := hw'
      subst hw''
      by_cases hc : x.node < v.node
      · have hcb : decide (cmp3 x.node v.node < 0) = true := by simp [cmp3, hc]
        go_wp2_with (go_at_call 21; refine (byNode x v _).mono ?_; rintro e w1 ⟨rfl, hb1⟩; have H1 := Lib.hid (And.intro (Blk.grow (w := wr.drewN nq) HI.out.2.1 hb1) (Below.trans (HI.out.2.2.drewN nq) (Below.mono (w := wr.drewN nq) hb1 HI.out.2.2.size))); clear hb1)
        go_roundw
        case rel => exact ⟨h + 1, j, by omega, hj, by go_num, rfl, by
          refine ⟨?_, H1.out⟩
          rw [← HI.out.1, bsL.eq_1 (belowAt xs v) i j, dif_pos hlt, ← HH.out, HBA.out, if_pos (by simp [hc])]⟩
        case measure => simp [intOf]; omega
      · have hcb : decide (cmp3 x.node v.node < 0) = false := by simp [cmp3, hc]; split <;> omega
        go_wp2_with (go_at_call 21; refine (byNode x v _).mono ?_; rintro e w1 ⟨rfl, hb1⟩; have H1 := Lib.hid (And.intro (Blk.grow (w := wr.drewN nq) HI.out.2.1 hb1) (Below.trans (HI.out.2.2.drewN nq) (Below.mono (w := wr.drewN nq) hb1 HI.out.2.2.size))); clear hb1)
        go_roundw
        case rel => exact ⟨i, h, by omega, by omega, rfl, rfl, by
          refine ⟨?_, H1.out⟩
          rw [← HI.out.1, bsL.eq_1 (belowAt xs v) i j, dif_pos hlt, ← HH.out, HBA.out, if_neg (by simpa using hc)]⟩
        case measure => simp [intOf]; omega
    · have hij2 : i = j := by omega
      subst hij2
      have hfa : i = findAt xs v := by have := HI.out.1; rw [bsL, dif_neg (by omega)] at this; exact this
      have HFA := Lib.hid hfa; clear hfa
      by_cases hin : i < xs.length
      · obtain ⟨b, off, rfl, hrb⟩ := HR.out (by omega)
        obtain ⟨x, hx⟩ : ∃ x, xs[i]? = some x := ⟨_, List.getElem?_eq_getElem hin⟩
        have HXW := Lib.hid (HW.out x (List.mem_of_getElem? hx))
        have HRX := Lib.hid (Row.vote (hrb.grow HI.out.2.2) HW.out hx)
        have HFO := Lib.hid (show foundAt xs v = (x.node == v.node) by simp [foundAt, ← HFA.out, hx])
        clear hx hrb
        have hib : decide ((i : Int) < (xs.length : Int)) = true := by simp; omega
        go_wp2
        have hib' : (i : Int) < (xs.length : Int) := by omega
        have hi0 : (0 : Int) ≤ (i : Int) := by omega
        refine wp_region_quietC (fun w' => Below w.heap.size w w' ∧ Blk w' w.heap.size v.cells 28 ∧ Row w' b (off + i * 37) x.cells) (by kernel_rfl) (by kernel_rfl) ⟨HI.out.2.2.drew, HI.out.2.1.drew, HRX.out.drew⟩ ?_
        have ent := enters Try.func21 (by kernel_rfl) rfl
        by_cases hc : x.node = v.node
        · have hcb : (cmp3 x.node v.node == 0) = true := by rw [cmp3_eq _ _ hc]; rfl
          have HC2 := Lib.hid hc; clear hc
          refine wqc_val (v := .int .i64 (i : Int)) rfl (fun w' hw' => rfl) ?_
          simp only [Act.put, List.setIfInBounds_toArray, List.set_cons_succ, List.set_cons_zero]
          refine wqc_val (v := .int .i64 (i : Int)) rfl (fun w' hw' => rfl) ?_
          simp only [Act.put, List.setIfInBounds_toArray, List.set_cons_succ, List.set_cons_zero]
          refine wqc_val (v := .int .i64 (xs.length : Int)) rfl (fun w' hw' => rfl) ?_
          simp only [Act.put, List.setIfInBounds_toArray, List.set_cons_succ, List.set_cons_zero]
          refine wqc_val (v := .bool true) rfl (fun w' hw' => ex_lss rfl rfl rfl hib) ?_
          simp only [Act.put, List.setIfInBounds_toArray, List.set_cons_succ, List.set_cons_zero]
          refine wqc_val (v := .bool true) rfl (fun w' hw' => rfl) ?_
          simp only [Act.put, List.setIfInBounds_toArray, List.set_cons_succ, List.set_cons_zero]
          refine wqc_val (v := .func (.func 21) #[] #[]) rfl (fun w' hw' => rfl) ?_
          simp only [Act.put, List.setIfInBounds_toArray, List.set_cons_succ, List.set_cons_zero]
          refine wqc_val (v := .slice (some ⟨b, off, none⟩) xs.length cap) rfl (fun w' hw' => rfl) ?_
          simp only [Act.put, List.setIfInBounds_toArray, List.set_cons_succ, List.set_cons_zero]
          refine wqc_val (v := .int .i64 (i : Int)) rfl (fun w' hw' => rfl) ?_
          simp only [Act.put, List.setIfInBounds_toArray, List.set_cons_succ, List.set_cons_zero]
          refine wqc_val (v := .pointer (some ⟨b, off + i * 37, none⟩)) rfl (fun w' hw' => ex_index elemVote rfl rfl rfl hin) ?_
          simp only [Act.put, List.setIfInBounds_toArray, List.set_cons_succ, List.set_cons_zero]
          refine wqc_load aggVote rfl rfl rfl (fun w' hw' => hw'.2.2) (Vote.len_cells HXW.out) ?_
          simp only [Act.put, List.setIfInBounds_toArray, List.set_cons_succ, List.set_cons_zero]
          refine wqc_load aggVote rfl rfl rfl (fun w' hw' => hw'.2.1.row) (Vote.len_cells hv) ?_
          simp only [Act.put, List.setIfInBounds_toArray, List.set_cons_succ, List.set_cons_zero]
          refine wqc_call (f := 21) (args := #[.agg x.cells.toArray, .agg v.cells.toArray]) (v := .int .i64 (cmp3 x.node v.node)) rfl (fun w' hw' => ex_call2 rfl rfl rfl rfl ent) (fun w' hw' => (byNode x v w').mono fun e w2 h => ⟨h.1, hw'.1.trans (h.2.mono hw'.1.size), hw'.2.1.grow h.2, hw'.2.2.grow h.2⟩) ?_
          simp only [Act.put, List.setIfInBounds_toArray, List.set_cons_succ, List.set_cons_zero]
          refine wqc_val (v := .bool true) rfl (fun w' hw' => ex_eqi rfl rfl rfl hcb) ?_
          simp only [Act.put, List.setIfInBounds_toArray, List.set_cons_succ, List.set_cons_zero]
          refine wqc_val (v := .bool true) rfl (fun w' hw' => rfl) ?_
          simp only [Act.put, List.setIfInBounds_toArray, List.set_cons_succ, List.set_cons_zero]
          refine wqc_val (v := .int .i64 (i : Int)) rfl (fun w' hw' => rfl) ?_
          simp only [Act.put, List.setIfInBounds_toArray, List.set_cons_succ, List.set_cons_zero]
          refine wqc_val (v := .bool true) rfl (fun w' hw' => rfl) ?_
          simp only [Act.put, List.setIfInBounds_toArray, List.set_cons_succ, List.set_cons_zero]
          refine wpQuiet_nil ?_
          clear ent
          intro w1 hw1
          have H1 := Lib.hid hw1.1
          clear hw1
          go_wp2
          go_ret2
          exact ⟨by rw [HFO.out, ← HFA.out]; simp [HC2.out], H1.out⟩
        · have hcb : (cmp3 x.node v.node == 0) = false := beq_eq_false_iff_ne.2 (cmp3_ne _ _ hc)
          have HC2 := Lib.hid hc; clear hc
          refine wqc_val (v := .int .i64 (i : Int)) rfl (fun w' hw' => rfl) ?_
          simp only [Act.put, List.setIfInBounds_toArray, List.set_cons_succ, List.set_cons_zero]
          refine wqc_val (v := .int .i64 (i : Int)) rfl (fun w' hw' => rfl) ?_
          simp only [Act.put, List.setIfInBounds_toArray, List.set_cons_succ, List.set_cons_zero]
          refine wqc_val (v := .int .i64 (xs.length : Int)) rfl (fun w' hw' => rfl) ?_
          simp only [Act.put, List.setIfInBounds_toArray, List.set_cons_succ, List.set_cons_zero]
          refine wqc_val (v := .bool true) rfl (fun w' hw' => ex_lss rfl rfl rfl hib) ?_
          simp only [Act.put, List.setIfInBounds_toArray, List.set_cons_succ, List.set_cons_zero]
          refine wqc_val (v := .bool true) rfl (fun w' hw' => rfl) ?_
          simp only [Act.put, List.setIfInBounds_toArray, List.set_cons_succ, List.set_cons_zero]
          refine wqc_val (v := .func (.func 21) #[] #[]) rfl (fun w' hw' => rfl) ?_
          simp only [Act.put, List.setIfInBounds_toArray, List.set_cons_succ, List.set_cons_zero]
          refine wqc_val (v := .slice (some ⟨b, off, none⟩) xs.length cap) rfl (fun w' hw' => rfl) ?_
          simp only [Act.put, List.setIfInBounds_toArray, List.set_cons_succ, List.set_cons_zero]
          refine wqc_val (v := .int .i64 (i : Int)) rfl (fun w' hw' => rfl) ?_
          simp only [Act.put, List.setIfInBounds_toArray, List.set_cons_succ, List.set_cons_zero]
          refine wqc_val (v := .pointer (some ⟨b, off + i * 37, none⟩)) rfl (fun w' hw' => ex_index elemVote rfl rfl rfl hin) ?_
          simp only [Act.put, List.setIfInBounds_toArray, List.set_cons_succ, List.set_cons_zero]
          refine wqc_load aggVote rfl rfl rfl (fun w' hw' => hw'.2.2) (Vote.len_cells HXW.out) ?_
          simp only [Act.put, List.setIfInBounds_toArray, List.set_cons_succ, List.set_cons_zero]
          refine wqc_load aggVote rfl rfl rfl (fun w' hw' => hw'.2.1.row) (Vote.len_cells hv) ?_
          simp only [Act.put, List.setIfInBounds_toArray, List.set_cons_succ, List.set_cons_zero]
          refine wqc_call (f := 21) (args := #[.agg x.cells.toArray, .agg v.cells.toArray]) (v := .int .i64 (cmp3 x.node v.node)) rfl (fun w' hw' => ex_call2 rfl rfl rfl rfl ent) (fun w' hw' => (byNode x v w').mono fun e w2 h => ⟨h.1, hw'.1.trans (h.2.mono hw'.1.size), hw'.2.1.grow h.2, hw'.2.2.grow h.2⟩) ?_
          simp only [Act.put, List.setIfInBounds_toArray, List.set_cons_succ, List.set_cons_zero]
          refine wqc_val (v := .bool false) rfl (fun w' hw' => ex_eqi rfl rfl rfl hcb) ?_
          simp only [Act.put, List.setIfInBounds_toArray, List.set_cons_succ, List.set_cons_zero]
          refine wqc_val (v := .bool false) rfl (fun w' hw' => rfl) ?_
          simp only [Act.put, List.setIfInBounds_toArray, List.set_cons_succ, List.set_cons_zero]
          refine wqc_val (v := .int .i64 (i : Int)) rfl (fun w' hw' => rfl) ?_
          simp only [Act.put, List.setIfInBounds_toArray, List.set_cons_succ, List.set_cons_zero]
          refine wqc_val (v := .bool false) rfl (fun w' hw' => rfl) ?_
          simp only [Act.put, List.setIfInBounds_toArray, List.set_cons_succ, List.set_cons_zero]
          refine wpQuiet_nil ?_
          clear ent
          intro w1 hw1
          have H1 := Lib.hid hw1.1
          clear hw1
          go_wp2
          go_ret2
          exact ⟨by rw [HFO.out, ← HFA.out]; simp [HC2.out], H1.out⟩
      · have HFO := Lib.hid (show foundAt xs v = false by simp [foundAt, ← HFA.out, List.getElem?_eq_none (show xs.length ≤ i by omega)])
        have hib : decide ((i : Int) < (xs.length : Int)) = false := by simp; omega
        go_wp2
        have hib' : ¬ (i : Int) < (xs.length : Int) := by omega
        go_quiet (fail)
        have H1 := Lib.hid (HI.out.2.2.drewN nq)
        go_wp2
        go_ret2
        exact ⟨by rw [HFO.out, ← HFA.out]; rfl, H1.out⟩
end Go.Proofs.Ytoohllmhlbgamaa
