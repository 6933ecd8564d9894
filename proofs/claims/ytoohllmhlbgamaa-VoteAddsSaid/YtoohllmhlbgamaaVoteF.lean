/- The reference's Choose. -/
import Derived.Test.YtoohllmhlbgamaaVoteE
set_option linter.unusedSimpArgs false
set_option linter.unusedVariables false
namespace Go.Proofs.Ytoohllmhlbgamaa
open Go.ChangeShapes Go.WideShapes Go.ChangeAt Go.RowKit Go.Tri

set_option maxRecDepth 100000 in
set_option maxHeartbeats 2000000 in
theorem chooseR_core (xs : List Vote) (hw : ∀ x ∈ xs, x.wf) (hn : xs.length ≤ 1000) (p : Option Addr) (cap : Nat) (view nodes : Int) (hno : -9223372036854775808 ≤ nodes) (hno' : nodes ≤ 9223372036854775807) (w : World) (hr : 0 < xs.length → ∃ b off, p = some ⟨b, off, none⟩ ∧ Row w b off (votes xs)) :
    Calls Try.prog 10 #[.slice p xs.length cap, .int .u64 view, .int .i64 nodes] w fun e w' =>
      e = .returned (chooseV view nodes xs) ∧ Below w.heap.size w w' := by
  have HR := Lib.hid hr; clear hr
  have HW := Lib.hid hw; clear hw
  go_enter Try.func10, Try.ntmps10
  go_wp2_with (first | ((with_reducible refine wl_alloc aggVote rfl ?_ ?_); exact rfl) | (refine wl_store aggVote rfl rfl rfl (cs := Vote.zero.cells) rfl (Blk.newAt _ _ (by simp)) rfl rfl (Vote.flat _) ?_; rw [setRow_allocAt (by simp)]))
  have hb0 : Blk ((w.alloc (.cells Vote.zero.cells.toArray 28)).alloc (.cells Vote.zero.cells.toArray 28)) w.heap.size Vote.zero.cells 28 := (Blk.new w _ _).alloc _
  have hb1 : Blk ((w.alloc (.cells Vote.zero.cells.toArray 28)).alloc (.cells Vote.zero.cells.toArray 28)) (w.heap.size + 1) Vote.zero.cells 28 := by
    have := Blk.new (w.alloc (.cells Vote.zero.cells.toArray 28)) Vote.zero.cells 28; rw [World.size_alloc] at this; exact this
  have hB0 : Below w.heap.size w ((w.alloc (.cells Vote.zero.cells.toArray 28)).alloc (.cells Vote.zero.cells.toArray 28)) := ((Below.refl _ _).alloc (Nat.le_refl _) _).alloc (by simp) _
  generalize (w.alloc (.cells Vote.zero.cells.toArray 28)).alloc (.cells Vote.zero.cells.toArray 28) = w0 at *
  have HB0 := Lib.hid (And.intro hb0 (And.intro hb1 hB0)); clear hb0 hb1 hB0
  go_loopw [9, 10, 12, 13] (fun c m y i wr => ∃ (k : Nat) (any : Bool), k ≤ xs.length ∧ i = .int .i64 k ∧ c = .int .i64 (CSt.of view (xs.take k)).who.length ∧ m = .int .u64 (CSt.of view (xs.take k)).commit ∧ y = .bool any ∧ Hid (any = !(CSt.of view (xs.take k)).who.isEmpty) ∧
      Hid (Blk wr w.heap.size Vote.zero.cells 28 ∧ Blk wr (w.heap.size + 1) (CSt.of view (xs.take k)).best.cells 28 ∧ Below w.heap.size w wr)) (fun _ _ _ i _ => xs.length - (intOf i).toNat)
  case atStart => exact ⟨0, false, Nat.zero_le _, rfl, rfl, rfl, rfl, rfl, HB0.out.1, HB0.out.2.1, HB0.out.2.2⟩
  case round =>
    obtain ⟨k, any, hk, rfl, rfl, rfl, rfl, HY, HI⟩ := hrel
    clear HB0
    by_cases hlt : k < xs.length
    · obtain ⟨b, off, rfl, hrb⟩ := HR.out (by omega)
      have HRB := Lib.hid hrb; clear hrb
      obtain ⟨x, hx⟩ : ∃ x, xs[k]? = some x := ⟨_, List.getElem?_eq_getElem hlt⟩
      have hxw : x.wf := HW.out x (List.mem_of_getElem? hx)
      have hxl := Vote.len_cells hxw
      have hts : xs.take (k + 1) = xs.take k ++ [x] := by rw [List.take_add_one, hx]; rfl
      have HS := Lib.hid (show CSt.of view (xs.take (k + 1)) = (CSt.of view (xs.take k)).step view x by rw [hts, CSt.of_snoc])
      have hbw := CSt.wf view (xs.take k) (fun y hy => HW.out y (List.mem_of_mem_take hy))
      have hbl := Vote.len_cells hbw
      clear hts
      have HX := Lib.hid hx; clear hx
      have HFR := Lib.hid (CSt.fresh view x.node (xs.take k))
      have HRO := Lib.hid (Row.grow HRB.out HI.out.2.2)
      have HRX := Lib.hid (Row.vote HRO.out HW.out HX.out)
      have cxn : wr.cell? ⟨b, off + k * 37, none⟩ = some (.int .i64 x.node) := HRX.out 0 _ rfl
      have cxv : wr.cell? ⟨b, off + k * 37 + 1, none⟩ = some (.int .u64 x.view) := HRX.out 1 _ rfl
      have cxc : wr.cell? ⟨b, off + k * 37 + 4, none⟩ = some (.int .u64 x.commit) := HRX.out 4 _ rfl
      have hwl : (CSt.of view (xs.take k)).who.length ≤ 1000 := Nat.le_trans (CSt.len view (xs.take k)) (by rw [List.length_take]; omega)
      generalize CSt.of view (xs.take k) = st at *
      by_cases hv : x.view = view
      · have hvb : (x.view != view) = false := by simp [hv]
        have HV := Lib.hid hv; clear hv
        go_wp2
        obtain ⟨wo, rfl⟩ : ∃ wo : World, wo = wr := ⟨_, rfl⟩
        go_loopw [14, 15] (fun f i wi => ∃ j n : Nat, j ≤ k ∧ i = .int .i64 j ∧ f = .bool (freshB view x.node (xs.take j)) ∧ wi = wo.drewN n) (fun _ i _ => k - (intOf i).toNat)
        case atStart => exact ⟨0, 0, Nat.zero_le _, rfl, rfl, rfl⟩
        case round =>
          obtain ⟨j, n, hj, rfl, rfl, rfl⟩ := hrel
          by_cases hjk : j < k
          · obtain ⟨y, hy⟩ : ∃ y, xs[j]? = some y := ⟨_, List.getElem?_eq_getElem (by omega)⟩
            have hts : xs.take (j + 1) = xs.take j ++ [y] := by rw [List.take_add_one, hy]; rfl
            have HF := Lib.hid (freshB_snoc view x.node (xs.take j) y)
            rw [← hts] at HF
            clear hts
            have HRY := Lib.hid (Row.vote HRO.out HW.out hy)
            clear hy
            have cyn : wo.cell? ⟨b, off + j * 37, none⟩ = some (.int .i64 y.node) := HRY.out 0 _ rfl
            have cyv : wo.cell? ⟨b, off + j * 37 + 1, none⟩ = some (.int .u64 y.view) := HRY.out 1 _ rfl
            have hj' : j < xs.length := by omega
            by_cases h1 : y.view = view
            · have h1b : (y.view == view) = true := by simp [h1]
              by_cases h2 : y.node = x.node
              · have h2b : (y.node == x.node) = true := by simp [h2]
                clear h1 h2
                go_wp2
                go_quiet (fail)
                go_wp2
                go_roundw
                case rel => exact ⟨j + 1, n + nq, by omega, by go_num, by rw [HF.out, h1b, h2b]; simp, rfl⟩
                case measure => simp [intOf]; omega
              · have h2b : (y.node == x.node) = false := by simp [h2]
                clear h1 h2
                go_wp2
                go_quiet (fail)
                go_wp2
                go_roundw
                case rel => exact ⟨j + 1, n + nq, by omega, by go_num, by rw [HF.out, h1b, h2b]; simp, rfl⟩
                case measure => simp [intOf]; omega
            · have h1b : (y.view == view) = false := by simp [h1]
              clear h1
              go_wp2
              go_quiet (fail)
              go_wp2
              go_roundw
              case rel => exact ⟨j + 1, n + nq, by omega, by go_num, by rw [HF.out, h1b]; simp, rfl⟩
              case measure => simp [intOf]; omega
          · obtain rfl : j = k := by omega
            have HI2 := Lib.hid (show Blk (wo.drewN n) w.heap.size Vote.zero.cells 28 ∧ Blk (wo.drewN n) (w.heap.size + 1) st.best.cells 28 ∧ Below w.heap.size w (wo.drewN n) from ⟨HI.out.1, HI.out.2.1, HI.out.2.2.drewN n⟩)
            have HRX2 := Lib.hid (show Row (wo.drewN n) b (off + j * 37) x.cells from HRX.out)
            have cxc2 : (wo.drewN n).cell? ⟨b, off + j * 37 + 4, none⟩ = some (.int .u64 x.commit) := cxc
            clear cxc cxv cxn HI HRX HRO
            generalize wo.drewN n = wi at *
            obtain ⟨HI, HRX⟩ : _ ∧ _ := ⟨HI2, HRX2⟩
            clear HI2 HRX2
            have HS2' := Lib.hid (show CSt.of view (xs.take (j + 1)) = ⟨if st.who = [] ∨ 0 < betterI x st.best then x else st.best, if st.commit < x.commit then x.commit else st.commit, aset x.node (.int .i64 1) st.who⟩ by rw [HS.out, CSt.step, if_pos HV.out])
            clear HS
            cases any
            · have hE : st.who = [] := by simpa using HY.out
              clear HY
              have HS2 := HS2'
              rw [if_pos (Or.inl hE)] at HS2
              clear hE HS2'
              go_wp2
              all_goals (
                refine wp_region_quiet_tail 8 (by kernel_rfl) (by kernel_rfl) ?_
                simp only [List.take_succ_cons, List.take_zero, List.drop_succ_cons, List.drop_zero]
                repeat (first
                  | ((with_reducible refine wq_load aggVote rfl ?_ ?_ HRX.out hxl ?_); exact rfl; exact rfl; simp only [Act.put, List.setIfInBounds_toArray, List.set_cons_succ, List.set_cons_zero])
                  | ((with_reducible refine wq_load aggVote rfl ?_ ?_ HI.out.2.1.row hbl ?_); exact rfl; exact rfl; simp only [Act.put, List.setIfInBounds_toArray, List.set_cons_succ, List.set_cons_zero])
                  | (go_big_quiet_step (fail)))
                refine wpQuiet_nil ?_
                intro _ hw'
                obtain ⟨nq, hw''⟩ := hw'
                subst hw'')
              all_goals (go_wp2_with (first
                | ((with_reducible refine wl_load aggVote rfl ?_ ?_ (HRX.out.drewN _) hxl ?_); exact rfl; exact rfl)
                | (refine wl_storeC aggVote rfl rfl rfl (cs := x.cells) rfl (show Blk (wi.drewN nq) _ _ _ from HI.out.2.1) hxl hbl (Vote.flat _) ?_; intro w2 hb2 hc2; have H2 := Lib.hid (And.intro hb2 hc2); clear hb2 hc2)))
              all_goals (
                go_roundw
                case rel => exact ⟨j + 1, true, by omega, by go_num, by rw [HS2.out]; simp only [aset_length, HFR.out]; simp [*], by rw [HS2.out]; first | rfl | (rw [if_pos ‹_›]) | (rw [if_neg (by omega)]), rfl, by show true = _; rw [HS2.out]; simp [aset_ne], by
                  rw [HS2.out]
                  exact ⟨Blk.chg (w := wi.drewN nq) HI.out.1 H2.out.2 (by omega), H2.out.1, Below.chg (w := wi.drewN nq) (HI.out.2.2.drewN nq) H2.out.2 (by omega)⟩⟩
                case measure => simp [intOf]; omega)
            · have hE : st.who ≠ [] := by simpa using HY.out
              clear HY
              by_cases hA : 0 < betterI x st.best
              · have hab : aboveB x st.best = true := by rw [above_better]; simp [hA]
                have HS2 := HS2'
                rw [if_pos (Or.inr hA)] at HS2
                clear hE HS2' hA
                go_wp2
                all_goals (
                  refine wp_region_quiet_tail 8 (by kernel_rfl) (by kernel_rfl) ?_
                  simp only [List.take_succ_cons, List.take_zero, List.drop_succ_cons, List.drop_zero]
                  repeat (first
                    | ((with_reducible refine wq_load aggVote rfl ?_ ?_ HRX.out hxl ?_); exact rfl; exact rfl; simp only [Act.put, List.setIfInBounds_toArray, List.set_cons_succ, List.set_cons_zero])
                    | ((with_reducible refine wq_load aggVote rfl ?_ ?_ HI.out.2.1.row hbl ?_); exact rfl; exact rfl; simp only [Act.put, List.setIfInBounds_toArray, List.set_cons_succ, List.set_cons_zero])
                    | (go_big_quiet_step (fail)))
                  refine wpQuiet_nil ?_
                  intro _ hw'
                  obtain ⟨nq, hw''⟩ := hw'
                  subst hw'')
                all_goals (go_wp2_with (first
                  | (go_at_call 18; refine (above x st.best hxw hbw _).mono ?_; rintro e w1 ⟨rfl, hb1⟩; rw [hab]; have H1 := Lib.hid (And.intro hb1 (And.intro (Blk.grow (w := wi.drewN nq) HI.out.1 hb1) (And.intro (Blk.grow (w := wi.drewN nq) HI.out.2.1 hb1) (And.intro (Row.grow (w := wi.drewN nq) HRX.out hb1) (Below.trans (HI.out.2.2.drewN nq) (Below.mono (w := wi.drewN nq) hb1 HI.out.2.2.size)))))); clear hb1)
                  | ((with_reducible refine wl_load aggVote rfl ?_ ?_ H1.out.2.2.2.1 hxl ?_); exact rfl; exact rfl)
                  | (refine wl_storeC aggVote rfl rfl rfl (cs := x.cells) rfl H1.out.2.2.1 hxl hbl (Vote.flat _) ?_; intro w2 hb2 hc2; have H2 := Lib.hid (And.intro hb2 hc2); clear hb2 hc2)))
                all_goals (
                  go_roundw
                  case rel => exact ⟨j + 1, true, by omega, by go_num, by rw [HS2.out]; simp only [aset_length, HFR.out]; simp [*], by rw [HS2.out]; first | rfl | (rw [if_pos ‹_›]) | (rw [if_neg (by omega)]), rfl, by show true = _; rw [HS2.out]; simp [aset_ne], by
                    rw [HS2.out]
                    exact ⟨H1.out.2.1.chg H2.out.2 (by omega), H2.out.1, H1.out.2.2.2.2.chg H2.out.2 (by omega)⟩⟩
                  case measure => simp [intOf]; omega)
              · have hab : aboveB x st.best = false := by rw [above_better]; simp [hA]
                have HS2 := HS2'
                rw [if_neg (fun h => h.elim hE hA)] at HS2
                clear hE HS2' hA
                go_wp2
                all_goals (
                  refine wp_region_quiet_tail 8 (by kernel_rfl) (by kernel_rfl) ?_
                  simp only [List.take_succ_cons, List.take_zero, List.drop_succ_cons, List.drop_zero]
                  repeat (first
                    | ((with_reducible refine wq_load aggVote rfl ?_ ?_ HRX.out hxl ?_); exact rfl; exact rfl; simp only [Act.put, List.setIfInBounds_toArray, List.set_cons_succ, List.set_cons_zero])
                    | ((with_reducible refine wq_load aggVote rfl ?_ ?_ HI.out.2.1.row hbl ?_); exact rfl; exact rfl; simp only [Act.put, List.setIfInBounds_toArray, List.set_cons_succ, List.set_cons_zero])
                    | (go_big_quiet_step (fail)))
                  refine wpQuiet_nil ?_
                  intro _ hw'
                  obtain ⟨nq, hw''⟩ := hw'
                  subst hw'')
                all_goals (go_wp2_with (first
                  | (go_at_call 18; refine (above x st.best hxw hbw _).mono ?_; rintro e w1 ⟨rfl, hb1⟩; rw [hab]; have H1 := Lib.hid (And.intro hb1 (And.intro (Blk.grow (w := wi.drewN nq) HI.out.1 hb1) (And.intro (Blk.grow (w := wi.drewN nq) HI.out.2.1 hb1) (And.intro (Row.grow (w := wi.drewN nq) HRX.out hb1) (Below.trans (HI.out.2.2.drewN nq) (Below.mono (w := wi.drewN nq) hb1 HI.out.2.2.size)))))); clear hb1)))
                all_goals (
                  go_roundw
                  case rel => exact ⟨j + 1, true, by omega, by go_num, by rw [HS2.out]; simp only [aset_length, HFR.out]; simp [*], by rw [HS2.out]; first | rfl | (rw [if_pos ‹_›]) | (rw [if_neg (by omega)]), rfl, by show true = _; rw [HS2.out]; simp [aset_ne], by
                    rw [HS2.out]
                    exact ⟨H1.out.2.1, H1.out.2.2.1, H1.out.2.2.2.2⟩⟩
                  case measure => simp [intOf]; omega)
      · have hvb : (x.view != view) = true := by simp [hv]
        go_wp2
        go_roundw
        case rel => exact ⟨k + 1, any, by omega, by go_num, by rw [HS.out, CSt.step, if_neg hv], by rw [HS.out, CSt.step, if_neg hv], rfl, by rw [HS.out, CSt.step, if_neg hv]; exact HY.out, by
          rw [HS.out, CSt.step, if_neg hv]
          exact HI.out⟩
        case measure => simp [intOf]; omega
    · have htk : xs.take k = xs := List.take_of_length_le (by omega)
      rw [htk] at HI
      rw [htk]
      clear htk
      have hbw := CSt.wf view xs HW.out
      generalize hst : CSt.of view xs = st at *
      have HST := Lib.hid hst; clear hst
      have hbl := Vote.len_cells hbw
      by_cases hm : (st.who.length : Int) < majI nodes
      · have hmb : decide ((st.who.length : Int) < majI nodes) = true := by simp [hm]
        go_wp2_with (first
          | (go_at_call 13; refine (majorityR _ _ hno hno').mono ?_; rintro e w' ⟨rfl, rfl⟩)
          | (refine wl_store aggVote rfl rfl rfl (cs := Vote.zero.cells) rfl HI.out.1 rfl rfl (Vote.flat _) ?_))
        refine bodyPost_ret (results_cell2 rfl aggVote rfl (HI.out.1.set_same Vote.zero.cells).row rfl) rfl ?_
        exact ⟨by unfold chooseV; rw [HST.out, if_pos hm]; rfl, HI.out.2.2.setRow (Nat.le_refl _) _⟩
      · have hmb : decide ((st.who.length : Int) < majI nodes) = false := by simp [hm]
        go_wp2_with (first
          | (go_at_call 13; refine (majorityR _ _ hno hno').mono ?_; rintro e w' ⟨rfl, rfl⟩)
          | ((with_reducible refine wl_load aggVote rfl ?_ ?_ HI.out.2.1.row hbl ?_); exact rfl; exact rfl)
          | (refine wl_store aggVote rfl rfl rfl (cs := st.best.cells) rfl HI.out.1 hbl rfl (Vote.flat _) ?_))
        refine bodyPost_ret (results_cell2 rfl aggVote rfl (HI.out.1.set_same st.best.cells).row hbl) rfl ?_
        exact ⟨by unfold chooseV; rw [HST.out, if_neg (by omega)]; rfl, HI.out.2.2.setRow (Nat.le_refl _) _⟩
theorem chooseR (xs : List Vote) (hw : ∀ x ∈ xs, x.wf) (hn : xs.length ≤ 1000) (v : Value) (view nodes : Int) (hno : -9223372036854775808 ≤ nodes) (hno' : nodes ≤ 9223372036854775807) (w : World) (hr : Sl w v xs.length (votes xs)) :
    Calls Try.prog 10 #[v, .int .u64 view, .int .i64 nodes] w fun e w' => e = .returned (chooseV view nodes xs) ∧ Below w.heap.size w w' := by
  rcases hr with ⟨rfl, h0, _⟩ | ⟨ad, cap, rfl, h0, _⟩ | ⟨b, off, cap, rfl, _, hr⟩
  · have h := chooseR_core xs hw hn none 0 view nodes hno hno' w (fun h => by omega)
    rw [h0] at h; exact h
  · have h := chooseR_core xs hw hn (some ad) cap view nodes hno hno' w (fun h => by omega)
    rw [h0] at h; exact h
  · exact chooseR_core xs hw hn (some ⟨b, off, none⟩) cap view nodes hno hno' w (fun _ => ⟨b, off, rfl, hr⟩)
end Go.Proofs.Ytoohllmhlbgamaa
