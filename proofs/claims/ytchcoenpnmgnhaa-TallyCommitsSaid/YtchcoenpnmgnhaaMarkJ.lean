/- slices.Insert of one element, at a slice that the caller owns. -/
import Derived.Test.YtchcoenpnmgnhaaMark
import Derived.Test.YtchcoenpnmgnhaaLibC
set_option linter.unusedSimpArgs false
set_option linter.unusedVariables false
namespace Go.Proofs.Ytchcoenpnmgnhaa
open Go.ChangeShapes Go.WideShapes Go.ChangeAt Go.RowKit Go.Tri

def InsPost (base : Nat) (s : Value) (n i : Nat) (xs cs : List Value) (w : World) (e : Ending) (w' : World) : Prop :=
  ∃ v', e = .returned v' ∧ w'.ownsRow base 28 2 v' (n + 1) (xs.take (i * 2) ++ cs ++ xs.drop (i * 2)) ∧ w.grownBy w' s.ownBlock

set_option maxRecDepth 100000 in
set_option maxHeartbeats 1000000 in
theorem insert_end (base : Nat) (s : Value) (n : Nat) (xs : List Value) (w : World) (hown : w.ownsRow base 28 2 s n xs) (hn : n ≤ 1000) (bv cv : Nat) (cs : List Value) (hv : Row w bv 0 cs) (hcs : cs.length = 2) (hfc : Flat cs) (hbase : base ≤ w.heap.size) :
    Calls Try.prog 24 #[s, .int .i64 n, .slice (some ⟨bv, 0, none⟩) 1 (cv + 1)] w (InsPost base s n n xs cs w) := by
  have HO := Lib.hid hown
  have hsl : ∃ p cap, s = .slice p n cap ∧ n ≤ cap ∧ (p = none → n = 0) := by
    obtain ⟨_, ⟨rfl, rfl⟩ | ⟨g, cap, cur, rfl, hb, hg, hc, hm, hs, ht⟩⟩ := hown
    · exact ⟨none, 0, rfl, Nat.le_refl _, fun _ => rfl⟩
    · exact ⟨_, _, rfl, hc, fun h => by cases h⟩
  have hxl := hown.1
  clear hown
  obtain ⟨p, cap, rfl, hc, hp⟩ := hsl
  have HV := Lib.hid (show Sl w (.slice (some ⟨bv, 0, none⟩) 1 (cv + 1)) 1 cs from .inr (.inr ⟨_, _, _, rfl, by omega, hv⟩))
  have HX := Lib.hid hxl
  have HCS := Lib.hid (show cs.length = 1 * 2 from hcs)
  have HP := Lib.hid hp
  have hc' : (n : Int) ≤ (cap : Int) := by omega
  clear hxl hp hv hcs
  have hne : ((n : Int) == (n : Int)) = true := by simp
  by_cases hcn : cap = n
  all_goals
    go_enter Try.func24, Try.ntmps24
    go_wp2_with ((with_reducible refine wl_append (base := base) elemMark rfl ?_ ?_ ?_ HO.out HV.out HCS.out hfc (by unfold maxLen; omega) (by omega) hbase ?_); exact rfl; exact rfl; exact rfl; intro v' w2 ho2 hg2; have H2 := Lib.hid (And.intro ho2 hg2); clear ho2 hg2)
    go_ret
    refine ⟨_, rfl, ?_, H2.out.2⟩
    rw [← HX.out, List.take_length, List.drop_length, List.append_nil]
    exact H2.out.1

set_option maxRecDepth 100000 in
set_option maxHeartbeats 2000000 in
theorem insert_room (base g cap n i : Nat) (xs cur : List Value) (w : World) (hb : Blk w g cur 28) (hcur : cur.length = cap * 2) (hxs : cur.take (n * 2) = xs) (hfx : Flat xs) (hbg : base ≤ g) (hm : cap ≤ maxLen)
    (hn : n ≤ 1000) (hi : i < n) (hroom : n + 1 ≤ cap) (bv cv : Nat) (cs : List Value) (tv : TypeId) (hv : Blk w bv cs tv) (hcs : cs.length = 2) (hfc : Flat cs) (hne : bv ≠ g) :
    Calls Try.prog 24 #[.slice (some ⟨g, 0, none⟩) n cap, .int .i64 i, .slice (some ⟨bv, 0, none⟩) 1 (cv + 1)] w (InsPost base (.slice (some ⟨g, 0, none⟩) n cap) n i xs cs w) := by
  have HB := Lib.hid hb; have HC := Lib.hid hcur; have HXS := Lib.hid hxs; have HV := Lib.hid hv; have HCS := Lib.hid hcs; have HM := Lib.hid hm
  clear hb hcur hxs hv hcs hm
  have e1 : ((i : Int) == (n : Int)) = false := by simp; omega
  have e2 : decide ((cap : Int) < (n : Int) + 1) = false := by simp; omega
  have hci : ¬ cap = i := by omega
  have hci1 : ¬ cap = i + 1 := by omega
  have hic : (i : Int) ≤ (n : Int) := by omega
  have hnc : (n : Int) + 1 ≤ (cap : Int) := by omega
  go_enter Try.func24, Try.ntmps24
  go_wp2
  have hcn : cs ≠ [] := fun h => by have := HCS.out; rw [h] at this; simp at this
  have hun : cur ≠ [] := fun h => by have := HC.out; rw [h] at this; simp at this; omega
  rw [run_callFunc_extern Try.func29 (by kernel_rfl) (by kernel_rfl) (by kernel_rfl) (e := Extern.SlicesOverlaps.overlaps #[22, 22] #[4]) (by kernel_rfl),
    run_overlaps elemMark HV.out HB.out hne hcn hun 4]
  clear hcn hun
  simp only [Result.andThen]
  rw [Oper.upon_value]
  go_wp2
  refine wp_region_quiet_tail 8 (by kernel_rfl) (by kernel_rfl) ?_
  simp only [List.take_succ_cons, List.take_zero, List.drop_succ_cons, List.drop_zero]
  repeat (go_big_quiet_step (fail))
  refine wpQuiet_nil ?_
  intro _ hw'
  obtain ⟨nq, hw''⟩ := hw'
  subst hw''
  have HB1 := Lib.hid (show Blk (w.drewN nq) g cur 28 from HB.out)
  have HV1 := Lib.hid (show Blk (w.drewN nq) bv cs tv from HV.out)
  have HG := Lib.hid (show w.grownBy (w.drewN nq) (some g) from ⟨rfl, rfl, rfl, Nat.le_refl _, fun _ _ _ => rfl⟩)
  generalize w.drewN nq = w1 at *
  have hl1 : xs.length = n * 2 := by rw [← HXS.out, List.length_take, HC.out]; omega
  have hdl : (xs.drop (i * 2)).length = (n - i) * 2 := by rw [List.length_drop, hl1, Nat.sub_mul]
  have hrow : Row w1 g (i * 2) (xs.drop (i * 2)) := by
    have h0 : Row w1 g 0 (xs.take (i * 2) ++ xs.drop (i * 2)) := by
      rw [List.take_append_drop, ← HXS.out]
      have := HB1.out.row
      rw [← List.take_append_drop (n * 2) cur] at this
      exact this.left
    have h1 := h0.right
    rw [List.length_take, hl1, Nat.min_eq_left (Nat.mul_le_mul_right 2 (by omega)), Nat.zero_add] at h1
    exact h1
  have HL1 := Lib.hid hl1; have HDL := Lib.hid hdl; have HROW := Lib.hid hrow
  clear hl1 hdl hrow
  have HSP := Lib.hid (splice_room cur xs cs (i * 2) (n * 2) 2 HXS.out (by rw [HC.out]; omega) (by omega) HCS.out)
  refine wl_copy elemMark rfl rfl rfl rfl HB1.out HROW.out ?_ ?_ ?_ ?_
  · rw [HDL.out]; congr 1; exact (Nat.min_eq_right (by omega)).symm
  · rw [HDL.out, HC.out, ← Nat.add_mul]; exact Nat.mul_le_mul_right 2 (by omega)
  · exact fun v hv => hfx v (List.mem_of_mem_drop hv)
  intro w2 hb2 hc2
  rw [show (i + 1) * 2 = i * 2 + 2 by omega] at hb2
  obtain ⟨C1, hC1⟩ : ∃ C1, C1 = cur.take (i * 2 + 2) ++ xs.drop (i * 2) ++ cur.drop (i * 2 + 2 + (xs.drop (i * 2)).length) := ⟨_, rfl⟩
  rw [← hC1] at hb2
  have hsp := HSP.out
  simp only [← hC1] at hsp
  have H2 := Lib.hid (And.intro hb2 (And.intro hc2 (HV1.out.chg hc2 hne).row))
  have HSP2 := Lib.hid hsp
  have HN2 := Lib.hid (show cs.length = Nat.min 1 (n + 1 - i) * 2 by rw [HCS.out, show Nat.min 1 (n + 1 - i) = 1 from Nat.min_eq_left (by omega)])
  have HF2 := Lib.hid (show i * 2 + cs.length ≤ C1.length by rw [hsp.1, HC.out, HCS.out]; omega)
  clear hb2 hc2 hsp hC1
  go_wp2_with ((with_reducible refine wl_copy (dCap := cap - i) (sCap := cv + 1) elemMark rfl ?_ ?_ ?_ H2.out.1 H2.out.2.2 HN2.out HF2.out hfc ?_); exact rfl; exact rfl; exact rfl; intro w3 hb3 hc3; have H3 := Lib.hid (And.intro hb3 hc3); clear hb3 hc3)
  go_ret
  refine ⟨_, rfl, ⟨?_, .inr ⟨g, cap, _, rfl, hbg, H3.out.1, hroom, HM.out, ?_, ?_⟩⟩, ?_⟩
  · simp only [List.length_append, List.length_take, List.length_drop, HL1.out, HCS.out]; omega
  · rw [List.size_toArray, HSP2.out.2.1, HC.out]
  · rw [show (n + 1) * 2 = n * 2 + 2 by omega]; exact HSP2.out.2.2
  · refine ⟨?_, ?_, ?_, ?_, ?_⟩
    · rw [H3.out.2.os, H2.out.2.1.os, HG.out.os]
    · rw [H3.out.2.tape, H2.out.2.1.tape, HG.out.tape]
    · rw [H3.out.2.output, H2.out.2.1.output, HG.out.output]
    · rw [H3.out.2.size, H2.out.2.1.size]; exact HG.out.size
    · intro k hk hkg
      have hkg' : k ≠ g := fun e => hkg (by rw [e]; rfl)
      rw [H3.out.2.oth k hkg', H2.out.2.1.oth k hkg']
      exact HG.out.block k hk (fun e => hkg' (by simpa using e))

set_option maxRecDepth 100000 in
set_option maxHeartbeats 2000000 in
theorem insert_grow (base g cap n i : Nat) (xs : List Value) (w : World) (hrx : Row w g 0 xs) (hxl : xs.length = n * 2) (hfx : Flat xs) (hbw : base ≤ w.heap.size) (hgw : g < w.heap.size)
    (hn : n ≤ 1000) (hi : i < n) (hcap : cap = n) (bv cv : Nat) (cs : List Value) (hv : Row w bv 0 cs) (hcs : cs.length = 2) (hfc : Flat cs) (hvw : bv < w.heap.size) :
    Calls Try.prog 24 #[.slice (some ⟨g, 0, none⟩) n cap, .int .i64 i, .slice (some ⟨bv, 0, none⟩) 1 (cv + 1)] w (InsPost base (.slice (some ⟨g, 0, none⟩) n cap) n i xs cs w) := by
  subst hcap
  have hd0 : Row w g 0 (xs.take (i * 2)) := by
    have := hrx; rw [← List.take_append_drop (i * 2) xs] at this; exact this.left
  have hd1 : Row w g (i * 2) (xs.drop (i * 2)) := by
    have := hrx; rw [← List.take_append_drop (i * 2) xs] at this
    have h1 := this.right
    rw [List.length_take, hxl, Nat.min_eq_left (Nat.mul_le_mul_right 2 (by omega)), Nat.zero_add] at h1
    exact h1
  have HD0 := Lib.hid hd0; have HD1 := Lib.hid hd1; have HXL := Lib.hid hxl; have HV := Lib.hid hv; have HCS := Lib.hid hcs
  have HLO := Lib.hid (show (xs.take (i * 2)).length = i * 2 by rw [List.length_take, hxl]; exact Nat.min_eq_left (Nat.mul_le_mul_right 2 (by omega)))
  have HDL := Lib.hid (show (xs.drop (i * 2)).length = (cap - i) * 2 by rw [List.length_drop, hxl, Nat.sub_mul])
  clear hd0 hd1 hxl hv hcs hrx
  have e1 : ((i : Int) == (cap : Int)) = false := by simp; omega
  have e2 : decide ((cap : Int) < (cap : Int) + 1) = true := by simp; omega
  have hci : ¬ cap = i := by omega
  have hc0 : ¬ cap = 0 := by omega
  have hic : (i : Int) ≤ (cap : Int) := by omega
  go_enter Try.func24, Try.ntmps24
  go_wp2_with (first
    | ((with_reducible refine wl_appendZeros (n := i) (cap := cap) (k := cap + 1 - i) (m := cap + 1) (kk := (cap : Int) + 1 - (i : Int)) elemMark Try.underlying3 rfl ?_ (by omega) (by omega) ?_ ?_ HD0.out HLO.out (by omega) (by omega) (by unfold maxLen; omega) (by omega) ?_); exact rfl; exact rfl; exact rfl; intro c rs hc1 hc2 hc3; have hci2 : ¬ c = i := (by omega); have hci3 : ¬ c = i + 1 := (by omega); have hcc : (i : Int) ≤ (c : Int) := (by omega);
        have HC := Lib.hid (And.intro hc2 (splice_grow xs cs rs (i * 2) (cap * 2) 2 (c * 2) HXL.out (by omega) (by omega) HCS.out hc3));
        have HB0 := Lib.hid (show Blk ((w.alloc (.cells (xs.take (i * 2) ++ rs).toArray 28)).drew) w.heap.size (xs.take (i * 2) ++ rs) 28 from Blk.new w _ _);
        have HVR := Lib.hid (show Row ((w.alloc (.cells (xs.take (i * 2) ++ rs).toArray 28)).drew) bv 0 cs from HV.out.alloc _);
        have HGR := Lib.hid (show Row ((w.alloc (.cells (xs.take (i * 2) ++ rs).toArray 28)).drew) g (i * 2) (xs.drop (i * 2)) from HD1.out.alloc _);
        have HBL := Lib.hid (show Below w.heap.size w ((w.alloc (.cells (xs.take (i * 2) ++ rs).toArray 28)).drew) from ((Below.refl _ _).alloc (Nat.le_refl _) _).drew);
        have HN2 := Lib.hid (show cs.length = Nat.min 1 (cap + 1 - i) * 2 by rw [HCS.out, show Nat.min 1 (cap + 1 - i) = 1 from Nat.min_eq_left (by omega)]);
        have HF2 := Lib.hid (show i * 2 + cs.length ≤ (xs.take (i * 2) ++ rs).length by rw [HC.out.2.1, HCS.out]; omega);
        clear hc2 hc3)
    | ((with_reducible refine wl_copy (dCap := c - i) (sCap := cv + 1) elemMark rfl ?_ ?_ ?_ HB0.out HVR.out HN2.out HF2.out hfc ?_); exact rfl; exact rfl; exact rfl; intro w2 hb2 hc2; have H2 := Lib.hid (And.intro hb2 (And.intro (HGR.out.chg hc2 (by omega)) (HBL.out.chg hc2 (Nat.le_refl _)))); clear hb2 hc2))
  refine wp_region_quiet_tail 8 (by kernel_rfl) (by kernel_rfl) ?_
  simp only [List.take_succ_cons, List.take_zero, List.drop_succ_cons, List.drop_zero]
  repeat (go_big_quiet_step (fail))
  refine wpQuiet_nil ?_
  intro _ hw'
  obtain ⟨nq, hw''⟩ := hw'
  subst hw''
  refine wl_copy elemMark rfl rfl rfl rfl (show Blk (w2.drewN nq) _ _ _ from H2.out.1) (show Row (w2.drewN nq) _ _ _ from H2.out.2.1) ?_ ?_ ?_ ?_
  · rw [HDL.out]; congr 1; exact (Nat.min_eq_left (by omega)).symm
  · rw [HC.out.2.2.1, HDL.out, ← Nat.add_mul]; exact Nat.mul_le_mul_right 2 (by omega)
  · exact fun v hv => hfx v (List.mem_of_mem_drop hv)
  intro w3 hb3 hc3
  rw [show (i + 1) * 2 = i * 2 + 2 by omega] at hb3
  have H3 := Lib.hid (And.intro hb3 ((H2.out.2.2.drewN nq).chg hc3 (Nat.le_refl _)))
  clear hb3 hc3
  go_wp2
  go_ret
  refine ⟨_, rfl, ⟨?_, .inr ⟨w.heap.size, c, _, rfl, hbw, H3.out.1, by omega, HC.out.1, ?_, ?_⟩⟩, ?_⟩
  · simp only [List.length_append, HLO.out, HDL.out, HCS.out]; omega
  · rw [List.size_toArray, HC.out.2.2.2.1]
  · rw [show (cap + 1) * 2 = cap * 2 + 2 by omega]; exact HC.out.2.2.2.2
  · exact ⟨H3.out.2.os, H3.out.2.tape, H3.out.2.output, H3.out.2.size, fun k hk _ => H3.out.2.block k hk⟩

/-- One element is put into a slice that the caller owns. -/
theorem insert (base : Nat) (s : Value) (n i : Nat) (xs : List Value) (w : World) (hown : w.ownsRow base 28 2 s n xs) (hfx : Flat xs) (hbase : base ≤ w.heap.size) (hn : n ≤ 1000) (hi : i ≤ n)
    (bv cv : Nat) (cs : List Value) (tv : TypeId) (hv : Blk w bv cs tv) (hcs : cs.length = 2) (hfc : Flat cs) (hne : s.ownBlock ≠ some bv) :
    Calls Try.prog 24 #[s, .int .i64 i, .slice (some ⟨bv, 0, none⟩) 1 (cv + 1)] w (InsPost base s n i xs cs w) := by
  by_cases h : i = n
  · subst h
    exact insert_end base s i xs w hown hn bv cv cs hv.row hcs hfc hbase
  · have hxl := hown.1
    obtain ⟨_, ⟨rfl, rfl⟩ | ⟨g, cap, cur, rfl, hb, hg, hc, hm, hs, ht⟩⟩ := hown
    · omega
    · have hbk : Blk w g cur.toList 28 := by unfold Blk; simpa using hg
      have hgb : bv ≠ g := fun e => hne (by simp [Value.ownBlock, e])
      by_cases hr : n + 1 ≤ cap
      · exact insert_room base g cap n i xs cur.toList w hbk (by simpa using hs) ht hfx hb hm hn (by omega) hr bv cv cs tv hv hcs hfc hgb
      · have hrow : Row w g 0 xs := by
          have := hbk.row
          rw [← List.take_append_drop (n * 2) cur.toList, ht] at this
          exact this.left
        exact insert_grow base g cap n i xs w hrow hxl hfx hbase hbk.lt hn (by omega) (by omega) bv cv cs hv.row hcs hfc hv.lt
end Go.Proofs.Ytchcoenpnmgnhaa
