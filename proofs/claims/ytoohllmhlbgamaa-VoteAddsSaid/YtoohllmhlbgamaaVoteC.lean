/- vote.Choose. -/
import Derived.Test.YtoohllmhlbgamaaVoteB
set_option linter.unusedSimpArgs false
set_option linter.unusedVariables false
namespace Go.Proofs.Ytoohllmhlbgamaa
open Go.ChangeShapes Go.WideShapes Go.ChangeAt Go.RowKit Go.Tri

def majI (n : Int) : Int := if n < 1 then 1 else n / 2 + 1
theorem majority (n : Int) (w : World) (h : -9223372036854775808 ≤ n) (h' : n ≤ 9223372036854775807) :
    Calls Try.prog 11 #[.int .i64 n] w fun e w' => e = .returned (.int .i64 (majI n)) ∧ w = w' := by
  by_cases c : n < 1
  · by_cases c0 : n = 0
    · subst c0
      go_enter Try.func11, Try.ntmps11
      go_wp2
      all_goals (go_ret; exact ⟨by simp [majI], rfl⟩)
    · have h1 : n < 0 := by omega
      go_enter Try.func11, Try.ntmps11
      go_wp2
      all_goals (go_ret; exact ⟨by simp [majI, c], rfl⟩)
  · have h1 : 0 < n := by omega
    go_enter Try.func11, Try.ntmps11
    go_wp2
    all_goals (go_ret; exact ⟨by simp [majI, show ¬ n < 1 by omega], rfl⟩)

theorem Vote.zero_wf : Vote.zero.wf := ⟨rfl, rfl, rfl, rfl, rfl, rfl⟩

/-- What Choose knows behind some votes. -/
structure CSt where
  best : Vote
  commit : Int
  who : List (Int × Value)
def CSt.step (view : Int) (s : CSt) (x : Vote) : CSt :=
  if x.view = view then ⟨if s.who = [] ∨ 0 < betterI x s.best then x else s.best, if s.commit < x.commit then x.commit else s.commit, aset x.node (.int .i64 1) s.who⟩ else s
def CSt.of (view : Int) (xs : List Vote) : CSt := xs.foldl (CSt.step view) ⟨Vote.zero, 0, []⟩
theorem CSt.of_snoc (view : Int) (xs : List Vote) (x : Vote) : CSt.of view (xs ++ [x]) = (CSt.of view xs).step view x := by simp [CSt.of]
/-- What Choose returns. -/
def chooseV (view nodes : Int) (xs : List Vote) : Value :=
  if ((CSt.of view xs).who.length : Int) < majI nodes then .tuple #[.agg Vote.zero.cells.toArray, .int .u64 0, .bool false]
  else .tuple #[.agg (CSt.of view xs).best.cells.toArray, .int .u64 (CSt.of view xs).commit, .bool true]
def votes (xs : List Vote) : List Value := xs.flatMap Vote.cells
theorem votes_at : ∀ (xs : List Vote) (k : Nat) (x : Vote), (∀ y ∈ xs, y.wf) → xs[k]? = some x → ((votes xs).drop (k * 37)).take 37 = x.cells
  | [], k, x, _, h => by simp at h
  | y :: ys, 0, x, hw, h => by
    simp at h; subst h
    have := Vote.len_cells (hw y (by simp))
    simp [votes, this]
  | y :: ys, k + 1, x, hw, h => by
    have := Vote.len_cells (hw y (by simp))
    have ih := votes_at ys k x (fun z hz => hw z (by simp [hz])) (by simpa using h)
    rw [← ih]
    simp only [votes, List.flatMap_cons]
    rw [show (k + 1) * 37 = y.cells.length + k * 37 by omega, ← List.drop_drop]
    simp
theorem Row.vote {w : World} {b off : Nat} {xs : List Vote} {k : Nat} {x : Vote} (h : Row w b off (votes xs)) (hw : ∀ y ∈ xs, y.wf) (hk : xs[k]? = some x) : Row w b (off + k * 37) x.cells := by
  have := h.sub (k * 37) 37
  rwa [votes_at xs k x hw hk] at this

set_option maxRecDepth 100000 in
set_option maxHeartbeats 1000000 in
theorem choose_core (xs : List Vote) (hw : ∀ x ∈ xs, x.wf) (hn : xs.length ≤ 1000) (p : Option Addr) (cap : Nat) (view nodes : Int) (hno : -9223372036854775808 ≤ nodes) (hno' : nodes ≤ 9223372036854775807) (w : World) (hr : 0 < xs.length → ∃ b off, p = some ⟨b, off, none⟩ ∧ Row w b off (votes xs)) :
    Calls Try.prog 9 #[.slice p xs.length cap, .int .u64 view, .int .i64 nodes] w fun e w' =>
      e = .returned (chooseV view nodes xs) ∧ Below w.heap.size w w' := by
  have HR := Lib.hid hr; clear hr
  have HW := Lib.hid hw; clear hw
  go_enter Try.func9, Try.ntmps9
  have hmm := @run_makeMap Try.prog
  go_wp2_with (first | ((with_reducible refine wl_alloc aggVote rfl ?_ ?_); exact rfl))
  have hb0 : Blk ((w.alloc (.cells Vote.zero.cells.toArray 28)).alloc (.map #[] 0)) w.heap.size Vote.zero.cells 28 := (Blk.new w _ _).alloc _
  have hm0 : MapB ((w.alloc (.cells Vote.zero.cells.toArray 28)).alloc (.map #[] 0)) (w.heap.size + 1) (ikv .i64 []) := by
    have := MapB.new (w.alloc (.cells Vote.zero.cells.toArray 28)); rw [World.size_alloc] at this; exact this
  have hB0 : Below w.heap.size w ((w.alloc (.cells Vote.zero.cells.toArray 28)).alloc (.map #[] 0)) := ((Below.refl _ _).alloc (Nat.le_refl _) _).alloc (by simp) _
  generalize (w.alloc (.cells Vote.zero.cells.toArray 28)).alloc (.map #[] 0) = w0 at *
  have HB0 := Lib.hid hb0; have HM0 := Lib.hid hm0; have HBB := Lib.hid hB0; clear hb0 hm0 hB0
  go_loopw [7, 15] (fun c i wr => ∃ k : Nat, k ≤ xs.length ∧ i = .int .i64 k ∧ c = .int .u64 (CSt.of view (xs.take k)).commit ∧ Hid ((CSt.of view (xs.take k)).best.wf ∧ MapB wr (w.heap.size + 1) (ikv .i64 (CSt.of view (xs.take k)).who) ∧ Blk wr w.heap.size (CSt.of view (xs.take k)).best.cells 28 ∧ Below w.heap.size w wr)) (fun _ i _ => xs.length - (intOf i).toNat)
  case atStart => exact ⟨0, Nat.zero_le _, rfl, rfl, Vote.zero_wf, HM0.out, HB0.out, HBB.out⟩
  case round =>
    obtain ⟨k, hk, rfl, rfl, HI⟩ := hrel
    clear HB0 HM0 HBB
    by_cases hlt : k < xs.length
    · obtain ⟨b, off, rfl, hrb⟩ := HR.out (by omega)
      have HRB := Lib.hid hrb; clear hrb
      obtain ⟨x, hx⟩ : ∃ x, xs[k]? = some x := ⟨_, List.getElem?_eq_getElem hlt⟩
      have hxw : x.wf := HW.out x (List.mem_of_getElem? hx)
      have hts : xs.take (k + 1) = xs.take k ++ [x] := by rw [List.take_add_one, hx]; rfl
      have HS := Lib.hid (show CSt.of view (xs.take (k + 1)) = (CSt.of view (xs.take k)).step view x by rw [hts, CSt.of_snoc])
      clear hts
      generalize hst : CSt.of view (xs.take k) = st at *
      clear hst
      have HX := Lib.hid hx; clear hx
      have HRO := Lib.hid ((Row.vote HRB.out HW.out HX.out).grow HI.out.2.2.2)
      have x0 : x.cells[0]? = some (.int .i64 x.node) := rfl
      have x1 : x.cells[1]? = some (.int .u64 x.view) := rfl
      have x4 : x.cells[4]? = some (.int .u64 x.commit) := rfl
      by_cases hv : x.view = view
      · have hvb : (x.view != view) = false := by simp [hv]
        have HV := Lib.hid hv; clear hv
        have hbl := Vote.len_cells HI.out.1
        have hBe := HI.out.2.2.2.alloc (HI.out.2.2.2.size) (.cells x.cells.toArray 28)
        have hsz := HI.out.2.2.1.lt
        have hsz1 := HI.out.2.1.lt
        have HBE := Lib.hid hBe; clear hBe
        have HXN := Lib.hid (Blk.new wr x.cells 28)
        by_cases hcase : st.who = []
        · have hl0 : ((st.who.length : Int) == 0) = true := by simp [hcase]
          have HS2 := Lib.hid (show (CSt.of view (xs.take (k + 1))) = ⟨x, if st.commit < x.commit then x.commit else st.commit, aset x.node (.int .i64 1) st.who⟩ by rw [HS.out, CSt.step, if_pos HV.out, if_pos (.inl hcase)])
          clear hcase
          go_wp2_with (first
            | ((with_reducible refine wl_load aggVote rfl ?_ ?_ HRO.out (Vote.len_cells hxw) ?_); exact rfl; exact rfl)
            | ((with_reducible refine wl_load aggVote rfl ?_ ?_ (Row.new _ _ _ _) (Vote.len_cells hxw) ?_); exact rfl; exact rfl)
            | (refine wl_load aggVote rfl rfl rfl (HI.out.2.2.1.alloc _).row hbl ?_)
            | ((with_reducible refine wl_alloc aggVote rfl ?_ ?_); exact rfl)
            | (refine wl_store aggVote rfl rfl rfl rfl (Blk.new _ _ _) (Vote.len_cells hxw) rfl (Vote.flat _) ?_; rw [setRow_alloc])
            | (refine wl_lenMapI Try.underlying38 rfl rfl rfl (HI.out.2.1.alloc _) ?_)
            | (refine wl_storeC aggVote rfl rfl rfl (cs := x.cells) rfl (HI.out.2.2.1.alloc _) (Vote.len_cells hxw) hbl (Vote.flat _) ?_; intro w2 hb2 hc2; have H2 := Lib.hid (And.intro hb2 (And.intro hc2 (HXN.out.chg hc2 (by omega)))); have cx2 := H2.out.2.2.cell; clear hb2 hc2)
            | (refine wl_mapUpdate Try.underlying38 Try.underlying3 rfl rfl rfl rfl rfl ((HI.out.2.1.alloc _).chg H2.out.2.1 (by omega)) ?_; intro w3 hm3 hc3; have H3 := Lib.hid (And.intro hm3 hc3); have cx3 := (H2.out.2.2.chg hc3 (by omega)).cell; clear hm3 hc3))
          go_roundw
          case rel => exact ⟨k + 1, by omega, by go_num, by rw [HS2.out], by
            rw [HS2.out]
            exact ⟨hxw, H3.out.1, H2.out.1.chg H3.out.2 (by omega), (HBE.out.chg H2.out.2.1 (Nat.le_refl _)).chg H3.out.2 (by omega)⟩⟩
          case measure => simp [intOf]; omega
        · have hl0 : ((st.who.length : Int) == 0) = false := by
            have : st.who.length ≠ 0 := fun h => hcase (List.length_eq_zero_iff.1 h)
            simp; exact hcase
          by_cases hbt : 0 < betterI x st.best
          · have hbb : decide (0 < betterI x st.best) = true := by simp [hbt]
            have HS2 := Lib.hid (show (CSt.of view (xs.take (k + 1))) = ⟨x, if st.commit < x.commit then x.commit else st.commit, aset x.node (.int .i64 1) st.who⟩ by rw [HS.out, CSt.step, if_pos HV.out, if_pos (.inr hbt)])
            clear hcase
            go_wp2_with (first
            | ((with_reducible refine wl_load aggVote rfl ?_ ?_ HRO.out (Vote.len_cells hxw) ?_); exact rfl; exact rfl)
            | ((with_reducible refine wl_load aggVote rfl ?_ ?_ (Row.new _ _ _ _) (Vote.len_cells hxw) ?_); exact rfl; exact rfl)
            | (refine wl_load aggVote rfl rfl rfl (HI.out.2.2.1.alloc _).row hbl ?_)
            | ((with_reducible refine wl_load aggVote rfl ?_ ?_ H1.out.2.2.2.row (Vote.len_cells hxw) ?_); exact rfl; exact rfl)
            | ((with_reducible refine wl_alloc aggVote rfl ?_ ?_); exact rfl)
            | (refine wl_store aggVote rfl rfl rfl rfl (Blk.new _ _ _) (Vote.len_cells hxw) rfl (Vote.flat _) ?_; rw [setRow_alloc])
            | (refine wl_lenMapI Try.underlying38 rfl rfl rfl (HI.out.2.1.alloc _) ?_)
            | (go_at_call 17; refine (better x st.best hxw HI.out.1 _).mono ?_; rintro e w1 ⟨rfl, hb1⟩; have H1 := Lib.hid (And.intro hb1 (And.intro ((HI.out.2.1.alloc _).grow hb1) (And.intro ((HI.out.2.2.1.alloc _).grow hb1) (HXN.out.grow hb1)))); have hs1 := hb1.size; rw [World.size_alloc] at hs1; clear hb1)
            | (refine wl_storeC aggVote rfl rfl rfl (cs := x.cells) rfl H1.out.2.2.1 (Vote.len_cells hxw) hbl (Vote.flat _) ?_; intro w2 hb2 hc2; have H2 := Lib.hid (And.intro hb2 (And.intro hc2 (H1.out.2.2.2.chg hc2 (by omega)))); have cx2 := H2.out.2.2.cell; clear hb2 hc2)
            | (refine wl_mapUpdate Try.underlying38 Try.underlying3 rfl rfl rfl rfl rfl (H1.out.2.1.chg H2.out.2.1 (by omega)) ?_; intro w3 hm3 hc3; have H3 := Lib.hid (And.intro hm3 hc3); have cx3 := (H2.out.2.2.chg hc3 (by omega)).cell; clear hm3 hc3))
            go_roundw
            case rel => exact ⟨k + 1, by omega, by go_num, by rw [HS2.out], by
              rw [HS2.out]
              exact ⟨hxw, H3.out.1, H2.out.1.chg H3.out.2 (by omega), ((HBE.out.trans (H1.out.1.mono (by simp; omega))).chg H2.out.2.1 (Nat.le_refl _)).chg H3.out.2 (by omega)⟩⟩
            case measure => simp [intOf]; omega
          · have hbb : decide (0 < betterI x st.best) = false := by simp [hbt]
            have HS2 := Lib.hid (show (CSt.of view (xs.take (k + 1))) = ⟨st.best, if st.commit < x.commit then x.commit else st.commit, aset x.node (.int .i64 1) st.who⟩ by rw [HS.out, CSt.step, if_pos HV.out, if_neg (fun h => h.elim hcase hbt)])
            clear hcase
            go_wp2_with (first
            | ((with_reducible refine wl_load aggVote rfl ?_ ?_ HRO.out (Vote.len_cells hxw) ?_); exact rfl; exact rfl)
            | ((with_reducible refine wl_load aggVote rfl ?_ ?_ (Row.new _ _ _ _) (Vote.len_cells hxw) ?_); exact rfl; exact rfl)
            | (refine wl_load aggVote rfl rfl rfl (HI.out.2.2.1.alloc _).row hbl ?_)
            | ((with_reducible refine wl_alloc aggVote rfl ?_ ?_); exact rfl)
            | (refine wl_store aggVote rfl rfl rfl rfl (Blk.new _ _ _) (Vote.len_cells hxw) rfl (Vote.flat _) ?_; rw [setRow_alloc])
            | (refine wl_lenMapI Try.underlying38 rfl rfl rfl (HI.out.2.1.alloc _) ?_)
            | (go_at_call 17; refine (better x st.best hxw HI.out.1 _).mono ?_; rintro e w1 ⟨rfl, hb1⟩; have H1 := Lib.hid (And.intro hb1 (And.intro ((HI.out.2.1.alloc _).grow hb1) (And.intro ((HI.out.2.2.1.alloc _).grow hb1) (HXN.out.grow hb1)))); have hs1 := hb1.size; rw [World.size_alloc] at hs1; have cx2 := H1.out.2.2.2.cell; clear hb1)
            | (refine wl_mapUpdate Try.underlying38 Try.underlying3 rfl rfl rfl rfl rfl H1.out.2.1 ?_; intro w3 hm3 hc3; have H3 := Lib.hid (And.intro hm3 hc3); have cx3 := (H1.out.2.2.2.chg hc3 (by omega)).cell; clear hm3 hc3))
            go_roundw
            case rel => exact ⟨k + 1, by omega, by go_num, by rw [HS2.out], by
              rw [HS2.out]
              exact ⟨HI.out.1, H3.out.1, H1.out.2.2.1.chg H3.out.2 (by omega), (HBE.out.trans (H1.out.1.mono (by simp; omega))).chg H3.out.2 (by omega)⟩⟩
            case measure => simp [intOf]; omega
      · have hvb : (x.view != view) = true := by simp [hv]
        go_wp2_with (first
          | ((with_reducible refine wl_load aggVote rfl ?_ ?_ HRO.out (Vote.len_cells hxw) ?_); exact rfl; exact rfl)
          | ((with_reducible refine wl_alloc aggVote rfl ?_ ?_); exact rfl)
          | (refine wl_store aggVote rfl rfl rfl rfl (Blk.new _ _ _) (Vote.len_cells hxw) rfl (Vote.flat _) ?_; rw [setRow_alloc]))
        go_roundw
        case rel => exact ⟨k + 1, by omega, by go_num, by rw [HS.out, CSt.step, if_neg hv], by
          rw [HS.out, CSt.step, if_neg hv]
          exact ⟨HI.out.1, HI.out.2.1.alloc _, HI.out.2.2.1.alloc _, HI.out.2.2.2.alloc (HI.out.2.2.2.size) _⟩⟩
        case measure => simp [intOf]; omega
    · have htk : xs.take k = xs := List.take_of_length_le (by omega)
      rw [htk] at HI
      rw [htk]
      clear htk
      generalize hst : CSt.of view xs = st at *
      have HST := Lib.hid hst; clear hst
      have hbl := Vote.len_cells HI.out.1
      by_cases hm : (st.who.length : Int) < majI nodes
      · have hmb : decide ((st.who.length : Int) < majI nodes) = true := by simp [hm]
        go_wp2_with (first
          | (refine wl_lenMapI Try.underlying38 rfl rfl rfl HI.out.2.1 ?_)
          | (go_at_call 11; refine (majority _ _ hno hno').mono ?_; rintro e w' ⟨rfl, rfl⟩)
          | (refine wl_store aggVote rfl rfl rfl (cs := Vote.zero.cells) rfl HI.out.2.2.1 rfl hbl (Vote.flat _) ?_))
        refine bodyPost_ret (results_cell2 rfl aggVote rfl (HI.out.2.2.1.set_same Vote.zero.cells).row rfl) rfl ?_
        exact ⟨by unfold chooseV; rw [HST.out, if_pos hm]; rfl, HI.out.2.2.2.setRow (Nat.le_refl _) _⟩
      · have hmb : decide ((st.who.length : Int) < majI nodes) = false := by simp [hm]
        go_wp2_with (first
          | (refine wl_lenMapI Try.underlying38 rfl rfl rfl HI.out.2.1 ?_)
          | (go_at_call 11; refine (majority _ _ hno hno').mono ?_; rintro e w' ⟨rfl, rfl⟩)
          | ((with_reducible refine wl_load aggVote rfl ?_ ?_ HI.out.2.2.1.row hbl ?_); exact rfl; exact rfl)
          | (refine wl_store aggVote rfl rfl rfl (cs := st.best.cells) rfl HI.out.2.2.1 hbl hbl (Vote.flat _) ?_))
        refine bodyPost_ret (results_cell2 rfl aggVote rfl (HI.out.2.2.1.set_same st.best.cells).row hbl) rfl ?_
        exact ⟨by unfold chooseV; rw [HST.out, if_neg (by omega)]; rfl, HI.out.2.2.2.setRow (Nat.le_refl _) _⟩
theorem choose (xs : List Vote) (hw : ∀ x ∈ xs, x.wf) (hn : xs.length ≤ 1000) (v : Value) (view nodes : Int) (hno : -9223372036854775808 ≤ nodes) (hno' : nodes ≤ 9223372036854775807) (w : World) (hr : Sl w v xs.length (votes xs)) :
    Calls Try.prog 9 #[v, .int .u64 view, .int .i64 nodes] w fun e w' => e = .returned (chooseV view nodes xs) ∧ Below w.heap.size w w' := by
  rcases hr with ⟨rfl, h0, _⟩ | ⟨ad, cap, rfl, h0, _⟩ | ⟨b, off, cap, rfl, _, hr⟩
  · have h := choose_core xs hw hn none 0 view nodes hno hno' w (fun h => by omega)
    rw [h0] at h; exact h
  · have h := choose_core xs hw hn (some ad) cap view nodes hno hno' w (fun h => by omega)
    rw [h0] at h; exact h
  · exact choose_core xs hw hn (some ⟨b, off, none⟩) cap view nodes hno hno' w (fun _ => ⟨b, off, rfl, hr⟩)
end Go.Proofs.Ytoohllmhlbgamaa
