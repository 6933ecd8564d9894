/- The walk of VoteOrder. -/
import Derived.Test.YtoohllmhlbgamaaVoteH
import Derived.Test.YtoohllmhlbgamaaVoteP
import Derived.Test.YtoohllmhlbgamaaLibS
set_option linter.unusedSimpArgs false
set_option linter.unusedVariables false
namespace Go.Proofs.Ytoohllmhlbgamaa
open Go.ChangeShapes Go.WideShapes Go.ChangeAt Go.RowKit Go.Tri

theorem chooseV_form2 (view nodes : Int) (xs : List Vote) (hw : ∀ x ∈ xs, x.wf) : ∃ (y : Vote) (c : Int) (ok : Bool), y.wf ∧ chooseV view nodes xs = .tuple #[.agg y.cells.toArray, .int .u64 c, .bool ok] ∧
    (ok = true → ∀ x ∈ xs, x.view = view → x.normal ≤ y.normal ∧ (x.normal = y.normal → x.gen ≤ y.gen) ∧ x.commit ≤ c) := by
  unfold chooseV
  split
  · exact ⟨_, _, _, Vote.zero_wf, rfl, by simp⟩
  · refine ⟨_, _, _, CSt.wf view xs hw, rfl, fun _ x hx hv => ?_⟩
    have A := CSt.spec view xs
    have h1 := (A.top x hx hv).1
    unfold Abv at h1
    exact ⟨by omega, fun e => by
      by_cases h : (CSt.of view xs).best.gen < x.gen
      · exact absurd (.inr ⟨e, .inl h⟩) h1
      · omega, A.commit x hx hv⟩
theorem rev_at (xs : List Vote) (k : Nat) (hk : k < xs.length) (x : Vote) (hx : xs[xs.length - 1 - k]? = some x) : xs.reverse.take (k + 1) = xs.reverse.take k ++ [x] := by
  have : xs.reverse[k]? = some x := by rw [List.getElem?_reverse hk]; exact hx
  rw [List.take_add_one, this]; rfl
theorem votes_snoc (xs : List Vote) (x : Vote) : votes (xs ++ [x]) = votes xs ++ x.cells := by simp [votes]

set_option maxRecDepth 100000 in
set_option maxHeartbeats 2000000 in
theorem order (xs : List Vote) (hw : ∀ x ∈ xs, x.wf) (hm : xs.length ≤ 9223372036854775807) (v : Value) (view nodes : Int) (hno : -9223372036854775808 ≤ nodes) (hno' : nodes ≤ 9223372036854775807) (w : World) (hr : Sl w v xs.length (votes xs)) :
    Calls Try.prog 4 #[v, .int .u64 view, .int .i64 nodes] w fun e w' => e = .returned (.bool true) ∧ Below w.heap.size w w' := by
  obtain ⟨p, cap, rfl, hrp⟩ : ∃ p cap, v = .slice p xs.length cap ∧ (0 < xs.length → ∃ b off, p = some ⟨b, off, none⟩ ∧ Row w b off (votes xs)) := by
    rcases hr with ⟨rfl, h0, _⟩ | ⟨ad, cap, rfl, h0, _⟩ | ⟨b, off, cap, rfl, _, hr⟩
    · exact ⟨none, 0, by rw [h0], by omega⟩
    · exact ⟨some ad, cap, by rw [h0], by omega⟩
    · exact ⟨_, _, rfl, fun _ => ⟨b, off, rfl, hr⟩⟩
  have HRP := Lib.hid hrp; clear hrp
  have HR := Lib.hid hr; have HW := Lib.hid hw; clear hr hw
  obtain ⟨y, c, ok, hy, hcv, htop⟩ := chooseV_form2 view nodes xs HW.out
  have HCV := Lib.hid hcv; have HTOP := Lib.hid htop; clear hcv htop
  have hyl := Vote.len_cells hy
  by_cases hlen : 50 < xs.length
  · have hlb : decide (50 < (xs.length : Int)) = true := by simp; omega
    go_enter Try.func4, Try.ntmps4
    go_wp2_with (go_at_call 8; refine (speaks _).mono ?_; rintro e w1 ⟨rfl, hb1⟩; have H1 := Lib.hid hb1; clear hb1)
    go_ret
    exact ⟨rfl, H1.out⟩
  · have hlb : decide (50 < (xs.length : Int)) = false := by simp; omega
    have hl50 : xs.length ≤ 50 := by omega
    go_enter Try.func4, Try.ntmps4
    go_wp2_with (go_at_call 8; refine (speaks _).mono ?_; rintro e w1 ⟨rfl, hb1⟩; have H1 := Lib.hid hb1; clear hb1)
    have H2 := Lib.hid (And.intro (ownsRow_empty w1 w.heap.size 28 37 H1.out.size) (H1.out.alloc H1.out.size (.cells #[] 28)))
    generalize w1.alloc (.cells #[] 28) = w2 at *
    go_loopw [7, 8] (fun t i wr => ∃ j : Nat, j ≤ xs.length ∧ i = .int .i64 ((j : Int) - 1) ∧ Hid (wr.ownsRow w.heap.size 28 37 t (xs.length - j) (votes (xs.reverse.take (xs.length - j))) ∧ Below w.heap.size w wr)) (fun _ i _ => (intOf i + 1).toNat)
    case atStart => exact ⟨xs.length, Nat.le_refl _, rfl, by rw [Nat.sub_self]; exact H2.out⟩
    case round =>
      obtain ⟨j, hj, rfl, HI⟩ := hrel
      clear H2
      cases j with
      | succ j =>
        have e1 : ((j + 1 : Nat) : Int) - 1 = (j : Int) := by omega
        rw [e1]
        clear e1
        obtain ⟨b, off, rfl, hrb⟩ := HRP.out (by omega)
        obtain ⟨x, hx⟩ : ∃ x, xs[j]? = some x := ⟨_, List.getElem?_eq_getElem (by omega)⟩
        have hxw : x.wf := HW.out x (List.mem_of_getElem? hx)
        have hxl := Vote.len_cells hxw
        have HRX := Lib.hid (Row.vote (hrb.grow HI.out.2) HW.out hx)
        have HREV := Lib.hid (rev_at xs (xs.length - (j + 1)) (by omega) x (by rw [show xs.length - 1 - (xs.length - (j + 1)) = j by omega]; exact hx))
        clear hx hrb
        have hjl : j < xs.length := by omega
        have hxl1 : x.cells.length = 1 * 37 := hxl
        have HSRC := Lib.hid (show Sl (wr.alloc (.cells x.cells.toArray 28)) (.slice (some ⟨wr.heap.size, 0, none⟩) 1 1) 1 x.cells from .inr (.inr ⟨_, _, _, rfl, Nat.le_refl _, Row.new _ _ _ _⟩))
        go_wp2_with (first
          | ((with_reducible refine wl_load aggVote rfl ?_ ?_ HRX.out hxl ?_); exact rfl; exact rfl)
          | ((with_reducible refine wl_buildSlice1 aggVote elemVote rfl ?_ ?_ hxl ?_ ?_); exact rfl; exact rfl; decide)
          | ((with_reducible refine wl_append (base := w.heap.size) elemVote rfl ?_ ?_ ?_ (HI.out.1.alloc _) HSRC.out hxl1 (Vote.flat x) (by unfold maxLen; omega) (by omega) (by have := HI.out.2.size; simp; omega) ?_); exact rfl; exact rfl; exact rfl; intro v' w4 ho4 hg4; have H4 := Lib.hid (And.intro ho4 ((HI.out.2.alloc HI.out.2.size (.cells x.cells.toArray 28)).grownNew hg4 (fun k hk => (HI.out.1.lt k hk).1))); clear ho4 hg4))
        go_roundw
        case rel => exact ⟨j, by omega, rfl, by
          have e : xs.length - j = xs.length - (j + 1) + 1 := by omega
          rw [e, HREV.out, votes_snoc]; exact H4.out⟩
        case measure => simp [intOf]
      | zero =>
        have hneg : decide ((0 : Int) ≤ ((0 : Nat) : Int) - 1) = false := by decide
        rw [Nat.sub_zero, List.take_of_length_le (by simp)] at HI
        have hrvw : ∀ x ∈ xs.reverse, x.wf := fun x hx => HW.out x (List.mem_reverse.1 hx)
        have HRVW := Lib.hid hrvw; clear hrvw
        have HSAME := Lib.hid ((chooseV_same view nodes xs.reverse xs (fun x => List.mem_reverse)).trans HCV.out)
        have HSL := Lib.hid (ownsRow_sl HI.out.1)
        go_wp2_with (fail)
        refine (choose xs HW.out (by omega) _ view nodes hno hno' _ (HR.out.grow HI.out.2)).mono ?_
        rintro e w3 ⟨rfl, hb3⟩
        rw [HCV.out]
        have H3 := Lib.hid (And.intro (HI.out.2.trans (hb3.mono HI.out.2.size)) (HSL.out.grow hb3))
        clear hb3
        go_wp2_with (first
          | ((with_reducible refine wl_alloc aggVote rfl ?_ ?_); exact rfl)
          | ((with_reducible refine wl_store (cs := y.cells) aggVote rfl ?_ ?_ ?_ (Blk.new _ _ _) hyl ?_ ?_ ?_); exact rfl; exact rfl; exact rfl; exact rfl; exact Vote.flat _; rw [setRow_alloc]))
        have hrl : xs.reverse.length = xs.length := by simp
        refine (choose xs.reverse HRVW.out (by simp; omega) _ view nodes hno hno' _ (by rw [hrl]; exact H3.out.2.alloc _)).mono ?_
        clear hrl
        rintro e w4 ⟨rfl, hb4⟩
        rw [HSAME.out]
        have H4 := Lib.hid (And.intro ((H3.out.1.alloc H3.out.1.size (.cells y.cells.toArray 28)).trans (hb4.mono (by have := H3.out.1.size; simp; omega))) ((Blk.new w3 y.cells 28).grow hb4))
        clear hb4
        go_wp2_with (first
          | ((with_reducible refine wl_alloc aggVote rfl ?_ ?_); exact rfl)
          | ((with_reducible refine wl_load aggVote rfl ?_ ?_ (H4.out.2.alloc _).row hyl ?_); exact rfl; exact rfl)
          | ((with_reducible refine wl_load aggVote rfl ?_ ?_ (Blk.new _ _ _).row hyl ?_); exact rfl; exact rfl)
          | ((with_reducible refine wl_neAgg (r := .bool false) rfl ?_ ?_ ?_ (run_eq_vote y y hy hy _ _ _ true (by simp)).2 ?_); exact rfl; exact rfl; exact rfl)
          | ((with_reducible refine wl_store (cs := y.cells) aggVote rfl ?_ ?_ ?_ (Blk.new _ _ _) hyl ?_ ?_ ?_); exact rfl; exact rfl; exact rfl; exact rfl; exact Vote.flat _; rw [setRow_alloc]))
        have H5 := Lib.hid (And.intro (H4.out.1.alloc H4.out.1.size (.cells y.cells.toArray 28)) (H4.out.2.alloc (.cells y.cells.toArray 28)))
        generalize w4.alloc (.cells y.cells.toArray 28) = w5 at *
        go_loopw [68] (fun i wr => ∃ k : Nat, k ≤ xs.length ∧ i = .int .i64 k ∧ Hid (Below w.heap.size w wr ∧ Blk wr w3.heap.size y.cells 28)) (fun i _ => xs.length - (intOf i).toNat)
        case atStart => exact ⟨0, Nat.zero_le _, rfl, H5.out⟩
        case round =>
          obtain ⟨k, hk, rfl, HJ⟩ := hrel
          clear H5 H4 H3 HI HSL
          by_cases hlt : k < xs.length
          · obtain ⟨b, off, rfl, hrb⟩ := HRP.out (by omega)
            obtain ⟨x, hx⟩ : ∃ x, xs[k]? = some x := ⟨_, List.getElem?_eq_getElem hlt⟩
            have hxm := List.mem_of_getElem? hx
            have hxw : x.wf := HW.out x hxm
            have HXL := Lib.hid (Vote.len_cells hxw)
            have HRX := Lib.hid (Row.vote (hrb.grow HJ.out.1) HW.out hx)
            have HT := Lib.hid (fun h => HTOP.out h x hxm)
            clear hx hrb hxm
            have x1 : x.cells[1]? = some (.int .u64 x.view) := rfl
            have x2 : x.cells[2]? = some (.int .u64 x.normal) := rfl
            have x3 : x.cells[3]? = some (.int .u64 x.gen) := rfl
            have x4 : x.cells[4]? = some (.int .u64 x.commit) := rfl
            have y2 : wr.cell? ⟨w3.heap.size, 2, none⟩ = some (.int .u64 y.normal) := HJ.out.2.cell 2
            have y3 : wr.cell? ⟨w3.heap.size, 3, none⟩ = some (.int .u64 y.gen) := HJ.out.2.cell 3
            have hlt3 := HJ.out.2.lt
            cases ok with
            | false =>
              go_wp2_with (first
                | ((with_reducible refine wl_alloc aggVote rfl ?_ ?_); exact rfl)
                | ((with_reducible refine wl_load aggVote rfl ?_ ?_ HRX.out HXL.out ?_); exact rfl; exact rfl)
                | ((with_reducible refine wl_store (cs := x.cells) aggVote rfl ?_ ?_ ?_ (Blk.new _ _ _) HXL.out ?_ ?_ ?_); exact rfl; exact rfl; exact rfl; exact rfl; exact Vote.flat _; rw [setRow_alloc]))
              go_roundw
              case rel => exact ⟨k + 1, by omega, by go_num, HJ.out.1.alloc HJ.out.1.size _, HJ.out.2.alloc _⟩
              case measure => simp [intOf]; omega
            | true =>
              by_cases hv : x.view = view
              · have hvb : (x.view == view) = true := by simp [hv]
                have ht := HT.out rfl hv
                clear hv
                have b1 : decide (y.normal < x.normal) = false := by simp; omega
                have b2 : decide (c < x.commit) = false := by simp; omega
                by_cases hn : x.normal = y.normal
                · have hnb : (x.normal == y.normal) = true := by simp [hn]
                  have b3 : decide (y.gen < x.gen) = false := by have := ht.2.1 hn; simp; omega
                  clear hn ht
                  go_wp2_with (first
                    | ((with_reducible refine wl_alloc aggVote rfl ?_ ?_); exact rfl)
                    | ((with_reducible refine wl_load aggVote rfl ?_ ?_ HRX.out HXL.out ?_); exact rfl; exact rfl)
                    | ((with_reducible refine wl_store (cs := x.cells) aggVote rfl ?_ ?_ ?_ (Blk.new _ _ _) HXL.out ?_ ?_ ?_); exact rfl; exact rfl; exact rfl; exact rfl; exact Vote.flat _; rw [setRow_alloc]))
                  go_roundw
                  case rel => exact ⟨k + 1, by omega, by go_num, HJ.out.1.alloc HJ.out.1.size _, HJ.out.2.alloc _⟩
                  case measure => simp [intOf]; omega
                · have hnb : (x.normal == y.normal) = false := by simp [hn]
                  clear hn ht
                  go_wp2_with (first
                    | ((with_reducible refine wl_alloc aggVote rfl ?_ ?_); exact rfl)
                    | ((with_reducible refine wl_load aggVote rfl ?_ ?_ HRX.out HXL.out ?_); exact rfl; exact rfl)
                    | ((with_reducible refine wl_store (cs := x.cells) aggVote rfl ?_ ?_ ?_ (Blk.new _ _ _) HXL.out ?_ ?_ ?_); exact rfl; exact rfl; exact rfl; exact rfl; exact Vote.flat _; rw [setRow_alloc]))
                  go_roundw
                  case rel => exact ⟨k + 1, by omega, by go_num, HJ.out.1.alloc HJ.out.1.size _, HJ.out.2.alloc _⟩
                  case measure => simp [intOf]; omega
              · have hvb : (x.view == view) = false := by simp [hv]
                clear hv
                go_wp2_with (first
                  | ((with_reducible refine wl_alloc aggVote rfl ?_ ?_); exact rfl)
                  | ((with_reducible refine wl_load aggVote rfl ?_ ?_ HRX.out HXL.out ?_); exact rfl; exact rfl)
                  | ((with_reducible refine wl_store (cs := x.cells) aggVote rfl ?_ ?_ ?_ (Blk.new _ _ _) HXL.out ?_ ?_ ?_); exact rfl; exact rfl; exact rfl; exact rfl; exact Vote.flat _; rw [setRow_alloc]))
                go_roundw
                case rel => exact ⟨k + 1, by omega, by go_num, HJ.out.1.alloc HJ.out.1.size _, HJ.out.2.alloc _⟩
                case measure => simp [intOf]; omega
          · go_wp2
            go_ret
            exact ⟨rfl, HJ.out.1⟩
end Go.Proofs.Ytoohllmhlbgamaa
