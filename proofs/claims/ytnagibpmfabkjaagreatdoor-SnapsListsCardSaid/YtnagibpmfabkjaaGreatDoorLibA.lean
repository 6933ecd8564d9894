/- sorting -/
import Derived.Test.YtnagibpmfabkjaaGreatDoorPathA
import Derived.Test.YtnagibpmfabkjaaGreatDoorK
import Derived.Test.YtnagibpmfabkjaaGreatDoorSrt
import Derived.Test.YtnagibpmfabkjaaGreatDoorFilL
set_option linter.unusedSimpArgs false
set_option linter.unusedVariables false
namespace Go.Proofs.YtnagibpmfabkjaaGreatDoor
open Go.RowKit Go.Tri
set_option maxRecDepth 100000
set_option maxHeartbeats 4000000
theorem w_cmp109 {w : World} {v u : Value} {x y : List UInt8} (hx : Sl w v x.length (bcells x)) (hy : Sl w u y.length (bcells y)) : Calls Tryz.prog 109 [v, u].toArray w (fun e w' => e = .returned (.int .i64 (Lib.compareBytes x y)) ∧ w' = w) := by
 refine x_enter Tryz.func109 rfl rfl rfl ?_
 intro a F
 replace F : Fr ⟨8, []⟩ a [(0, v), (1, u)] := F
 refine wp_seq (r_lit ?_)
 refine sv F rfl (y_assign F rfl rfl) fun a F => ?_
 refine wpList_nil (c_then ?_)
 refine wp_seq (r_lit ?_)
 refine sv F rfl (y_move F rfl rfl) fun a F => ?_
 refine sv F rfl (y_move F rfl rfl) fun a F => ?_
 refine sv F rfl (y_ext F rfl rfl (v := .int .i64 (Lib.compareBytes x y)) (w := w) (by rw [run_callFunc_extern Tryz.func137 (by kernel_rfl) (by kernel_rfl) (by kernel_rfl) (e := Extern.BytealgCompare.compare) (by kernel_rfl), run_compare hx hy]; rfl)) fun a F => ?_
 refine sv F rfl (y_assign F rfl rfl) fun a F => ?_
 refine wpList_nil (c_then ?_)
 refine wp_ret ?_
 refine x_ret1 F rfl rfl ?_
 exact ⟨rfl, rfl⟩
theorem w_sortT {xs : List (List UInt8)} {p1 : Option Addr} {c1 : Nat} {w0 w : World} {l : List HP}  {r : (List (List UInt8))} (hm : sortT xs = some r) (H : St w0 w (HP.ow rStr 9 p1 c1 xs :: l)) :
  Calls Tryz.prog 166 [.slice p1 (xs).length c1].toArray w (fun e w' => ∃ v, e = .returned v ∧ v = .tuple [].toArray ∧ ((r).length = (xs).length) ∧ St w0 w' (HP.ow rStr 9 p1 c1 r :: l)) := by
 unfold sortT at hm
 obtain ⟨hn, rfl⟩ := sortTO_some hm
 rcases H.owCase 0 rfl with ⟨rfl, rfl, rfl⟩ | ⟨b, rfl⟩
 · exact (Tryz.slices_Sort_string_none none 0 w).mono fun e w' ⟨he, hw⟩ => ⟨_, he, rfl, List.length_mergeSort _, by rw [hw]; simpa using H⟩
 · obtain ⟨h1, h2, _, h4⟩ := H.putStr 0 rfl
   refine (Tryz.slices_Sort_string b 0 c1 xs w h1 h2 (by omega)).mono fun e w' ⟨he, n, os, hw⟩ => ⟨_, he, rfl, List.length_mergeSort _, ?_⟩
   have h5 := h4 (xs.mergeSort fun x y => decide (x ≤ y)) xs.length n os (List.length_mergeSort _) (Nat.le_of_eq (List.length_mergeSort _).symm)
   rw [List.take_of_length_le (Nat.le_of_eq (List.length_mergeSort _))] at h5
   rw [hw]; exact h5
theorem ent109 : En Tryz.prog 109 := enters Tryz.func109 (by kernel_rfl) rfl
theorem ent108 : En Tryz.prog 108 := enters Tryz.func108 (by kernel_rfl) rfl
theorem plain29 : Plain Tryz.prog 29 := by unfold Plain; rw [Tryz.underlying29]; rfl
theorem fld103_0 : FieldT Tryz.prog 103 0 0 := by unfold FieldT; rw [Tryz.underlying103]; kernel_rfl
theorem agg103 : AggT Tryz.prog 103 2 [.slice none 0 0, .slice none 0 0] := ⟨by rw [Tryz.underlying103]; rfl, by kernel_rfl, by kernel_rfl⟩
theorem w_cmpp108 {B : Base} (x y : PE B) (w : World) (hs : Sub B w) : Calls Tryz.prog 108 [.agg (encP x).toArray, .agg (encP y).toArray].toArray w (fun e w' => e = .returned (.int .i64 (cmpP x y)) ∧ ∃ q os', w' = Go.Sort.grow (w.drewN q) os') := by
 obtain ⟨q1, c1, v1, hx1, hx2⟩ := pe_key hs x
 obtain ⟨q2, c2, v2, hy1, hy2⟩ := pe_key hs y
 refine x_enter Tryz.func108 rfl rfl rfl ?_
 intro a F
 replace F : Fr ⟨10, []⟩ a [(0, .agg (x.1.1).toArray), (1, .agg (y.1.1).toArray)] := F
 rw [hx1, hy1] at F
 refine wp_seq (r_lit ?_)
 refine sv F rfl (y_boxA F rfl rfl) fun a F => ?_
 refine sv F rfl (y_boxA F rfl rfl) fun a F => ?_
 refine sv F rfl (y_assign F rfl rfl) fun a F => ?_
 refine wpList_nil (c_then ?_)
 obtain ⟨w1, hw1⟩ : ∃ w1, w1 = w.alloc (.cells [Value.slice q1 x.1.2.1.length c1, v1].toArray 103) := ⟨_, rfl⟩
 obtain ⟨w2, hw2⟩ : ∃ w2, w2 = w1.alloc (.cells [Value.slice q2 y.1.2.1.length c2, v2].toArray 103) := ⟨_, rfl⟩
 have hs2 : Sub B w2 := fun b o hb => by rw [hw2, hw1]; exact heapOld _ _ b (by have := hs.lt hb; simp; omega) |>.trans ((heapOld _ _ b (hs.lt hb)).trans (hs b o hb))
 have hb1 : Blk w2 w.heap.size [Value.slice q1 x.1.2.1.length c1, v1] 103 := by rw [hw2, hw1]; exact (Blk.new w _ _).alloc _
 have hb2 : Blk w2 w1.heap.size [Value.slice q2 y.1.2.1.length c2, v2] 103 := by rw [hw2]; exact Blk.new _ _ _
 rw [← hw1] at F
 rw [← hw1, ← hw2]
 generalize w.heap.size = b1 at *
 generalize w1.heap.size = b2 at *
 obtain ⟨q3, c3, v3, hx3, hx4⟩ := pe_key hs2 x
 obtain ⟨q4, c4, v4, hy3, hy4⟩ := pe_key hs2 y
 rw [hx1] at hx3
 rw [hy1] at hy3
 simp only [List.cons.injEq, Value.slice.injEq, true_and, and_true] at hx3 hy3
 obtain ⟨⟨rfl, rfl⟩, rfl⟩ := hx3
 obtain ⟨⟨rfl, rfl⟩, rfl⟩ := hy3
 refine wp_seq (r_lit ?_)
 refine sv F rfl (y_fieldAddr F fld103_0 rfl rfl) fun a F => ?_
 refine sv F rfl (y_load1 F plain29 rfl rfl (hb1.cell _)) fun a F => ?_
 refine sv F rfl (y_fieldAddr F fld103_0 rfl rfl) fun a F => ?_
 refine sv F rfl (y_load1 F plain29 rfl rfl (hb2.cell _)) fun a F => ?_
 refine s_callV (v := .int .i64 (cmpP x y)) wkP F rfl rfl rfl rfl (y_call F rfl rfl ent109) (R := fun w' => w' = w2) ((w_cmp109 hx4 hy4).mono fun e w' h => ⟨h.1, h.2⟩) ?_; rintro w a rfl F
 refine sv F rfl (y_assign F rfl rfl) fun a F => ?_
 refine wpList_nil (c_then ?_)
 refine wp_ret ?_
 refine x_ret1 F rfl rfl ?_
 refine ⟨rfl, 0, #[Obj.cells [Value.slice q1 x.1.2.1.length c1, v1].toArray 103 (0, 0), Obj.cells [Value.slice q2 y.1.2.1.length c2, v2].toArray 103 (0, 0)], ?_⟩
 rw [hw2, hw1, Go.Sort.alloc_eq_grow, Go.Sort.alloc_eq_grow, Go.Sort.grow_grow]
 rfl
theorem w_sortPs {xs : List T_api_Pair} {p1 : Option Addr} {c1 : Nat} {w0 w : World} {l : List HP}  {r : (List T_api_Pair)} (hm : sortPs xs = some r) (H : St w0 w (HP.ow R_api_Pair 103 p1 c1 xs :: l)) :
  Calls Tryz.prog 107 [.slice p1 (xs).length c1, .func (.func 108) #[] #[]].toArray w (fun e w' => ∃ v, e = .returned v ∧ v = .tuple [].toArray ∧ ((r).length = (xs).length) ∧ St w0 w' (HP.ow R_api_Pair 103 p1 c1 r :: l)) := by
 unfold sortPs at hm
 obtain ⟨hnd, hn, rfl⟩ := sortPO_some hm
 rcases H.owCase 0 rfl with ⟨rfl, rfl, rfl⟩ | ⟨b, rfl⟩
 · exact (AnyF.slices_SortFunc_none Tryz.layz107 none 0 (.func (.func 108) #[] #[]) w).mono fun e w' ⟨he, hw⟩ => ⟨_, he, rfl, by simp [sortPairs], by rw [hw, show sortPairs [] = [] by simp [sortPairs]]; exact H⟩
 · obtain ⟨B, d, hd, hH, hb, hB, hK⟩ := H.sortP 0 rfl
   have hlen : d.toArray.size = xs.length := by rw [← hd]; simp
   have := AnyQ.slices_SortFunc Tryz.layz107 2 agg103.run_isAgg agg103.run_szOf encP encP_len encP_one cmpP cmpP_swo 108 #[] b 0 c1 d.toArray w ent108 (fun m os dk hs x y => w_cmpp108 x y _ (hB dk m os)) hH hb (by rw [hlen]; omega)
   rw [hlen] at this
   refine this.mono ?_
   rintro e w' ⟨rfl, d', n, os, hp, hs, rfl⟩
   rw [← hlen] at hp hs
   obtain ⟨h1, h2, h3⟩ := sort_pairs hp hs
   have h4 := hK d' n os h1
   rw [hd] at h2
   have h5 := sortPairs_eq hnd h2 h3
   rw [h5] at h4
   exact ⟨_, rfl, rfl, (List.mergeSort_perm xs leP).length_eq, h4⟩
theorem fld31_2 : FieldT Tryz.prog 31 2 2 := by unfold FieldT; rw [Tryz.underlying31]; kernel_rfl
theorem ent145 : En Tryz.prog 145 := enters Tryz.func145 (by kernel_rfl) rfl
theorem ent146 : En Tryz.prog 146 := enters Tryz.func146 (by kernel_rfl) rfl
theorem w_delc146 {b3 : Nat} {cs : List Value} {tx : List UInt8} (hto : cs[2]? = some (.string (txb tx))) (x : List UInt8) (W : World) (hb : Blk W b3 cs 31) : Calls Tryz.prog 146 #[encStr x, .pointer (some ⟨b3, 0, none⟩)] W (fun e w' => e = .returned (.bool (leqB x tx)) ∧ ∃ q, w' = W.drewN q) := by
 refine x_enter (args := [encStr x, .pointer (some ⟨b3, 0, none⟩)]) Tryz.func146 rfl rfl rfl ?_
 intro a F
 replace F : Fr ⟨8, []⟩ a [(0, .string (txb x)), (1, .pointer (some ⟨b3, 0, none⟩))] := F
 refine wp_seq (r_lit ?_)
 refine sv F rfl (y_assign F rfl rfl) fun a F => ?_
 refine wpList_nil (c_then ?_)
 refine wp_seq (r_lit ?_)
 refine sv F rfl (y_move F rfl rfl) fun a F => ?_
 refine sv F rfl (y_fieldAddr F fld31_2 rfl rfl) fun a F => ?_
 refine sv F rfl (y_load1 F plain9 rfl rfl ((hb.cell _).trans hto)) fun a F => ?_
 refine sv F rfl (y_leqT F rfl rfl rfl) fun a F => ?_
 refine sv F rfl (y_assign F rfl rfl) fun a F => ?_
 refine wpList_nil (c_then ?_)
 refine wp_ret ?_
 refine x_ret1 F rfl rfl ?_
 exact ⟨rfl, 0, rfl⟩
theorem w_delnil145 (fv : Value) (w : World) : Calls Tryz.prog 145 [.slice none 0 0, fv].toArray w (fun e w' => e = .returned (.slice none 0 0) ∧ w' = w) := by
 refine x_enter Tryz.func145 rfl rfl rfl ?_
 intro a F
 replace F : Fr ⟨42, []⟩ a [(0, .slice none 0 0), (1, fv)] := F
 refine wp_seq (r_lit ?_)
 refine sv F rfl (y_assign F rfl rfl) fun a F => ?_
 refine wpList_nil (c_then ?_)
 refine wp_seq (r_lit ?_)
 refine sv F rfl (y_move F rfl rfl) fun a F => ?_
 refine sv F rfl (y_move F rfl rfl) fun a F => ?_
 refine s_callV (v := .int .i64 (-1)) wkP F rfl rfl rfl rfl (y_call F rfl rfl ent132) (R := fun w' => w' = w) ((AnyE.slices_IndexFunc_empty Tryz.layz132 none 0 fv w).mono fun e w' h => ⟨h.1, h.2⟩) ?_; rintro w a rfl F
 refine sv F rfl (y_assign F rfl rfl) fun a F => ?_
 refine wpList_nil (c_then ?_)
 refine wp_seq (wp_seq (r_lit ?_))
 refine sv F rfl (y_move F rfl rfl) fun a F => ?_
 refine sv F rfl (y_eql F rfl rfl rfl) fun a F => ?_
 refine wpList_nil (c_then ?_)
 refine x_condT F rfl ?_
 refine wp_seq (r_lit ?_)
 refine sv F rfl (y_move F rfl rfl) fun a F => ?_
 refine sv F rfl (y_assign F rfl rfl) fun a F => ?_
 refine wpList_nil (c_then ?_)
 refine wp_ret ?_
 refine c_thenR ?_
 refine x_ret1 F rfl rfl ?_
 exact ⟨rfl, rfl⟩
theorem w_del145 {p : Option Addr} {c b3 : Nat} {xs r : List (List UInt8)} {cs : List Value} {tx : List UInt8} {w0 w : World} {l : List HP} (hm : delO xs tx = some r) (hto : cs[2]? = some (.string (txb tx))) (H : St w0 w (HP.ow rStr 9 p c xs :: HP.blk b3 cs 31 :: l)) :
  Calls Tryz.prog 145 [.slice p xs.length c, .func (.func 146) #[] [.pointer (some ⟨b3, 0, none⟩)].toArray].toArray w (fun e w' => ∃ v, e = .returned v ∧ v = .slice p r.length c ∧ St w0 w' (HP.ow rStr 9 p c r :: HP.blk b3 cs 31 :: l)) := by
 obtain ⟨hn, rfl⟩ := delO_some hm
 have hoc := St.owCase (R := rStr) (e := 9) (p := p) (cap := c) (xs := xs) H 0 rfl
 obtain hoc | ⟨b, rfl⟩ := hoc
 · obtain ⟨hp, hc, hx⟩ := hoc
   subst hp hc hx
   have hq := w_delnil145 (.func (.func 146) #[] [.pointer (some ⟨b3, 0, none⟩)].toArray) w
   rw [List.length_nil]
   refine Calls.mono hq fun e w' ⟨he, hw⟩ => ⟨_, he, rfl, hw ▸ H⟩
 · have hap := St.apart (e := 9) (b := b) (b3 := b3) (cap := c) (xs := xs) (cs := cs) (t := 31) H 0 1 rfl rfl Nat.zero_ne_one
   obtain ⟨hb1, hb2, hb3⟩ := hap
   obtain ⟨h1, h2, hcap, h4⟩ := H.putStr 0 rfl
   have hp : PredAt Tryz.prog 146 #[.pointer (some ⟨b3, 0, none⟩)] encStr (fun x => leqB x tx) w := fun W x hW => w_delc146 hto x W (by unfold Blk at hb1 ⊢; rw [hW.block b3 hb2]; exact hb1)
   have hpo : PredOver Tryz.prog 146 #[.pointer (some ⟨b3, 0, none⟩)] encStr (fun x => leqB x tx) b 0 xs.toArray.size w := fun n os dk x _ => w_delc146 hto x _ (by
     unfold Blk at hb1 ⊢
     have hw : (sortWorld encStr w b 0 n dk os).heap = (w.heap.modify b (Sort.onCells (Sort.putCells encStr 0 dk))) ++ os := rfl
     rw [hw, Array.getElem?_append_left (by simpa using hb2), Array.getElem?_modify, if_neg (Ne.symm hb3)]; exact hb1)
   have := AnyE.slices_DeleteFunc Tryz.layz145 encStr (fun x => rfl) (fun x => leqB x tx) 146 #[.pointer (some ⟨b3, 0, none⟩)] ent146 [] (fun w => zero9.run w) b 0 c xs.toArray w hp hpo h1 (by simp; omega) (by simpa using hcap)
   refine this.mono fun e w' ⟨he, q, hw⟩ => ⟨_, he, ?_, ?_⟩
   · simp
   · have hfl : (xs.filter fun x => !leqB x tx).length ≤ xs.length := List.length_filter_le _ _
     have h5 := h4 ((xs.filter fun x => !leqB x tx) ++ List.replicate (xs.length - (xs.filter fun x => !leqB x tx).length) []) (xs.filter fun x => !leqB x tx).length q #[] (by simp; omega) (by simp)
     rw [List.take_left' rfl] at h5
     rw [hw]
     simpa using h5
end Go.Proofs.YtnagibpmfabkjaaGreatDoor
