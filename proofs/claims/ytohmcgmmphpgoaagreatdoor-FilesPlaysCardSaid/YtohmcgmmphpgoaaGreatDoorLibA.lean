/- sorting -/
import Derived.Test.YtohmcgmmphpgoaaGreatDoorPathA
import Derived.Test.YtohmcgmmphpgoaaGreatDoorK
import Derived.Test.YtohmcgmmphpgoaaGreatDoorSrt
import Derived.Test.YtohmcgmmphpgoaaGreatDoorFilL
set_option linter.unusedSimpArgs false
set_option linter.unusedVariables false
namespace Go.Proofs.YtohmcgmmphpgoaaGreatDoor
open Go.RowKit Go.Tri
theorem w_cmp58 {w : World} {v u : Value} {x y : List UInt8} (hx : Sl w v x.length (bcells x)) (hy : Sl w u y.length (bcells y)) : Calls Tryz.prog 58 [v, u].toArray w (fun e w' => e = .returned (.int .i64 (Lib.compareBytes x y)) ∧ w' = w) := by
 refine x_enter Tryz.func58 rfl rfl rfl ?_
 intro a F
 replace F : Fr ⟨8, []⟩ a [(0, v), (1, u)] := F
 refine wp_seq (r_lit ?_)
 refine s_val wkP F rfl rfl rfl rfl (y_assign F rfl rfl) ?_; clear F; intro a F
 refine wpList_nil (c_then ?_)
 refine wp_seq (r_lit ?_)
 refine s_val wkP F rfl rfl rfl rfl (y_move F rfl rfl) ?_; clear F; intro a F
 refine s_val wkP F rfl rfl rfl rfl (y_move F rfl rfl) ?_; clear F; intro a F
 refine s_val wkP F rfl rfl rfl rfl (y_ext F rfl rfl (v := .int .i64 (Lib.compareBytes x y)) (w := w) (by rw [run_callFunc_extern Tryz.func78 (by kernel_rfl) (by kernel_rfl) (by kernel_rfl) (e := Extern.BytealgCompare.compare) (by kernel_rfl), run_compare hx hy]; rfl)) ?_; clear F; intro a F
 refine s_val wkP F rfl rfl rfl rfl (y_assign F rfl rfl) ?_; clear F; intro a F
 refine wpList_nil (c_then ?_)
 refine wp_ret ?_
 refine x_ret1 F rfl rfl ?_
 exact ⟨rfl, rfl⟩
theorem w_sortT {xs : List (List UInt8)} {p1 : Option Addr} {c1 : Nat} {w0 w : World} {l : List HP}  {r : (List (List UInt8))} (hm : sortT xs = some r) (H : St w0 w (HP.ow rStr 9 p1 c1 xs :: l)) :
  Calls Tryz.prog 107 [.slice p1 (xs).length c1].toArray w (fun e w' => ∃ v, e = .returned v ∧ v = .tuple [].toArray ∧ ((r).length = (xs).length) ∧ St w0 w' (HP.ow rStr 9 p1 c1 r :: l)) := by
 unfold sortT at hm
 obtain ⟨hn, rfl⟩ := sortTO_some hm
 rcases H.owCase 0 rfl with ⟨rfl, rfl, rfl⟩ | ⟨b, rfl⟩
 · exact (Tryz.slices_Sort_string_none none 0 w).mono fun e w' ⟨he, hw⟩ => ⟨_, he, rfl, List.length_mergeSort _, by rw [hw]; simpa using H⟩
 · obtain ⟨h1, h2, _, h4⟩ := H.putStr 0 rfl
   refine (Tryz.slices_Sort_string b 0 c1 xs w h1 h2 (by omega)).mono fun e w' ⟨he, n, os, hw⟩ => ⟨_, he, rfl, List.length_mergeSort _, ?_⟩
   have h5 := h4 (xs.mergeSort fun x y => decide (x ≤ y)) xs.length n os (List.length_mergeSort _) (Nat.le_of_eq (List.length_mergeSort _).symm)
   rw [List.take_of_length_le (Nat.le_of_eq (List.length_mergeSort _))] at h5
   rw [hw]; exact h5
theorem ent58 : ∀ args w, (callFunc 58 args).run Tryz.prog w = .ok (.enter 58 args) w := enters Tryz.func58 (by kernel_rfl) rfl
theorem ent57 : ∀ args w, (callFunc 57 args).run Tryz.prog w = .ok (.enter 57 args) w := enters Tryz.func57 (by kernel_rfl) rfl
theorem plain23 : Plain Tryz.prog 23 := by unfold Plain; rw [Tryz.underlying23]; rfl
theorem fld60_0 : FieldT Tryz.prog 60 0 0 := by unfold FieldT; rw [Tryz.underlying60]; kernel_rfl
theorem agg60 : AggT Tryz.prog 60 2 [.slice none 0 0, .slice none 0 0] := ⟨by rw [Tryz.underlying60]; rfl, by kernel_rfl, by kernel_rfl⟩
theorem w_cmpp57 {B : Base} (x y : PE B) (w : World) (hs : Sub B w) : Calls Tryz.prog 57 [.agg (encP x).toArray, .agg (encP y).toArray].toArray w (fun e w' => e = .returned (.int .i64 (cmpP x y)) ∧ ∃ q os', w' = Go.Sort.grow (w.drewN q) os') := by
 obtain ⟨q1, c1, v1, hx1, hx2⟩ := pe_key hs x
 obtain ⟨q2, c2, v2, hy1, hy2⟩ := pe_key hs y
 refine x_enter Tryz.func57 rfl rfl rfl ?_
 intro a F
 replace F : Fr ⟨10, []⟩ a [(0, .agg (x.1.1).toArray), (1, .agg (y.1.1).toArray)] := F
 rw [hx1, hy1] at F
 refine wp_seq (r_lit ?_)
 refine s_val wkP F rfl rfl rfl rfl (y_boxA F rfl rfl) ?_; clear F; intro a F
 refine s_val wkP F rfl rfl rfl rfl (y_boxA F rfl rfl) ?_; clear F; intro a F
 refine s_val wkP F rfl rfl rfl rfl (y_assign F rfl rfl) ?_; clear F; intro a F
 refine wpList_nil (c_then ?_)
 obtain ⟨w1, hw1⟩ : ∃ w1, w1 = w.alloc (.cells [Value.slice q1 x.1.2.1.length c1, v1].toArray 60) := ⟨_, rfl⟩
 obtain ⟨w2, hw2⟩ : ∃ w2, w2 = w1.alloc (.cells [Value.slice q2 y.1.2.1.length c2, v2].toArray 60) := ⟨_, rfl⟩
 have hs2 : Sub B w2 := fun b o hb => by rw [hw2, hw1]; exact heapOld _ _ b (by have := hs.lt hb; simp; omega) |>.trans ((heapOld _ _ b (hs.lt hb)).trans (hs b o hb))
 have hb1 : Blk w2 w.heap.size [Value.slice q1 x.1.2.1.length c1, v1] 60 := by rw [hw2, hw1]; exact (Blk.new w _ _).alloc _
 have hb2 : Blk w2 w1.heap.size [Value.slice q2 y.1.2.1.length c2, v2] 60 := by rw [hw2]; exact Blk.new _ _ _
 rw [← hw1] at F
 rw [← hw1, ← hw2]
 generalize w.heap.size = b1 at *
 generalize w1.heap.size = b2 at *
 obtain ⟨q3, c3, v3, hx3, hx4⟩ := pe_key hs2 x
 obtain ⟨q4, c4, v4, hy3, hy4⟩ := pe_key hs2 y
 rw [hx1] at hx3
 rw [hy1] at hy3
 simp only [List.cons.injEq, Value.slice.injEq, true_and, and_true] at hx3 hy3
 obtain ⟨⟨rfl, rfl⟩, rfl⟩ := hx3
 obtain ⟨⟨rfl, rfl⟩, rfl⟩ := hy3
 refine wp_seq (r_lit ?_)
 refine s_val wkP F rfl rfl rfl rfl (y_fieldAddr F fld60_0 rfl rfl) ?_; clear F; intro a F
 refine s_val wkP F rfl rfl rfl rfl (y_load1 F plain23 rfl rfl (hb1.cell _)) ?_; clear F; intro a F
 refine s_val wkP F rfl rfl rfl rfl (y_fieldAddr F fld60_0 rfl rfl) ?_; clear F; intro a F
 refine s_val wkP F rfl rfl rfl rfl (y_load1 F plain23 rfl rfl (hb2.cell _)) ?_; clear F; intro a F
 refine s_callV (v := .int .i64 (cmpP x y)) wkP F rfl rfl rfl rfl (y_call F rfl rfl ent58) (R := fun w' => w' = w2) ((w_cmp58 hx4 hy4).mono fun e w' h => ⟨h.1, h.2⟩) ?_; clear F; rintro w a rfl F
 refine s_val wkP F rfl rfl rfl rfl (y_assign F rfl rfl) ?_; clear F; intro a F
 refine wpList_nil (c_then ?_)
 refine wp_ret ?_
 refine x_ret1 F rfl rfl ?_
 refine ⟨rfl, 0, #[Obj.cells [Value.slice q1 x.1.2.1.length c1, v1].toArray 60 (0, 0), Obj.cells [Value.slice q2 y.1.2.1.length c2, v2].toArray 60 (0, 0)], ?_⟩
 rw [hw2, hw1, Go.Sort.alloc_eq_grow, Go.Sort.alloc_eq_grow, Go.Sort.grow_grow]
 rfl
theorem w_sortPs {xs : List T_api_Pair} {p1 : Option Addr} {c1 : Nat} {w0 w : World} {l : List HP}  {r : (List T_api_Pair)} (hm : sortPs xs = some r) (H : St w0 w (HP.ow R_api_Pair 60 p1 c1 xs :: l)) :
  Calls Tryz.prog 56 [.slice p1 (xs).length c1, .func (.func 57) #[] #[]].toArray w (fun e w' => ∃ v, e = .returned v ∧ v = .tuple [].toArray ∧ ((r).length = (xs).length) ∧ St w0 w' (HP.ow R_api_Pair 60 p1 c1 r :: l)) := by
 unfold sortPs at hm
 obtain ⟨hnd, hn, rfl⟩ := sortPO_some hm
 rcases H.owCase 0 rfl with ⟨rfl, rfl, rfl⟩ | ⟨b, rfl⟩
 · exact (AnyF.slices_SortFunc_none Tryz.lays56 none 0 (.func (.func 57) #[] #[]) w).mono fun e w' ⟨he, hw⟩ => ⟨_, he, rfl, by simp [sortPairs], by rw [hw, show sortPairs [] = [] by simp [sortPairs]]; exact H⟩
 · obtain ⟨B, d, hd, hH, hb, hB, hK⟩ := H.sortP 0 rfl
   have hlen : d.toArray.size = xs.length := by rw [← hd]; simp
   have := AnyQ.slices_SortFunc Tryz.lays56 2 agg60.run_isAgg agg60.run_szOf encP encP_len encP_one cmpP cmpP_swo 57 #[] b 0 c1 d.toArray w ent57 (fun m os dk hs x y => w_cmpp57 x y _ (hB dk m os)) hH hb (by rw [hlen]; omega)
   rw [hlen] at this
   refine this.mono ?_
   rintro e w' ⟨rfl, d', n, os, hp, hs, rfl⟩
   rw [← hlen] at hp hs
   obtain ⟨h1, h2, h3⟩ := sort_pairs hp hs
   have h4 := hK d' n os h1
   rw [hd] at h2
   have h5 := sortPairs_eq hnd h2 h3
   rw [h5] at h4
   exact ⟨_, rfl, rfl, (List.mergeSort_perm xs leP).length_eq, h4⟩
theorem fld25_2 : FieldT Tryz.prog 25 2 2 := by unfold FieldT; rw [Tryz.underlying25]; kernel_rfl
theorem ent84 : ∀ args w, (callFunc 84 args).run Tryz.prog w = .ok (.enter 84 args) w := enters Tryz.func84 (by kernel_rfl) rfl
theorem ent85 : ∀ args w, (callFunc 85 args).run Tryz.prog w = .ok (.enter 85 args) w := enters Tryz.func85 (by kernel_rfl) rfl
theorem w_delc85 {b3 : Nat} {cs : List Value} {tx : List UInt8} (hto : cs[2]? = some (.string (txb tx))) (x : List UInt8) (W : World) (hb : Blk W b3 cs 25) : Calls Tryz.prog 85 #[encStr x, .pointer (some ⟨b3, 0, none⟩)] W (fun e w' => e = .returned (.bool (leqB x tx)) ∧ ∃ q, w' = W.drewN q) := by
 refine x_enter (args := [encStr x, .pointer (some ⟨b3, 0, none⟩)]) Tryz.func85 rfl rfl rfl ?_
 intro a F
 replace F : Fr ⟨8, []⟩ a [(0, .string (txb x)), (1, .pointer (some ⟨b3, 0, none⟩))] := F
 refine wp_seq (r_lit ?_)
 refine s_val wkP F rfl rfl rfl rfl (y_assign F rfl rfl) ?_; clear F; intro a F
 refine wpList_nil (c_then ?_)
 refine wp_seq (r_lit ?_)
 refine s_val wkP F rfl rfl rfl rfl (y_move F rfl rfl) ?_; clear F; intro a F
 refine s_val wkP F rfl rfl rfl rfl (y_fieldAddr F fld25_2 rfl rfl) ?_; clear F; intro a F
 refine s_val wkP F rfl rfl rfl rfl (y_load1 F plain9 rfl rfl ((hb.cell _).trans hto)) ?_; clear F; intro a F
 refine s_val wkP F rfl rfl rfl rfl (y_leqT F rfl rfl rfl) ?_; clear F; intro a F
 refine s_val wkP F rfl rfl rfl rfl (y_assign F rfl rfl) ?_; clear F; intro a F
 refine wpList_nil (c_then ?_)
 refine wp_ret ?_
 refine x_ret1 F rfl rfl ?_
 exact ⟨rfl, 0, rfl⟩
theorem w_delnil84 (fv : Value) (w : World) : Calls Tryz.prog 84 [.slice none 0 0, fv].toArray w (fun e w' => e = .returned (.slice none 0 0) ∧ w' = w) := by
 refine x_enter Tryz.func84 rfl rfl rfl ?_
 intro a F
 replace F : Fr ⟨42, []⟩ a [(0, .slice none 0 0), (1, fv)] := F
 refine wp_seq (r_lit ?_)
 refine s_val wkP F rfl rfl rfl rfl (y_assign F rfl rfl) ?_; clear F; intro a F
 refine wpList_nil (c_then ?_)
 refine wp_seq (r_lit ?_)
 refine s_val wkP F rfl rfl rfl rfl (y_move F rfl rfl) ?_; clear F; intro a F
 refine s_val wkP F rfl rfl rfl rfl (y_move F rfl rfl) ?_; clear F; intro a F
 refine s_callV (v := .int .i64 (-1)) wkP F rfl rfl rfl rfl (y_call F rfl rfl ent108) (R := fun w' => w' = w) ((AnyE.slices_IndexFunc_empty Tryz.lays108 none 0 fv w).mono fun e w' h => ⟨h.1, h.2⟩) ?_; clear F; rintro w a rfl F
 refine s_val wkP F rfl rfl rfl rfl (y_assign F rfl rfl) ?_; clear F; intro a F
 refine wpList_nil (c_then ?_)
 refine wp_seq (wp_seq (r_lit ?_))
 refine s_val wkP F rfl rfl rfl rfl (y_move F rfl rfl) ?_; clear F; intro a F
 refine s_val wkP F rfl rfl rfl rfl (y_eql F rfl rfl rfl) ?_; clear F; intro a F
 refine wpList_nil (c_then ?_)
 refine x_condT F rfl ?_
 refine wp_seq (r_lit ?_)
 refine s_val wkP F rfl rfl rfl rfl (y_move F rfl rfl) ?_; clear F; intro a F
 refine s_val wkP F rfl rfl rfl rfl (y_assign F rfl rfl) ?_; clear F; intro a F
 refine wpList_nil (c_then ?_)
 refine wp_ret ?_
 refine c_thenR ?_
 refine x_ret1 F rfl rfl ?_
 exact ⟨rfl, rfl⟩
theorem w_del84 {p : Option Addr} {c b3 : Nat} {xs r : List (List UInt8)} {cs : List Value} {tx : List UInt8} {w0 w : World} {l : List HP} (hm : delO xs tx = some r) (hto : cs[2]? = some (.string (txb tx))) (H : St w0 w (HP.ow rStr 9 p c xs :: HP.blk b3 cs 25 :: l)) :
  Calls Tryz.prog 84 [.slice p xs.length c, .func (.func 85) #[] [.pointer (some ⟨b3, 0, none⟩)].toArray].toArray w (fun e w' => ∃ v, e = .returned v ∧ v = .slice p r.length c ∧ St w0 w' (HP.ow rStr 9 p c r :: HP.blk b3 cs 25 :: l)) := by
 obtain ⟨hn, rfl⟩ := delO_some hm
 have hoc := St.owCase (R := rStr) (e := 9) (p := p) (cap := c) (xs := xs) H 0 rfl
 obtain hoc | ⟨b, rfl⟩ := hoc
 · obtain ⟨hp, hc, hx⟩ := hoc
   subst hp hc hx
   have hq := w_delnil84 (.func (.func 85) #[] [.pointer (some ⟨b3, 0, none⟩)].toArray) w
   rw [List.length_nil]
   refine Calls.mono hq fun e w' ⟨he, hw⟩ => ⟨_, he, rfl, hw ▸ H⟩
 · have hap := St.apart (e := 9) (b := b) (b3 := b3) (cap := c) (xs := xs) (cs := cs) (t := 25) H 0 1 rfl rfl Nat.zero_ne_one
   obtain ⟨hb1, hb2, hb3⟩ := hap
   obtain ⟨h1, h2, hcap, h4⟩ := H.putStr 0 rfl
   have hp : PredAt Tryz.prog 85 #[.pointer (some ⟨b3, 0, none⟩)] encStr (fun x => leqB x tx) w := fun W x hW => w_delc85 hto x W (by unfold Blk at hb1 ⊢; rw [hW.block b3 hb2]; exact hb1)
   have hpo : PredOver Tryz.prog 85 #[.pointer (some ⟨b3, 0, none⟩)] encStr (fun x => leqB x tx) b 0 xs.toArray.size w := fun n os dk x _ => w_delc85 hto x _ (by
     unfold Blk at hb1 ⊢
     have hw : (sortWorld encStr w b 0 n dk os).heap = (w.heap.modify b (Sort.onCells (Sort.putCells encStr 0 dk))) ++ os := rfl
     rw [hw, Array.getElem?_append_left (by simpa using hb2), Array.getElem?_modify, if_neg (Ne.symm hb3)]; exact hb1)
   have := AnyE.slices_DeleteFunc Tryz.lays84 encStr (fun x => rfl) (fun x => leqB x tx) 85 #[.pointer (some ⟨b3, 0, none⟩)] ent85 [] (fun w => zero9.run w) b 0 c xs.toArray w hp hpo h1 (by simp; omega) (by simpa using hcap)
   refine this.mono fun e w' ⟨he, q, hw⟩ => ⟨_, he, ?_, ?_⟩
   · simp
   · have hfl : (xs.filter fun x => !leqB x tx).length ≤ xs.length := List.length_filter_le _ _
     have h5 := h4 ((xs.filter fun x => !leqB x tx) ++ List.replicate (xs.length - (xs.filter fun x => !leqB x tx).length) []) (xs.filter fun x => !leqB x tx).length q #[] (by simp; omega) (by simp)
     rw [List.take_left' rfl] at h5
     rw [hw]
     simpa using h5
end Go.Proofs.YtohmcgmmphpgoaaGreatDoor
