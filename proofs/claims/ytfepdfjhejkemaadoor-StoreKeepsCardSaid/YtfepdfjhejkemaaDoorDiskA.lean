/- disk -/
import Derived.Test.YtfepdfjhejkemaaDoorPackA
set_option linter.unusedSimpArgs false
set_option linter.unusedVariables false
namespace Go.Proofs.YtfepdfjhejkemaaDoor
open Go.RowKit Go.Tri
theorem elem69 : ElemT Tryd.prog 69 88 2 32 (.agg [.int .i64 0, .slice none 0 0].toArray) := ⟨Tryd.underlying69, by kernel_rfl, by kernel_rfl, by decide⟩
theorem agg88 : AggT Tryd.prog 88 2 [.int .i64 0, .slice none 0 0] := ⟨by rw [Tryd.underlying88]; rfl, by kernel_rfl, by kernel_rfl⟩
theorem plain69 : Plain Tryd.prog 69 := by unfold Plain; rw [Tryd.underlying69]; rfl
theorem w_mk56 (p0 : Option Addr) (n0 c0 : Nat) (w0 w : World) (l : List HP) (H : St w0 w l) :
  Calls Tryd.prog 56 [.slice p0 n0 c0].toArray w (fun e w' => ∃ v, e = .returned v ∧ ∃ b0, v = .func (.func 75) #[] [.pointer (some ⟨b0, 0, none⟩)].toArray ∧ St w0 w' (HP.blk b0 ([.slice p0 n0 c0]) 69 :: l)) := by
 refine x_enter Tryd.func56 rfl rfl rfl ?_
 intro a F
 replace F : Fr ⟨4, []⟩ a [(0, .slice p0 n0 c0)] := F
 refine wp_seq ?_
 refine r_lit ?_
 refine s_box1 wkP F rfl rfl rfl rfl rfl rfl H ?_; clear F H; intro b0 w a H F
 refine s_val wkP F rfl rfl rfl rfl (y_assign F rfl rfl) ?_; clear F; intro a F
 refine wpList_nil ?_
 refine c_then ?_
 refine wp_seq ?_
 refine r_lit ?_
 refine s_val wkP F rfl rfl rfl rfl (y_makeFunc F rfl rfl) ?_; clear F; intro a F
 refine s_val wkP F rfl rfl rfl rfl (y_assign F rfl rfl) ?_; clear F; intro a F
 refine wpList_nil ?_
 refine c_then ?_
 refine wp_ret ?_
 refine x_ret1 F rfl rfl ?_
 exact ⟨_, rfl, b0, rfl, H⟩
theorem seq75 {γ : Type} (bb : Nat) (p : Option Addr) (c : Nat) (css : List (List Value)) (xs : List γ) (hl : css.length = xs.length) (hk : ∀ c ∈ css, c.length = 2) :
    SeqC Tryd.prog 75 [.pointer (some ⟨bb, 0, none⟩)] (fun z : (Nat × List Value) × γ => [.int .i64 (z.1.1 : Int), .agg z.1.2.toArray]) [HP.blk bb ([.slice p xs.length c]) 69, HP.own 88 2 (.slice p xs.length c) xs.length css.flatten] (fun pre x => ∃ post, backZ css xs = pre ++ x :: post) (fun pre => pre = backZ css xs) := by
 intro L w0 G E J KK next stop g0 hY W fr H
 refine xii_enter Tryd.func75 rfl rfl rfl ?_
 intro a F
 replace F : Fr ⟨19, []⟩ a [(0, .func (.yield L) #[] #[]), (1, .pointer (some ⟨bb, 0, none⟩))] := F
 have H : St w0 W (HP.blk bb ([.slice p xs.length c]) 69 :: HP.own 88 2 (.slice p xs.length c) xs.length css.flatten :: (J g0 ++ fr)) := H.perm perm_mid
 have hmx := ownMax H 1 rfl
 unfold maxLen at hmx
 refine wpIn_seq ?_
 refine ri_lit ?_
 refine s_val wkI F rfl rfl rfl rfl (y_load1 F plain69 rfl rfl ((H.blk 0 rfl).cell _)) ?_; clear F; intro a F
 refine s_val wkI F rfl rfl rfl rfl (y_lenS F rfl Tryd.underlying69 rfl) ?_; clear F; intro a F
 refine s_val wkI F rfl rfl rfl rfl (y_sub F rfl rfl rfl (wrap_i64 (r := ((xs.length : Nat) : Int) - 1) rfl (by omega) (by omega))) ?_; clear F; intro a F
 refine s_val wkI F rfl rfl rfl rfl (y_assign F rfl rfl) ?_; clear F; intro a F
 refine wpListIn_nil ?_
 refine c_then ?_
 refine wpIn_block ?_
 refine xi_loop (fun (q : G × Nat) aa ww => q.2 ≤ xs.length ∧ Rn next g0 ((backZ css xs).take (xs.length - q.2)) q.1 ∧ Fr ⟨19, []⟩ aa [(0, .func (.yield L) #[] #[]), (1, .pointer (some ⟨bb, 0, none⟩)), (3, .int .i64 (((q.2 : Nat) : Int) - 1))] ∧ St w0 ww (HP.blk bb ([.slice p xs.length c]) 69 :: HP.own 88 2 (.slice p xs.length c) xs.length css.flatten :: (J q.1 ++ fr))) (fun q => q.2) (g0, xs.length) ⟨Nat.le_refl _, by simp only [Nat.sub_self]; rfl, F.cut _ ⟨rfl, rfl, rfl, trivial⟩, H⟩ ?_
 clear F H
 rintro ⟨g, i⟩ a w ⟨hi, hrn, F, H⟩
 refine wpIn_seq ?_
 refine wpIn_seq ?_
 refine ri_lit ?_
 refine s_val wkI F rfl rfl rfl rfl (y_move F rfl rfl) ?_; clear F; intro a F
 refine s_val wkI F rfl rfl rfl rfl (y_geq F rfl rfl rfl) ?_; clear F; intro a F
 refine wpListIn_nil ?_
 refine c_then ?_
 refine xi_condP F rfl (fun hc => ?_) (fun hc => ?_)
 · refine wpIn_skip ?_
   refine c_then ?_
   obtain ⟨j, rfl⟩ : ∃ j, i = j + 1 := ⟨i - 1, by omega⟩
   have hjl : j < xs.length := hi
   replace F := F.bool (k := 3) (u := .int .i64 ((j : Nat) : Int)) rfl (congrArg (Value.int .i64) (by show ((j + 1 : Nat) : Int) - 1 = _; omega))
   obtain ⟨cj, hcj⟩ : ∃ cj, css[j]? = some cj := ⟨_, List.getElem?_eq_getElem (by omega)⟩
   obtain ⟨yj, hyj⟩ : ∃ yj, xs[j]? = some yj := ⟨_, List.getElem?_eq_getElem hjl⟩
   have hcl := hk cj (List.mem_of_getElem? hcj)
   have hat := backZ_at hl hjl hcj hyj
   obtain ⟨b, off, hp, hrow⟩ := (ownsRow_sl (H.owns 1 rfl)).rowAt (c := 0) rfl (by omega)
   have hidx : idxO xs ((j : Nat) : Int) = some yj := by unfold idxO; rw [if_pos (by omega)]; simpa using hyj
   have hrw : Row w b (off + (((j : Nat) : Int)).toNat * 2) cj := by have := hrow.sub (j * 2) 2; rw [flatK_at hk hcj] at this; simpa using this
   have hadm : ∃ post, backZ css xs = (backZ css xs).take (xs.length - (j + 1)) ++ ((j, cj), yj) :: post := by
     refine ⟨(backZ css xs).drop (xs.length - 1 - j + 1), ?_⟩
     have h1 : xs.length - (j + 1) = xs.length - 1 - j := by omega
     rw [h1]
     obtain ⟨h2, h3⟩ := List.getElem?_eq_some_iff.1 hat
     rw [← h3, ← List.drop_eq_getElem_cons h2, List.take_append_drop]
   refine wpIn_seq ?_
   refine wpIn_block ?_
   refine wpIn_seq ?_
   refine ri_lit ?_
   refine s_val wkI F rfl rfl rfl rfl (y_move F rfl rfl) ?_; clear F; intro a F
   refine s_val wkI F rfl rfl rfl rfl (y_move F rfl rfl) ?_; clear F; intro a F
   refine s_val wkI F rfl rfl rfl rfl (y_load1 F plain69 rfl rfl ((H.blk 0 rfl).cell _)) ?_; clear F; intro a F
   refine s_val wkI F rfl rfl rfl rfl (y_move F rfl rfl) ?_; clear F; intro a F
   refine s_val wkI F rfl rfl rfl rfl (y_idxS F elem69 rfl rfl rfl hp hidx) ?_; clear F; intro a F
   refine s_val wkI F rfl rfl rfl rfl (y_loadA F agg88 rfl rfl hrw hcl) ?_; clear F; intro a F
   refine si_yield F rfl rfl rfl rfl rfl rfl (R := fun bo W' => (bo = true ∧ ∃ g', next g ((j, cj), yj) g' ∧ St w0 W' (J g' ++ ([HP.blk bb ([.slice p xs.length c]) 69, HP.own 88 2 (.slice p xs.length c) xs.length css.flatten] ++ fr))) ∨ (bo = false ∧ ∃ k, stop g ((j, cj), yj) k ∧ St w0 W' (KK k ++ ([HP.blk bb ([.slice p xs.length c]) 69, HP.own 88 2 (.slice p xs.length c) xs.length css.flatten] ++ fr)))) (YieldI.mono (hY _ g ((j, cj), yj) _ ([HP.blk bb ([.slice p xs.length c]) 69, HP.own 88 2 (.slice p xs.length c) xs.length css.flatten] ++ fr) hadm hrn (H.perm (perm_mid (A := [HP.blk bb ([.slice p xs.length c]) 69, HP.own 88 2 (.slice p xs.length c) xs.length css.flatten])))) ?_) ?_
   · rintro ee W' (⟨g', rfl, hn, H'⟩ | ⟨k, rfl, hs, H'⟩)
     · exact ⟨true, rfl, .inl ⟨rfl, g', hn, H'⟩⟩
     · exact ⟨false, rfl, .inr ⟨rfl, k, hs, H'⟩⟩
   intro bo w a hR F
   refine s_val wkI F rfl rfl rfl rfl (y_not F rfl rfl) ?_; clear F; intro a F
   refine wpListIn_nil ?_
   refine c_then ?_
   rcases hR with ⟨rfl, g', hn, H⟩ | ⟨rfl, k, hst, H⟩
   · refine xi_condF F rfl ?_
     refine wpIn_skip ?_
     refine c_blkN ?_
     refine c_then ?_
     refine ri_lit ?_
     refine s_val wkI F rfl rfl rfl rfl (y_move F rfl rfl) ?_; clear F; intro a F
     refine s_val wkI F rfl rfl rfl rfl (y_sub F rfl rfl rfl (wrap_i64 (r := ((j : Nat) : Int) - 1) rfl (by omega) (by omega))) ?_; clear F; intro a F
     refine s_val wkI F rfl rfl rfl rfl (y_assign F rfl rfl) ?_; clear F; intro a F
     refine wpListIn_nil ?_
     refine c_then ⟨(g', j), ⟨by show j ≤ _; omega, ?_, F.cut _ ⟨rfl, rfl, rfl, trivial⟩, H.perm perm_mid⟩, Nat.lt_succ_self j⟩
     show Rn next g0 ((backZ css xs).take (xs.length - j)) g'
     rw [show xs.length - j = (xs.length - 1 - j) + 1 by omega, List.take_add_one, hat]
     refine Rn.snoc ?_ hn
     rw [show xs.length - 1 - j = xs.length - (j + 1) by omega]; exact hrn
   · refine xi_condT F rfl ?_
     refine wpIn_ret ?_
     refine c_blkR ?_
     refine c_thenR ?_
     refine c_thenR ?_
     refine c_blkR ?_
     refine xi_ret0 F rfl ?_
     exact ⟨_, rfl, .inr ⟨_, g, ((j, cj), yj), k, hadm, hrn, hst, H⟩⟩
 · refine wpIn_exit ?_
   refine c_thenX ?_
   refine c_thenX ?_
   refine c_hit ?_
   refine xi_end0 F rfl ?_
   have hi0 : i = 0 := by omega
   subst hi0
   rw [Nat.sub_zero, List.take_of_length_le (by rw [backZ_len _ _ hl]; exact Nat.le_refl _)] at hrn
   exact ⟨_, rfl, .inl ⟨_, g, rfl, hrn, H.perm (perm_mid (A := [HP.blk bb ([.slice p xs.length c]) 69, HP.own 88 2 (.slice p xs.length c) xs.length css.flatten]))⟩⟩
theorem fld71_0 : FieldT Tryd.prog 71 0 0 := by unfold FieldT; rw [Tryd.underlying71]; kernel_rfl
theorem plain22 : Plain Tryd.prog 22 := by unfold Plain; rw [Tryd.underlying22]; rfl
theorem elem22 : ElemT Tryd.prog 22 33 1 24 (.slice none 0 0) := ⟨Tryd.underlying22, by kernel_rfl, by kernel_rfl, by decide⟩
theorem zero22 : Zero1 Tryd.prog 22 (.slice none 0 0) := ⟨by kernel_rfl, rfl⟩
set_option maxRecDepth 100000 in
set_option maxHeartbeats 4000000 in
theorem w_diskNew (n : Int)  (w0 w : World) (l : List HP)  (r : ((List (List UInt8)) × (List (Int × (List UInt8))) × Int × Bool) × Int) (hm : diskNew n = some r) (H : St w0 w (l)) :
  Calls Tryd.prog 9 [.int .i64 (n)].toArray w (fun e w' => ∃ v, e = .returned v ∧ ∃ (b1 : Nat) (p2 : Option Addr) (c2 : Nat) (p3 : Option Addr) (c3 : Nat), v = .tuple [.pointer (some ⟨b1, 0, none⟩), .int .i64 (r.2)].toArray ∧ St w0 w' (HP.blk b1 ([.slice p2 (r.1.1).length c2, .slice p3 (r.1.2.1).length c3, .int .i64 (r.1.2.2.1), .bool (r.1.2.2.2)]) 71 :: HP.ow (rSl rByte) 33 p2 c2 r.1.1 :: HP.ow (rPair (rInt .i64) (rSl rByte)) 88 p3 c3 r.1.2.1 :: l)) := by
 unfold diskNew at hm
 refine x_enter Tryd.func9 rfl rfl rfl ?_
 intro a F
 replace F : Fr ⟨28, []⟩ a [(0, .int .i64 (n))] := F
 refine wp_seq ?_
 refine r_lit ?_
 refine s_val wkP F rfl rfl rfl rfl (y_assign F rfl rfl) ?_; clear F; intro a F
 refine s_val wkP F rfl rfl rfl rfl (y_assign F rfl rfl) ?_; clear F; intro a F
 refine wpList_nil ?_
 refine c_then ?_
 refine wp_seq ?_
 refine wp_seq ?_
 refine r_lit ?_
 refine s_val wkP F rfl rfl rfl rfl (y_move F rfl rfl) ?_; clear F; intro a F
 refine s_val wkP F rfl rfl rfl rfl (y_lss F rfl rfl rfl) ?_; clear F; intro a F
 refine s_val wkP F rfl rfl rfl rfl (y_move F rfl rfl) ?_; clear F; intro a F
 by_cases hg4 : n < 1
 · replace hm := ifT hg4 hm
   replace F := F.bool (k := 7) (u := .bool true) rfl (congrArg (fun b => Value.bool b) (decide_eq_true hg4))
   refine g_off wkP F rfl rfl rfl rfl rfl rfl rfl ?_; clear F; intro a F
   refine g_off wkP F rfl rfl rfl rfl rfl rfl rfl ?_; clear F; intro a F
   refine s_val wkP F rfl rfl rfl rfl (y_pickT F rfl rfl rfl) ?_; clear F; intro a F
   refine wpList_nil ?_
   refine c_then ?_
   refine x_condT F rfl ?_
   refine wp_seq ?_
   refine r_lit ?_
   refine s_val wkP F rfl rfl rfl rfl (y_assign F rfl rfl) ?_; clear F; intro a F
   refine s_val wkP F rfl rfl rfl rfl (y_assign F rfl rfl) ?_; clear F; intro a F
   refine wpList_nil ?_
   refine c_then ?_
   refine wp_ret ?_
   cases hm
 · replace hm := ifF hg4 hm
   replace F := F.bool (k := 7) (u := .bool false) rfl (congrArg (fun b => Value.bool b) (decide_eq_false hg4))
   refine g_onP F rfl rfl rfl rfl ?_
   refine s_val wkP F rfl rfl rfl rfl (y_move F rfl rfl) ?_; clear F; intro a F
   refine g_onP F rfl rfl rfl rfl ?_
   refine s_val wkP F rfl rfl rfl rfl (y_gtr F rfl rfl rfl) ?_; clear F; intro a F
   refine s_val wkP F rfl rfl rfl rfl (y_pickF F rfl rfl rfl) ?_; clear F; intro a F
   refine wpList_nil ?_
   refine c_then ?_
   refine x_condP F rfl (fun hg5 => ?_) (fun hg5 => ?_)
   · replace hm := ifT hg5 hm
     refine wp_seq ?_
     refine r_lit ?_
     refine s_val wkP F rfl rfl rfl rfl (y_assign F rfl rfl) ?_; clear F; intro a F
     refine s_val wkP F rfl rfl rfl rfl (y_assign F rfl rfl) ?_; clear F; intro a F
     refine wpList_nil ?_
     refine c_then ?_
     refine wp_ret ?_
     cases hm
   · replace hm := ifF hg5 hm
     refine wp_skip ?_
     refine c_then ?_
     refine wp_seq ?_
     refine r_lit ?_
     replace H : St w0 w (HP.ow (rSl rByte) 33 none 0 ([] : List (List UInt8)) :: l) := H.owNil (rSl rByte) 33
     replace H : St w0 w (HP.ow (rPair (rInt .i64) (rSl rByte)) 88 none 0 ([] : List (Int × (List UInt8))) :: HP.ow (rSl rByte) 33 none 0 ([] : List (List UInt8)) :: l) := H.owNil (rPair (rInt .i64) (rSl rByte)) 88
     refine s_val wkP F rfl rfl rfl rfl (y_build F rfl rfl (cs := [.slice none (([] : List (List UInt8))).length 0, .slice none (([] : List (Int × (List UInt8)))).length 0, .int .i64 (-1), .bool false]) (by kernel_rfl)) ?_; clear F; intro a F
     refine s_boxA wkP F rfl rfl rfl rfl rfl H ?_; clear F H; intro b6 w a H F
     replace H : St w0 w (HP.blk b6 ([.slice none (([] : List (List UInt8))).length 0, .slice none (([] : List (Int × (List UInt8)))).length 0, .int .i64 (-1), .bool false]) 71 :: HP.ow (rPair (rInt .i64) (rSl rByte)) 88 none 0 ([] : List (Int × (List UInt8))) :: HP.ow (rSl rByte) 33 none 0 ([] : List (List UInt8)) :: l) := H
     refine s_val wkP F rfl rfl rfl rfl (y_assign F rfl rfl) ?_; clear F; intro a F
     refine wpList_nil ?_
     refine c_then ?_
     refine wp_seq ?_
     refine wp_seq ?_
     refine r_lit ?_
     refine s_val wkP F rfl rfl rfl rfl (y_move F rfl rfl) ?_; clear F; intro a F
     refine s_val wkP F rfl rfl rfl rfl (y_move F rfl rfl) ?_; clear F; intro a F
     refine wpList_nil ?_
     refine c_then ?_
     obtain ⟨r44, er44, hm44⟩ := ob hm; clear hm; revert er44; intro hm
     refine x_mid (fun aa ww => ∃ (p45 : Option Addr) (c45 : Nat), Fr ⟨28, []⟩ aa [(4, .pointer (some ⟨b6, 0, none⟩))] ∧ St w0 ww (HP.blk b6 ([.slice p45 (r44).length c45, .slice none (([] : List (Int × (List UInt8)))).length 0, .int .i64 (-1), .bool false]) 71 :: HP.ow (rPair (rInt .i64) (rSl rByte)) 88 none 0 ([] : List (Int × (List UInt8))) :: HP.ow (rSl rByte) 33 p45 c45 r44 :: l)) ?_ ?_
     · skip
       refine wp_block ?_
       refine x_loopO _ (fun (s70 : (List (List UInt8)) × Int) aa ww => ∃ (p71 : Option Addr) (c71 : Nat), Fr ⟨28, []⟩ aa [(4, .pointer (some ⟨b6, 0, none⟩)), (13, .int .i64 (n)), (14, .int .i64 (s70.2))] ∧ St w0 ww (HP.blk b6 ([.slice p71 (s70.1).length c71, .slice none (([] : List (Int × (List UInt8)))).length 0, .int .i64 (-1), .bool false]) 71 :: HP.ow (rPair (rInt .i64) (rSl rByte)) 88 none 0 ([] : List (Int × (List UInt8))) :: HP.ow (rSl rByte) 33 p71 c71 s70.1 :: l)) hm ⟨none, 0, F.cut _ ⟨rfl, rfl, rfl, trivial⟩, (((H.mv 2 rfl).mv 2 rfl).mv 2 rfl)⟩ ?_
       clear F H hm
       rintro s70 a w o ⟨p71, c71, F, H⟩ hm
       refine wp_seq ?_
       refine r_lit ?_
       refine s_val wkP F rfl rfl rfl rfl (y_lss F rfl rfl rfl) ?_; clear F; intro a F
       refine wpList_nil ?_
       refine c_then ?_
       refine wp_seq ?_
       refine x_condP F rfl (fun hg72 => ?_) (fun hg72 => ?_)
       · replace hm := ifT hg72 hm
         refine wp_skip ?_
         refine c_then ?_
         refine wp_seq ?_
         refine wp_block ?_
         refine mix_region [5, 6, 7, 10] [10] (.step 0 0 (.step 0 1 (.step 0 2 (.step 0 3 (.step 0 4 (.step 2 5 (.step 2 6 (.step 2 7 (.step 0 8 (.step 0 9 (.step 3 10 .done))))))))))) (fun u => ∃ ls, St w0 u (HP.blk b6 ([.slice p71 (s70.1).length c71, .slice none (([] : List (Int × (List UInt8)))).length 0, .int .i64 (-1), .bool false]) 71 :: ls)) (by kernel_rfl) (by kernel_rfl) ⟨_, (H.drew.mv 0 rfl)⟩ ?_
         replace H := H.drew
         generalize w.drew = w at H ⊢
         refine m_pure F rfl rfl rfl rfl (fun u hu => y_move F rfl rfl) ?_; clear F; intro a F
         refine m_pure F rfl rfl rfl rfl (fun u hu => y_move F rfl rfl) ?_; clear F; intro a F
         refine m_pure F rfl rfl rfl rfl (fun u hu => y_nilCheck F rfl rfl) ?_; clear F; intro a F
         refine m_pure F rfl rfl rfl rfl (fun u hu => y_fieldAddr F fld71_0 rfl rfl) ?_; clear F; intro a F
         refine m_pure F rfl rfl rfl rfl (fun u hu => y_load1 F plain22 rfl rfl (row_at (v := .slice p71 (s70.1).length c71) ((hu.choose_spec.blk 0 rfl).row) rfl)) ?_; clear F; intro a F
         refine m_heavy rfl rfl ?_
         obtain ⟨x79, ex79, hn⟩ := ob hm; clear hm; revert hn; intro hm
         refine s_mkO (R := rByte) wkP F rfl rfl rfl elem33 rfl rfl rfl rfl rfl rfl (z := (0 : UInt8)) (fun _ => rfl) ex79 H ?_; clear F H; intro b78 w a H F
         replace H : St w0 w (HP.ow rByte 5 (some ⟨b78, 0, none⟩) ((x79).length) x79 :: HP.blk b6 ([.slice p71 (s70.1).length c71, .slice none (([] : List (Int × (List UInt8)))).length 0, .int .i64 (-1), .bool false]) 71 :: HP.ow (rPair (rInt .i64) (rSl rByte)) 88 none 0 ([] : List (Int × (List UInt8))) :: HP.ow (rSl rByte) 33 p71 c71 s70.1 :: l) := H
         refine wpList_nil ?_; refine c_then ⟨⟨_, (H.mv 1 rfl)⟩, ?_⟩
         refine m_heavy rfl rfl ?_
         replace H : St w0 w (HP.sl rByte (some ⟨b78, 0, none⟩) ((x79).length) x79 :: HP.blk b6 ([.slice p71 (s70.1).length c71, .slice none (([] : List (Int × (List UInt8)))).length 0, .int .i64 (-1), .bool false]) 71 :: HP.ow (rPair (rInt .i64) (rSl rByte)) 88 none 0 ([] : List (Int × (List UInt8))) :: HP.ow (rSl rByte) 33 p71 c71 s70.1 :: l) := H.frz 0 rfl
         refine s_buildC wkP F rfl rfl rfl elem22 zero33 rfl rfl rfl rfl (by simp [Value.cells]) (by decide) H ?_; clear F H; intro b80 w a H F
         replace H : St w0 w (HP.blk b80 ([.slice (some ⟨b78, 0, none⟩) (x79).length ((x79).length)]) 33 :: HP.sl rByte (some ⟨b78, 0, none⟩) ((x79).length) x79 :: HP.blk b6 ([.slice p71 (s70.1).length c71, .slice none (([] : List (Int × (List UInt8)))).length 0, .int .i64 (-1), .bool false]) 71 :: HP.ow (rPair (rInt .i64) (rSl rByte)) 88 none 0 ([] : List (Int × (List UInt8))) :: HP.ow (rSl rByte) 33 p71 c71 s70.1 :: l) := H
         replace H : St w0 w (HP.ow (rSl rByte) 33 (some ⟨b80, 0, none⟩) (([x79]).length) ([x79]) :: HP.sl rByte (some ⟨b78, 0, none⟩) ((x79).length) x79 :: HP.blk b6 ([.slice p71 (s70.1).length c71, .slice none (([] : List (Int × (List UInt8)))).length 0, .int .i64 (-1), .bool false]) 71 :: HP.ow (rPair (rInt .i64) (rSl rByte)) 88 none 0 ([] : List (Int × (List UInt8))) :: HP.ow (rSl rByte) 33 p71 c71 s70.1 :: l) := H.blkOw (R := (rSl rByte)) 0 rfl (fun gg => ⟨[[.slice (some ⟨b78, 0, none⟩) (x79).length ((x79).length)]], by simp, ⟨_, _, rfl, (gg 1 _ rfl).choose_spec⟩, trivial⟩) (by simp)
         refine wpList_nil ?_; refine c_then ⟨⟨_, (H.mv 2 rfl)⟩, ?_⟩
         refine m_heavy rfl rfl ?_
         replace H : St w0 w (HP.sl (rSl rByte) (some ⟨b80, 0, none⟩) (([x79]).length) ([x79]) :: HP.sl rByte (some ⟨b78, 0, none⟩) ((x79).length) x79 :: HP.blk b6 ([.slice p71 (s70.1).length c71, .slice none (([] : List (Int × (List UInt8)))).length 0, .int .i64 (-1), .bool false]) 71 :: HP.ow (rPair (rInt .i64) (rSl rByte)) 88 none 0 ([] : List (Int × (List UInt8))) :: HP.ow (rSl rByte) 33 p71 c71 s70.1 :: l) := H.frz 0 rfl
         obtain ⟨x82, ex82, hn⟩ := ob hm; clear hm; revert hn; intro hm
         refine s_app wkP F rfl rfl rfl rfl rfl rfl elem22 rfl ex82 H 4 0 rfl rfl ?_; clear F H; intro p81 c81 w a H F
         replace H : St w0 w (HP.sl (rSl rByte) (some ⟨b80, 0, none⟩) (([x79]).length) ([x79]) :: HP.sl rByte (some ⟨b78, 0, none⟩) ((x79).length) x79 :: HP.blk b6 ([.slice p71 (s70.1).length c71, .slice none (([] : List (Int × (List UInt8)))).length 0, .int .i64 (-1), .bool false]) 71 :: HP.ow (rPair (rInt .i64) (rSl rByte)) 88 none 0 ([] : List (Int × (List UInt8))) :: HP.ow (rSl rByte) 33 p81 c81 x82 :: l) := H
         refine wpList_nil ?_; refine c_then ⟨⟨_, (H.mv 2 rfl)⟩, ?_⟩
         refine m_pure F rfl rfl rfl rfl (fun u hu => y_nilCheck F rfl rfl) ?_; clear F; intro a F
         refine m_pure F rfl rfl rfl rfl (fun u hu => y_fieldAddr F fld71_0 rfl rfl) ?_; clear F; intro a F
         refine m_last rfl rfl ?_
         refine s_store1 wkP F rfl rfl zero22 rfl rfl rfl rfl rfl H 2 rfl (by simp [icells_length, bcells_length]) ?_; clear H; intro w H
         replace H : St w0 w (HP.sl (rSl rByte) (some ⟨b80, 0, none⟩) (([x79]).length) ([x79]) :: HP.sl rByte (some ⟨b78, 0, none⟩) ((x79).length) x79 :: HP.blk b6 ([.slice p81 (x82).length c81, .slice none (([] : List (Int × (List UInt8)))).length 0, .int .i64 (-1), .bool false]) 71 :: HP.ow (rPair (rInt .i64) (rSl rByte)) 88 none 0 ([] : List (Int × (List UInt8))) :: HP.ow (rSl rByte) 33 p81 c81 x82 :: l) := H
         refine wpList_nil ?_; refine c_then ?_
         refine m_nil ?_
         refine c_blkN ?_
         refine c_then ?_
         refine r_lit ?_
         refine s_val wkP F rfl rfl rfl rfl (i_add F rfl rfl rfl) ?_; clear F; intro a F
         refine s_val wkP F rfl rfl rfl rfl (y_move F rfl rfl) ?_; clear F; intro a F
         refine wpList_nil ?_
         refine c_then ?_; obtain rfl := Option.some.inj hm
         exact ⟨_, rfl, ⟨p81, c81, F.cut _ ⟨rfl, rfl, rfl, trivial⟩, ((((H.mv 4 rfl).mv 4 rfl).mv 4 rfl).keep 3 2)⟩⟩
       · replace hm := ifF hg72 hm
         refine wp_exit ?_
         refine c_thenX ?_
         refine c_thenX ?_; obtain rfl := Option.some.inj hm; refine ⟨_, rfl, ?_⟩; rintro rfl
         refine c_hit ?_
         refine c_then ?_
         exact ⟨p71, c71, F.cut _ ⟨rfl, trivial⟩, (((H.mv 2 rfl).mv 2 rfl).mv 2 rfl)⟩
     · skip
       clear F H hm
       rintro a w ⟨p45, c45, F, H⟩; have hm := hm44; clear hm44
       refine c_then ?_
       refine wp_seq ?_
       refine r_lit ?_
       refine s_val wkP F rfl rfl rfl rfl (y_move F rfl rfl) ?_; clear F; intro a F
       refine s_val wkP F rfl rfl rfl rfl (y_assign F rfl rfl) ?_; clear F; intro a F
       refine s_val wkP F rfl rfl rfl rfl (y_assign F rfl rfl) ?_; clear F; intro a F
       refine wpList_nil ?_
       refine c_then ?_
       refine wp_ret ?_
       obtain rfl := Option.some.inj hm
       refine x_ret2 F rfl rfl rfl ?_
       exact ⟨_, rfl, b6, p45, c45, none, 0, rfl, (((H.mv 1 rfl).mv 2 rfl).mv 2 rfl)⟩
set_option maxRecDepth 100000 in
set_option maxHeartbeats 4000000 in
theorem w_diskSectors (d : (List (List UInt8)) × (List (Int × (List UInt8))) × Int × Bool) (bo0 : Nat) (p1 : Option Addr) (c1 : Nat) (p2 : Option Addr) (c2 : Nat) (w0 w : World) (l : List HP)  (r : Int) (hm : diskSectors d = some r) (H : St w0 w (HP.blk bo0 ([.slice p1 (d.1).length c1, .slice p2 (d.2.1).length c2, .int .i64 (d.2.2.1), .bool (d.2.2.2)]) 71 :: HP.ow (rSl rByte) 33 p1 c1 d.1 :: HP.ow (rPair (rInt .i64) (rSl rByte)) 88 p2 c2 d.2.1 :: l)) :
  Calls Tryd.prog 32 [.pointer (some ⟨bo0, 0, none⟩)].toArray w (fun e w' => ∃ v, e = .returned v ∧ v = .int .i64 (r) ∧ St w0 w' (HP.blk bo0 ([.slice p1 (d.1).length c1, .slice p2 (d.2.1).length c2, .int .i64 (d.2.2.1), .bool (d.2.2.2)]) 71 :: HP.ow (rSl rByte) 33 p1 c1 d.1 :: HP.ow (rPair (rInt .i64) (rSl rByte)) 88 p2 c2 d.2.1 :: l)) := by
 unfold diskSectors at hm
 refine x_enter Tryd.func32 rfl rfl rfl ?_
 intro a F
 replace F : Fr ⟨8, []⟩ a [(0, .pointer (some ⟨bo0, 0, none⟩))] := F
 refine wp_seq ?_
 refine r_lit ?_
 refine s_val wkP F rfl rfl rfl rfl (y_assign F rfl rfl) ?_; clear F; intro a F
 refine wpList_nil ?_
 refine c_then ?_
 refine wp_seq ?_
 refine r_lit ?_
 refine s_val wkP F rfl rfl rfl rfl (y_move F rfl rfl) ?_; clear F; intro a F
 refine s_val wkP F rfl rfl rfl rfl (y_nilCheck F rfl rfl) ?_; clear F; intro a F
 refine s_val wkP F rfl rfl rfl rfl (y_fieldAddr F fld71_0 rfl rfl) ?_; clear F; intro a F
 refine s_val wkP F rfl rfl rfl rfl (y_load1 F plain22 rfl rfl (row_at (v := .slice p1 (d.1).length c1) ((H.blk 0 rfl).row) rfl)) ?_; clear F; intro a F
 refine s_val wkP F rfl rfl rfl rfl (y_lenS F rfl Tryd.underlying22 rfl) ?_; clear F; intro a F
 refine s_val wkP F rfl rfl rfl rfl (y_assign F rfl rfl) ?_; clear F; intro a F
 refine wpList_nil ?_
 refine c_then ?_
 refine wp_ret ?_
 obtain rfl := Option.some.inj hm
 refine x_ret1 F rfl rfl ?_
 exact ⟨_, rfl, rfl, (((H.mv 2 rfl).mv 2 rfl).mv 2 rfl)⟩
theorem fld71_2 : FieldT Tryd.prog 71 2 2 := by unfold FieldT; rw [Tryd.underlying71]; kernel_rfl
theorem plain3 : Plain Tryd.prog 3 := by unfold Plain; rw [Tryd.underlying3]; rfl
theorem fld71_3 : FieldT Tryd.prog 71 3 3 := by unfold FieldT; rw [Tryd.underlying71]; kernel_rfl
theorem zero4 : Zero1 Tryd.prog 4 (.bool false) := ⟨by kernel_rfl, rfl⟩
theorem zero3 : Zero1 Tryd.prog 3 (.int .i64 0) := ⟨by kernel_rfl, rfl⟩
set_option maxRecDepth 100000 in
set_option maxHeartbeats 4000000 in
theorem w_diskCall (d : (List (List UInt8)) × (List (Int × (List UInt8))) × Int × Bool) (bo0 : Nat) (p1 : Option Addr) (c1 : Nat) (p2 : Option Addr) (c2 : Nat) (w0 w : World) (l : List HP)  (r : Bool × ((List (List UInt8)) × (List (Int × (List UInt8))) × Int × Bool)) (hm : diskCall d = some r) (H : St w0 w (HP.blk bo0 ([.slice p1 (d.1).length c1, .slice p2 (d.2.1).length c2, .int .i64 (d.2.2.1), .bool (d.2.2.2)]) 71 :: HP.ow (rSl rByte) 33 p1 c1 d.1 :: HP.ow (rPair (rInt .i64) (rSl rByte)) 88 p2 c2 d.2.1 :: l)) :
  Calls Tryd.prog 41 [.pointer (some ⟨bo0, 0, none⟩)].toArray w (fun e w' => ∃ v, e = .returned v ∧ ∃ (p3 : Option Addr) (c3 : Nat) (p4 : Option Addr) (c4 : Nat), v = .bool (r.1) ∧ St w0 w' (HP.blk bo0 ([.slice p3 (r.2.1).length c3, .slice p4 (r.2.2.1).length c4, .int .i64 (r.2.2.2.1), .bool (r.2.2.2.2)]) 71 :: HP.ow (rSl rByte) 33 p3 c3 r.2.1 :: HP.ow (rPair (rInt .i64) (rSl rByte)) 88 p4 c4 r.2.2.1 :: l)) := by
 unfold diskCall at hm
 refine x_enter Tryd.func41 rfl rfl rfl ?_
 intro a F
 replace F : Fr ⟨23, []⟩ a [(0, .pointer (some ⟨bo0, 0, none⟩))] := F
 refine wp_seq ?_
 refine r_lit ?_
 refine s_val wkP F rfl rfl rfl rfl (y_assign F rfl rfl) ?_; clear F; intro a F
 refine wpList_nil ?_
 refine c_then ?_
 refine wp_seq ?_
 refine wp_seq ?_
 refine r_lit ?_
 refine s_val wkP F rfl rfl rfl rfl (y_move F rfl rfl) ?_; clear F; intro a F
 refine s_val wkP F rfl rfl rfl rfl (y_nilCheck F rfl rfl) ?_; clear F; intro a F
 refine s_val wkP F rfl rfl rfl rfl (y_fieldAddr F fld71_2 rfl rfl) ?_; clear F; intro a F
 refine s_val wkP F rfl rfl rfl rfl (y_load1 F plain3 rfl rfl (row_at (v := .int .i64 (d.2.2.1)) ((H.blk 0 rfl).row) rfl)) ?_; clear F; intro a F
 refine s_val wkP F rfl rfl rfl rfl (y_eql F rfl rfl rfl) ?_; clear F; intro a F
 refine wpList_nil ?_
 refine c_then ?_
 refine x_condP F rfl (fun hg5 => ?_) (fun hg5 => ?_)
 · replace hm := ifT hg5 hm
   refine wp_seq ?_
   refine r_lit ?_
   refine s_val wkP F rfl rfl rfl rfl (y_move F rfl rfl) ?_; clear F; intro a F
   refine s_val wkP F rfl rfl rfl rfl (y_nilCheck F rfl rfl) ?_; clear F; intro a F
   refine s_val wkP F rfl rfl rfl rfl (y_fieldAddr F fld71_3 rfl rfl) ?_; clear F; intro a F
   refine s_store1 wkP F rfl rfl zero4 rfl rfl rfl rfl rfl H 0 rfl (by simp [icells_length, bcells_length]) ?_; clear H; intro w H
   replace H : St w0 w (HP.blk bo0 ([.slice p1 (d.1).length c1, .slice p2 (d.2.1).length c2, .int .i64 (d.2.2.1), .bool true]) 71 :: HP.ow (rSl rByte) 33 p1 c1 d.1 :: HP.ow (rPair (rInt .i64) (rSl rByte)) 88 p2 c2 d.2.1 :: l) := H
   refine wpList_nil ?_
   refine c_then ?_
   refine wp_seq ?_
   refine r_lit ?_
   refine s_val wkP F rfl rfl rfl rfl (y_assign F rfl rfl) ?_; clear F; intro a F
   refine wpList_nil ?_
   refine c_then ?_
   refine wp_ret ?_
   refine c_thenR ?_
   obtain rfl := Option.some.inj hm
   refine x_ret1 F rfl rfl ?_
   exact ⟨_, rfl, p1, c1, p2, c2, rfl, (((H.mv 2 rfl).mv 2 rfl).mv 2 rfl)⟩
 · replace hm := ifF hg5 hm
   refine wp_skip ?_
   refine c_then ?_
   refine wp_seq ?_
   refine wp_seq ?_
   refine r_lit ?_
   refine s_val wkP F rfl rfl rfl rfl (y_move F rfl rfl) ?_; clear F; intro a F
   refine s_val wkP F rfl rfl rfl rfl (y_nilCheck F rfl rfl) ?_; clear F; intro a F
   refine s_val wkP F rfl rfl rfl rfl (y_fieldAddr F fld71_2 rfl rfl) ?_; clear F; intro a F
   refine s_val wkP F rfl rfl rfl rfl (y_load1 F plain3 rfl rfl (row_at (v := .int .i64 (d.2.2.1)) ((H.blk 0 rfl).row) rfl)) ?_; clear F; intro a F
   refine s_val wkP F rfl rfl rfl rfl (y_gtr F rfl rfl rfl) ?_; clear F; intro a F
   refine wpList_nil ?_
   refine c_then ?_
   obtain ⟨r7, er7, hm7⟩ := ob hm; clear hm; revert er7; intro hm
   refine x_mid (fun aa ww => Fr ⟨23, []⟩ aa [] ∧ St w0 ww (HP.blk bo0 ([.slice p1 (d.1).length c1, .slice p2 (d.2.1).length c2, .int .i64 (r7), .bool (d.2.2.2)]) 71 :: HP.ow (rSl rByte) 33 p1 c1 d.1 :: HP.ow (rPair (rInt .i64) (rSl rByte)) 88 p2 c2 d.2.1 :: l)) ?_ ?_
   · skip
     refine x_condP F rfl (fun hg8 => ?_) (fun hg8 => ?_)
     · replace hm := ifT hg8 hm
       refine r_lit ?_
       refine s_val wkP F rfl rfl rfl rfl (y_move F rfl rfl) ?_; clear F; intro a F
       refine s_val wkP F rfl rfl rfl rfl (y_nilCheck F rfl rfl) ?_; clear F; intro a F
       refine s_val wkP F rfl rfl rfl rfl (y_fieldAddr F fld71_2 rfl rfl) ?_; clear F; intro a F
       refine s_val wkP F rfl rfl rfl rfl (y_load1 F plain3 rfl rfl (row_at (v := .int .i64 (d.2.2.1)) ((H.blk 0 rfl).row) rfl)) ?_; clear F; intro a F
       refine s_val wkP F rfl rfl rfl rfl (i_sub F rfl rfl rfl) ?_; clear F; intro a F
       refine s_val wkP F rfl rfl rfl rfl (y_nilCheck F rfl rfl) ?_; clear F; intro a F
       refine s_val wkP F rfl rfl rfl rfl (y_fieldAddr F fld71_2 rfl rfl) ?_; clear F; intro a F
       refine s_store1 wkP F rfl rfl zero3 rfl rfl rfl rfl rfl H 0 rfl (by simp [icells_length, bcells_length]) ?_; clear H; intro w H
       replace H : St w0 w (HP.blk bo0 ([.slice p1 (d.1).length c1, .slice p2 (d.2.1).length c2, .int .i64 (IntKind.i64.wrap (d.2.2.1 - 1)), .bool (d.2.2.2)]) 71 :: HP.ow (rSl rByte) 33 p1 c1 d.1 :: HP.ow (rPair (rInt .i64) (rSl rByte)) 88 p2 c2 d.2.1 :: l) := H
       refine wpList_nil ?_
       obtain rfl := Option.some.inj hm
       refine c_then ?_
       exact ⟨F.cut _ trivial, (((H.mv 2 rfl).mv 2 rfl).mv 2 rfl)⟩
     · replace hm := ifF hg8 hm
       refine wp_skip ?_
       obtain rfl := Option.some.inj hm
       refine c_then ?_
       exact ⟨F.cut _ trivial, (((H.mv 2 rfl).mv 2 rfl).mv 2 rfl)⟩
   · skip
     clear F H hm
     rintro a w ⟨F, H⟩; have hm := hm7; clear hm7
     refine c_then ?_
     refine wp_seq ?_
     refine r_lit ?_
     refine s_val wkP F rfl rfl rfl rfl (y_assign F rfl rfl) ?_; clear F; intro a F
     refine wpList_nil ?_
     refine c_then ?_
     refine wp_ret ?_
     obtain rfl := Option.some.inj hm
     refine x_ret1 F rfl rfl ?_
     exact ⟨_, rfl, p1, c1, p2, c2, rfl, (((H.mv 2 rfl).mv 2 rfl).mv 2 rfl)⟩
theorem zero26 : Zero1 Tryd.prog 26 (.int .i64 0) := ⟨by kernel_rfl, rfl⟩
theorem plain4 : Plain Tryd.prog 4 := by unfold Plain; rw [Tryd.underlying4]; rfl
theorem plain26 : Plain Tryd.prog 26 := by unfold Plain; rw [Tryd.underlying26]; rfl
theorem fld71_1 : FieldT Tryd.prog 71 1 1 := by unfold FieldT; rw [Tryd.underlying71]; kernel_rfl
theorem ent56 : ∀ args w, (callFunc 56 args).run Tryd.prog w = .ok (.enter 56 args) w := enters Tryd.func56 (by kernel_rfl) rfl
theorem agz88 : AggT Tryd.prog 88 2 ([.int .i64 (0), .slice none (([] : List UInt8)).length 0]) := ⟨by rw [Tryd.underlying88]; rfl, by kernel_rfl, by kernel_rfl⟩
theorem fld88_0 : FieldT Tryd.prog 88 0 0 := by unfold FieldT; rw [Tryd.underlying88]; kernel_rfl
theorem fld88_1 : FieldT Tryd.prog 88 1 1 := by unfold FieldT; rw [Tryd.underlying88]; kernel_rfl
theorem ent75 : ∀ args w, (callFunc 75 args).run Tryd.prog w = .ok (.enter 75 args) w := enters Tryd.func75 (by kernel_rfl) rfl
set_option maxRecDepth 100000 in
set_option maxHeartbeats 4000000 in
theorem w_diskRead (d : (List (List UInt8)) × (List (Int × (List UInt8))) × Int × Bool) (i : Int) (bo0 : Nat) (p1 : Option Addr) (c1 : Nat) (p2 : Option Addr) (c2 : Nat) (w0 w : World) (l : List HP)  (r : (List UInt8) × Int) (hm : diskRead d i = some r) (H : St w0 w (HP.blk bo0 ([.slice p1 (d.1).length c1, .slice p2 (d.2.1).length c2, .int .i64 (d.2.2.1), .bool (d.2.2.2)]) 71 :: HP.ow (rSl rByte) 33 p1 c1 d.1 :: HP.ow (rPair (rInt .i64) (rSl rByte)) 88 p2 c2 d.2.1 :: l)) :
  Calls Tryd.prog 33 [.pointer (some ⟨bo0, 0, none⟩), .int .i64 (i)].toArray w (fun e w' => ∃ v, e = .returned v ∧ ∃ (p3 : Option Addr) (c3 : Nat), v = .tuple [.slice p3 (r.1).length c3, .int .i64 (r.2)].toArray ∧ St w0 w' (HP.sl rByte p3 c3 r.1 :: HP.blk bo0 ([.slice p1 (d.1).length c1, .slice p2 (d.2.1).length c2, .int .i64 (d.2.2.1), .bool (d.2.2.2)]) 71 :: HP.ow (rSl rByte) 33 p1 c1 d.1 :: HP.ow (rPair (rInt .i64) (rSl rByte)) 88 p2 c2 d.2.1 :: l)) := by
 unfold diskRead at hm
 refine xk_enter Tryd.func33 rfl rfl rfl ?_
 intro a F
 replace H : St w0 w (HP.mks ([]) :: HP.blk bo0 ([.slice p1 (d.1).length c1, .slice p2 (d.2.1).length c2, .int .i64 (d.2.2.1), .bool (d.2.2.2)]) 71 :: HP.ow (rSl rByte) 33 p1 c1 d.1 :: HP.ow (rPair (rInt .i64) (rSl rByte)) 88 p2 c2 d.2.1 :: l) := H.mks0
 replace F : Fr ⟨47, marks []⟩ a [(0, .pointer (some ⟨bo0, 0, none⟩)), (1, .int .i64 (i))] := F
 refine wp_seq ?_
 refine r_lit ?_
 refine s_box1 wkP F rfl rfl rfl rfl rfl rfl H ?_; clear F H; intro b4 w a H F
 replace H : St w0 w (HP.blk b4 ([.int .i64 (i)]) 3 :: HP.mks ([]) :: HP.blk bo0 ([.slice p1 (d.1).length c1, .slice p2 (d.2.1).length c2, .int .i64 (d.2.2.1), .bool (d.2.2.2)]) 71 :: HP.ow (rSl rByte) 33 p1 c1 d.1 :: HP.ow (rPair (rInt .i64) (rSl rByte)) 88 p2 c2 d.2.1 :: l) := H
 replace H : St w0 w (HP.ow rByte 5 none 0 ([] : List UInt8) :: HP.blk b4 ([.int .i64 (i)]) 3 :: HP.mks ([]) :: HP.blk bo0 ([.slice p1 (d.1).length c1, .slice p2 (d.2.1).length c2, .int .i64 (d.2.2.1), .bool (d.2.2.2)]) 71 :: HP.ow (rSl rByte) 33 p1 c1 d.1 :: HP.ow (rPair (rInt .i64) (rSl rByte)) 88 p2 c2 d.2.1 :: l) := H.owNil rByte 5
 refine s_alloc1 wkP F rfl rfl rfl zero33 rfl H ?_; clear F H; intro b5 w a H F
 replace H : St w0 w (HP.blk b5 ([.slice none (([] : List UInt8)).length 0]) 33 :: HP.ow rByte 5 none 0 ([] : List UInt8) :: HP.blk b4 ([.int .i64 (i)]) 3 :: HP.mks ([]) :: HP.blk bo0 ([.slice p1 (d.1).length c1, .slice p2 (d.2.1).length c2, .int .i64 (d.2.2.1), .bool (d.2.2.2)]) 71 :: HP.ow (rSl rByte) 33 p1 c1 d.1 :: HP.ow (rPair (rInt .i64) (rSl rByte)) 88 p2 c2 d.2.1 :: l) := H
 refine s_alloc1 wkP F rfl rfl rfl zero26 rfl H ?_; clear F H; intro b6 w a H F
 replace H : St w0 w (HP.blk b6 ([.int .i64 (0)]) 26 :: HP.blk b5 ([.slice none (([] : List UInt8)).length 0]) 33 :: HP.ow rByte 5 none 0 ([] : List UInt8) :: HP.blk b4 ([.int .i64 (i)]) 3 :: HP.mks ([]) :: HP.blk bo0 ([.slice p1 (d.1).length c1, .slice p2 (d.2.1).length c2, .int .i64 (d.2.2.1), .bool (d.2.2.2)]) 71 :: HP.ow (rSl rByte) 33 p1 c1 d.1 :: HP.ow (rPair (rInt .i64) (rSl rByte)) 88 p2 c2 d.2.1 :: l) := H
 refine wpList_nil ?_
 refine c_then ?_
 refine wp_seq ?_
 refine wp_block ?_
 refine wp_seq ?_
 refine r_lit ?_
 refine s_val wkP F rfl rfl rfl rfl (y_move F rfl rfl) ?_; clear F; intro a F
 refine s_val wkP F rfl rfl rfl rfl (y_nilCheck F rfl rfl) ?_; clear F; intro a F
 refine s_val wkP F rfl rfl rfl rfl (y_fieldAddr F fld71_3 rfl rfl) ?_; clear F; intro a F
 refine s_val wkP F rfl rfl rfl rfl (y_load1 F plain4 rfl rfl (row_at (v := .bool (d.2.2.2)) ((H.blk 5 rfl).row) rfl)) ?_; clear F; intro a F
 refine s_val wkP F rfl rfl rfl rfl (y_assign F rfl rfl) ?_; clear F; intro a F
 refine wpList_nil ?_
 refine c_then ?_
 refine x_cond F rfl (fun hg7 => ?_) (fun hg7 => ?_)
 · replace hm := ifT hg7 hm
   refine wp_seq ?_
   refine r_lit ?_
   replace H : St w0 w (HP.ow rByte 5 none 0 ([] : List UInt8) :: HP.blk b6 ([.int .i64 (0)]) 26 :: HP.blk b5 ([.slice none (([] : List UInt8)).length 0]) 33 :: HP.ow rByte 5 none 0 ([] : List UInt8) :: HP.blk b4 ([.int .i64 (i)]) 3 :: HP.mks ([]) :: HP.blk bo0 ([.slice p1 (d.1).length c1, .slice p2 (d.2.1).length c2, .int .i64 (d.2.2.1), .bool (d.2.2.2)]) 71 :: HP.ow (rSl rByte) 33 p1 c1 d.1 :: HP.ow (rPair (rInt .i64) (rSl rByte)) 88 p2 c2 d.2.1 :: l) := H.owNil rByte 5
   refine s_store1 wkP F rfl rfl zero33 rfl rfl rfl rfl rfl H 2 rfl (by simp) ?_; clear H; intro w H
   replace H : St w0 w (HP.ow rByte 5 none 0 ([] : List UInt8) :: HP.blk b6 ([.int .i64 (0)]) 26 :: HP.blk b5 ([.slice none (([] : List UInt8)).length 0]) 33 :: HP.ow rByte 5 none 0 ([] : List UInt8) :: HP.blk b4 ([.int .i64 (i)]) 3 :: HP.mks ([]) :: HP.blk bo0 ([.slice p1 (d.1).length c1, .slice p2 (d.2.1).length c2, .int .i64 (d.2.2.1), .bool (d.2.2.2)]) 71 :: HP.ow (rSl rByte) 33 p1 c1 d.1 :: HP.ow (rPair (rInt .i64) (rSl rByte)) 88 p2 c2 d.2.1 :: l) := H
   refine s_store1 wkP F rfl rfl zero26 rfl rfl rfl rfl rfl H 1 rfl (by simp) ?_; clear H; intro w H
   replace H : St w0 w (HP.ow rByte 5 none 0 ([] : List UInt8) :: HP.blk b6 ([.int .i64 (3)]) 26 :: HP.blk b5 ([.slice none (([] : List UInt8)).length 0]) 33 :: HP.ow rByte 5 none 0 ([] : List UInt8) :: HP.blk b4 ([.int .i64 (i)]) 3 :: HP.mks ([]) :: HP.blk bo0 ([.slice p1 (d.1).length c1, .slice p2 (d.2.1).length c2, .int .i64 (d.2.2.1), .bool (d.2.2.2)]) 71 :: HP.ow (rSl rByte) 33 p1 c1 d.1 :: HP.ow (rPair (rInt .i64) (rSl rByte)) 88 p2 c2 d.2.1 :: l) := H
   refine wpList_nil ?_
   refine c_then ?_
   refine wp_ret ?_
   refine c_blkR ?_
   refine c_thenR ?_
   replace H : St w0 w (HP.sl rByte none 0 ([] : List UInt8) :: HP.blk b6 ([.int .i64 (3)]) 26 :: HP.blk b5 ([.slice none (([] : List UInt8)).length 0]) 33 :: HP.ow rByte 5 none 0 ([] : List UInt8) :: HP.blk b4 ([.int .i64 (i)]) 3 :: HP.mks ([]) :: HP.blk bo0 ([.slice p1 (d.1).length c1, .slice p2 (d.2.1).length c2, .int .i64 (d.2.2.1), .bool (d.2.2.2)]) 71 :: HP.ow (rSl rByte) 33 p1 c1 d.1 :: HP.ow (rPair (rInt .i64) (rSl rByte)) 88 p2 c2 d.2.1 :: l) := H.frz 0 rfl
   obtain rfl := Option.some.inj hm
   refine xk_resC2 F rfl ((H.mv 5 rfl)) (fun w H => ⟨_, rfl, ld1 plain33 ((H.blk 2 rfl).cell _)⟩) (fun w H => ⟨_, rfl, ld1 plain26 ((H.blk 1 rfl).cell _)⟩) ?_; clear H; intro w H
   exact ⟨_, rfl, none, 0, rfl, (((((H.mv 7 rfl).mv 7 rfl).mv 7 rfl).cp 3 rfl pers_sl).keep 4 5)⟩
 · replace hm := ifF (nT hg7) hm
   refine wp_seq ?_
   by_cases hg8 : i < 0
   · replace hm := ifT hg8 hm
     refine q_region (fun u => St w0 u (HP.blk b6 ([.int .i64 (0)]) 26 :: HP.blk b5 ([.slice none (([] : List UInt8)).length 0]) 33 :: HP.ow rByte 5 none 0 ([] : List UInt8) :: HP.blk b4 ([.int .i64 (i)]) 3 :: HP.mks ([]) :: HP.blk bo0 ([.slice p1 (d.1).length c1, .slice p2 (d.2.1).length c2, .int .i64 (d.2.2.1), .bool (d.2.2.2)]) 71 :: HP.ow (rSl rByte) 33 p1 c1 d.1 :: HP.ow (rPair (rInt .i64) (rSl rByte)) 88 p2 c2 d.2.1 :: l)) (by kernel_rfl) (by kernel_rfl) H.drew ?_
     refine q_val F rfl rfl rfl (fun u hu => y_load1 F plain3 rfl rfl ((hu.blk 3 rfl).cell _)) ?_; clear F; intro a F
     refine q_val F rfl rfl rfl (fun u hu => y_lss F rfl rfl rfl) ?_; clear F; intro a F
     refine q_val F rfl rfl rfl (fun u hu => y_move F rfl rfl) ?_; clear F; intro a F
     replace F := F.bool (k := 16) (u := .bool true) rfl (congrArg (fun b => Value.bool b) (decide_eq_true hg8))
     refine qg_off F rfl rfl rfl rfl rfl rfl rfl ?_; clear F; intro a F
     refine qg_off F rfl rfl rfl rfl rfl rfl rfl ?_; clear F; intro a F
     refine qg_off F rfl rfl rfl rfl rfl rfl rfl ?_; clear F; intro a F
     refine qg_off F rfl rfl rfl rfl rfl rfl rfl ?_; clear F; intro a F
     refine qg_off F rfl rfl rfl rfl rfl rfl rfl ?_; clear F; intro a F
     refine qg_off F rfl rfl rfl rfl rfl rfl rfl ?_; clear F; intro a F
     refine qg_off F rfl rfl rfl rfl rfl rfl rfl ?_; clear F; intro a F
     refine q_val F rfl rfl rfl (fun u hu => y_pickT F rfl rfl rfl) ?_; clear F; intro a F
     refine q_val F rfl rfl rfl (fun u hu => y_assign F rfl rfl) ?_; clear F; intro a F
     refine q_nil ?_; clear H; intro w H
     refine c_then ?_
     refine x_condT F rfl ?_
     refine wp_seq ?_
     refine r_lit ?_
     replace H : St w0 w (HP.ow rByte 5 none 0 ([] : List UInt8) :: HP.blk b6 ([.int .i64 (0)]) 26 :: HP.blk b5 ([.slice none (([] : List UInt8)).length 0]) 33 :: HP.ow rByte 5 none 0 ([] : List UInt8) :: HP.blk b4 ([.int .i64 (i)]) 3 :: HP.mks ([]) :: HP.blk bo0 ([.slice p1 (d.1).length c1, .slice p2 (d.2.1).length c2, .int .i64 (d.2.2.1), .bool (d.2.2.2)]) 71 :: HP.ow (rSl rByte) 33 p1 c1 d.1 :: HP.ow (rPair (rInt .i64) (rSl rByte)) 88 p2 c2 d.2.1 :: l) := H.owNil rByte 5
     refine s_store1 wkP F rfl rfl zero33 rfl rfl rfl rfl rfl H 2 rfl (by simp) ?_; clear H; intro w H
     replace H : St w0 w (HP.ow rByte 5 none 0 ([] : List UInt8) :: HP.blk b6 ([.int .i64 (0)]) 26 :: HP.blk b5 ([.slice none (([] : List UInt8)).length 0]) 33 :: HP.ow rByte 5 none 0 ([] : List UInt8) :: HP.blk b4 ([.int .i64 (i)]) 3 :: HP.mks ([]) :: HP.blk bo0 ([.slice p1 (d.1).length c1, .slice p2 (d.2.1).length c2, .int .i64 (d.2.2.1), .bool (d.2.2.2)]) 71 :: HP.ow (rSl rByte) 33 p1 c1 d.1 :: HP.ow (rPair (rInt .i64) (rSl rByte)) 88 p2 c2 d.2.1 :: l) := H
     refine s_store1 wkP F rfl rfl zero26 rfl rfl rfl rfl rfl H 1 rfl (by simp) ?_; clear H; intro w H
     replace H : St w0 w (HP.ow rByte 5 none 0 ([] : List UInt8) :: HP.blk b6 ([.int .i64 (2)]) 26 :: HP.blk b5 ([.slice none (([] : List UInt8)).length 0]) 33 :: HP.ow rByte 5 none 0 ([] : List UInt8) :: HP.blk b4 ([.int .i64 (i)]) 3 :: HP.mks ([]) :: HP.blk bo0 ([.slice p1 (d.1).length c1, .slice p2 (d.2.1).length c2, .int .i64 (d.2.2.1), .bool (d.2.2.2)]) 71 :: HP.ow (rSl rByte) 33 p1 c1 d.1 :: HP.ow (rPair (rInt .i64) (rSl rByte)) 88 p2 c2 d.2.1 :: l) := H
     refine wpList_nil ?_
     refine c_then ?_
     refine wp_ret ?_
     refine c_blkR ?_
     refine c_thenR ?_
     replace H : St w0 w (HP.sl rByte none 0 ([] : List UInt8) :: HP.blk b6 ([.int .i64 (2)]) 26 :: HP.blk b5 ([.slice none (([] : List UInt8)).length 0]) 33 :: HP.ow rByte 5 none 0 ([] : List UInt8) :: HP.blk b4 ([.int .i64 (i)]) 3 :: HP.mks ([]) :: HP.blk bo0 ([.slice p1 (d.1).length c1, .slice p2 (d.2.1).length c2, .int .i64 (d.2.2.1), .bool (d.2.2.2)]) 71 :: HP.ow (rSl rByte) 33 p1 c1 d.1 :: HP.ow (rPair (rInt .i64) (rSl rByte)) 88 p2 c2 d.2.1 :: l) := H.frz 0 rfl
     obtain rfl := Option.some.inj hm
     refine xk_resC2 F rfl ((H.mv 5 rfl)) (fun w H => ⟨_, rfl, ld1 plain33 ((H.blk 2 rfl).cell _)⟩) (fun w H => ⟨_, rfl, ld1 plain26 ((H.blk 1 rfl).cell _)⟩) ?_; clear H; intro w H
     exact ⟨_, rfl, none, 0, rfl, (((((H.mv 7 rfl).mv 7 rfl).mv 7 rfl).cp 3 rfl pers_sl).keep 4 5)⟩
   · replace hm := ifF hg8 hm
     refine q_region (fun u => St w0 u (HP.blk b6 ([.int .i64 (0)]) 26 :: HP.blk b5 ([.slice none (([] : List UInt8)).length 0]) 33 :: HP.ow rByte 5 none 0 ([] : List UInt8) :: HP.blk b4 ([.int .i64 (i)]) 3 :: HP.mks ([]) :: HP.blk bo0 ([.slice p1 (d.1).length c1, .slice p2 (d.2.1).length c2, .int .i64 (d.2.2.1), .bool (d.2.2.2)]) 71 :: HP.ow (rSl rByte) 33 p1 c1 d.1 :: HP.ow (rPair (rInt .i64) (rSl rByte)) 88 p2 c2 d.2.1 :: l)) (by kernel_rfl) (by kernel_rfl) H.drew ?_
     refine q_val F rfl rfl rfl (fun u hu => y_load1 F plain3 rfl rfl ((hu.blk 3 rfl).cell _)) ?_; clear F; intro a F
     refine q_val F rfl rfl rfl (fun u hu => y_lss F rfl rfl rfl) ?_; clear F; intro a F
     refine q_val F rfl rfl rfl (fun u hu => y_move F rfl rfl) ?_; clear F; intro a F
     replace F := F.bool (k := 16) (u := .bool false) rfl (congrArg (fun b => Value.bool b) (decide_eq_false hg8))
     refine qg_on F rfl rfl rfl rfl ?_
     refine q_val F rfl rfl rfl (fun u hu => y_load1 F plain3 rfl rfl ((hu.blk 3 rfl).cell _)) ?_; clear F; intro a F
     refine qg_on F rfl rfl rfl rfl ?_
     refine q_val F rfl rfl rfl (fun u hu => y_move F rfl rfl) ?_; clear F; intro a F
     refine qg_on F rfl rfl rfl rfl ?_
     refine q_val F rfl rfl rfl (fun u hu => y_nilCheck F rfl rfl) ?_; clear F; intro a F
     refine qg_on F rfl rfl rfl rfl ?_
     refine q_val F rfl rfl rfl (fun u hu => y_fieldAddr F fld71_0 rfl rfl) ?_; clear F; intro a F
     refine qg_on F rfl rfl rfl rfl ?_
     refine q_val F rfl rfl rfl (fun u hu => y_load1 F plain22 rfl rfl (row_at (v := .slice p1 (d.1).length c1) ((hu.blk 5 rfl).row) rfl)) ?_; clear F; intro a F
     refine qg_on F rfl rfl rfl rfl ?_
     refine q_val F rfl rfl rfl (fun u hu => y_lenS F rfl Tryd.underlying22 rfl) ?_; clear F; intro a F
     refine qg_on F rfl rfl rfl rfl ?_
     refine q_val F rfl rfl rfl (fun u hu => y_geq F rfl rfl rfl) ?_; clear F; intro a F
     refine q_val F rfl rfl rfl (fun u hu => y_pickF F rfl rfl rfl) ?_; clear F; intro a F
     refine q_val F rfl rfl rfl (fun u hu => y_assign F rfl rfl) ?_; clear F; intro a F
     refine q_nil ?_; clear H; intro w H
     refine c_then ?_
     refine x_condP F rfl (fun hg9 => ?_) (fun hg9 => ?_)
     · replace hm := ifT hg9 hm
       refine wp_seq ?_
       refine r_lit ?_
       replace H : St w0 w (HP.ow rByte 5 none 0 ([] : List UInt8) :: HP.blk b6 ([.int .i64 (0)]) 26 :: HP.blk b5 ([.slice none (([] : List UInt8)).length 0]) 33 :: HP.ow rByte 5 none 0 ([] : List UInt8) :: HP.blk b4 ([.int .i64 (i)]) 3 :: HP.mks ([]) :: HP.blk bo0 ([.slice p1 (d.1).length c1, .slice p2 (d.2.1).length c2, .int .i64 (d.2.2.1), .bool (d.2.2.2)]) 71 :: HP.ow (rSl rByte) 33 p1 c1 d.1 :: HP.ow (rPair (rInt .i64) (rSl rByte)) 88 p2 c2 d.2.1 :: l) := H.owNil rByte 5
       refine s_store1 wkP F rfl rfl zero33 rfl rfl rfl rfl rfl H 2 rfl (by simp) ?_; clear H; intro w H
       replace H : St w0 w (HP.ow rByte 5 none 0 ([] : List UInt8) :: HP.blk b6 ([.int .i64 (0)]) 26 :: HP.blk b5 ([.slice none (([] : List UInt8)).length 0]) 33 :: HP.ow rByte 5 none 0 ([] : List UInt8) :: HP.blk b4 ([.int .i64 (i)]) 3 :: HP.mks ([]) :: HP.blk bo0 ([.slice p1 (d.1).length c1, .slice p2 (d.2.1).length c2, .int .i64 (d.2.2.1), .bool (d.2.2.2)]) 71 :: HP.ow (rSl rByte) 33 p1 c1 d.1 :: HP.ow (rPair (rInt .i64) (rSl rByte)) 88 p2 c2 d.2.1 :: l) := H
       refine s_store1 wkP F rfl rfl zero26 rfl rfl rfl rfl rfl H 1 rfl (by simp) ?_; clear H; intro w H
       replace H : St w0 w (HP.ow rByte 5 none 0 ([] : List UInt8) :: HP.blk b6 ([.int .i64 (2)]) 26 :: HP.blk b5 ([.slice none (([] : List UInt8)).length 0]) 33 :: HP.ow rByte 5 none 0 ([] : List UInt8) :: HP.blk b4 ([.int .i64 (i)]) 3 :: HP.mks ([]) :: HP.blk bo0 ([.slice p1 (d.1).length c1, .slice p2 (d.2.1).length c2, .int .i64 (d.2.2.1), .bool (d.2.2.2)]) 71 :: HP.ow (rSl rByte) 33 p1 c1 d.1 :: HP.ow (rPair (rInt .i64) (rSl rByte)) 88 p2 c2 d.2.1 :: l) := H
       refine wpList_nil ?_
       refine c_then ?_
       refine wp_ret ?_
       refine c_blkR ?_
       refine c_thenR ?_
       replace H : St w0 w (HP.sl rByte none 0 ([] : List UInt8) :: HP.blk b6 ([.int .i64 (2)]) 26 :: HP.blk b5 ([.slice none (([] : List UInt8)).length 0]) 33 :: HP.ow rByte 5 none 0 ([] : List UInt8) :: HP.blk b4 ([.int .i64 (i)]) 3 :: HP.mks ([]) :: HP.blk bo0 ([.slice p1 (d.1).length c1, .slice p2 (d.2.1).length c2, .int .i64 (d.2.2.1), .bool (d.2.2.2)]) 71 :: HP.ow (rSl rByte) 33 p1 c1 d.1 :: HP.ow (rPair (rInt .i64) (rSl rByte)) 88 p2 c2 d.2.1 :: l) := H.frz 0 rfl
       obtain rfl := Option.some.inj hm
       refine xk_resC2 F rfl ((H.mv 5 rfl)) (fun w H => ⟨_, rfl, ld1 plain33 ((H.blk 2 rfl).cell _)⟩) (fun w H => ⟨_, rfl, ld1 plain26 ((H.blk 1 rfl).cell _)⟩) ?_; clear H; intro w H
       exact ⟨_, rfl, none, 0, rfl, (((((H.mv 7 rfl).mv 7 rfl).mv 7 rfl).cp 3 rfl pers_sl).keep 4 5)⟩
     · replace hm := ifF hg9 hm
       refine wp_skip ?_
       refine c_blkN ?_
       refine c_then ?_
       refine wp_seq ?_
       refine wp_seq ?_
       refine r_lit ?_
       refine s_val wkP F rfl rfl rfl rfl (y_move F rfl rfl) ?_; clear F; intro a F
       refine s_val wkP F rfl rfl rfl rfl (y_nilCheck F rfl rfl) ?_; clear F; intro a F
       refine s_val wkP F rfl rfl rfl rfl (y_fieldAddr F fld71_1 rfl rfl) ?_; clear F; intro a F
       refine s_val wkP F rfl rfl rfl rfl (y_load1 F plain69 rfl rfl (row_at (v := .slice p2 (d.2.1).length c2) ((H.blk 5 rfl).row) rfl)) ?_; clear F; intro a F
       refine s_call wkP F rfl rfl rfl rfl (y_call F rfl rfl ent56) (w_mk56 p2 _ c2 w0 _ _ H) ?_; clear F H; rintro _ w a ⟨b10, rfl, H⟩ F
       replace H : St w0 w (HP.blk b10 ([.slice p2 (d.2.1).length c2]) 69 :: HP.blk b6 ([.int .i64 (0)]) 26 :: HP.blk b5 ([.slice none (([] : List UInt8)).length 0]) 33 :: HP.ow rByte 5 none 0 ([] : List UInt8) :: HP.blk b4 ([.int .i64 (i)]) 3 :: HP.mks ([]) :: HP.blk bo0 ([.slice p1 (d.1).length c1, .slice p2 (d.2.1).length c2, .int .i64 (d.2.2.1), .bool (d.2.2.2)]) 71 :: HP.ow (rSl rByte) 33 p1 c1 d.1 :: HP.ow (rPair (rInt .i64) (rSl rByte)) 88 p2 c2 d.2.1 :: l) := H
       refine wpList_nil ?_
       refine c_then ?_
       refine wp_block ?_
       obtain ⟨css11, _, H⟩ := H.owOpen 8 rfl
       replace H : St w0 w (HP.rdl (rPair (rInt .i64) (rSl rByte)) css11 d.2.1 :: HP.blk b10 ([.slice p2 (d.2.1).length c2]) 69 :: HP.blk b6 ([.int .i64 (0)]) 26 :: HP.blk b5 ([.slice none (([] : List UInt8)).length 0]) 33 :: HP.ow rByte 5 none 0 ([] : List UInt8) :: HP.blk b4 ([.int .i64 (i)]) 3 :: HP.mks ([]) :: HP.blk bo0 ([.slice p1 (d.1).length c1, .slice p2 (d.2.1).length c2, .int .i64 (d.2.2.1), .bool (d.2.2.2)]) 71 :: HP.ow (rSl rByte) 33 p1 c1 d.1 :: HP.own 88 2 (.slice p2 (d.2.1).length c2) (d.2.1).length css11.flatten :: l) := H
       obtain ⟨hl11, hk11⟩ := H.rdlLen 0 rfl
       obtain ⟨o24, eo24, hm24⟩ := ob hm; clear hm
       refine x_range (gf := 75) (lb := [.pointer (some ⟨b10, 0, none⟩)]) (ps := [30, 31]) (zs := backZ css11 d.2.1) (enc := (fun z => [.int .i64 (z.1.1 : Int), .agg z.1.2.toArray])) (l := [(0, .pointer (some ⟨bo0, 0, none⟩)), (3, .pointer (some ⟨b4, 0, none⟩)), (4, .pointer (some ⟨b5, 0, none⟩)), (5, .pointer (some ⟨b6, 0, none⟩)), (29, .func (.func 75) #[] [.pointer (some ⟨b10, 0, none⟩)].toArray)]) (own := [HP.blk b10 ([.slice p2 (d.2.1).length c2]) 69, HP.own 88 2 (.slice p2 (d.2.1).length c2) (d.2.1).length css11.flatten]) (fr := l) (fun z => ((z.1.1 : Int), z.2)) (F.cut _ ⟨rfl, rfl, rfl, rfl, rfl, trivial⟩) rfl ent75 (seq75 b10 p2 c2 css11 d.2.1 hl11 hk11) (fun (s24 : Unit) (i24 : Unit) => [HP.rdl (rPair (rInt .i64) (rSl rByte)) css11 d.2.1, HP.blk b6 ([.int .i64 (0)]) 26, HP.blk b5 ([.slice none (([] : List UInt8)).length 0]) 33, HP.ow rByte 5 none 0 ([] : List UInt8), HP.blk b4 ([.int .i64 (i)]) 3, HP.blk bo0 ([.slice p1 (d.1).length c1, .slice p2 (d.2.1).length c2, .int .i64 (d.2.2.1), .bool (d.2.2.2)]) 71, HP.ow (rSl rByte) 33 p1 c1 d.1]) (fun (r24 : (List UInt8)) (i24 : (Option Addr) × Nat) => [HP.rdl (rPair (rInt .i64) (rSl rByte)) css11 d.2.1, HP.blk b6 ([.int .i64 (0)]) 26, HP.blk b5 ([.slice i24.1 (r24).length i24.2]) 33, HP.blk b4 ([.int .i64 (i)]) 3, HP.blk bo0 ([.slice p1 (d.1).length c1, .slice p2 (d.2.1).length c2, .int .i64 (d.2.2.1), .bool (d.2.2.2)]) 71, HP.ow (rSl rByte) 33 p1 c1 d.1, HP.ow rByte 5 i24.1 i24.2 r24]) (fun _ => Code.ret) _ () () (by rw [backZ_pj _ _ hl11]; exact eo24) (((((((((((H.mv 9 rfl).mv 2 rfl).mv 9 rfl).mv 9 rfl).mv 8 rfl).mv 8 rfl).mv 8 rfl).mv 8 rfl).cp 8 rfl pers_rdl).mv 10 rfl).keep 10 1) (fun _ => rfl) rfl (fun (s24 : Unit) (i24 : Unit) (x24 : (Nat × List Value) × (Int × (List UInt8))) (m24 : Nat) => [(0, .pointer (some ⟨bo0, 0, none⟩)), (3, .pointer (some ⟨b4, 0, none⟩)), (4, .pointer (some ⟨b5, 0, none⟩)), (5, .pointer (some ⟨b6, 0, none⟩)), (7, .pointer (some ⟨m24, 0, none⟩)), (29, .func (.func 75) #[] [.pointer (some ⟨b10, 0, none⟩)].toArray), (30, .int .i64 ((x24.1.1 : Int))), (31, .agg (x24.1.2).toArray)]) (fun (s24 : Unit) (i24 : Unit) (x24 : (Nat × List Value) × (Int × (List UInt8))) (m24 : Nat) => [HP.blk m24 (x24.1.2) 88, HP.ow rByte 5 none 0 ([] : List UInt8), HP.rc (rPair (rInt .i64) (rSl rByte)) x24.1.2 x24.2, HP.rdl (rPair (rInt .i64) (rSl rByte)) css11 d.2.1, HP.blk b6 ([.int .i64 (0)]) 26, HP.blk b5 ([.slice none (([] : List UInt8)).length 0]) 33, HP.ow rByte 5 none 0 ([] : List UInt8), HP.blk b4 ([.int .i64 (i)]) 3, HP.blk bo0 ([.slice p1 (d.1).length c1, .slice p2 (d.2.1).length c2, .int .i64 (d.2.2.1), .bool (d.2.2.2)]) 71, HP.ow (rSl rByte) 33 p1 c1 d.1]) ?_ ?_ ?_ ?_
       · clear F H
         rintro L s24 _ ⟨⟨kx11, cx11⟩, yx11⟩ a w l hx F H
         replace F : Fr ⟨47, []⟩ a [(31, .agg (cx11).toArray), (30, .int .i64 ((kx11 : Int))), (0, .pointer (some ⟨bo0, 0, none⟩)), (3, .pointer (some ⟨b4, 0, none⟩)), (4, .pointer (some ⟨b5, 0, none⟩)), (5, .pointer (some ⟨b6, 0, none⟩)), (29, .func (.func 75) #[] [.pointer (some ⟨b10, 0, none⟩)].toArray)] := F
         replace H : St w0 w (HP.rdl (rPair (rInt .i64) (rSl rByte)) css11 d.2.1 :: HP.blk b6 ([.int .i64 (0)]) 26 :: HP.blk b5 ([.slice none (([] : List UInt8)).length 0]) 33 :: HP.ow rByte 5 none 0 ([] : List UInt8) :: HP.blk b4 ([.int .i64 (i)]) 3 :: HP.blk bo0 ([.slice p1 (d.1).length c1, .slice p2 (d.2.1).length c2, .int .i64 (d.2.2.1), .bool (d.2.2.2)]) 71 :: HP.ow (rSl rByte) 33 p1 c1 d.1 :: l) := H
         obtain ⟨hx1, hx2⟩ := backZ_mem hx; obtain ⟨hxn11, hxf11, H⟩ := H.rdlEl 0 rfl hx1 hx2
         replace H : St w0 w (HP.rc (rPair (rInt .i64) (rSl rByte)) cx11 yx11 :: HP.rdl (rPair (rInt .i64) (rSl rByte)) css11 d.2.1 :: HP.blk b6 ([.int .i64 (0)]) 26 :: HP.blk b5 ([.slice none (([] : List UInt8)).length 0]) 33 :: HP.ow rByte 5 none 0 ([] : List UInt8) :: HP.blk b4 ([.int .i64 (i)]) 3 :: HP.blk bo0 ([.slice p1 (d.1).length c1, .slice p2 (d.2.1).length c2, .int .i64 (d.2.2.1), .bool (d.2.2.2)]) 71 :: HP.ow (rSl rByte) 33 p1 c1 d.1 :: l) := H
         refine ri_lit ?_
         replace H : St w0 w (HP.ow rByte 5 none 0 ([] : List UInt8) :: HP.rc (rPair (rInt .i64) (rSl rByte)) cx11 yx11 :: HP.rdl (rPair (rInt .i64) (rSl rByte)) css11 d.2.1 :: HP.blk b6 ([.int .i64 (0)]) 26 :: HP.blk b5 ([.slice none (([] : List UInt8)).length 0]) 33 :: HP.ow rByte 5 none 0 ([] : List UInt8) :: HP.blk b4 ([.int .i64 (i)]) 3 :: HP.blk bo0 ([.slice p1 (d.1).length c1, .slice p2 (d.2.1).length c2, .int .i64 (d.2.2.1), .bool (d.2.2.2)]) 71 :: HP.ow (rSl rByte) 33 p1 c1 d.1 :: l) := H.owNil rByte 5
         refine s_allocA wkI F rfl rfl rfl agz88 rfl H ?_; clear F H; intro b26 w a H F
         replace H : St w0 w (HP.blk b26 ([.int .i64 (0), .slice none (([] : List UInt8)).length 0]) 88 :: HP.ow rByte 5 none 0 ([] : List UInt8) :: HP.rc (rPair (rInt .i64) (rSl rByte)) cx11 yx11 :: HP.rdl (rPair (rInt .i64) (rSl rByte)) css11 d.2.1 :: HP.blk b6 ([.int .i64 (0)]) 26 :: HP.blk b5 ([.slice none (([] : List UInt8)).length 0]) 33 :: HP.ow rByte 5 none 0 ([] : List UInt8) :: HP.blk b4 ([.int .i64 (i)]) 3 :: HP.blk bo0 ([.slice p1 (d.1).length c1, .slice p2 (d.2.1).length c2, .int .i64 (d.2.2.1), .bool (d.2.2.2)]) 71 :: HP.ow (rSl rByte) 33 p1 c1 d.1 :: l) := H
         refine s_storeA wkI F rfl rfl agg88 rfl rfl rfl H 0 rfl hxn11 (by simp only [List.length_append, List.length_cons, List.length_nil, icells_length, bcells_length]) hxf11 ?_; clear H; intro w H
         replace H : St w0 w (HP.blk b26 (cx11) 88 :: HP.ow rByte 5 none 0 ([] : List UInt8) :: HP.rc (rPair (rInt .i64) (rSl rByte)) cx11 yx11 :: HP.rdl (rPair (rInt .i64) (rSl rByte)) css11 d.2.1 :: HP.blk b6 ([.int .i64 (0)]) 26 :: HP.blk b5 ([.slice none (([] : List UInt8)).length 0]) 33 :: HP.ow rByte 5 none 0 ([] : List UInt8) :: HP.blk b4 ([.int .i64 (i)]) 3 :: HP.blk bo0 ([.slice p1 (d.1).length c1, .slice p2 (d.2.1).length c2, .int .i64 (d.2.2.1), .bool (d.2.2.2)]) 71 :: HP.ow (rSl rByte) 33 p1 c1 d.1 :: l) := H
         refine wpListIn_nil ?_
         refine c_then ?_
         exact ⟨b26, F.cut _ ⟨rfl, rfl, rfl, rfl, rfl, rfl, rfl, rfl, trivial⟩, H⟩
       · clear F H
         rintro L s24 _ ⟨⟨kx11, cx11⟩, yx11⟩ b26 o a w l hx hm F H
         replace F : Fr ⟨47, []⟩ a [(0, .pointer (some ⟨bo0, 0, none⟩)), (3, .pointer (some ⟨b4, 0, none⟩)), (4, .pointer (some ⟨b5, 0, none⟩)), (5, .pointer (some ⟨b6, 0, none⟩)), (7, .pointer (some ⟨b26, 0, none⟩)), (29, .func (.func 75) #[] [.pointer (some ⟨b10, 0, none⟩)].toArray), (30, .int .i64 ((kx11 : Int))), (31, .agg (cx11).toArray)] := F
         replace H : St w0 w (HP.blk b26 (cx11) 88 :: HP.ow rByte 5 none 0 ([] : List UInt8) :: HP.rc (rPair (rInt .i64) (rSl rByte)) cx11 yx11 :: HP.rdl (rPair (rInt .i64) (rSl rByte)) css11 d.2.1 :: HP.blk b6 ([.int .i64 (0)]) 26 :: HP.blk b5 ([.slice none (([] : List UInt8)).length 0]) 33 :: HP.ow rByte 5 none 0 ([] : List UInt8) :: HP.blk b4 ([.int .i64 (i)]) 3 :: HP.blk bo0 ([.slice p1 (d.1).length c1, .slice p2 (d.2.1).length c2, .int .i64 (d.2.2.1), .bool (d.2.2.2)]) 71 :: HP.ow (rSl rByte) 33 p1 c1 d.1 :: l) := H
         obtain ⟨u27, v27, rfl, H⟩ := H.rcPair 2 rfl
         replace H := H.dp 4 rfl
         obtain rfl := H.rcI 0 rfl
         replace H := H.dp 0 rfl
         obtain ⟨p28, c28, rfl, H⟩ := H.rcSl 0 rfl
         replace H := H.dp 1 rfl
         replace F : Fr ⟨47, []⟩ a [(0, .pointer (some ⟨bo0, 0, none⟩)), (3, .pointer (some ⟨b4, 0, none⟩)), (4, .pointer (some ⟨b5, 0, none⟩)), (5, .pointer (some ⟨b6, 0, none⟩)), (7, .pointer (some ⟨b26, 0, none⟩)), (29, .func (.func 75) #[] [.pointer (some ⟨b10, 0, none⟩)].toArray), (30, .int .i64 ((kx11 : Int))), (31, .agg ([.int .i64 (yx11.1), .slice p28 (yx11.2).length c28]).toArray)] := F
         replace H : St w0 w (HP.sl rByte p28 c28 yx11.2 :: HP.blk b26 ([.int .i64 (yx11.1), .slice p28 (yx11.2).length c28]) 88 :: HP.ow rByte 5 none 0 ([] : List UInt8) :: HP.rdl (rPair (rInt .i64) (rSl rByte)) css11 d.2.1 :: HP.blk b6 ([.int .i64 (0)]) 26 :: HP.blk b5 ([.slice none (([] : List UInt8)).length 0]) 33 :: HP.ow rByte 5 none 0 ([] : List UInt8) :: HP.blk b4 ([.int .i64 (i)]) 3 :: HP.blk bo0 ([.slice p1 (d.1).length c1, .slice p2 (d.2.1).length c2, .int .i64 (d.2.2.1), .bool (d.2.2.2)]) 71 :: HP.ow (rSl rByte) 33 p1 c1 d.1 :: l) := H
         refine wpIn_block ?_
         refine wpIn_seq ?_
         refine ri_lit ?_
         refine s_val wkI F rfl rfl rfl rfl (y_fieldAddr F fld88_0 rfl rfl) ?_; clear F; intro a F
         refine s_val wkI F rfl rfl rfl rfl (y_load1 F plain3 rfl rfl (row_at (v := .int .i64 (yx11.1)) ((H.blk 1 rfl).row) rfl)) ?_; clear F; intro a F
         refine s_val wkI F rfl rfl rfl rfl (y_load1 F plain3 rfl rfl ((H.blk 7 rfl).cell _)) ?_; clear F; intro a F
         refine s_val wkI F rfl rfl rfl rfl (y_eql F rfl rfl rfl) ?_; clear F; intro a F
         refine wpListIn_nil ?_
         refine c_then ?_
         refine xi_condP F rfl (fun hg29 => ?_) (fun hg29 => ?_)
         · replace hm := ifT hg29 hm
           refine wpIn_seq ?_
           refine ri_lit ?_
           refine s_val wkI F rfl rfl rfl rfl (y_fieldAddr F fld88_1 rfl rfl) ?_; clear F; intro a F
           refine s_val wkI F rfl rfl rfl rfl (y_load1 F plain33 rfl rfl (row_at (v := .slice p28 (yx11.2).length c28) ((H.blk 1 rfl).row) rfl)) ?_; clear F; intro a F
           obtain ⟨x30, ex30, hn⟩ := ob hm; clear hm; revert hn; intro hm
           refine s_call wkI F rfl rfl rfl rfl (y_call F rfl rfl ent42) (w_cloneB yx11.2 p28 c28 w0 _ _  _ ex30 (H.cp 0 rfl pers_sl)) ?_; clear F H; rintro _ w a ⟨p31, c31, rfl, H⟩ F
           replace H : St w0 w (HP.ow rByte 5 p31 c31 x30 :: HP.sl rByte p28 c28 yx11.2 :: HP.blk b26 ([.int .i64 (yx11.1), .slice p28 (yx11.2).length c28]) 88 :: HP.ow rByte 5 none 0 ([] : List UInt8) :: HP.rdl (rPair (rInt .i64) (rSl rByte)) css11 d.2.1 :: HP.blk b6 ([.int .i64 (0)]) 26 :: HP.blk b5 ([.slice none (([] : List UInt8)).length 0]) 33 :: HP.ow rByte 5 none 0 ([] : List UInt8) :: HP.blk b4 ([.int .i64 (i)]) 3 :: HP.blk bo0 ([.slice p1 (d.1).length c1, .slice p2 (d.2.1).length c2, .int .i64 (d.2.2.1), .bool (d.2.2.2)]) 71 :: HP.ow (rSl rByte) 33 p1 c1 d.1 :: l) := H
           refine s_store1 wkI F rfl rfl zero33 rfl rfl rfl rfl rfl H 6 rfl (by simp) ?_; clear H; intro w H
           replace H : St w0 w (HP.ow rByte 5 p31 c31 x30 :: HP.sl rByte p28 c28 yx11.2 :: HP.blk b26 ([.int .i64 (yx11.1), .slice p28 (yx11.2).length c28]) 88 :: HP.ow rByte 5 none 0 ([] : List UInt8) :: HP.rdl (rPair (rInt .i64) (rSl rByte)) css11 d.2.1 :: HP.blk b6 ([.int .i64 (0)]) 26 :: HP.blk b5 ([.slice p31 (x30).length c31]) 33 :: HP.ow rByte 5 none 0 ([] : List UInt8) :: HP.blk b4 ([.int .i64 (i)]) 3 :: HP.blk bo0 ([.slice p1 (d.1).length c1, .slice p2 (d.2.1).length c2, .int .i64 (d.2.2.1), .bool (d.2.2.2)]) 71 :: HP.ow (rSl rByte) 33 p1 c1 d.1 :: l) := H
           refine s_store1 wkI F rfl rfl zero26 rfl rfl rfl rfl rfl H 5 rfl (by simp) ?_; clear H; intro w H
           replace H : St w0 w (HP.ow rByte 5 p31 c31 x30 :: HP.sl rByte p28 c28 yx11.2 :: HP.blk b26 ([.int .i64 (yx11.1), .slice p28 (yx11.2).length c28]) 88 :: HP.ow rByte 5 none 0 ([] : List UInt8) :: HP.rdl (rPair (rInt .i64) (rSl rByte)) css11 d.2.1 :: HP.blk b6 ([.int .i64 (0)]) 26 :: HP.blk b5 ([.slice p31 (x30).length c31]) 33 :: HP.ow rByte 5 none 0 ([] : List UInt8) :: HP.blk b4 ([.int .i64 (i)]) 3 :: HP.blk bo0 ([.slice p1 (d.1).length c1, .slice p2 (d.2.1).length c2, .int .i64 (d.2.2.1), .bool (d.2.2.2)]) 71 :: HP.ow (rSl rByte) 33 p1 c1 d.1 :: l) := H
           refine wpListIn_nil ?_
           refine c_then ?_
           refine wpIn_ret ?_
           refine c_blkR ?_
           obtain rfl := Option.some.inj hm; exact rq_r x30 (p31, c31) rfl rfl ((((((((H.mv 0 rfl).mv 10 rfl).mv 10 rfl).mv 10 rfl).mv 9 rfl).mv 9 rfl).cp 9 rfl pers_rdl).keep 7 5)
         · replace hm := ifF hg29 hm
           refine wpIn_skip ?_
           refine c_blkN ?_
           obtain rfl := Option.some.inj hm; exact rq_n () () rfl ((((((((H.mv 9 rfl).mv 9 rfl).mv 9 rfl).mv 9 rfl).mv 9 rfl).mv 9 rfl).cp 9 rfl pers_rdl).keep 7 4)
       · clear F H
         rintro s24 _ Ds32 a w ho F H; subst ho; have hm := elimL hm24; clear hm24 eo24
         replace F : Fr ⟨47, marks Ds32⟩ a [(0, .pointer (some ⟨bo0, 0, none⟩)), (3, .pointer (some ⟨b4, 0, none⟩)), (4, .pointer (some ⟨b5, 0, none⟩)), (5, .pointer (some ⟨b6, 0, none⟩)), (29, .func (.func 75) #[] [.pointer (some ⟨b10, 0, none⟩)].toArray)] := F
         replace H : St w0 w (HP.mks Ds32 :: HP.rdl (rPair (rInt .i64) (rSl rByte)) css11 d.2.1 :: HP.blk b6 ([.int .i64 (0)]) 26 :: HP.blk b5 ([.slice none (([] : List UInt8)).length 0]) 33 :: HP.ow rByte 5 none 0 ([] : List UInt8) :: HP.blk b4 ([.int .i64 (i)]) 3 :: HP.blk bo0 ([.slice p1 (d.1).length c1, .slice p2 (d.2.1).length c2, .int .i64 (d.2.2.1), .bool (d.2.2.2)]) 71 :: HP.ow (rSl rByte) 33 p1 c1 d.1 :: HP.blk b10 ([.slice p2 (d.2.1).length c2]) 69 :: HP.own 88 2 (.slice p2 (d.2.1).length c2) (d.2.1).length css11.flatten :: l) := H
         replace H : St w0 w (HP.mks Ds32 :: HP.rdl (rPair (rInt .i64) (rSl rByte)) css11 d.2.1 :: HP.blk b6 ([.int .i64 (0)]) 26 :: HP.blk b5 ([.slice none (([] : List UInt8)).length 0]) 33 :: HP.ow rByte 5 none 0 ([] : List UInt8) :: HP.blk b4 ([.int .i64 (i)]) 3 :: HP.blk bo0 ([.slice p1 (d.1).length c1, .slice p2 (d.2.1).length c2, .int .i64 (d.2.2.1), .bool (d.2.2.2)]) 71 :: HP.ow (rSl rByte) 33 p1 c1 d.1 :: HP.blk b10 ([.slice p2 (d.2.1).length c2]) 69 :: HP.ow (rPair (rInt .i64) (rSl rByte)) 88 p2 c2 d.2.1 :: l) := H.owShut 9 1 rfl rfl
         refine c_blkN ?_
         refine c_then ?_
         refine wp_seq ?_
         obtain ⟨x39, ex39, hn⟩ := ob hm; clear hm; revert hn; intro hm
         obtain ⟨b40, hp40⟩ := H.owP 7 rfl (idxO_some ex39).2
         obtain ⟨css41, H⟩ := H.oxOpen 7 rfl; replace H : St w0 w (HP.mks Ds32 :: HP.rdl (rPair (rInt .i64) (rSl rByte)) css11 d.2.1 :: HP.blk b6 ([.int .i64 (0)]) 26 :: HP.blk b5 ([.slice none (([] : List UInt8)).length 0]) 33 :: HP.ow rByte 5 none 0 ([] : List UInt8) :: HP.blk b4 ([.int .i64 (i)]) 3 :: HP.blk bo0 ([.slice p1 (d.1).length c1, .slice p2 (d.2.1).length c2, .int .i64 (d.2.2.1), .bool (d.2.2.2)]) 71 :: HP.ox (rSl rByte) 33 p1 c1 css41 d.1 :: HP.blk b10 ([.slice p2 (d.2.1).length c2]) 69 :: HP.ow (rPair (rInt .i64) (rSl rByte)) 88 p2 c2 d.2.1 :: l) := H
         obtain ⟨cs41, hcs41, hcl41, H⟩ := H.oxEl 7 rfl (idxO_some ex39).2
         obtain ⟨p42, c42, rfl, H⟩ := H.rcSl 0 rfl
         replace H := H.dp 1 rfl
         refine mix_region [7, 8, 9] [9] (.step 0 0 (.step 0 1 (.step 0 2 (.step 1 3 (.step 1 4 (.step 0 5 (.step 1 6 (.step 2 7 (.step 2 8 (.step 3 9 .done)))))))))) (fun u => ∃ ls, St w0 u (ls)) (by kernel_rfl) (by kernel_rfl) ⟨_, H.drew⟩ ?_
         replace H := H.drew
         generalize w.drew = w at H ⊢
         refine m_pure F rfl rfl rfl rfl (fun u hu => y_move F rfl rfl) ?_; clear F; intro a F
         refine m_pure F rfl rfl rfl rfl (fun u hu => y_nilCheck F rfl rfl) ?_; clear F; intro a F
         refine m_pure F rfl rfl rfl rfl (fun u hu => y_fieldAddr F fld71_0 rfl rfl) ?_; clear F; intro a F
         refine m_read F rfl rfl rfl rfl (y_load1 F plain22 rfl rfl (row_at (v := .slice p1 (d.1).length c1) ((H.blk 7 rfl).row) rfl)) ?_; clear F; intro a F
         refine m_read F rfl rfl rfl rfl (y_load1 F plain3 rfl rfl ((H.blk 6 rfl).cell _)) ?_; clear F; intro a F
         refine m_pure F rfl rfl rfl rfl (fun u hu => y_idxS F elem22 rfl rfl rfl hp40 ex39) ?_; clear F; intro a F
         refine m_read F rfl rfl rfl rfl (y_load1 F plain33 rfl rfl ((H.oxRow 8 rfl hp40 hcs41 hcl41) 0 _ rfl)) ?_; clear F; intro a F
         refine m_heavy rfl rfl ?_
         obtain ⟨x43, ex43, hn⟩ := ob hm; clear hm; revert hn; intro hm
         refine s_call wkP F rfl rfl rfl rfl (y_call F rfl rfl ent42) (w_cloneB x39 p42 c42 w0 _ _  _ ex43 (H.cp 0 rfl pers_sl)) ?_; clear F H; rintro _ w a ⟨p44, c44, rfl, H⟩ F
         replace H : St w0 w (HP.ow rByte 5 p44 c44 x43 :: HP.sl rByte p42 c42 x39 :: HP.mks Ds32 :: HP.rdl (rPair (rInt .i64) (rSl rByte)) css11 d.2.1 :: HP.blk b6 ([.int .i64 (0)]) 26 :: HP.blk b5 ([.slice none (([] : List UInt8)).length 0]) 33 :: HP.ow rByte 5 none 0 ([] : List UInt8) :: HP.blk b4 ([.int .i64 (i)]) 3 :: HP.blk bo0 ([.slice p1 (d.1).length c1, .slice p2 (d.2.1).length c2, .int .i64 (d.2.2.1), .bool (d.2.2.2)]) 71 :: HP.ox (rSl rByte) 33 p1 c1 css41 d.1 :: HP.blk b10 ([.slice p2 (d.2.1).length c2]) 69 :: HP.ow (rPair (rInt .i64) (rSl rByte)) 88 p2 c2 d.2.1 :: l) := H
         refine wpList_nil ?_; refine c_then ⟨⟨_, H⟩, ?_⟩
         refine m_heavy rfl rfl ?_
         refine s_store1 wkP F rfl rfl zero33 rfl rfl rfl rfl rfl H 5 rfl (by simp) ?_; clear H; intro w H
         replace H : St w0 w (HP.ow rByte 5 p44 c44 x43 :: HP.sl rByte p42 c42 x39 :: HP.mks Ds32 :: HP.rdl (rPair (rInt .i64) (rSl rByte)) css11 d.2.1 :: HP.blk b6 ([.int .i64 (0)]) 26 :: HP.blk b5 ([.slice p44 (x43).length c44]) 33 :: HP.ow rByte 5 none 0 ([] : List UInt8) :: HP.blk b4 ([.int .i64 (i)]) 3 :: HP.blk bo0 ([.slice p1 (d.1).length c1, .slice p2 (d.2.1).length c2, .int .i64 (d.2.2.1), .bool (d.2.2.2)]) 71 :: HP.ox (rSl rByte) 33 p1 c1 css41 d.1 :: HP.blk b10 ([.slice p2 (d.2.1).length c2]) 69 :: HP.ow (rPair (rInt .i64) (rSl rByte)) 88 p2 c2 d.2.1 :: l) := H
         refine wpList_nil ?_; refine c_then ⟨⟨_, H⟩, ?_⟩
         refine m_last rfl rfl ?_
         refine s_store1 wkP F rfl rfl zero26 rfl rfl rfl rfl rfl H 4 rfl (by simp) ?_; clear H; intro w H
         replace H : St w0 w (HP.ow rByte 5 p44 c44 x43 :: HP.sl rByte p42 c42 x39 :: HP.mks Ds32 :: HP.rdl (rPair (rInt .i64) (rSl rByte)) css11 d.2.1 :: HP.blk b6 ([.int .i64 (0)]) 26 :: HP.blk b5 ([.slice p44 (x43).length c44]) 33 :: HP.ow rByte 5 none 0 ([] : List UInt8) :: HP.blk b4 ([.int .i64 (i)]) 3 :: HP.blk bo0 ([.slice p1 (d.1).length c1, .slice p2 (d.2.1).length c2, .int .i64 (d.2.2.1), .bool (d.2.2.2)]) 71 :: HP.ox (rSl rByte) 33 p1 c1 css41 d.1 :: HP.blk b10 ([.slice p2 (d.2.1).length c2]) 69 :: HP.ow (rPair (rInt .i64) (rSl rByte)) 88 p2 c2 d.2.1 :: l) := H
         refine wpList_nil ?_; refine c_then ?_
         refine m_nil ?_
         replace H : St w0 w (HP.ow rByte 5 p44 c44 x43 :: HP.sl rByte p42 c42 x39 :: HP.mks Ds32 :: HP.rdl (rPair (rInt .i64) (rSl rByte)) css11 d.2.1 :: HP.blk b6 ([.int .i64 (0)]) 26 :: HP.blk b5 ([.slice p44 (x43).length c44]) 33 :: HP.ow rByte 5 none 0 ([] : List UInt8) :: HP.blk b4 ([.int .i64 (i)]) 3 :: HP.blk bo0 ([.slice p1 (d.1).length c1, .slice p2 (d.2.1).length c2, .int .i64 (d.2.2.1), .bool (d.2.2.2)]) 71 :: HP.ow (rSl rByte) 33 p1 c1 d.1 :: HP.blk b10 ([.slice p2 (d.2.1).length c2]) 69 :: HP.ow (rPair (rInt .i64) (rSl rByte)) 88 p2 c2 d.2.1 :: l) := H.oxShut 9 rfl
         refine c_then ?_
         refine wp_ret ?_
         replace H : St w0 w (HP.sl rByte p44 c44 x43 :: HP.sl rByte p42 c42 x39 :: HP.mks Ds32 :: HP.rdl (rPair (rInt .i64) (rSl rByte)) css11 d.2.1 :: HP.blk b6 ([.int .i64 (0)]) 26 :: HP.blk b5 ([.slice p44 (x43).length c44]) 33 :: HP.ow rByte 5 none 0 ([] : List UInt8) :: HP.blk b4 ([.int .i64 (i)]) 3 :: HP.blk bo0 ([.slice p1 (d.1).length c1, .slice p2 (d.2.1).length c2, .int .i64 (d.2.2.1), .bool (d.2.2.2)]) 71 :: HP.ow (rSl rByte) 33 p1 c1 d.1 :: HP.blk b10 ([.slice p2 (d.2.1).length c2]) 69 :: HP.ow (rPair (rInt .i64) (rSl rByte)) 88 p2 c2 d.2.1 :: l) := H.frz 0 rfl
         obtain rfl := Option.some.inj hm
         refine xk_resC2 F rfl ((H.mv 2 rfl)) (fun w H => ⟨_, rfl, ld1 plain33 ((H.blk 4 rfl).cell _)⟩) (fun w H => ⟨_, rfl, ld1 plain26 ((H.blk 3 rfl).cell _)⟩) ?_; clear H; intro w H
         exact ⟨_, rfl, p44, c44, rfl, (((((H.mv 10 rfl).mv 9 rfl).mv 9 rfl).cp 3 rfl pers_sl).keep 4 8)⟩
       · clear F H
         rintro r24 ⟨p25, c25⟩ Ds45 a w ho F H; subst ho; have hm := elimR hm24; clear hm24 eo24
         replace F : Fr ⟨47, marks Ds45⟩ a [(0, .pointer (some ⟨bo0, 0, none⟩)), (3, .pointer (some ⟨b4, 0, none⟩)), (4, .pointer (some ⟨b5, 0, none⟩)), (5, .pointer (some ⟨b6, 0, none⟩)), (29, .func (.func 75) #[] [.pointer (some ⟨b10, 0, none⟩)].toArray)] := F
         replace H : St w0 w (HP.mks Ds45 :: HP.rdl (rPair (rInt .i64) (rSl rByte)) css11 d.2.1 :: HP.blk b6 ([.int .i64 (0)]) 26 :: HP.blk b5 ([.slice p25 (r24).length c25]) 33 :: HP.blk b4 ([.int .i64 (i)]) 3 :: HP.blk bo0 ([.slice p1 (d.1).length c1, .slice p2 (d.2.1).length c2, .int .i64 (d.2.2.1), .bool (d.2.2.2)]) 71 :: HP.ow (rSl rByte) 33 p1 c1 d.1 :: HP.ow rByte 5 p25 c25 r24 :: HP.blk b10 ([.slice p2 (d.2.1).length c2]) 69 :: HP.own 88 2 (.slice p2 (d.2.1).length c2) (d.2.1).length css11.flatten :: l) := H
         replace H : St w0 w (HP.mks Ds45 :: HP.rdl (rPair (rInt .i64) (rSl rByte)) css11 d.2.1 :: HP.blk b6 ([.int .i64 (0)]) 26 :: HP.blk b5 ([.slice p25 (r24).length c25]) 33 :: HP.blk b4 ([.int .i64 (i)]) 3 :: HP.blk bo0 ([.slice p1 (d.1).length c1, .slice p2 (d.2.1).length c2, .int .i64 (d.2.2.1), .bool (d.2.2.2)]) 71 :: HP.ow (rSl rByte) 33 p1 c1 d.1 :: HP.ow rByte 5 p25 c25 r24 :: HP.blk b10 ([.slice p2 (d.2.1).length c2]) 69 :: HP.ow (rPair (rInt .i64) (rSl rByte)) 88 p2 c2 d.2.1 :: l) := H.owShut 9 1 rfl rfl
         refine wp_ret ?_
         refine c_blkR ?_
         refine c_thenR ?_
         replace H : St w0 w (HP.sl rByte p25 c25 r24 :: HP.mks Ds45 :: HP.rdl (rPair (rInt .i64) (rSl rByte)) css11 d.2.1 :: HP.blk b6 ([.int .i64 (0)]) 26 :: HP.blk b5 ([.slice p25 (r24).length c25]) 33 :: HP.blk b4 ([.int .i64 (i)]) 3 :: HP.blk bo0 ([.slice p1 (d.1).length c1, .slice p2 (d.2.1).length c2, .int .i64 (d.2.2.1), .bool (d.2.2.2)]) 71 :: HP.ow (rSl rByte) 33 p1 c1 d.1 :: HP.blk b10 ([.slice p2 (d.2.1).length c2]) 69 :: HP.ow (rPair (rInt .i64) (rSl rByte)) 88 p2 c2 d.2.1 :: l) := H.frz 7 rfl
         obtain rfl := Option.some.inj hm
         refine xk_resC2 F rfl ((H.mv 1 rfl)) (fun w H => ⟨_, rfl, ld1 plain33 ((H.blk 3 rfl).cell _)⟩) (fun w H => ⟨_, rfl, ld1 plain26 ((H.blk 2 rfl).cell _)⟩) ?_; clear H; intro w H
         exact ⟨_, rfl, p25, c25, rfl, (((((H.mv 8 rfl).mv 7 rfl).mv 7 rfl).cp 3 rfl pers_sl).keep 4 6)⟩
theorem ent41 : ∀ args w, (callFunc 41 args).run Tryd.prog w = .ok (.enter 41 args) w := enters Tryd.func41 (by kernel_rfl) rfl
theorem zero69 : Zero1 Tryd.prog 69 (.slice none 0 0) := ⟨by kernel_rfl, rfl⟩
set_option maxRecDepth 100000 in
set_option maxHeartbeats 4000000 in
theorem w_diskWrite (d : (List (List UInt8)) × (List (Int × (List UInt8))) × Int × Bool) (i : Int) (data : List UInt8) (bo0 : Nat) (p1 : Option Addr) (c1 : Nat) (p2 : Option Addr) (c2 : Nat) (p3 : Option Addr) (c3 : Nat) (w0 w : World) (l : List HP)  (r : Int × ((List (List UInt8)) × (List (Int × (List UInt8))) × Int × Bool)) (hm : diskWrite d i data = some r) (H : St w0 w (HP.blk bo0 ([.slice p1 (d.1).length c1, .slice p2 (d.2.1).length c2, .int .i64 (d.2.2.1), .bool (d.2.2.2)]) 71 :: HP.ow (rSl rByte) 33 p1 c1 d.1 :: HP.ow (rPair (rInt .i64) (rSl rByte)) 88 p2 c2 d.2.1 :: HP.sl rByte p3 c3 data :: l)) :
  Calls Tryd.prog 19 [.pointer (some ⟨bo0, 0, none⟩), .int .i64 (i), .slice p3 (data).length c3].toArray w (fun e w' => ∃ v, e = .returned v ∧ ∃ (p4 : Option Addr) (c4 : Nat) (p5 : Option Addr) (c5 : Nat), v = .int .i64 (r.1) ∧ St w0 w' (HP.blk bo0 ([.slice p4 (r.2.1).length c4, .slice p5 (r.2.2.1).length c5, .int .i64 (r.2.2.2.1), .bool (r.2.2.2.2)]) 71 :: HP.ow (rSl rByte) 33 p4 c4 r.2.1 :: HP.ow (rPair (rInt .i64) (rSl rByte)) 88 p5 c5 r.2.2.1 :: l)) := by
 unfold diskWrite at hm
 refine x_enter Tryd.func19 rfl rfl rfl ?_
 intro a F
 replace F : Fr ⟨46, []⟩ a [(0, .pointer (some ⟨bo0, 0, none⟩)), (1, .int .i64 (i)), (2, .slice p3 (data).length c3)] := F
 refine wp_seq ?_
 refine r_lit ?_
 refine s_val wkP F rfl rfl rfl rfl (y_assign F rfl rfl) ?_; clear F; intro a F
 refine wpList_nil ?_
 refine c_then ?_
 refine wp_seq ?_
 refine wp_block ?_
 refine wp_seq ?_
 refine r_lit ?_
 refine s_val wkP F rfl rfl rfl rfl (y_move F rfl rfl) ?_; clear F; intro a F
 refine s_val wkP F rfl rfl rfl rfl (y_nilCheck F rfl rfl) ?_; clear F; intro a F
 refine s_val wkP F rfl rfl rfl rfl (y_fieldAddr F fld71_3 rfl rfl) ?_; clear F; intro a F
 refine s_val wkP F rfl rfl rfl rfl (y_load1 F plain4 rfl rfl (row_at (v := .bool (d.2.2.2)) ((H.blk 0 rfl).row) rfl)) ?_; clear F; intro a F
 refine s_val wkP F rfl rfl rfl rfl (y_assign F rfl rfl) ?_; clear F; intro a F
 refine wpList_nil ?_
 refine c_then ?_
 refine x_cond F rfl (fun hg6 => ?_) (fun hg6 => ?_)
 · replace hm := ifT hg6 hm
   refine wp_seq ?_
   refine r_lit ?_
   refine s_val wkP F rfl rfl rfl rfl (y_assign F rfl rfl) ?_; clear F; intro a F
   refine wpList_nil ?_
   refine c_then ?_
   refine wp_ret ?_
   refine c_blkR ?_
   refine c_thenR ?_
   obtain rfl := Option.some.inj hm
   refine x_ret1 F rfl rfl ?_
   exact ⟨_, rfl, p1, c1, p2, c2, rfl, ((((H.mv 2 rfl).mv 2 rfl).mv 2 rfl).keep 3 1)⟩
 · replace hm := ifF (nT hg6) hm
   refine wp_seq ?_
   refine r_lit ?_
   refine s_val wkP F rfl rfl rfl rfl (y_move F rfl rfl) ?_; clear F; intro a F
   refine s_val wkP F rfl rfl rfl rfl (y_lss F rfl rfl rfl) ?_; clear F; intro a F
   refine s_val wkP F rfl rfl rfl rfl (y_move F rfl rfl) ?_; clear F; intro a F
   by_cases hg7 : i < 0
   · replace hm := ifT hg7 hm
     replace F := F.bool (k := 16) (u := .bool true) rfl (congrArg (fun b => Value.bool b) (decide_eq_true hg7))
     refine g_off wkP F rfl rfl rfl rfl rfl rfl rfl ?_; clear F; intro a F
     refine g_off wkP F rfl rfl rfl rfl rfl rfl rfl ?_; clear F; intro a F
     refine g_off wkP F rfl rfl rfl rfl rfl rfl rfl ?_; clear F; intro a F
     refine g_off wkP F rfl rfl rfl rfl rfl rfl rfl ?_; clear F; intro a F
     refine g_off wkP F rfl rfl rfl rfl rfl rfl rfl ?_; clear F; intro a F
     refine g_off wkP F rfl rfl rfl rfl rfl rfl rfl ?_; clear F; intro a F
     refine g_off wkP F rfl rfl rfl rfl rfl rfl rfl ?_; clear F; intro a F
     refine s_val wkP F rfl rfl rfl rfl (y_pickT F rfl rfl rfl) ?_; clear F; intro a F
     refine s_val wkP F rfl rfl rfl rfl (y_assign F rfl rfl) ?_; clear F; intro a F
     refine wpList_nil ?_
     refine c_then ?_
     refine x_condT F rfl ?_
     refine wp_seq ?_
     refine r_lit ?_
     refine s_val wkP F rfl rfl rfl rfl (y_assign F rfl rfl) ?_; clear F; intro a F
     refine wpList_nil ?_
     refine c_then ?_
     refine wp_ret ?_
     refine c_blkR ?_
     refine c_thenR ?_
     obtain rfl := Option.some.inj hm
     refine x_ret1 F rfl rfl ?_
     exact ⟨_, rfl, p1, c1, p2, c2, rfl, ((((H.mv 2 rfl).mv 2 rfl).mv 2 rfl).keep 3 1)⟩
   · replace hm := ifF hg7 hm
     replace F := F.bool (k := 16) (u := .bool false) rfl (congrArg (fun b => Value.bool b) (decide_eq_false hg7))
     refine g_onP F rfl rfl rfl rfl ?_
     refine s_val wkP F rfl rfl rfl rfl (y_move F rfl rfl) ?_; clear F; intro a F
     refine g_onP F rfl rfl rfl rfl ?_
     refine s_val wkP F rfl rfl rfl rfl (y_move F rfl rfl) ?_; clear F; intro a F
     refine g_onP F rfl rfl rfl rfl ?_
     refine s_val wkP F rfl rfl rfl rfl (y_nilCheck F rfl rfl) ?_; clear F; intro a F
     refine g_onP F rfl rfl rfl rfl ?_
     refine s_val wkP F rfl rfl rfl rfl (y_fieldAddr F fld71_0 rfl rfl) ?_; clear F; intro a F
     refine g_onP F rfl rfl rfl rfl ?_
     refine s_val wkP F rfl rfl rfl rfl (y_load1 F plain22 rfl rfl (row_at (v := .slice p1 (d.1).length c1) ((H.blk 0 rfl).row) rfl)) ?_; clear F; intro a F
     refine g_onP F rfl rfl rfl rfl ?_
     refine s_val wkP F rfl rfl rfl rfl (y_lenS F rfl Tryd.underlying22 rfl) ?_; clear F; intro a F
     refine g_onP F rfl rfl rfl rfl ?_
     refine s_val wkP F rfl rfl rfl rfl (y_geq F rfl rfl rfl) ?_; clear F; intro a F
     refine s_val wkP F rfl rfl rfl rfl (y_pickF F rfl rfl rfl) ?_; clear F; intro a F
     refine s_val wkP F rfl rfl rfl rfl (y_assign F rfl rfl) ?_; clear F; intro a F
     refine wpList_nil ?_
     refine c_then ?_
     refine x_condP F rfl (fun hg8 => ?_) (fun hg8 => ?_)
     · replace hm := ifT hg8 hm
       refine wp_seq ?_
       refine r_lit ?_
       refine s_val wkP F rfl rfl rfl rfl (y_assign F rfl rfl) ?_; clear F; intro a F
       refine wpList_nil ?_
       refine c_then ?_
       refine wp_ret ?_
       refine c_blkR ?_
       refine c_thenR ?_
       obtain rfl := Option.some.inj hm
       refine x_ret1 F rfl rfl ?_
       exact ⟨_, rfl, p1, c1, p2, c2, rfl, ((((H.mv 2 rfl).mv 2 rfl).mv 2 rfl).keep 3 1)⟩
     · replace hm := ifF hg8 hm
       refine wp_seq ?_
       refine r_lit ?_
       refine s_val wkP F rfl rfl rfl rfl (y_move F rfl rfl) ?_; clear F; intro a F
       refine s_val wkP F rfl rfl rfl rfl (y_lenS F rfl Tryd.underlying33 rfl) ?_; clear F; intro a F
       refine s_val wkP F rfl rfl rfl rfl (y_neq F rfl rfl rfl) ?_; clear F; intro a F
       refine s_val wkP F rfl rfl rfl rfl (y_assign F rfl rfl) ?_; clear F; intro a F
       refine wpList_nil ?_
       refine c_then ?_
       refine x_condN F rfl (fun hg9 => ?_) (fun hg9 => ?_)
       · replace hm := ifF hg9 hm
         refine wp_seq ?_
         refine r_lit ?_
         refine s_val wkP F rfl rfl rfl rfl (y_assign F rfl rfl) ?_; clear F; intro a F
         refine wpList_nil ?_
         refine c_then ?_
         refine wp_ret ?_
         refine c_blkR ?_
         refine c_thenR ?_
         obtain rfl := Option.some.inj hm
         refine x_ret1 F rfl rfl ?_
         exact ⟨_, rfl, p1, c1, p2, c2, rfl, ((((H.mv 2 rfl).mv 2 rfl).mv 2 rfl).keep 3 1)⟩
       · replace hm := ifT hg9 hm
         refine wp_skip ?_
         refine c_blkN ?_
         refine c_then ?_
         refine wp_seq ?_
         refine r_lit ?_
         refine s_val wkP F rfl rfl rfl rfl (y_move F rfl rfl) ?_; clear F; intro a F
         obtain ⟨x10, ex10, hn⟩ := ob hm; clear hm; revert hn; intro hm
         refine s_call wkP F rfl rfl rfl rfl (y_call F rfl rfl ent41) (w_diskCall (d.1, d.2.1, d.2.2.1, d.2.2.2) bo0 p1 c1 p2 c2 w0 _ _  _ ex10 (((H.mv 2 rfl).mv 2 rfl).mv 2 rfl)) ?_; clear F H; rintro _ w a ⟨p11, c11, p12, c12, rfl, H⟩ F
         replace H : St w0 w (HP.blk bo0 ([.slice p11 (x10.2.1).length c11, .slice p12 (x10.2.2.1).length c12, .int .i64 (x10.2.2.2.1), .bool (x10.2.2.2.2)]) 71 :: HP.ow (rSl rByte) 33 p11 c11 x10.2.1 :: HP.ow (rPair (rInt .i64) (rSl rByte)) 88 p12 c12 x10.2.2.1 :: HP.sl rByte p3 c3 data :: l) := H
         refine s_val wkP F rfl rfl rfl rfl (y_assign F rfl rfl) ?_; clear F; intro a F
         refine wpList_nil ?_
         refine c_then ?_
         refine wp_seq ?_
         refine mix_region [7, 9, 10, 13] [13] (.step 0 0 (.step 0 1 (.step 0 2 (.step 0 3 (.step 0 4 (.step 0 5 (.step 0 6 (.step 2 7 (.step 0 8 (.step 2 9 (.step 2 10 (.step 0 11 (.step 0 12 (.step 3 13 .done)))))))))))))) (fun u => ∃ ls, St w0 u (HP.blk bo0 ([.slice p11 (x10.2.1).length c11, .slice p12 (x10.2.2.1).length c12, .int .i64 (x10.2.2.2.1), .bool (x10.2.2.2.2)]) 71 :: ls)) (by kernel_rfl) (by kernel_rfl) ⟨_, (H.drew.mv 0 rfl)⟩ ?_
         replace H := H.drew
         generalize w.drew = w at H ⊢
         refine m_pure F rfl rfl rfl rfl (fun u hu => y_move F rfl rfl) ?_; clear F; intro a F
         refine m_pure F rfl rfl rfl rfl (fun u hu => y_move F rfl rfl) ?_; clear F; intro a F
         refine m_pure F rfl rfl rfl rfl (fun u hu => y_nilCheck F rfl rfl) ?_; clear F; intro a F
         refine m_pure F rfl rfl rfl rfl (fun u hu => y_fieldAddr F fld71_1 rfl rfl) ?_; clear F; intro a F
         refine m_pure F rfl rfl rfl rfl (fun u hu => y_load1 F plain69 rfl rfl (row_at (v := .slice p12 (x10.2.2.1).length c12) ((hu.choose_spec.blk 0 rfl).row) rfl)) ?_; clear F; intro a F
         refine m_pure F rfl rfl rfl rfl (fun u hu => y_move F rfl rfl) ?_; clear F; intro a F
         refine m_pure F rfl rfl rfl rfl (fun u hu => y_move F rfl rfl) ?_; clear F; intro a F
         refine m_heavy rfl rfl ?_
         obtain ⟨x18, ex18, hn⟩ := ob hm; clear hm; revert hn; intro hm
         refine s_call wkP F rfl rfl rfl rfl (y_call F rfl rfl ent42) (w_cloneB data p3 c3 w0 _ _  _ ex18 (H.cp 3 rfl pers_sl)) ?_; clear F H; rintro _ w a ⟨p19, c19, rfl, H⟩ F
         replace H : St w0 w (HP.ow rByte 5 p19 c19 x18 :: HP.blk bo0 ([.slice p11 (x10.2.1).length c11, .slice p12 (x10.2.2.1).length c12, .int .i64 (x10.2.2.2.1), .bool (x10.2.2.2.2)]) 71 :: HP.ow (rSl rByte) 33 p11 c11 x10.2.1 :: HP.ow (rPair (rInt .i64) (rSl rByte)) 88 p12 c12 x10.2.2.1 :: HP.sl rByte p3 c3 data :: l) := H
         refine wpList_nil ?_; refine c_then ⟨⟨_, (H.mv 1 rfl)⟩, ?_⟩
         refine m_pure F rfl rfl rfl rfl (fun u hu => y_build F rfl rfl (cs := [.int .i64 (i), .slice p19 (x18).length c19]) (by kernel_rfl)) ?_; clear F; intro a F
         refine m_heavy rfl rfl ?_
         replace H : St w0 w (HP.sl rByte p19 c19 x18 :: HP.blk bo0 ([.slice p11 (x10.2.1).length c11, .slice p12 (x10.2.2.1).length c12, .int .i64 (x10.2.2.2.1), .bool (x10.2.2.2.2)]) 71 :: HP.ow (rSl rByte) 33 p11 c11 x10.2.1 :: HP.ow (rPair (rInt .i64) (rSl rByte)) 88 p12 c12 x10.2.2.1 :: HP.sl rByte p3 c3 data :: l) := H.frz 0 rfl
         refine s_build1 wkP F rfl rfl rfl agg88 elem69 rfl rfl (by simp only [List.length_append, List.length_cons, List.length_nil, icells_length, bcells_length]) (by decide) H ?_; clear F H; intro b20 w a H F
         replace H : St w0 w (HP.blk b20 ([.int .i64 (i), .slice p19 (x18).length c19]) 88 :: HP.sl rByte p19 c19 x18 :: HP.blk bo0 ([.slice p11 (x10.2.1).length c11, .slice p12 (x10.2.2.1).length c12, .int .i64 (x10.2.2.2.1), .bool (x10.2.2.2.2)]) 71 :: HP.ow (rSl rByte) 33 p11 c11 x10.2.1 :: HP.ow (rPair (rInt .i64) (rSl rByte)) 88 p12 c12 x10.2.2.1 :: HP.sl rByte p3 c3 data :: l) := H
         replace H : St w0 w (HP.ow (rPair (rInt .i64) (rSl rByte)) 88 (some ⟨b20, 0, none⟩) (([(i, x18)]).length) ([(i, x18)]) :: HP.sl rByte p19 c19 x18 :: HP.blk bo0 ([.slice p11 (x10.2.1).length c11, .slice p12 (x10.2.2.1).length c12, .int .i64 (x10.2.2.2.1), .bool (x10.2.2.2.2)]) 71 :: HP.ow (rSl rByte) 33 p11 c11 x10.2.1 :: HP.ow (rPair (rInt .i64) (rSl rByte)) 88 p12 c12 x10.2.2.1 :: HP.sl rByte p3 c3 data :: l) := H.blkOw (R := (rPair (rInt .i64) (rSl rByte))) 0 rfl (fun gg => ⟨[[.int .i64 (i), .slice p19 (x18).length c19]], by simp, ⟨_, _, rfl, rfl, ⟨_, _, rfl, (gg 1 _ rfl).choose_spec⟩⟩, trivial⟩) (by simp)
         refine wpList_nil ?_; refine c_then ⟨⟨_, (H.mv 2 rfl)⟩, ?_⟩
         refine m_heavy rfl rfl ?_
         replace H : St w0 w (HP.sl (rPair (rInt .i64) (rSl rByte)) (some ⟨b20, 0, none⟩) (([(i, x18)]).length) ([(i, x18)]) :: HP.sl rByte p19 c19 x18 :: HP.blk bo0 ([.slice p11 (x10.2.1).length c11, .slice p12 (x10.2.2.1).length c12, .int .i64 (x10.2.2.2.1), .bool (x10.2.2.2.2)]) 71 :: HP.ow (rSl rByte) 33 p11 c11 x10.2.1 :: HP.ow (rPair (rInt .i64) (rSl rByte)) 88 p12 c12 x10.2.2.1 :: HP.sl rByte p3 c3 data :: l) := H.frz 0 rfl
         obtain ⟨x22, ex22, hn⟩ := ob hm; clear hm; revert hn; intro hm
         refine s_app wkP F rfl rfl rfl rfl rfl rfl elem69 rfl ex22 H 4 0 rfl rfl ?_; clear F H; intro p21 c21 w a H F
         replace H : St w0 w (HP.sl (rPair (rInt .i64) (rSl rByte)) (some ⟨b20, 0, none⟩) (([(i, x18)]).length) ([(i, x18)]) :: HP.sl rByte p19 c19 x18 :: HP.blk bo0 ([.slice p11 (x10.2.1).length c11, .slice p12 (x10.2.2.1).length c12, .int .i64 (x10.2.2.2.1), .bool (x10.2.2.2.2)]) 71 :: HP.ow (rSl rByte) 33 p11 c11 x10.2.1 :: HP.ow (rPair (rInt .i64) (rSl rByte)) 88 p21 c21 x22 :: HP.sl rByte p3 c3 data :: l) := H
         refine wpList_nil ?_; refine c_then ⟨⟨_, (H.mv 2 rfl)⟩, ?_⟩
         refine m_pure F rfl rfl rfl rfl (fun u hu => y_nilCheck F rfl rfl) ?_; clear F; intro a F
         refine m_pure F rfl rfl rfl rfl (fun u hu => y_fieldAddr F fld71_1 rfl rfl) ?_; clear F; intro a F
         refine m_last rfl rfl ?_
         refine s_store1 wkP F rfl rfl zero69 rfl rfl rfl rfl rfl H 2 rfl (by simp [icells_length, bcells_length]) ?_; clear H; intro w H
         replace H : St w0 w (HP.sl (rPair (rInt .i64) (rSl rByte)) (some ⟨b20, 0, none⟩) (([(i, x18)]).length) ([(i, x18)]) :: HP.sl rByte p19 c19 x18 :: HP.blk bo0 ([.slice p11 (x10.2.1).length c11, .slice p21 (x22).length c21, .int .i64 (x10.2.2.2.1), .bool (x10.2.2.2.2)]) 71 :: HP.ow (rSl rByte) 33 p11 c11 x10.2.1 :: HP.ow (rPair (rInt .i64) (rSl rByte)) 88 p21 c21 x22 :: HP.sl rByte p3 c3 data :: l) := H
         refine wpList_nil ?_; refine c_then ?_
         refine m_nil ?_
         refine c_then ?_
         refine wp_seq ?_
         refine wp_seq ?_
         refine r_lit ?_
         refine s_val wkP F rfl rfl rfl rfl (y_move F rfl rfl) ?_; clear F; intro a F
         refine s_val wkP F rfl rfl rfl rfl (y_not F rfl rfl) ?_; clear F; intro a F
         refine wpList_nil ?_
         refine c_then ?_
         refine x_cond F rfl (fun hg23 => ?_) (fun hg23 => ?_)
         · replace hm := ifT hg23 hm
           refine wp_seq ?_
           refine r_lit ?_
           refine s_val wkP F rfl rfl rfl rfl (y_assign F rfl rfl) ?_; clear F; intro a F
           refine wpList_nil ?_
           refine c_then ?_
           refine wp_ret ?_
           refine c_thenR ?_
           obtain rfl := Option.some.inj hm
           refine x_ret1 F rfl rfl ?_
           exact ⟨_, rfl, p11, c11, p21, c21, rfl, ((((H.mv 4 rfl).mv 4 rfl).mv 4 rfl).keep 3 3)⟩
         · replace hm := ifF (nT hg23) hm
           refine wp_skip ?_
           refine c_then ?_
           refine wp_seq ?_
           refine r_lit ?_
           refine s_val wkP F rfl rfl rfl rfl (y_assign F rfl rfl) ?_; clear F; intro a F
           refine wpList_nil ?_
           refine c_then ?_
           refine wp_ret ?_
           obtain rfl := Option.some.inj hm
           refine x_ret1 F rfl rfl ?_
           exact ⟨_, rfl, p11, c11, p21, c21, rfl, ((((H.mv 4 rfl).mv 4 rfl).mv 4 rfl).keep 3 3)⟩
set_option maxRecDepth 100000 in
set_option maxHeartbeats 4000000 in
theorem w_diskFlush (d : (List (List UInt8)) × (List (Int × (List UInt8))) × Int × Bool) (bo0 : Nat) (p1 : Option Addr) (c1 : Nat) (p2 : Option Addr) (c2 : Nat) (w0 w : World) (l : List HP)  (r : Int × ((List (List UInt8)) × (List (Int × (List UInt8))) × Int × Bool)) (hm : diskFlush d = some r) (H : St w0 w (HP.blk bo0 ([.slice p1 (d.1).length c1, .slice p2 (d.2.1).length c2, .int .i64 (d.2.2.1), .bool (d.2.2.2)]) 71 :: HP.ow (rSl rByte) 33 p1 c1 d.1 :: HP.ow (rPair (rInt .i64) (rSl rByte)) 88 p2 c2 d.2.1 :: l)) :
  Calls Tryd.prog 13 [.pointer (some ⟨bo0, 0, none⟩)].toArray w (fun e w' => ∃ v, e = .returned v ∧ ∃ (p3 : Option Addr) (c3 : Nat) (p4 : Option Addr) (c4 : Nat), v = .int .i64 (r.1) ∧ St w0 w' (HP.blk bo0 ([.slice p3 (r.2.1).length c3, .slice p4 (r.2.2.1).length c4, .int .i64 (r.2.2.2.1), .bool (r.2.2.2.2)]) 71 :: HP.ow (rSl rByte) 33 p3 c3 r.2.1 :: HP.ow (rPair (rInt .i64) (rSl rByte)) 88 p4 c4 r.2.2.1 :: l)) := by
 unfold diskFlush at hm
 refine x_enter Tryd.func13 rfl rfl rfl ?_
 intro a F
 replace F : Fr ⟨36, []⟩ a [(0, .pointer (some ⟨bo0, 0, none⟩))] := F
 refine wp_seq ?_
 refine r_lit ?_
 refine s_val wkP F rfl rfl rfl rfl (y_assign F rfl rfl) ?_; clear F; intro a F
 refine wpList_nil ?_
 refine c_then ?_
 refine wp_seq ?_
 refine wp_seq ?_
 refine r_lit ?_
 refine s_val wkP F rfl rfl rfl rfl (y_move F rfl rfl) ?_; clear F; intro a F
 refine s_val wkP F rfl rfl rfl rfl (y_nilCheck F rfl rfl) ?_; clear F; intro a F
 refine s_val wkP F rfl rfl rfl rfl (y_fieldAddr F fld71_3 rfl rfl) ?_; clear F; intro a F
 refine s_val wkP F rfl rfl rfl rfl (y_load1 F plain4 rfl rfl (row_at (v := .bool (d.2.2.2)) ((H.blk 0 rfl).row) rfl)) ?_; clear F; intro a F
 refine s_val wkP F rfl rfl rfl rfl (y_move F rfl rfl) ?_; clear F; intro a F
 by_cases hg5 : d.2.2.2 = true
 · replace hm := ifT hg5 hm
   replace F := F.bool (k := 9) (u := .bool true) rfl (by rw [hg5])
   refine g_off wkP F rfl rfl rfl rfl rfl rfl rfl ?_; clear F; intro a F
   refine g_off wkP F rfl rfl rfl rfl rfl rfl rfl ?_; clear F; intro a F
   refine g_off wkP F rfl rfl rfl rfl rfl rfl rfl ?_; clear F; intro a F
   refine s_val wkP F rfl rfl rfl rfl (y_pickT F rfl rfl rfl) ?_; clear F; intro a F
   refine wpList_nil ?_
   refine c_then ?_
   refine x_condT F rfl ?_
   refine wp_seq ?_
   refine r_lit ?_
   refine s_val wkP F rfl rfl rfl rfl (y_assign F rfl rfl) ?_; clear F; intro a F
   refine wpList_nil ?_
   refine c_then ?_
   refine wp_ret ?_
   refine c_thenR ?_
   obtain rfl := Option.some.inj hm
   refine x_ret1 F rfl rfl ?_
   exact ⟨_, rfl, p1, c1, p2, c2, rfl, (((H.mv 2 rfl).mv 2 rfl).mv 2 rfl)⟩
 · replace hm := ifF hg5 hm
   replace F := F.bool (k := 9) (u := .bool false) rfl (by rw [eq_false_of_ne_true hg5])
   refine g_onP F rfl rfl rfl rfl ?_
   refine s_val wkP F rfl rfl rfl rfl (y_move F rfl rfl) ?_; clear F; intro a F
   refine g_onP F rfl rfl rfl rfl ?_
   obtain ⟨x6, ex6, hn⟩ := ob hm; clear hm; revert hn; intro hm
   refine s_call wkP F rfl rfl rfl rfl (y_call F rfl rfl ent41) (w_diskCall (d.1, d.2.1, d.2.2.1, d.2.2.2) bo0 p1 c1 p2 c2 w0 _ _  _ ex6 (((H.mv 2 rfl).mv 2 rfl).mv 2 rfl)) ?_; clear F H; rintro _ w a ⟨p7, c7, p8, c8, rfl, H⟩ F
   replace H : St w0 w (HP.blk bo0 ([.slice p7 (x6.2.1).length c7, .slice p8 (x6.2.2.1).length c8, .int .i64 (x6.2.2.2.1), .bool (x6.2.2.2.2)]) 71 :: HP.ow (rSl rByte) 33 p7 c7 x6.2.1 :: HP.ow (rPair (rInt .i64) (rSl rByte)) 88 p8 c8 x6.2.2.1 :: l) := H
   refine g_onP F rfl rfl rfl rfl ?_
   refine s_val wkP F rfl rfl rfl rfl (y_not F rfl rfl) ?_; clear F; intro a F
   refine s_val wkP F rfl rfl rfl rfl (y_pickF F rfl rfl rfl) ?_; clear F; intro a F
   refine wpList_nil ?_
   refine c_then ?_
   refine x_cond F rfl (fun hg9 => ?_) (fun hg9 => ?_)
   · replace hm := ifT hg9 hm
     refine wp_seq ?_
     refine r_lit ?_
     refine s_val wkP F rfl rfl rfl rfl (y_assign F rfl rfl) ?_; clear F; intro a F
     refine wpList_nil ?_
     refine c_then ?_
     refine wp_ret ?_
     refine c_thenR ?_
     obtain rfl := Option.some.inj hm
     refine x_ret1 F rfl rfl ?_
     exact ⟨_, rfl, p7, c7, p8, c8, rfl, (((H.mv 2 rfl).mv 2 rfl).mv 2 rfl)⟩
   · replace hm := ifF (nT hg9) hm
     refine wp_skip ?_
     refine c_then ?_
     refine wp_seq ?_
     refine wp_seq ?_
     refine r_lit ?_
     refine s_val wkP F rfl rfl rfl rfl (y_move F rfl rfl) ?_; clear F; intro a F
     refine s_val wkP F rfl rfl rfl rfl (y_nilCheck F rfl rfl) ?_; clear F; intro a F
     refine s_val wkP F rfl rfl rfl rfl (y_fieldAddr F fld71_1 rfl rfl) ?_; clear F; intro a F
     refine s_val wkP F rfl rfl rfl rfl (y_load1 F plain69 rfl rfl (row_at (v := .slice p8 (x6.2.2.1).length c8) ((H.blk 0 rfl).row) rfl)) ?_; clear F; intro a F
     refine s_val wkP F rfl rfl rfl rfl (y_lenS F rfl Tryd.underlying69 rfl) ?_; clear F; intro a F
     refine s_val wkP F rfl rfl rfl rfl (y_move F rfl rfl) ?_; clear F; intro a F
     refine wpList_nil ?_
     refine c_then ?_
     obtain ⟨r59, er59, hm59⟩ := ob hm; clear hm; revert er59; intro hm
     refine x_mid (fun aa ww => ∃ (p60 : Option Addr) (c60 : Nat), Fr ⟨36, []⟩ aa [(0, .pointer (some ⟨bo0, 0, none⟩))] ∧ St w0 ww (HP.blk bo0 ([.slice p60 (r59).length c60, .slice p8 (x6.2.2.1).length c8, .int .i64 (x6.2.2.2.1), .bool (x6.2.2.2.2)]) 71 :: HP.ow (rPair (rInt .i64) (rSl rByte)) 88 p8 c8 x6.2.2.1 :: HP.ow (rSl rByte) 33 p60 c60 r59 :: l)) ?_ ?_
     · skip
       refine wp_block ?_
       refine x_loopO _ (fun (s93 : (List (List UInt8)) × Int) aa ww => ∃ (p94 : Option Addr) (c94 : Nat), Fr ⟨36, []⟩ aa [(0, .pointer (some ⟨bo0, 0, none⟩)), (17, .slice p8 (x6.2.2.1).length c8), (18, .int .i64 (((x6.2.2.1).length : Int))), (19, .int .i64 (s93.2))] ∧ St w0 ww (HP.blk bo0 ([.slice p94 (s93.1).length c94, .slice p8 (x6.2.2.1).length c8, .int .i64 (x6.2.2.2.1), .bool (x6.2.2.2.2)]) 71 :: HP.ow (rPair (rInt .i64) (rSl rByte)) 88 p8 c8 x6.2.2.1 :: HP.ow (rSl rByte) 33 p94 c94 s93.1 :: l)) hm ⟨p7, c7, F.cut _ ⟨rfl, rfl, rfl, rfl, trivial⟩, (((H.mv 1 rfl).mv 2 rfl).mv 2 rfl)⟩ ?_
       clear F H hm
       rintro s93 a w o ⟨p94, c94, F, H⟩ hm
       refine wp_seq ?_
       refine r_lit ?_
       refine s_val wkP F rfl rfl rfl rfl (y_lss F rfl rfl rfl) ?_; clear F; intro a F
       refine wpList_nil ?_
       refine c_then ?_
       refine wp_seq ?_
       refine x_condP F rfl (fun hg95 => ?_) (fun hg95 => ?_)
       · replace hm := ifT hg95 hm
         refine wp_skip ?_
         refine c_then ?_
         refine wp_seq ?_
         refine wp_block ?_
         refine wp_seq ?_
         refine r_lit ?_
         obtain ⟨x96, ex96, hn⟩ := ob hm; clear hm; revert hn; intro hm
         obtain ⟨b97, hp97⟩ := H.owP 1 rfl (idxO_some ex96).2
         obtain ⟨css98, H⟩ := H.oxOpen 1 rfl; replace H : St w0 w (HP.blk bo0 ([.slice p94 (s93.1).length c94, .slice p8 (x6.2.2.1).length c8, .int .i64 (x6.2.2.2.1), .bool (x6.2.2.2.2)]) 71 :: HP.ox (rPair (rInt .i64) (rSl rByte)) 88 p8 c8 css98 x6.2.2.1 :: HP.ow (rSl rByte) 33 p94 c94 s93.1 :: l) := H
         obtain ⟨cs98, hcs98, hcl98, H⟩ := H.oxEl 1 rfl (idxO_some ex96).2
         obtain ⟨u99, v99, rfl, H⟩ := H.rcPair 0 rfl
         replace H := H.dp 2 rfl
         obtain rfl := H.rcI 0 rfl
         replace H := H.dp 0 rfl
         obtain ⟨p100, c100, rfl, H⟩ := H.rcSl 0 rfl
         replace H := H.dp 1 rfl
         refine s_val wkP F rfl rfl rfl rfl (y_idxS F elem69 rfl rfl rfl hp97 ex96) ?_; clear F; intro a F
         refine s_val wkP F rfl rfl rfl rfl (y_loadA F agg88 rfl rfl (H.oxRow 2 rfl hp97 hcs98 hcl98) (by simp only [List.length_append, List.length_cons, List.length_nil, icells_length, bcells_length])) ?_; clear F; intro a F
         replace H : St w0 w (HP.ow rByte 5 none 0 ([] : List UInt8) :: HP.sl rByte p100 c100 x96.2 :: HP.blk bo0 ([.slice p94 (s93.1).length c94, .slice p8 (x6.2.2.1).length c8, .int .i64 (x6.2.2.2.1), .bool (x6.2.2.2.2)]) 71 :: HP.ox (rPair (rInt .i64) (rSl rByte)) 88 p8 c8 css98 x6.2.2.1 :: HP.ow (rSl rByte) 33 p94 c94 s93.1 :: l) := H.owNil rByte 5
         refine s_allocA wkP F rfl rfl rfl agz88 rfl H ?_; clear F H; intro b101 w a H F
         replace H : St w0 w (HP.blk b101 ([.int .i64 (0), .slice none (([] : List UInt8)).length 0]) 88 :: HP.ow rByte 5 none 0 ([] : List UInt8) :: HP.sl rByte p100 c100 x96.2 :: HP.blk bo0 ([.slice p94 (s93.1).length c94, .slice p8 (x6.2.2.1).length c8, .int .i64 (x6.2.2.2.1), .bool (x6.2.2.2.2)]) 71 :: HP.ox (rPair (rInt .i64) (rSl rByte)) 88 p8 c8 css98 x6.2.2.1 :: HP.ow (rSl rByte) 33 p94 c94 s93.1 :: l) := H
         refine s_storeA wkP F rfl rfl agg88 rfl rfl rfl H 0 rfl (by simp only [List.length_append, List.length_cons, List.length_nil, icells_length, bcells_length]) (by simp only [List.length_append, List.length_cons, List.length_nil, icells_length, bcells_length]) (by intro v hv; simp only [List.mem_append, List.mem_cons, List.not_mem_nil, or_false] at hv; first | (rcases hv with h | h <;> first | (subst h; rfl) | exact bcells_flat _ _ h | exact icells_flat _ _ _ h | (rcases h with h | h <;> first | (subst h; rfl) | exact bcells_flat _ _ h | exact icells_flat _ _ _ h | (rcases h with h | h <;> first | (subst h; rfl) | exact bcells_flat _ _ h | (rcases h with h | h <;> first | (subst h; rfl) | (rcases h with h | h <;> (subst h; rfl)))))) | (subst hv; rfl)) ?_; clear H; intro w H
         replace H : St w0 w (HP.blk b101 ([.int .i64 (x96.1), .slice p100 (x96.2).length c100]) 88 :: HP.ow rByte 5 none 0 ([] : List UInt8) :: HP.sl rByte p100 c100 x96.2 :: HP.blk bo0 ([.slice p94 (s93.1).length c94, .slice p8 (x6.2.2.1).length c8, .int .i64 (x6.2.2.2.1), .bool (x6.2.2.2.2)]) 71 :: HP.ox (rPair (rInt .i64) (rSl rByte)) 88 p8 c8 css98 x6.2.2.1 :: HP.ow (rSl rByte) 33 p94 c94 s93.1 :: l) := H
         refine wpList_nil ?_
         replace H : St w0 w (HP.blk b101 ([.int .i64 (x96.1), .slice p100 (x96.2).length c100]) 88 :: HP.ow rByte 5 none 0 ([] : List UInt8) :: HP.sl rByte p100 c100 x96.2 :: HP.blk bo0 ([.slice p94 (s93.1).length c94, .slice p8 (x6.2.2.1).length c8, .int .i64 (x6.2.2.2.1), .bool (x6.2.2.2.2)]) 71 :: HP.ow (rPair (rInt .i64) (rSl rByte)) 88 p8 c8 x6.2.2.1 :: HP.ow (rSl rByte) 33 p94 c94 s93.1 :: l) := H.oxShut 4 rfl
         refine c_then ?_
         obtain ⟨x106, ex106, hn⟩ := ob hm; clear hm; revert hn; intro hm
         obtain ⟨b107, hp107⟩ := H.owP 5 rfl (idxO_some ex106).2
         obtain ⟨css108, H⟩ := H.oxOpen 5 rfl; replace H : St w0 w (HP.blk b101 ([.int .i64 (x96.1), .slice p100 (x96.2).length c100]) 88 :: HP.ow rByte 5 none 0 ([] : List UInt8) :: HP.sl rByte p100 c100 x96.2 :: HP.blk bo0 ([.slice p94 (s93.1).length c94, .slice p8 (x6.2.2.1).length c8, .int .i64 (x6.2.2.2.1), .bool (x6.2.2.2.2)]) 71 :: HP.ow (rPair (rInt .i64) (rSl rByte)) 88 p8 c8 x6.2.2.1 :: HP.ox (rSl rByte) 33 p94 c94 css108 s93.1 :: l) := H
         obtain ⟨cs108, hcs108, hcl108, H⟩ := H.oxEl 5 rfl (idxO_some ex106).2
         obtain ⟨p109, c109, rfl, H⟩ := H.rcSl 0 rfl
         replace H := H.dp 1 rfl
         refine mix_region [9] [9] (.step 0 0 (.step 0 1 (.step 0 2 (.step 1 3 (.step 0 4 (.step 1 5 (.step 0 6 (.step 1 7 (.step 0 8 (.step 3 9 .done)))))))))) (fun u => ∃ ls, St w0 u (ls)) (by kernel_rfl) (by kernel_rfl) ⟨_, H.drew⟩ ?_
         replace H := H.drew
         generalize w.drew = w at H ⊢
         refine m_pure F rfl rfl rfl rfl (fun u hu => y_move F rfl rfl) ?_; clear F; intro a F
         refine m_pure F rfl rfl rfl rfl (fun u hu => y_nilCheck F rfl rfl) ?_; clear F; intro a F
         refine m_pure F rfl rfl rfl rfl (fun u hu => y_fieldAddr F fld71_0 rfl rfl) ?_; clear F; intro a F
         refine m_read F rfl rfl rfl rfl (y_load1 F plain22 rfl rfl (row_at (v := .slice p94 (s93.1).length c94) ((H.blk 4 rfl).row) rfl)) ?_; clear F; intro a F
         refine m_pure F rfl rfl rfl rfl (fun u hu => y_fieldAddr F fld88_0 rfl rfl) ?_; clear F; intro a F
         refine m_read F rfl rfl rfl rfl (y_load1 F plain3 rfl rfl (row_at (v := .int .i64 (x96.1)) ((H.blk 1 rfl).row) rfl)) ?_; clear F; intro a F
         refine m_pure F rfl rfl rfl rfl (fun u hu => y_fieldAddr F fld88_1 rfl rfl) ?_; clear F; intro a F
         refine m_read F rfl rfl rfl rfl (y_load1 F plain33 rfl rfl (row_at (v := .slice p100 (x96.2).length c100) ((H.blk 1 rfl).row) rfl)) ?_; clear F; intro a F
         refine m_pure F rfl rfl rfl rfl (fun u hu => y_idxS F elem22 rfl rfl rfl hp107 ex106) ?_; clear F; intro a F
         refine m_last rfl rfl ?_
         replace H : St w0 w (HP.sl rByte p109 c109 x106 :: HP.blk b101 ([.int .i64 (x96.1), .slice p100 (x96.2).length c100]) 88 :: HP.ow rByte 5 none 0 ([] : List UInt8) :: HP.sl rByte p100 c100 x96.2 :: HP.blk bo0 ([.slice p94 (s93.1).length c94, .slice p8 (x6.2.2.1).length c8, .int .i64 (x6.2.2.2.1), .bool (x6.2.2.2.2)]) 71 :: HP.ow (rPair (rInt .i64) (rSl rByte)) 88 p8 c8 x6.2.2.1 :: HP.ow (rSl rByte) 33 p94 c94 s93.1 :: l) := H.oxShut 6 rfl
         refine s_owSet1 wkP F rfl rfl zero33 rfl rfl rfl rfl rfl rfl H 6 rfl hp107 ex106 (zz := x96.2) (fun gg => ⟨_, _, rfl, (gg 3 _ rfl).choose_spec⟩) ?_; clear H; intro w H
         replace H : St w0 w (HP.sl rByte p109 c109 x106 :: HP.blk b101 ([.int .i64 (x96.1), .slice p100 (x96.2).length c100]) 88 :: HP.ow rByte 5 none 0 ([] : List UInt8) :: HP.sl rByte p100 c100 x96.2 :: HP.blk bo0 ([.slice p94 (s93.1).length c94, .slice p8 (x6.2.2.1).length c8, .int .i64 (x6.2.2.2.1), .bool (x6.2.2.2.2)]) 71 :: HP.ow (rPair (rInt .i64) (rSl rByte)) 88 p8 c8 x6.2.2.1 :: HP.ow (rSl rByte) 33 p94 c94 ((s93.1).set (x96.1 : Int).toNat x96.2) :: l) := H
         replace H : St w0 w (HP.sl rByte p109 c109 x106 :: HP.blk b101 ([.int .i64 (x96.1), .slice p100 (x96.2).length c100]) 88 :: HP.ow rByte 5 none 0 ([] : List UInt8) :: HP.sl rByte p100 c100 x96.2 :: HP.blk bo0 ([.slice p94 ((s93.1).set (x96.1 : Int).toNat x96.2).length c94, .slice p8 (x6.2.2.1).length c8, .int .i64 (x6.2.2.2.1), .bool (x6.2.2.2.2)]) 71 :: HP.ow (rPair (rInt .i64) (rSl rByte)) 88 p8 c8 x6.2.2.1 :: HP.ow (rSl rByte) 33 p94 c94 ((s93.1).set (x96.1 : Int).toNat x96.2) :: l) := (by have h := H; first | exact h | (simp only [List.length_set] at h ⊢; exact h))
         replace F := F.bool (k := 26) (u := .slice p94 ((s93.1).set (x96.1 : Int).toNat x96.2).length c94) rfl (by simp only [List.length_set])
         refine wpList_nil ?_; refine c_then ?_
         refine m_nil ?_
         refine c_blkN ?_
         refine c_then ?_
         refine r_lit ?_
         refine s_val wkP F rfl rfl rfl rfl (i_add F rfl rfl rfl) ?_; clear F; intro a F
         refine s_val wkP F rfl rfl rfl rfl (y_move F rfl rfl) ?_; clear F; intro a F
         refine wpList_nil ?_
         refine c_then ?_; obtain rfl := Option.some.inj hm
         exact ⟨_, rfl, ⟨p94, c94, F.cut _ ⟨rfl, rfl, rfl, rfl, trivial⟩, ((((H.mv 6 rfl).mv 6 rfl).mv 6 rfl).keep 3 4)⟩⟩
       · replace hm := ifF hg95 hm
         refine wp_exit ?_
         refine c_thenX ?_
         refine c_thenX ?_; obtain rfl := Option.some.inj hm; refine ⟨_, rfl, ?_⟩; rintro rfl
         refine c_hit ?_
         refine c_then ?_
         exact ⟨p94, c94, F.cut _ ⟨rfl, trivial⟩, (((H.mv 2 rfl).mv 2 rfl).mv 2 rfl)⟩
     · skip
       clear F H hm
       rintro a w ⟨p60, c60, F, H⟩; have hm := hm59; clear hm59
       refine c_then ?_
       refine wp_seq ?_
       refine r_lit ?_
       refine s_val wkP F rfl rfl rfl rfl (y_move F rfl rfl) ?_; clear F; intro a F
       refine s_val wkP F rfl rfl rfl rfl (y_nilCheck F rfl rfl) ?_; clear F; intro a F
       refine s_val wkP F rfl rfl rfl rfl (y_fieldAddr F fld71_1 rfl rfl) ?_; clear F; intro a F
       replace H : St w0 w (HP.ow (rPair (rInt .i64) (rSl rByte)) 88 none 0 ([] : List (Int × (List UInt8))) :: HP.blk bo0 ([.slice p60 (r59).length c60, .slice p8 (x6.2.2.1).length c8, .int .i64 (x6.2.2.2.1), .bool (x6.2.2.2.2)]) 71 :: HP.ow (rPair (rInt .i64) (rSl rByte)) 88 p8 c8 x6.2.2.1 :: HP.ow (rSl rByte) 33 p60 c60 r59 :: l) := H.owNil (rPair (rInt .i64) (rSl rByte)) 88
       refine s_store1 wkP F rfl rfl zero69 rfl rfl rfl rfl rfl H 1 rfl (by simp [icells_length, bcells_length]) ?_; clear H; intro w H
       replace H : St w0 w (HP.ow (rPair (rInt .i64) (rSl rByte)) 88 none 0 ([] : List (Int × (List UInt8))) :: HP.blk bo0 ([.slice p60 (r59).length c60, .slice none (([] : List (Int × (List UInt8)))).length 0, .int .i64 (x6.2.2.2.1), .bool (x6.2.2.2.2)]) 71 :: HP.ow (rPair (rInt .i64) (rSl rByte)) 88 p8 c8 x6.2.2.1 :: HP.ow (rSl rByte) 33 p60 c60 r59 :: l) := H
       refine wpList_nil ?_
       refine c_then ?_
       refine wp_seq ?_
       refine r_lit ?_
       refine s_val wkP F rfl rfl rfl rfl (y_assign F rfl rfl) ?_; clear F; intro a F
       refine wpList_nil ?_
       refine c_then ?_
       refine wp_ret ?_
       obtain rfl := Option.some.inj hm
       refine x_ret1 F rfl rfl ?_
       exact ⟨_, rfl, p60, c60, none, 0, rfl, ((((H.mv 0 rfl).mv 3 rfl).mv 2 rfl).keep 3 1)⟩
theorem elem23 : ElemT Tryd.prog 23 3 1 8 (.int .i64 0) := ⟨Tryd.underlying23, by kernel_rfl, by kernel_rfl, by decide⟩
set_option maxRecDepth 100000 in
set_option maxHeartbeats 4000000 in
theorem w_diskCrash (d : (List (List UInt8)) × (List (Int × (List UInt8))) × Int × Bool) (fates : List Int) (bo0 : Nat) (p1 : Option Addr) (c1 : Nat) (p2 : Option Addr) (c2 : Nat) (p3 : Option Addr) (c3 : Nat) (w0 w : World) (l : List HP)  (r : ((List (List UInt8)) × (List (Int × (List UInt8))) × Int × Bool)) (hm : diskCrash d fates = some r) (H : St w0 w (HP.blk bo0 ([.slice p1 (d.1).length c1, .slice p2 (d.2.1).length c2, .int .i64 (d.2.2.1), .bool (d.2.2.2)]) 71 :: HP.ow (rSl rByte) 33 p1 c1 d.1 :: HP.ow (rPair (rInt .i64) (rSl rByte)) 88 p2 c2 d.2.1 :: HP.sl (rInt .i64) p3 c3 fates :: l)) :
  Calls Tryd.prog 15 [.pointer (some ⟨bo0, 0, none⟩), .slice p3 (fates).length c3].toArray w (fun e w' => ∃ v, e = .returned v ∧ ∃ (b4 : Nat) (p5 : Option Addr) (c5 : Nat) (p6 : Option Addr) (c6 : Nat), v = .pointer (some ⟨b4, 0, none⟩) ∧ St w0 w' (HP.blk b4 ([.slice p5 (r.1).length c5, .slice p6 (r.2.1).length c6, .int .i64 (r.2.2.1), .bool (r.2.2.2)]) 71 :: HP.ow (rSl rByte) 33 p5 c5 r.1 :: HP.ow (rPair (rInt .i64) (rSl rByte)) 88 p6 c6 r.2.1 :: HP.blk bo0 ([.slice p1 (d.1).length c1, .slice p2 (d.2.1).length c2, .int .i64 (d.2.2.1), .bool (d.2.2.2)]) 71 :: HP.ow (rSl rByte) 33 p1 c1 d.1 :: HP.ow (rPair (rInt .i64) (rSl rByte)) 88 p2 c2 d.2.1 :: l)) := by
 unfold diskCrash at hm
 refine x_enter Tryd.func15 rfl rfl rfl ?_
 intro a F
 replace F : Fr ⟨96, []⟩ a [(0, .pointer (some ⟨bo0, 0, none⟩)), (1, .slice p3 (fates).length c3)] := F
 refine wp_seq ?_
 refine r_lit ?_
 refine s_val wkP F rfl rfl rfl rfl (y_assign F rfl rfl) ?_; clear F; intro a F
 refine wpList_nil ?_
 refine c_then ?_
 refine wp_seq ?_
 refine r_lit ?_
 replace H : St w0 w (HP.os 5 ([] : List (List Value)) ([] : List (List UInt8)) noh :: HP.own 33 1 (.slice none (([] : List (List UInt8))).length 0) (([] : List (List UInt8))).length (([] : List (List Value))).flatten :: HP.blk bo0 ([.slice p1 (d.1).length c1, .slice p2 (d.2.1).length c2, .int .i64 (d.2.2.1), .bool (d.2.2.2)]) 71 :: HP.ow (rSl rByte) 33 p1 c1 d.1 :: HP.ow (rPair (rInt .i64) (rSl rByte)) 88 p2 c2 d.2.1 :: HP.sl (rInt .i64) p3 c3 fates :: l) := (H.ownNil 33 1).osNil 5
 replace H : St w0 w (HP.ow (rPair (rInt .i64) (rSl rByte)) 88 none 0 ([] : List (Int × (List UInt8))) :: HP.os 5 ([] : List (List Value)) ([] : List (List UInt8)) noh :: HP.own 33 1 (.slice none (([] : List (List UInt8))).length 0) (([] : List (List UInt8))).length (([] : List (List Value))).flatten :: HP.blk bo0 ([.slice p1 (d.1).length c1, .slice p2 (d.2.1).length c2, .int .i64 (d.2.2.1), .bool (d.2.2.2)]) 71 :: HP.ow (rSl rByte) 33 p1 c1 d.1 :: HP.ow (rPair (rInt .i64) (rSl rByte)) 88 p2 c2 d.2.1 :: HP.sl (rInt .i64) p3 c3 fates :: l) := H.owNil (rPair (rInt .i64) (rSl rByte)) 88
 refine s_val wkP F rfl rfl rfl rfl (y_build F rfl rfl (cs := [.slice none (([] : List (List UInt8))).length 0, .slice none (([] : List (Int × (List UInt8)))).length 0, .int .i64 (-1), .bool false]) (by kernel_rfl)) ?_; clear F; intro a F
 refine s_boxA wkP F rfl rfl rfl rfl rfl H ?_; clear F H; intro b7 w a H F
 replace H : St w0 w (HP.blk b7 ([.slice none (([] : List (List UInt8))).length 0, .slice none (([] : List (Int × (List UInt8)))).length 0, .int .i64 (-1), .bool false]) 71 :: HP.ow (rPair (rInt .i64) (rSl rByte)) 88 none 0 ([] : List (Int × (List UInt8))) :: HP.os 5 ([] : List (List Value)) ([] : List (List UInt8)) noh :: HP.own 33 1 (.slice none (([] : List (List UInt8))).length 0) (([] : List (List UInt8))).length (([] : List (List Value))).flatten :: HP.blk bo0 ([.slice p1 (d.1).length c1, .slice p2 (d.2.1).length c2, .int .i64 (d.2.2.1), .bool (d.2.2.2)]) 71 :: HP.ow (rSl rByte) 33 p1 c1 d.1 :: HP.ow (rPair (rInt .i64) (rSl rByte)) 88 p2 c2 d.2.1 :: HP.sl (rInt .i64) p3 c3 fates :: l) := H
 refine s_val wkP F rfl rfl rfl rfl (y_assign F rfl rfl) ?_; clear F; intro a F
 refine wpList_nil ?_
 refine c_then ?_
 refine wp_seq ?_
 refine wp_seq ?_
 refine r_lit ?_
 refine s_val wkP F rfl rfl rfl rfl (y_move F rfl rfl) ?_; clear F; intro a F
 refine s_val wkP F rfl rfl rfl rfl (y_nilCheck F rfl rfl) ?_; clear F; intro a F
 refine s_val wkP F rfl rfl rfl rfl (y_fieldAddr F fld71_0 rfl rfl) ?_; clear F; intro a F
 refine s_val wkP F rfl rfl rfl rfl (y_load1 F plain22 rfl rfl (row_at (v := .slice p1 (d.1).length c1) ((H.blk 4 rfl).row) rfl)) ?_; clear F; intro a F
 refine s_val wkP F rfl rfl rfl rfl (y_lenS F rfl Tryd.underlying22 rfl) ?_; clear F; intro a F
 refine s_val wkP F rfl rfl rfl rfl (y_move F rfl rfl) ?_; clear F; intro a F
 refine wpList_nil ?_
 refine c_then ?_
 obtain ⟨r57, er57, hm57⟩ := ob hm; clear hm; revert er57; intro hm
 refine x_mid (fun aa ww => ∃ (p58 : Option Addr) (c58 : Nat) (css58 : List (List Value)), Fr ⟨96, []⟩ aa [(0, .pointer (some ⟨bo0, 0, none⟩)), (1, .slice p3 (fates).length c3), (5, .pointer (some ⟨b7, 0, none⟩))] ∧ St w0 ww (HP.blk b7 ([.slice p58 (r57).length c58, .slice none (([] : List (Int × (List UInt8)))).length 0, .int .i64 (-1), .bool false]) 71 :: HP.ow (rPair (rInt .i64) (rSl rByte)) 88 none 0 ([] : List (Int × (List UInt8))) :: HP.blk bo0 ([.slice p1 (d.1).length c1, .slice p2 (d.2.1).length c2, .int .i64 (d.2.2.1), .bool (d.2.2.2)]) 71 :: HP.ow (rSl rByte) 33 p1 c1 d.1 :: HP.ow (rPair (rInt .i64) (rSl rByte)) 88 p2 c2 d.2.1 :: HP.sl (rInt .i64) p3 c3 fates :: HP.own 33 1 (.slice p58 (r57).length c58) (r57).length (css58).flatten :: HP.os 5 css58 r57 noh :: l)) ?_ ?_
 · skip
   refine wp_block ?_
   refine x_loopO _ (fun (s91 : (List (List UInt8)) × Int) aa ww => ∃ (p92 : Option Addr) (c92 : Nat) (css92 : List (List Value)), Fr ⟨96, []⟩ aa [(0, .pointer (some ⟨bo0, 0, none⟩)), (1, .slice p3 (fates).length c3), (5, .pointer (some ⟨b7, 0, none⟩)), (18, .slice p1 (d.1).length c1), (19, .int .i64 (((d.1).length : Int))), (20, .int .i64 (s91.2))] ∧ St w0 ww (HP.blk b7 ([.slice p92 (s91.1).length c92, .slice none (([] : List (Int × (List UInt8)))).length 0, .int .i64 (-1), .bool false]) 71 :: HP.ow (rPair (rInt .i64) (rSl rByte)) 88 none 0 ([] : List (Int × (List UInt8))) :: HP.blk bo0 ([.slice p1 (d.1).length c1, .slice p2 (d.2.1).length c2, .int .i64 (d.2.2.1), .bool (d.2.2.2)]) 71 :: HP.ow (rSl rByte) 33 p1 c1 d.1 :: HP.ow (rPair (rInt .i64) (rSl rByte)) 88 p2 c2 d.2.1 :: HP.sl (rInt .i64) p3 c3 fates :: HP.own 33 1 (.slice p92 (s91.1).length c92) (s91.1).length (css92).flatten :: HP.os 5 css92 s91.1 noh :: l)) hm ⟨none, 0, ([] : List (List Value)), F.cut _ ⟨rfl, rfl, rfl, rfl, rfl, rfl, trivial⟩, (((((((((H.mv 2 rfl).mv 3 rfl).cp 7 rfl pers_sl).mv 7 rfl).mv 7 rfl).mv 7 rfl).mv 7 rfl).mv 7 rfl).keep 8 1)⟩ ?_
   clear F H hm
   rintro s91 a w o ⟨p92, c92, css92, F, H⟩ hm
   refine wp_seq ?_
   refine r_lit ?_
   refine s_val wkP F rfl rfl rfl rfl (y_lss F rfl rfl rfl) ?_; clear F; intro a F
   refine wpList_nil ?_
   refine c_then ?_
   refine wp_seq ?_
   refine x_condP F rfl (fun hg93 => ?_) (fun hg93 => ?_)
   · replace hm := ifT hg93 hm
     refine wp_skip ?_
     refine c_then ?_
     refine wp_seq ?_
     refine wp_block ?_
     refine wp_seq ?_
     refine r_lit ?_
     obtain ⟨x94, ex94, hn⟩ := ob hm; clear hm; revert hn; intro hm
     obtain ⟨b95, hp95⟩ := H.owP 3 rfl (idxO_some ex94).2
     obtain ⟨css96, H⟩ := H.oxOpen 3 rfl; replace H : St w0 w (HP.blk b7 ([.slice p92 (s91.1).length c92, .slice none (([] : List (Int × (List UInt8)))).length 0, .int .i64 (-1), .bool false]) 71 :: HP.ow (rPair (rInt .i64) (rSl rByte)) 88 none 0 ([] : List (Int × (List UInt8))) :: HP.blk bo0 ([.slice p1 (d.1).length c1, .slice p2 (d.2.1).length c2, .int .i64 (d.2.2.1), .bool (d.2.2.2)]) 71 :: HP.ox (rSl rByte) 33 p1 c1 css96 d.1 :: HP.ow (rPair (rInt .i64) (rSl rByte)) 88 p2 c2 d.2.1 :: HP.sl (rInt .i64) p3 c3 fates :: HP.own 33 1 (.slice p92 (s91.1).length c92) (s91.1).length (css92).flatten :: HP.os 5 css92 s91.1 noh :: l) := H
     obtain ⟨cs96, hcs96, hcl96, H⟩ := H.oxEl 3 rfl (idxO_some ex94).2
     obtain ⟨p97, c97, rfl, H⟩ := H.rcSl 0 rfl
     replace H := H.dp 1 rfl
     refine s_val wkP F rfl rfl rfl rfl (y_idxS F elem22 rfl rfl rfl hp95 ex94) ?_; clear F; intro a F
     refine s_val wkP F rfl rfl rfl rfl (y_load1 F plain33 rfl rfl ((H.oxRow 4 rfl hp95 hcs96 hcl96) 0 _ rfl)) ?_; clear F; intro a F
     refine s_val wkP F rfl rfl rfl rfl (y_assign F rfl rfl) ?_; clear F; intro a F
     refine wpList_nil ?_
     replace H : St w0 w (HP.sl rByte p97 c97 x94 :: HP.blk b7 ([.slice p92 (s91.1).length c92, .slice none (([] : List (Int × (List UInt8)))).length 0, .int .i64 (-1), .bool false]) 71 :: HP.ow (rPair (rInt .i64) (rSl rByte)) 88 none 0 ([] : List (Int × (List UInt8))) :: HP.blk bo0 ([.slice p1 (d.1).length c1, .slice p2 (d.2.1).length c2, .int .i64 (d.2.2.1), .bool (d.2.2.2)]) 71 :: HP.ow (rSl rByte) 33 p1 c1 d.1 :: HP.ow (rPair (rInt .i64) (rSl rByte)) 88 p2 c2 d.2.1 :: HP.sl (rInt .i64) p3 c3 fates :: HP.own 33 1 (.slice p92 (s91.1).length c92) (s91.1).length (css92).flatten :: HP.os 5 css92 s91.1 noh :: l) := H.oxShut 4 rfl
     refine c_then ?_
     refine mix_region [6, 7, 8, 11] [11] (.step 0 0 (.step 0 1 (.step 0 2 (.step 0 3 (.step 0 4 (.step 0 5 (.step 2 6 (.step 2 7 (.step 2 8 (.step 0 9 (.step 0 10 (.step 3 11 .done)))))))))))) (fun u => ∃ ls, St w0 u (HP.blk b7 ([.slice p92 (s91.1).length c92, .slice none (([] : List (Int × (List UInt8)))).length 0, .int .i64 (-1), .bool false]) 71 :: ls)) (by kernel_rfl) (by kernel_rfl) ⟨_, (H.drew.mv 1 rfl)⟩ ?_
     replace H := H.drew
     generalize w.drew = w at H ⊢
     refine m_pure F rfl rfl rfl rfl (fun u hu => y_move F rfl rfl) ?_; clear F; intro a F
     refine m_pure F rfl rfl rfl rfl (fun u hu => y_move F rfl rfl) ?_; clear F; intro a F
     refine m_pure F rfl rfl rfl rfl (fun u hu => y_nilCheck F rfl rfl) ?_; clear F; intro a F
     refine m_pure F rfl rfl rfl rfl (fun u hu => y_fieldAddr F fld71_0 rfl rfl) ?_; clear F; intro a F
     refine m_pure F rfl rfl rfl rfl (fun u hu => y_load1 F plain22 rfl rfl (row_at (v := .slice p92 (s91.1).length c92) ((hu.choose_spec.blk 0 rfl).row) rfl)) ?_; clear F; intro a F
     refine m_pure F rfl rfl rfl rfl (fun u hu => y_move F rfl rfl) ?_; clear F; intro a F
     refine m_heavy rfl rfl ?_
     obtain ⟨x103, ex103, hn⟩ := ob hm; clear hm; revert hn; intro hm
     refine s_call wkP F rfl rfl rfl rfl (y_call F rfl rfl ent42) (w_cloneB x94 p97 c97 w0 _ _  _ ex103 (H.cp 0 rfl pers_sl)) ?_; clear F H; rintro _ w a ⟨p104, c104, rfl, H⟩ F
     replace H : St w0 w (HP.ow rByte 5 p104 c104 x103 :: HP.sl rByte p97 c97 x94 :: HP.blk b7 ([.slice p92 (s91.1).length c92, .slice none (([] : List (Int × (List UInt8)))).length 0, .int .i64 (-1), .bool false]) 71 :: HP.ow (rPair (rInt .i64) (rSl rByte)) 88 none 0 ([] : List (Int × (List UInt8))) :: HP.blk bo0 ([.slice p1 (d.1).length c1, .slice p2 (d.2.1).length c2, .int .i64 (d.2.2.1), .bool (d.2.2.2)]) 71 :: HP.ow (rSl rByte) 33 p1 c1 d.1 :: HP.ow (rPair (rInt .i64) (rSl rByte)) 88 p2 c2 d.2.1 :: HP.sl (rInt .i64) p3 c3 fates :: HP.own 33 1 (.slice p92 (s91.1).length c92) (s91.1).length (css92).flatten :: HP.os 5 css92 s91.1 noh :: l) := H
     refine wpList_nil ?_; refine c_then ⟨⟨_, (H.mv 2 rfl)⟩, ?_⟩
     refine m_heavy rfl rfl ?_
     refine s_buildC wkP F rfl rfl rfl elem22 zero33 rfl rfl rfl rfl (by simp [Value.cells]) (by decide) H ?_; clear F H; intro b105 w a H F
     replace H : St w0 w (HP.blk b105 ([.slice p104 (x103).length c104]) 33 :: HP.ow rByte 5 p104 c104 x103 :: HP.sl rByte p97 c97 x94 :: HP.blk b7 ([.slice p92 (s91.1).length c92, .slice none (([] : List (Int × (List UInt8)))).length 0, .int .i64 (-1), .bool false]) 71 :: HP.ow (rPair (rInt .i64) (rSl rByte)) 88 none 0 ([] : List (Int × (List UInt8))) :: HP.blk bo0 ([.slice p1 (d.1).length c1, .slice p2 (d.2.1).length c2, .int .i64 (d.2.2.1), .bool (d.2.2.2)]) 71 :: HP.ow (rSl rByte) 33 p1 c1 d.1 :: HP.ow (rPair (rInt .i64) (rSl rByte)) 88 p2 c2 d.2.1 :: HP.sl (rInt .i64) p3 c3 fates :: HP.own 33 1 (.slice p92 (s91.1).length c92) (s91.1).length (css92).flatten :: HP.os 5 css92 s91.1 noh :: l) := H
     refine wpList_nil ?_; refine c_then ⟨⟨_, (H.mv 3 rfl)⟩, ?_⟩
     refine m_heavy rfl rfl ?_
     obtain ⟨x107, ex107, hn⟩ := ob hm; clear hm; revert hn; intro hm
     refine s_appOO wkP F rfl rfl rfl rfl rfl rfl elem22 rfl ex107 (((((H.mv 0 rfl).mv 10 rfl).mv 2 rfl).mv 10 rfl)) ?_; clear F H; intro p106 c106 w a H F
     replace H : St w0 w (HP.os 5 (css92 ++ [[Value.slice p104 (x103).length c104]]) x107 noh :: HP.own 33 1 (.slice p106 (x107).length c106) (x107).length ((css92 ++ [[Value.slice p104 (x103).length c104]])).flatten :: HP.sl rByte p97 c97 x94 :: HP.blk b7 ([.slice p92 (s91.1).length c92, .slice none (([] : List (Int × (List UInt8)))).length 0, .int .i64 (-1), .bool false]) 71 :: HP.ow (rPair (rInt .i64) (rSl rByte)) 88 none 0 ([] : List (Int × (List UInt8))) :: HP.blk bo0 ([.slice p1 (d.1).length c1, .slice p2 (d.2.1).length c2, .int .i64 (d.2.2.1), .bool (d.2.2.2)]) 71 :: HP.ow (rSl rByte) 33 p1 c1 d.1 :: HP.ow (rPair (rInt .i64) (rSl rByte)) 88 p2 c2 d.2.1 :: HP.sl (rInt .i64) p3 c3 fates :: l) := H
     refine wpList_nil ?_; refine c_then ⟨⟨_, (H.mv 3 rfl)⟩, ?_⟩
     refine m_pure F rfl rfl rfl rfl (fun u hu => y_nilCheck F rfl rfl) ?_; clear F; intro a F
     refine m_pure F rfl rfl rfl rfl (fun u hu => y_fieldAddr F fld71_0 rfl rfl) ?_; clear F; intro a F
     refine m_last rfl rfl ?_
     refine s_store1 wkP F rfl rfl zero22 rfl rfl rfl rfl rfl H 3 rfl (by simp [icells_length, bcells_length]) ?_; clear H; intro w H
     replace H : St w0 w (HP.os 5 (css92 ++ [[Value.slice p104 (x103).length c104]]) x107 noh :: HP.own 33 1 (.slice p106 (x107).length c106) (x107).length ((css92 ++ [[Value.slice p104 (x103).length c104]])).flatten :: HP.sl rByte p97 c97 x94 :: HP.blk b7 ([.slice p106 (x107).length c106, .slice none (([] : List (Int × (List UInt8)))).length 0, .int .i64 (-1), .bool false]) 71 :: HP.ow (rPair (rInt .i64) (rSl rByte)) 88 none 0 ([] : List (Int × (List UInt8))) :: HP.blk bo0 ([.slice p1 (d.1).length c1, .slice p2 (d.2.1).length c2, .int .i64 (d.2.2.1), .bool (d.2.2.2)]) 71 :: HP.ow (rSl rByte) 33 p1 c1 d.1 :: HP.ow (rPair (rInt .i64) (rSl rByte)) 88 p2 c2 d.2.1 :: HP.sl (rInt .i64) p3 c3 fates :: l) := H
     refine wpList_nil ?_; refine c_then ?_
     refine m_nil ?_
     refine c_blkN ?_
     refine c_then ?_
     refine r_lit ?_
     refine s_val wkP F rfl rfl rfl rfl (i_add F rfl rfl rfl) ?_; clear F; intro a F
     refine s_val wkP F rfl rfl rfl rfl (y_move F rfl rfl) ?_; clear F; intro a F
     refine wpList_nil ?_
     refine c_then ?_; obtain rfl := Option.some.inj hm
     exact ⟨_, rfl, ⟨p106, c106, (css92 ++ [[Value.slice p104 (x103).length c104]]), F.cut _ ⟨rfl, rfl, rfl, rfl, rfl, rfl, trivial⟩, (((((((((H.mv 0 rfl).mv 1 rfl).cp 8 rfl pers_sl).mv 8 rfl).mv 8 rfl).mv 8 rfl).mv 8 rfl).mv 8 rfl).keep 8 2)⟩⟩
   · replace hm := ifF hg93 hm
     refine wp_exit ?_
     refine c_thenX ?_
     refine c_thenX ?_; obtain rfl := Option.some.inj hm; refine ⟨_, rfl, ?_⟩; rintro rfl
     refine c_hit ?_
     refine c_then ?_
     exact ⟨p92, c92, css92, F.cut _ ⟨rfl, rfl, rfl, trivial⟩, (((((((((H.mv 7 rfl).mv 7 rfl).cp 7 rfl pers_sl).mv 7 rfl).mv 7 rfl).mv 7 rfl).mv 7 rfl).mv 7 rfl).keep 8 1)⟩
 · skip
   clear F H hm
   rintro a w ⟨p58, c58, css58, F, H⟩; have hm := hm57; clear hm57
   refine c_then ?_
   refine wp_seq ?_
   refine wp_seq ?_
   refine r_lit ?_
   refine s_val wkP F rfl rfl rfl rfl (y_move F rfl rfl) ?_; clear F; intro a F
   refine s_val wkP F rfl rfl rfl rfl (y_nilCheck F rfl rfl) ?_; clear F; intro a F
   refine s_val wkP F rfl rfl rfl rfl (y_fieldAddr F fld71_1 rfl rfl) ?_; clear F; intro a F
   refine s_val wkP F rfl rfl rfl rfl (y_load1 F plain69 rfl rfl (row_at (v := .slice p2 (d.2.1).length c2) ((H.blk 2 rfl).row) rfl)) ?_; clear F; intro a F
   refine s_val wkP F rfl rfl rfl rfl (y_lenS F rfl Tryd.underlying69 rfl) ?_; clear F; intro a F
   refine s_val wkP F rfl rfl rfl rfl (y_move F rfl rfl) ?_; clear F; intro a F
   refine wpList_nil ?_
   refine c_then ?_
   obtain ⟨r1627, er1627, hm1627⟩ := ob hm; clear hm; revert er1627; intro hm
   refine x_mid (fun aa ww => Fr ⟨96, []⟩ aa [(5, .pointer (some ⟨b7, 0, none⟩))] ∧ St w0 ww (HP.blk b7 ([.slice p58 (r1627).length c58, .slice none (([] : List (Int × (List UInt8)))).length 0, .int .i64 (-1), .bool false]) 71 :: HP.ow (rPair (rInt .i64) (rSl rByte)) 88 none 0 ([] : List (Int × (List UInt8))) :: HP.blk bo0 ([.slice p1 (d.1).length c1, .slice p2 (d.2.1).length c2, .int .i64 (d.2.2.1), .bool (d.2.2.2)]) 71 :: HP.ow (rSl rByte) 33 p1 c1 d.1 :: HP.ow (rPair (rInt .i64) (rSl rByte)) 88 p2 c2 d.2.1 :: HP.own 33 1 (.slice p58 (r1627).length c58) (r1627).length (css58).flatten :: HP.os 5 css58 r1627 noh :: l)) ?_ ?_
   · skip
     refine wp_block ?_
     refine x_loopO _ (fun (s2640 : (List (List UInt8)) × Int) aa ww => Fr ⟨96, []⟩ aa [(1, .slice p3 (fates).length c3), (5, .pointer (some ⟨b7, 0, none⟩)), (39, .slice p2 (d.2.1).length c2), (40, .int .i64 (((d.2.1).length : Int))), (41, .int .i64 (s2640.2))] ∧ St w0 ww (HP.blk b7 ([.slice p58 (s2640.1).length c58, .slice none (([] : List (Int × (List UInt8)))).length 0, .int .i64 (-1), .bool false]) 71 :: HP.ow (rPair (rInt .i64) (rSl rByte)) 88 none 0 ([] : List (Int × (List UInt8))) :: HP.blk bo0 ([.slice p1 (d.1).length c1, .slice p2 (d.2.1).length c2, .int .i64 (d.2.2.1), .bool (d.2.2.2)]) 71 :: HP.ow (rSl rByte) 33 p1 c1 d.1 :: HP.ow (rPair (rInt .i64) (rSl rByte)) 88 p2 c2 d.2.1 :: HP.sl (rInt .i64) p3 c3 fates :: HP.own 33 1 (.slice p58 (s2640.1).length c58) (s2640.1).length (css58).flatten :: HP.os 5 css58 s2640.1 noh :: l)) hm ⟨F.cut _ ⟨rfl, rfl, rfl, rfl, rfl, trivial⟩, (((((((((H.mv 7 rfl).mv 7 rfl).cp 7 rfl pers_sl).mv 7 rfl).mv 7 rfl).mv 7 rfl).mv 7 rfl).mv 7 rfl).keep 8 1)⟩ ?_
     clear F H hm
     rintro s2640 a w o ⟨F, H⟩ hm
     refine wp_seq ?_
     refine r_lit ?_
     refine s_val wkP F rfl rfl rfl rfl (y_lss F rfl rfl rfl) ?_; clear F; intro a F
     refine wpList_nil ?_
     refine c_then ?_
     refine wp_seq ?_
     refine x_condP F rfl (fun hg2641 => ?_) (fun hg2641 => ?_)
     · replace hm := ifT hg2641 hm
       refine wp_skip ?_
       refine c_then ?_
       refine wp_seq ?_
       obtain ⟨r2894, er2894, hm2894⟩ := ob hm; clear hm; revert er2894; intro hm
       refine x_mid (fun aa ww => Fr ⟨96, []⟩ aa [(1, .slice p3 (fates).length c3), (5, .pointer (some ⟨b7, 0, none⟩)), (39, .slice p2 (d.2.1).length c2), (40, .int .i64 (((d.2.1).length : Int))), (41, .int .i64 (s2640.2))] ∧ St w0 ww (HP.blk b7 ([.slice p58 (r2894).length c58, .slice none (([] : List (Int × (List UInt8)))).length 0, .int .i64 (-1), .bool false]) 71 :: HP.ow (rPair (rInt .i64) (rSl rByte)) 88 none 0 ([] : List (Int × (List UInt8))) :: HP.blk bo0 ([.slice p1 (d.1).length c1, .slice p2 (d.2.1).length c2, .int .i64 (d.2.2.1), .bool (d.2.2.2)]) 71 :: HP.ow (rSl rByte) 33 p1 c1 d.1 :: HP.ow (rPair (rInt .i64) (rSl rByte)) 88 p2 c2 d.2.1 :: HP.sl (rInt .i64) p3 c3 fates :: HP.own 33 1 (.slice p58 (r2894).length c58) (r2894).length (css58).flatten :: HP.os 5 css58 r2894 noh :: l)) ?_ ?_
       · skip
         refine wp_block ?_
         refine wp_seq ?_
         refine r_lit ?_
         refine s_val wkP F rfl rfl rfl rfl (y_move F rfl rfl) ?_; clear F; intro a F
         obtain ⟨x2895, ex2895, hn⟩ := ob hm; clear hm; revert hn; intro hm
         obtain ⟨b2896, hp2896⟩ := H.owP 4 rfl (idxO_some ex2895).2
         obtain ⟨css2897, H⟩ := H.oxOpen 4 rfl; replace H : St w0 w (HP.blk b7 ([.slice p58 (s2640.1).length c58, .slice none (([] : List (Int × (List UInt8)))).length 0, .int .i64 (-1), .bool false]) 71 :: HP.ow (rPair (rInt .i64) (rSl rByte)) 88 none 0 ([] : List (Int × (List UInt8))) :: HP.blk bo0 ([.slice p1 (d.1).length c1, .slice p2 (d.2.1).length c2, .int .i64 (d.2.2.1), .bool (d.2.2.2)]) 71 :: HP.ow (rSl rByte) 33 p1 c1 d.1 :: HP.ox (rPair (rInt .i64) (rSl rByte)) 88 p2 c2 css2897 d.2.1 :: HP.sl (rInt .i64) p3 c3 fates :: HP.own 33 1 (.slice p58 (s2640.1).length c58) (s2640.1).length (css58).flatten :: HP.os 5 css58 s2640.1 noh :: l) := H
         obtain ⟨cs2897, hcs2897, hcl2897, H⟩ := H.oxEl 4 rfl (idxO_some ex2895).2
         obtain ⟨u2898, v2898, rfl, H⟩ := H.rcPair 0 rfl
         replace H := H.dp 2 rfl
         obtain rfl := H.rcI 0 rfl
         replace H := H.dp 0 rfl
         obtain ⟨p2899, c2899, rfl, H⟩ := H.rcSl 0 rfl
         replace H := H.dp 1 rfl
         refine s_val wkP F rfl rfl rfl rfl (y_idxS F elem69 rfl rfl rfl hp2896 ex2895) ?_; clear F; intro a F
         refine s_val wkP F rfl rfl rfl rfl (y_loadA F agg88 rfl rfl (H.oxRow 5 rfl hp2896 hcs2897 hcl2897) (by simp only [List.length_append, List.length_cons, List.length_nil, icells_length, bcells_length])) ?_; clear F; intro a F
         replace H : St w0 w (HP.ow rByte 5 none 0 ([] : List UInt8) :: HP.sl rByte p2899 c2899 x2895.2 :: HP.blk b7 ([.slice p58 (s2640.1).length c58, .slice none (([] : List (Int × (List UInt8)))).length 0, .int .i64 (-1), .bool false]) 71 :: HP.ow (rPair (rInt .i64) (rSl rByte)) 88 none 0 ([] : List (Int × (List UInt8))) :: HP.blk bo0 ([.slice p1 (d.1).length c1, .slice p2 (d.2.1).length c2, .int .i64 (d.2.2.1), .bool (d.2.2.2)]) 71 :: HP.ow (rSl rByte) 33 p1 c1 d.1 :: HP.ox (rPair (rInt .i64) (rSl rByte)) 88 p2 c2 css2897 d.2.1 :: HP.sl (rInt .i64) p3 c3 fates :: HP.own 33 1 (.slice p58 (s2640.1).length c58) (s2640.1).length (css58).flatten :: HP.os 5 css58 s2640.1 noh :: l) := H.owNil rByte 5
         refine s_allocA wkP F rfl rfl rfl agz88 rfl H ?_; clear F H; intro b2900 w a H F
         replace H : St w0 w (HP.blk b2900 ([.int .i64 (0), .slice none (([] : List UInt8)).length 0]) 88 :: HP.ow rByte 5 none 0 ([] : List UInt8) :: HP.sl rByte p2899 c2899 x2895.2 :: HP.blk b7 ([.slice p58 (s2640.1).length c58, .slice none (([] : List (Int × (List UInt8)))).length 0, .int .i64 (-1), .bool false]) 71 :: HP.ow (rPair (rInt .i64) (rSl rByte)) 88 none 0 ([] : List (Int × (List UInt8))) :: HP.blk bo0 ([.slice p1 (d.1).length c1, .slice p2 (d.2.1).length c2, .int .i64 (d.2.2.1), .bool (d.2.2.2)]) 71 :: HP.ow (rSl rByte) 33 p1 c1 d.1 :: HP.ox (rPair (rInt .i64) (rSl rByte)) 88 p2 c2 css2897 d.2.1 :: HP.sl (rInt .i64) p3 c3 fates :: HP.own 33 1 (.slice p58 (s2640.1).length c58) (s2640.1).length (css58).flatten :: HP.os 5 css58 s2640.1 noh :: l) := H
         refine s_val wkP F rfl rfl rfl rfl (y_assign F rfl rfl) ?_; clear F; intro a F
         refine s_storeA wkP F rfl rfl agg88 rfl rfl rfl H 0 rfl (by simp only [List.length_append, List.length_cons, List.length_nil, icells_length, bcells_length]) (by simp only [List.length_append, List.length_cons, List.length_nil, icells_length, bcells_length]) (by intro v hv; simp only [List.mem_append, List.mem_cons, List.not_mem_nil, or_false] at hv; first | (rcases hv with h | h <;> first | (subst h; rfl) | exact bcells_flat _ _ h | exact icells_flat _ _ _ h | (rcases h with h | h <;> first | (subst h; rfl) | exact bcells_flat _ _ h | exact icells_flat _ _ _ h | (rcases h with h | h <;> first | (subst h; rfl) | exact bcells_flat _ _ h | (rcases h with h | h <;> first | (subst h; rfl) | (rcases h with h | h <;> (subst h; rfl)))))) | (subst hv; rfl)) ?_; clear H; intro w H
         replace H : St w0 w (HP.blk b2900 ([.int .i64 (x2895.1), .slice p2899 (x2895.2).length c2899]) 88 :: HP.ow rByte 5 none 0 ([] : List UInt8) :: HP.sl rByte p2899 c2899 x2895.2 :: HP.blk b7 ([.slice p58 (s2640.1).length c58, .slice none (([] : List (Int × (List UInt8)))).length 0, .int .i64 (-1), .bool false]) 71 :: HP.ow (rPair (rInt .i64) (rSl rByte)) 88 none 0 ([] : List (Int × (List UInt8))) :: HP.blk bo0 ([.slice p1 (d.1).length c1, .slice p2 (d.2.1).length c2, .int .i64 (d.2.2.1), .bool (d.2.2.2)]) 71 :: HP.ow (rSl rByte) 33 p1 c1 d.1 :: HP.ox (rPair (rInt .i64) (rSl rByte)) 88 p2 c2 css2897 d.2.1 :: HP.sl (rInt .i64) p3 c3 fates :: HP.own 33 1 (.slice p58 (s2640.1).length c58) (s2640.1).length (css58).flatten :: HP.os 5 css58 s2640.1 noh :: l) := H
         refine wpList_nil ?_
         replace H : St w0 w (HP.blk b2900 ([.int .i64 (x2895.1), .slice p2899 (x2895.2).length c2899]) 88 :: HP.ow rByte 5 none 0 ([] : List UInt8) :: HP.sl rByte p2899 c2899 x2895.2 :: HP.blk b7 ([.slice p58 (s2640.1).length c58, .slice none (([] : List (Int × (List UInt8)))).length 0, .int .i64 (-1), .bool false]) 71 :: HP.ow (rPair (rInt .i64) (rSl rByte)) 88 none 0 ([] : List (Int × (List UInt8))) :: HP.blk bo0 ([.slice p1 (d.1).length c1, .slice p2 (d.2.1).length c2, .int .i64 (d.2.2.1), .bool (d.2.2.2)]) 71 :: HP.ow (rSl rByte) 33 p1 c1 d.1 :: HP.ow (rPair (rInt .i64) (rSl rByte)) 88 p2 c2 d.2.1 :: HP.sl (rInt .i64) p3 c3 fates :: HP.own 33 1 (.slice p58 (s2640.1).length c58) (s2640.1).length (css58).flatten :: HP.os 5 css58 s2640.1 noh :: l) := H.oxShut 7 rfl
         refine c_then ?_
         refine wp_seq ?_
         refine r_lit ?_
         refine s_val wkP F rfl rfl rfl rfl (y_assign F rfl rfl) ?_; clear F; intro a F
         refine wpList_nil ?_
         refine c_then ?_
         refine wp_seq ?_
         refine wp_seq ?_
         refine r_lit ?_
         refine s_val wkP F rfl rfl rfl rfl (y_move F rfl rfl) ?_; clear F; intro a F
         refine s_val wkP F rfl rfl rfl rfl (y_move F rfl rfl) ?_; clear F; intro a F
         refine s_val wkP F rfl rfl rfl rfl (y_lenS F rfl Tryd.underlying23 rfl) ?_; clear F; intro a F
         refine s_val wkP F rfl rfl rfl rfl (y_lss F rfl rfl rfl) ?_; clear F; intro a F
         refine wpList_nil ?_
         refine c_then ?_
         obtain ⟨r2905, er2905, hm2905⟩ := ob hm; clear hm; revert er2905; intro hm
         refine x_mid (fun aa ww => Fr ⟨96, []⟩ aa [(1, .slice p3 (fates).length c3), (5, .pointer (some ⟨b7, 0, none⟩)), (9, .pointer (some ⟨b2900, 0, none⟩)), (10, .int .i64 (r2905)), (39, .slice p2 (d.2.1).length c2), (40, .int .i64 (((d.2.1).length : Int))), (41, .int .i64 (s2640.2))] ∧ St w0 ww (HP.blk b2900 ([.int .i64 (x2895.1), .slice p2899 (x2895.2).length c2899]) 88 :: HP.ow rByte 5 none 0 ([] : List UInt8) :: HP.sl rByte p2899 c2899 x2895.2 :: HP.blk b7 ([.slice p58 (s2640.1).length c58, .slice none (([] : List (Int × (List UInt8)))).length 0, .int .i64 (-1), .bool false]) 71 :: HP.ow (rPair (rInt .i64) (rSl rByte)) 88 none 0 ([] : List (Int × (List UInt8))) :: HP.blk bo0 ([.slice p1 (d.1).length c1, .slice p2 (d.2.1).length c2, .int .i64 (d.2.2.1), .bool (d.2.2.2)]) 71 :: HP.ow (rSl rByte) 33 p1 c1 d.1 :: HP.ow (rPair (rInt .i64) (rSl rByte)) 88 p2 c2 d.2.1 :: HP.sl (rInt .i64) p3 c3 fates :: HP.own 33 1 (.slice p58 (s2640.1).length c58) (s2640.1).length (css58).flatten :: HP.os 5 css58 s2640.1 noh :: l)) ?_ ?_
         · skip
           refine x_condP F rfl (fun hg2906 => ?_) (fun hg2906 => ?_)
           · replace hm := ifT hg2906 hm
             refine r_lit ?_
             refine s_val wkP F rfl rfl rfl rfl (y_move F rfl rfl) ?_; clear F; intro a F
             refine s_val wkP F rfl rfl rfl rfl (y_move F rfl rfl) ?_; clear F; intro a F
             obtain ⟨x2907, ex2907, hn⟩ := ob hm; clear hm; revert hn; intro hm
             obtain ⟨b2908, o2908, hp2908⟩ := H.slP 8 rfl (idxO_some ex2907).2
             obtain ⟨cs2909, hcl2909, H⟩ := H.slEl 8 rfl hp2908 (idxO_some ex2907).2
             obtain rfl := H.rcI 1 rfl
             replace H := H.dp 1 rfl
             clear hcl2909
             refine s_val wkP F rfl rfl rfl rfl (y_idxS F elem23 rfl rfl rfl hp2908 ex2907) ?_; clear F; intro a F
             refine s_val wkP F rfl rfl rfl rfl (y_load1 F plain3 rfl rfl ((H.rowAt 0 rfl) 0 _ rfl)) ?_; clear F; intro a F
             refine s_val wkP F rfl rfl rfl rfl (y_assign F rfl rfl) ?_; clear F; intro a F
             refine wpList_nil ?_
             obtain rfl := Option.some.inj hm
             refine c_then ?_
             exact ⟨F.cut _ ⟨rfl, rfl, rfl, rfl, rfl, rfl, rfl, trivial⟩, ((((((((((((H.mv 11 rfl).mv 11 rfl).cp 11 rfl pers_sl).mv 11 rfl).mv 11 rfl).mv 11 rfl).mv 11 rfl).mv 11 rfl).cp 11 rfl pers_sl).mv 11 rfl).mv 11 rfl).keep 11 3)⟩
           · replace hm := ifF hg2906 hm
             refine wp_skip ?_
             obtain rfl := Option.some.inj hm
             refine c_then ?_
             exact ⟨F.cut _ ⟨rfl, rfl, rfl, rfl, rfl, rfl, rfl, trivial⟩, ((((((((((((H.mv 10 rfl).mv 10 rfl).cp 10 rfl pers_sl).mv 10 rfl).mv 10 rfl).mv 10 rfl).mv 10 rfl).mv 10 rfl).cp 10 rfl pers_sl).mv 10 rfl).mv 10 rfl).keep 11 2)⟩
         · skip
           clear F H hm
           rintro a w ⟨F, H⟩; have hm := hm2905; clear hm2905
           refine c_then ?_
           refine wp_seq ?_
           obtain ⟨x2910, ex2910, hn⟩ := ob hm; clear hm; revert hn; intro hm
           obtain ⟨b2911, hp2911⟩ := H.ooP 9 rfl (Nat.lt_of_le_of_lt (Nat.zero_le _) (List.getElem?_eq_some_iff.1 (idxO_some ex2910).2).1)
           obtain ⟨p2913, c2913, hc2913, H⟩ := (H.mv 10 rfl).osTake (idxO_some ex2910).2
           refine q_region (fun u => St w0 u (HP.ow rByte 5 p2913 c2913 x2910 :: HP.os 5 css58 s2640.1 (ath (x2895.1 : Int).toNat) :: HP.blk b2900 ([.int .i64 (x2895.1), .slice p2899 (x2895.2).length c2899]) 88 :: HP.ow rByte 5 none 0 ([] : List UInt8) :: HP.sl rByte p2899 c2899 x2895.2 :: HP.blk b7 ([.slice p58 (s2640.1).length c58, .slice none (([] : List (Int × (List UInt8)))).length 0, .int .i64 (-1), .bool false]) 71 :: HP.ow (rPair (rInt .i64) (rSl rByte)) 88 none 0 ([] : List (Int × (List UInt8))) :: HP.blk bo0 ([.slice p1 (d.1).length c1, .slice p2 (d.2.1).length c2, .int .i64 (d.2.2.1), .bool (d.2.2.2)]) 71 :: HP.ow (rSl rByte) 33 p1 c1 d.1 :: HP.ow (rPair (rInt .i64) (rSl rByte)) 88 p2 c2 d.2.1 :: HP.sl (rInt .i64) p3 c3 fates :: HP.own 33 1 (.slice p58 (s2640.1).length c58) (s2640.1).length (css58).flatten :: l)) (by kernel_rfl) (by kernel_rfl) H.drew ?_
           refine q_val F rfl rfl rfl (fun u hu => y_move F rfl rfl) ?_; clear F; intro a F
           refine q_val F rfl rfl rfl (fun u hu => y_nilCheck F rfl rfl) ?_; clear F; intro a F
           refine q_val F rfl rfl rfl (fun u hu => y_fieldAddr F fld71_0 rfl rfl) ?_; clear F; intro a F
           refine q_val F rfl rfl rfl (fun u hu => y_load1 F plain22 rfl rfl (row_at (v := .slice p58 (s2640.1).length c58) ((hu.blk 5 rfl).row) rfl)) ?_; clear F; intro a F
           refine q_val F rfl rfl rfl (fun u hu => y_fieldAddr F fld88_0 rfl rfl) ?_; clear F; intro a F
           refine q_val F rfl rfl rfl (fun u hu => y_load1 F plain3 rfl rfl (row_at (v := .int .i64 (x2895.1)) ((hu.blk 2 rfl).row) rfl)) ?_; clear F; intro a F
           refine q_val F rfl rfl rfl (fun u hu => y_idxS F elem22 rfl rfl rfl hp2911 ex2910) ?_; clear F; intro a F
           refine q_val F rfl rfl rfl (fun u hu => y_load1 F plain33 rfl rfl (hu.ooCell 11 1 rfl rfl hp2911 hc2913)) ?_; clear F; intro a F
           refine q_val F rfl rfl rfl (fun u hu => y_assign F rfl rfl) ?_; clear F; intro a F
           refine q_nil ?_; clear H; intro w H
           refine c_then ?_
           refine wp_seq ?_
           refine r_lit ?_
           refine s_val wkP F rfl rfl rfl rfl (y_move F rfl rfl) ?_; clear F; intro a F
           refine s_val wkP F rfl rfl rfl rfl (i_shr F rfl rfl rfl (by decide)) ?_; clear F; intro a F
           obtain ⟨x2914, ex2914, hn⟩ := ob hm; clear hm; revert hn; intro hm
           refine s_val wkP F rfl rfl rfl rfl (i_rem F rfl rfl rfl ex2914) ?_; clear F; intro a F
           refine s_val wkP F rfl rfl rfl rfl (i_add F rfl rfl rfl) ?_; clear F; intro a F
           refine s_val wkP F rfl rfl rfl rfl (i_add F rfl rfl rfl) ?_; clear F; intro a F
           obtain ⟨x2915, ex2915, hn⟩ := ob hm; clear hm; revert hn; intro hm
           refine s_val wkP F rfl rfl rfl rfl (i_rem F rfl rfl rfl ex2915) ?_; clear F; intro a F
           refine s_val wkP F rfl rfl rfl rfl (y_assign F rfl rfl) ?_; clear F; intro a F
           refine wpList_nil ?_
           refine c_then ?_
           refine wp_seq ?_
           refine r_lit ?_
           refine s_val wkP F rfl rfl rfl rfl (y_move F rfl rfl) ?_; clear F; intro a F
           refine s_val wkP F rfl rfl rfl rfl (i_and F rfl rfl rfl) ?_; clear F; intro a F
           refine wpList_nil ?_
           refine c_then ?_
           obtain ⟨r3031, er3031, hm3031⟩ := ob hm; clear hm; revert er3031; intro hm
           refine x_mid (fun aa ww => Fr ⟨96, []⟩ aa [(1, .slice p3 (fates).length c3), (5, .pointer (some ⟨b7, 0, none⟩)), (39, .slice p2 (d.2.1).length c2), (40, .int .i64 (((d.2.1).length : Int))), (41, .int .i64 (s2640.2))] ∧ St w0 ww (HP.os 5 css58 r3031 noh :: HP.blk b2900 ([.int .i64 (x2895.1), .slice p2899 (x2895.2).length c2899]) 88 :: HP.ow rByte 5 none 0 ([] : List UInt8) :: HP.sl rByte p2899 c2899 x2895.2 :: HP.blk b7 ([.slice p58 (r3031).length c58, .slice none (([] : List (Int × (List UInt8)))).length 0, .int .i64 (-1), .bool false]) 71 :: HP.ow (rPair (rInt .i64) (rSl rByte)) 88 none 0 ([] : List (Int × (List UInt8))) :: HP.blk bo0 ([.slice p1 (d.1).length c1, .slice p2 (d.2.1).length c2, .int .i64 (d.2.2.1), .bool (d.2.2.2)]) 71 :: HP.ow (rSl rByte) 33 p1 c1 d.1 :: HP.ow (rPair (rInt .i64) (rSl rByte)) 88 p2 c2 d.2.1 :: HP.sl (rInt .i64) p3 c3 fates :: HP.own 33 1 (.slice p58 (r3031).length c58) (r3031).length (css58).flatten :: l)) ?_ ?_
           · skip
             refine wp_block ?_
             refine wp_seq ?_
             refine r_lit ?_
             refine s_val wkP F rfl rfl rfl rfl (y_eql F rfl rfl rfl) ?_; clear F; intro a F
             refine s_val wkP F rfl rfl rfl rfl (y_assign F rfl rfl) ?_; clear F; intro a F
             refine wpList_nil ?_
             refine c_then ?_
             obtain ⟨r3089, er3089, hm3089⟩ := ob hm; clear hm; revert er3089; intro hm
             refine x_mid (fun aa ww => Fr ⟨96, []⟩ aa [(1, .slice p3 (fates).length c3), (5, .pointer (some ⟨b7, 0, none⟩)), (39, .slice p2 (d.2.1).length c2), (40, .int .i64 (((d.2.1).length : Int))), (41, .int .i64 (s2640.2))] ∧ St w0 ww (HP.os 5 css58 r3089 noh :: HP.blk b2900 ([.int .i64 (x2895.1), .slice p2899 (x2895.2).length c2899]) 88 :: HP.ow rByte 5 none 0 ([] : List UInt8) :: HP.sl rByte p2899 c2899 x2895.2 :: HP.blk b7 ([.slice p58 (r3089).length c58, .slice none (([] : List (Int × (List UInt8)))).length 0, .int .i64 (-1), .bool false]) 71 :: HP.ow (rPair (rInt .i64) (rSl rByte)) 88 none 0 ([] : List (Int × (List UInt8))) :: HP.blk bo0 ([.slice p1 (d.1).length c1, .slice p2 (d.2.1).length c2, .int .i64 (d.2.2.1), .bool (d.2.2.2)]) 71 :: HP.ow (rSl rByte) 33 p1 c1 d.1 :: HP.ow (rPair (rInt .i64) (rSl rByte)) 88 p2 c2 d.2.1 :: HP.sl (rInt .i64) p3 c3 fates :: HP.own 33 1 (.slice p58 (r3089).length c58) (r3089).length (css58).flatten :: l)) ?_ ?_
             · skip
               refine x_condP F rfl (fun hg3090 => ?_) (fun hg3090 => ?_)
               · replace hm := ifT hg3090 hm
                 refine r_lit ?_
                 refine s_val wkP F rfl rfl rfl rfl (y_move F rfl rfl) ?_; clear F; intro a F
                 refine s_val wkP F rfl rfl rfl rfl (y_fieldAddr F fld88_1 rfl rfl) ?_; clear F; intro a F
                 refine s_val wkP F rfl rfl rfl rfl (y_load1 F plain33 rfl rfl (row_at (v := .slice p2899 (x2895.2).length c2899) ((H.blk 2 rfl).row) rfl)) ?_; clear F; intro a F
                 have hf3091 : 0 + (x2910).length ≤ (x2910).length := (by rw [Nat.zero_add]; exact Nat.le_refl _)
                 have hl3091 : (putAt x2910 0 ((x2895.2).take (x2910).length)).length = (x2910).length := putAt_len _ _ _ (by rw [List.length_take]; omega)
                 refine s_cpyO wkP F rfl rfl rfl elem33 rfl H 0 4 rfl rfl (fun h => by obtain ⟨b, hb⟩ := H.owP 0 rfl (List.getElem?_eq_getElem h); exact ⟨b, hb, hb⟩) hf3091 rfl rfl ?_; clear F H; intro w a H F
                 replace H : St w0 w (HP.ow rByte 5 p2913 c2913 (putAt x2910 0 ((x2895.2).take (x2910).length)) :: HP.os 5 css58 s2640.1 (ath (x2895.1 : Int).toNat) :: HP.blk b2900 ([.int .i64 (x2895.1), .slice p2899 (x2895.2).length c2899]) 88 :: HP.ow rByte 5 none 0 ([] : List UInt8) :: HP.sl rByte p2899 c2899 x2895.2 :: HP.blk b7 ([.slice p58 (s2640.1).length c58, .slice none (([] : List (Int × (List UInt8)))).length 0, .int .i64 (-1), .bool false]) 71 :: HP.ow (rPair (rInt .i64) (rSl rByte)) 88 none 0 ([] : List (Int × (List UInt8))) :: HP.blk bo0 ([.slice p1 (d.1).length c1, .slice p2 (d.2.1).length c2, .int .i64 (d.2.2.1), .bool (d.2.2.2)]) 71 :: HP.ow (rSl rByte) 33 p1 c1 d.1 :: HP.ow (rPair (rInt .i64) (rSl rByte)) 88 p2 c2 d.2.1 :: HP.sl (rInt .i64) p3 c3 fates :: HP.own 33 1 (.slice p58 (s2640.1).length c58) (s2640.1).length (css58).flatten :: l) := H
                 replace F := F.bool (k := 61) (u := .slice p2913 ((putAt x2910 0 ((x2895.2).take (x2910).length))).length c2913) rfl (by rw [hl3091])
                 replace F := F.bool (k := 11) (u := .slice p2913 ((putAt x2910 0 ((x2895.2).take (x2910).length))).length c2913) rfl (by rw [hl3091])
                 replace F := F.bool (k := 72) (u := .slice p2913 ((putAt x2910 0 ((x2895.2).take (x2910).length))).length c2913) rfl (by rw [hl3091])
                 refine wpList_nil ?_
                 replace H : St w0 w (HP.os 5 css58 ((s2640.1).set (x2895.1 : Int).toNat (putAt x2910 0 ((x2895.2).take (x2910).length))) noh :: HP.blk b2900 ([.int .i64 (x2895.1), .slice p2899 (x2895.2).length c2899]) 88 :: HP.ow rByte 5 none 0 ([] : List UInt8) :: HP.sl rByte p2899 c2899 x2895.2 :: HP.blk b7 ([.slice p58 ((s2640.1).set (x2895.1 : Int).toNat (putAt x2910 0 ((x2895.2).take (x2910).length))).length c58, .slice none (([] : List (Int × (List UInt8)))).length 0, .int .i64 (-1), .bool false]) 71 :: HP.ow (rPair (rInt .i64) (rSl rByte)) 88 none 0 ([] : List (Int × (List UInt8))) :: HP.blk bo0 ([.slice p1 (d.1).length c1, .slice p2 (d.2.1).length c2, .int .i64 (d.2.2.1), .bool (d.2.2.2)]) 71 :: HP.ow (rSl rByte) 33 p1 c1 d.1 :: HP.ow (rPair (rInt .i64) (rSl rByte)) 88 p2 c2 d.2.1 :: HP.sl (rInt .i64) p3 c3 fates :: HP.own 33 1 (.slice p58 ((s2640.1).set (x2895.1 : Int).toNat (putAt x2910 0 ((x2895.2).take (x2910).length))).length c58) ((s2640.1).set (x2895.1 : Int).toNat (putAt x2910 0 ((x2895.2).take (x2910).length))).length (css58).flatten :: l) := (by have h := (((H.mv 1 rfl).mv 1 rfl)).osPut (by rw [(hl3091.trans rfl)]; exact hc2913); simp only [List.length_set] at h ⊢; exact h)
                 replace F := F.bool (k := 57) (u := .slice p58 ((s2640.1).set (x2895.1 : Int).toNat (putAt x2910 0 ((x2895.2).take (x2910).length))).length c58) rfl (by simp only [List.length_set])
                 obtain rfl := Option.some.inj hm
                 refine c_then ?_
                 exact ⟨F.cut _ ⟨rfl, rfl, rfl, rfl, rfl, trivial⟩, ((((((((((((H.mv 10 rfl).cp 10 rfl pers_sl).mv 10 rfl).mv 10 rfl).mv 10 rfl).mv 10 rfl).mv 10 rfl).cp 10 rfl pers_sl).mv 10 rfl).mv 10 rfl).mv 10 rfl).keep 11 2)⟩
               · replace hm := ifF hg3090 hm
                 refine wp_seq ?_
                 refine r_lit ?_
                 refine s_val wkP F rfl rfl rfl rfl (y_eql F rfl rfl rfl) ?_; clear F; intro a F
                 refine s_val wkP F rfl rfl rfl rfl (y_assign F rfl rfl) ?_; clear F; intro a F
                 refine wpList_nil ?_
                 refine c_then ?_
                 obtain ⟨r3119, er3119, hm3119⟩ := ob hm; clear hm; revert er3119; intro hm
                 refine x_mid (fun aa ww => Fr ⟨96, []⟩ aa [(1, .slice p3 (fates).length c3), (5, .pointer (some ⟨b7, 0, none⟩)), (39, .slice p2 (d.2.1).length c2), (40, .int .i64 (((d.2.1).length : Int))), (41, .int .i64 (s2640.2))] ∧ St w0 ww (HP.os 5 css58 r3119 noh :: HP.blk b2900 ([.int .i64 (x2895.1), .slice p2899 (x2895.2).length c2899]) 88 :: HP.ow rByte 5 none 0 ([] : List UInt8) :: HP.sl rByte p2899 c2899 x2895.2 :: HP.blk b7 ([.slice p58 (r3119).length c58, .slice none (([] : List (Int × (List UInt8)))).length 0, .int .i64 (-1), .bool false]) 71 :: HP.ow (rPair (rInt .i64) (rSl rByte)) 88 none 0 ([] : List (Int × (List UInt8))) :: HP.blk bo0 ([.slice p1 (d.1).length c1, .slice p2 (d.2.1).length c2, .int .i64 (d.2.2.1), .bool (d.2.2.2)]) 71 :: HP.ow (rSl rByte) 33 p1 c1 d.1 :: HP.ow (rPair (rInt .i64) (rSl rByte)) 88 p2 c2 d.2.1 :: HP.sl (rInt .i64) p3 c3 fates :: HP.own 33 1 (.slice p58 (r3119).length c58) (r3119).length (css58).flatten :: l)) ?_ ?_
                 · skip
                   refine x_condP F rfl (fun hg3120 => ?_) (fun hg3120 => ?_)
                   · replace hm := ifT hg3120 hm
                     refine r_lit ?_
                     refine s_val wkP F rfl rfl rfl rfl (y_move F rfl rfl) ?_; clear F; intro a F
                     refine s_val wkP F rfl rfl rfl rfl (y_fieldAddr F fld88_1 rfl rfl) ?_; clear F; intro a F
                     refine s_val wkP F rfl rfl rfl rfl (y_load1 F plain33 rfl rfl (row_at (v := .slice p2899 (x2895.2).length c2899) ((H.blk 2 rfl).row) rfl)) ?_; clear F; intro a F
                     refine s_val wkP F rfl rfl rfl rfl (y_move F rfl rfl) ?_; clear F; intro a F
                     obtain ⟨x3122, ex3122, hn⟩ := ob hm; clear hm; revert hn; intro hm
                     have hc3121 := H.slCap 4 rfl
                     replace H : St w0 w (HP.sl rByte (shp p2899 c2899 0 1) (c2899 - 0) x3122 :: HP.ow rByte 5 p2913 c2913 x2910 :: HP.os 5 css58 s2640.1 (ath (x2895.1 : Int).toNat) :: HP.blk b2900 ([.int .i64 (x2895.1), .slice p2899 (x2895.2).length c2899]) 88 :: HP.ow rByte 5 none 0 ([] : List UInt8) :: HP.sl rByte p2899 c2899 x2895.2 :: HP.blk b7 ([.slice p58 (s2640.1).length c58, .slice none (([] : List (Int × (List UInt8)))).length 0, .int .i64 (-1), .bool false]) 71 :: HP.ow (rPair (rInt .i64) (rSl rByte)) 88 none 0 ([] : List (Int × (List UInt8))) :: HP.blk bo0 ([.slice p1 (d.1).length c1, .slice p2 (d.2.1).length c2, .int .i64 (d.2.2.1), .bool (d.2.2.2)]) 71 :: HP.ow (rSl rByte) 33 p1 c1 d.1 :: HP.ow (rPair (rInt .i64) (rSl rByte)) 88 p2 c2 d.2.1 :: HP.sl (rInt .i64) p3 c3 fates :: HP.own 33 1 (.slice p58 (s2640.1).length c58) (s2640.1).length (css58).flatten :: l) := H.slSub 4 rfl ex3122
                     refine s_val wkP F rfl rfl rfl rfl (y_slH F elem33 rfl rfl rfl ex3122 hc3121) ?_; clear F; intro a F
                     have hf3123 : 0 + (x2910).length ≤ (x2910).length := (by rw [Nat.zero_add]; exact Nat.le_refl _)
                     have hl3123 : (putAt x2910 0 ((x3122).take (x2910).length)).length = (x2910).length := putAt_len _ _ _ (by rw [List.length_take]; omega)
                     refine s_cpyO wkP F rfl rfl rfl elem33 rfl H 1 0 rfl rfl (fun h => by obtain ⟨b, hb⟩ := H.owP 1 rfl (List.getElem?_eq_getElem h); exact ⟨b, hb, hb⟩) hf3123 rfl rfl ?_; clear F H; intro w a H F
                     replace H : St w0 w (HP.sl rByte (shp p2899 c2899 0 1) (c2899 - 0) x3122 :: HP.ow rByte 5 p2913 c2913 (putAt x2910 0 ((x3122).take (x2910).length)) :: HP.os 5 css58 s2640.1 (ath (x2895.1 : Int).toNat) :: HP.blk b2900 ([.int .i64 (x2895.1), .slice p2899 (x2895.2).length c2899]) 88 :: HP.ow rByte 5 none 0 ([] : List UInt8) :: HP.sl rByte p2899 c2899 x2895.2 :: HP.blk b7 ([.slice p58 (s2640.1).length c58, .slice none (([] : List (Int × (List UInt8)))).length 0, .int .i64 (-1), .bool false]) 71 :: HP.ow (rPair (rInt .i64) (rSl rByte)) 88 none 0 ([] : List (Int × (List UInt8))) :: HP.blk bo0 ([.slice p1 (d.1).length c1, .slice p2 (d.2.1).length c2, .int .i64 (d.2.2.1), .bool (d.2.2.2)]) 71 :: HP.ow (rSl rByte) 33 p1 c1 d.1 :: HP.ow (rPair (rInt .i64) (rSl rByte)) 88 p2 c2 d.2.1 :: HP.sl (rInt .i64) p3 c3 fates :: HP.own 33 1 (.slice p58 (s2640.1).length c58) (s2640.1).length (css58).flatten :: l) := H
                     replace F := F.bool (k := 61) (u := .slice p2913 ((putAt x2910 0 ((x3122).take (x2910).length))).length c2913) rfl (by rw [hl3123])
                     replace F := F.bool (k := 11) (u := .slice p2913 ((putAt x2910 0 ((x3122).take (x2910).length))).length c2913) rfl (by rw [hl3123])
                     replace F := F.bool (k := 78) (u := .slice p2913 ((putAt x2910 0 ((x3122).take (x2910).length))).length c2913) rfl (by rw [hl3123])
                     refine wpList_nil ?_
                     replace H : St w0 w (HP.os 5 css58 ((s2640.1).set (x2895.1 : Int).toNat (putAt x2910 0 ((x3122).take (x2910).length))) noh :: HP.sl rByte (shp p2899 c2899 0 1) (c2899 - 0) x3122 :: HP.blk b2900 ([.int .i64 (x2895.1), .slice p2899 (x2895.2).length c2899]) 88 :: HP.ow rByte 5 none 0 ([] : List UInt8) :: HP.sl rByte p2899 c2899 x2895.2 :: HP.blk b7 ([.slice p58 ((s2640.1).set (x2895.1 : Int).toNat (putAt x2910 0 ((x3122).take (x2910).length))).length c58, .slice none (([] : List (Int × (List UInt8)))).length 0, .int .i64 (-1), .bool false]) 71 :: HP.ow (rPair (rInt .i64) (rSl rByte)) 88 none 0 ([] : List (Int × (List UInt8))) :: HP.blk bo0 ([.slice p1 (d.1).length c1, .slice p2 (d.2.1).length c2, .int .i64 (d.2.2.1), .bool (d.2.2.2)]) 71 :: HP.ow (rSl rByte) 33 p1 c1 d.1 :: HP.ow (rPair (rInt .i64) (rSl rByte)) 88 p2 c2 d.2.1 :: HP.sl (rInt .i64) p3 c3 fates :: HP.own 33 1 (.slice p58 ((s2640.1).set (x2895.1 : Int).toNat (putAt x2910 0 ((x3122).take (x2910).length))).length c58) ((s2640.1).set (x2895.1 : Int).toNat (putAt x2910 0 ((x3122).take (x2910).length))).length (css58).flatten :: l) := (by have h := (((H.mv 2 rfl).mv 2 rfl)).osPut (by rw [(hl3123.trans rfl)]; exact hc2913); simp only [List.length_set] at h ⊢; exact h)
                     replace F := F.bool (k := 57) (u := .slice p58 ((s2640.1).set (x2895.1 : Int).toNat (putAt x2910 0 ((x3122).take (x2910).length))).length c58) rfl (by simp only [List.length_set])
                     obtain rfl := Option.some.inj hm
                     refine c_then ?_
                     exact ⟨F.cut _ ⟨rfl, rfl, rfl, rfl, rfl, trivial⟩, ((((((((((((H.mv 11 rfl).cp 11 rfl pers_sl).mv 11 rfl).mv 11 rfl).mv 11 rfl).mv 11 rfl).mv 11 rfl).cp 11 rfl pers_sl).mv 11 rfl).mv 11 rfl).mv 10 rfl).keep 11 3)⟩
                   · replace hm := ifF hg3120 hm
                     refine wp_seq ?_
                     refine r_lit ?_
                     refine s_val wkP F rfl rfl rfl rfl (y_eql F rfl rfl rfl) ?_; clear F; intro a F
                     refine s_val wkP F rfl rfl rfl rfl (y_assign F rfl rfl) ?_; clear F; intro a F
                     refine wpList_nil ?_
                     refine c_then ?_
                     obtain ⟨r3135, er3135, hm3135⟩ := ob hm; clear hm; revert er3135; intro hm
                     refine x_mid (fun aa ww => Fr ⟨96, []⟩ aa [(1, .slice p3 (fates).length c3), (5, .pointer (some ⟨b7, 0, none⟩)), (39, .slice p2 (d.2.1).length c2), (40, .int .i64 (((d.2.1).length : Int))), (41, .int .i64 (s2640.2))] ∧ St w0 ww (HP.os 5 css58 r3135 noh :: HP.blk b2900 ([.int .i64 (x2895.1), .slice p2899 (x2895.2).length c2899]) 88 :: HP.ow rByte 5 none 0 ([] : List UInt8) :: HP.sl rByte p2899 c2899 x2895.2 :: HP.blk b7 ([.slice p58 (r3135).length c58, .slice none (([] : List (Int × (List UInt8)))).length 0, .int .i64 (-1), .bool false]) 71 :: HP.ow (rPair (rInt .i64) (rSl rByte)) 88 none 0 ([] : List (Int × (List UInt8))) :: HP.blk bo0 ([.slice p1 (d.1).length c1, .slice p2 (d.2.1).length c2, .int .i64 (d.2.2.1), .bool (d.2.2.2)]) 71 :: HP.ow (rSl rByte) 33 p1 c1 d.1 :: HP.ow (rPair (rInt .i64) (rSl rByte)) 88 p2 c2 d.2.1 :: HP.sl (rInt .i64) p3 c3 fates :: HP.own 33 1 (.slice p58 (r3135).length c58) (r3135).length (css58).flatten :: l)) ?_ ?_
                     · skip
                       refine x_condP F rfl (fun hg3136 => ?_) (fun hg3136 => ?_)
                       · replace hm := ifT hg3136 hm
                         obtain ⟨x3143, ex3143, hn⟩ := ob hm; clear hm; revert hn; intro hm
                         have hc3142 := H.owForm 0 rfl
                         obtain ⟨x3145, ex3145, hn⟩ := ob hm; clear hm; revert hn; intro hm
                         have hc3144 := H.slCap 4 rfl
                         replace H : St w0 w (HP.sl rByte (shp p2899 c2899 (x2915 : Int).toNat 1) (c2899 - (x2915 : Int).toNat) x3145 :: HP.ow rByte 5 p2913 c2913 x2910 :: HP.os 5 css58 s2640.1 (ath (x2895.1 : Int).toNat) :: HP.blk b2900 ([.int .i64 (x2895.1), .slice p2899 (x2895.2).length c2899]) 88 :: HP.ow rByte 5 none 0 ([] : List UInt8) :: HP.sl rByte p2899 c2899 x2895.2 :: HP.blk b7 ([.slice p58 (s2640.1).length c58, .slice none (([] : List (Int × (List UInt8)))).length 0, .int .i64 (-1), .bool false]) 71 :: HP.ow (rPair (rInt .i64) (rSl rByte)) 88 none 0 ([] : List (Int × (List UInt8))) :: HP.blk bo0 ([.slice p1 (d.1).length c1, .slice p2 (d.2.1).length c2, .int .i64 (d.2.2.1), .bool (d.2.2.2)]) 71 :: HP.ow (rSl rByte) 33 p1 c1 d.1 :: HP.ow (rPair (rInt .i64) (rSl rByte)) 88 p2 c2 d.2.1 :: HP.sl (rInt .i64) p3 c3 fates :: HP.own 33 1 (.slice p58 (s2640.1).length c58) (s2640.1).length (css58).flatten :: l) := H.slSub 4 rfl ex3145
                         refine mix_region [7] [7] (.step 0 0 (.step 0 1 (.step 0 2 (.step 0 3 (.step 1 4 (.step 0 5 (.step 0 6 (.step 3 7 .done)))))))) (fun u => ∃ ls, St w0 u (ls)) (by kernel_rfl) (by kernel_rfl) ⟨_, H.drew⟩ ?_
                         replace H := H.drew
                         generalize w.drew = w at H ⊢
                         refine m_pure F rfl rfl rfl rfl (fun u hu => y_move F rfl rfl) ?_; clear F; intro a F
                         refine m_pure F rfl rfl rfl rfl (fun u hu => y_move F rfl rfl) ?_; clear F; intro a F
                         refine m_pure F rfl rfl rfl rfl (fun u hu => y_slL F elem33 rfl rfl rfl ex3143 hc3142) ?_; clear F; intro a F
                         refine m_pure F rfl rfl rfl rfl (fun u hu => y_fieldAddr F fld88_1 rfl rfl) ?_; clear F; intro a F
                         refine m_read F rfl rfl rfl rfl (y_load1 F plain33 rfl rfl (row_at (v := .slice p2899 (x2895.2).length c2899) ((H.blk 3 rfl).row) rfl)) ?_; clear F; intro a F
                         refine m_pure F rfl rfl rfl rfl (fun u hu => y_move F rfl rfl) ?_; clear F; intro a F
                         refine m_pure F rfl rfl rfl rfl (fun u hu => y_slL F elem33 rfl rfl rfl ex3145 hc3144) ?_; clear F; intro a F
                         refine m_last rfl rfl ?_
                         have hf3146 : (x2915 : Int).toNat + (x3143).length ≤ (x2910).length := (ow_sub H 1 rfl ex3143).2
                         have hl3146 : (putAt x2910 (x2915 : Int).toNat ((x3145).take (x3143).length)).length = (x2910).length := putAt_len _ _ _ (by rw [List.length_take]; omega)
                         refine s_cpyO wkP F rfl rfl rfl elem33 rfl H 1 0 rfl rfl (ow_sub H 1 rfl ex3143).1 hf3146 rfl rfl ?_; clear F H; intro w a H F
                         replace H : St w0 w (HP.sl rByte (shp p2899 c2899 (x2915 : Int).toNat 1) (c2899 - (x2915 : Int).toNat) x3145 :: HP.ow rByte 5 p2913 c2913 (putAt x2910 (x2915 : Int).toNat ((x3145).take (x3143).length)) :: HP.os 5 css58 s2640.1 (ath (x2895.1 : Int).toNat) :: HP.blk b2900 ([.int .i64 (x2895.1), .slice p2899 (x2895.2).length c2899]) 88 :: HP.ow rByte 5 none 0 ([] : List UInt8) :: HP.sl rByte p2899 c2899 x2895.2 :: HP.blk b7 ([.slice p58 (s2640.1).length c58, .slice none (([] : List (Int × (List UInt8)))).length 0, .int .i64 (-1), .bool false]) 71 :: HP.ow (rPair (rInt .i64) (rSl rByte)) 88 none 0 ([] : List (Int × (List UInt8))) :: HP.blk bo0 ([.slice p1 (d.1).length c1, .slice p2 (d.2.1).length c2, .int .i64 (d.2.2.1), .bool (d.2.2.2)]) 71 :: HP.ow (rSl rByte) 33 p1 c1 d.1 :: HP.ow (rPair (rInt .i64) (rSl rByte)) 88 p2 c2 d.2.1 :: HP.sl (rInt .i64) p3 c3 fates :: HP.own 33 1 (.slice p58 (s2640.1).length c58) (s2640.1).length (css58).flatten :: l) := H
                         replace F := F.bool (k := 61) (u := .slice p2913 ((putAt x2910 (x2915 : Int).toNat ((x3145).take (x3143).length))).length c2913) rfl (by rw [hl3146])
                         replace F := F.bool (k := 11) (u := .slice p2913 ((putAt x2910 (x2915 : Int).toNat ((x3145).take (x3143).length))).length c2913) rfl (by rw [hl3146])
                         replace F := F.bool (k := 86) (u := .slice p2913 ((putAt x2910 (x2915 : Int).toNat ((x3145).take (x3143).length))).length c2913) rfl (by rw [hl3146])
                         refine wpList_nil ?_; refine c_then ?_
                         refine m_nil ?_
                         replace H : St w0 w (HP.os 5 css58 ((s2640.1).set (x2895.1 : Int).toNat (putAt x2910 (x2915 : Int).toNat ((x3145).take (x3143).length))) noh :: HP.sl rByte (shp p2899 c2899 (x2915 : Int).toNat 1) (c2899 - (x2915 : Int).toNat) x3145 :: HP.blk b2900 ([.int .i64 (x2895.1), .slice p2899 (x2895.2).length c2899]) 88 :: HP.ow rByte 5 none 0 ([] : List UInt8) :: HP.sl rByte p2899 c2899 x2895.2 :: HP.blk b7 ([.slice p58 ((s2640.1).set (x2895.1 : Int).toNat (putAt x2910 (x2915 : Int).toNat ((x3145).take (x3143).length))).length c58, .slice none (([] : List (Int × (List UInt8)))).length 0, .int .i64 (-1), .bool false]) 71 :: HP.ow (rPair (rInt .i64) (rSl rByte)) 88 none 0 ([] : List (Int × (List UInt8))) :: HP.blk bo0 ([.slice p1 (d.1).length c1, .slice p2 (d.2.1).length c2, .int .i64 (d.2.2.1), .bool (d.2.2.2)]) 71 :: HP.ow (rSl rByte) 33 p1 c1 d.1 :: HP.ow (rPair (rInt .i64) (rSl rByte)) 88 p2 c2 d.2.1 :: HP.sl (rInt .i64) p3 c3 fates :: HP.own 33 1 (.slice p58 ((s2640.1).set (x2895.1 : Int).toNat (putAt x2910 (x2915 : Int).toNat ((x3145).take (x3143).length))).length c58) ((s2640.1).set (x2895.1 : Int).toNat (putAt x2910 (x2915 : Int).toNat ((x3145).take (x3143).length))).length (css58).flatten :: l) := (by have h := (((H.mv 2 rfl).mv 2 rfl)).osPut (by rw [(hl3146.trans rfl)]; exact hc2913); simp only [List.length_set] at h ⊢; exact h)
                         replace F := F.bool (k := 57) (u := .slice p58 ((s2640.1).set (x2895.1 : Int).toNat (putAt x2910 (x2915 : Int).toNat ((x3145).take (x3143).length))).length c58) rfl (by simp only [List.length_set])
                         obtain rfl := Option.some.inj hm
                         refine c_then ?_
                         exact ⟨F.cut _ ⟨rfl, rfl, rfl, rfl, rfl, trivial⟩, ((((((((((((H.mv 11 rfl).cp 11 rfl pers_sl).mv 11 rfl).mv 11 rfl).mv 11 rfl).mv 11 rfl).mv 11 rfl).cp 11 rfl pers_sl).mv 11 rfl).mv 11 rfl).mv 10 rfl).keep 11 3)⟩
                       · replace hm := ifF hg3136 hm
                         refine wp_skip ?_
                         replace H : St w0 w (HP.os 5 css58 s2640.1 noh :: HP.blk b2900 ([.int .i64 (x2895.1), .slice p2899 (x2895.2).length c2899]) 88 :: HP.ow rByte 5 none 0 ([] : List UInt8) :: HP.sl rByte p2899 c2899 x2895.2 :: HP.blk b7 ([.slice p58 (s2640.1).length c58, .slice none (([] : List (Int × (List UInt8)))).length 0, .int .i64 (-1), .bool false]) 71 :: HP.ow (rPair (rInt .i64) (rSl rByte)) 88 none 0 ([] : List (Int × (List UInt8))) :: HP.blk bo0 ([.slice p1 (d.1).length c1, .slice p2 (d.2.1).length c2, .int .i64 (d.2.2.1), .bool (d.2.2.2)]) 71 :: HP.ow (rSl rByte) 33 p1 c1 d.1 :: HP.ow (rPair (rInt .i64) (rSl rByte)) 88 p2 c2 d.2.1 :: HP.sl (rInt .i64) p3 c3 fates :: HP.own 33 1 (.slice p58 (s2640.1).length c58) (s2640.1).length (css58).flatten :: l) := (by have h := (((H.mv 1 rfl).mv 1 rfl)).osPut hc2913; rw [set_same (idxO_some ex2910).2] at h; exact h)
                         obtain rfl := Option.some.inj hm
                         refine c_then ?_
                         exact ⟨F.cut _ ⟨rfl, rfl, rfl, rfl, rfl, trivial⟩, ((((((((((((H.mv 10 rfl).cp 10 rfl pers_sl).mv 10 rfl).mv 10 rfl).mv 10 rfl).mv 10 rfl).mv 10 rfl).cp 10 rfl pers_sl).mv 10 rfl).mv 10 rfl).mv 10 rfl).keep 11 2)⟩
                     · skip
                       clear F H hm
                       rintro a w ⟨F, H⟩; have hm := hm3135; clear hm3135
                       obtain rfl := Option.some.inj hm
                       refine c_then ?_
                       exact ⟨F.cut _ ⟨rfl, rfl, rfl, rfl, rfl, trivial⟩, ((((((((((((H.mv 10 rfl).cp 10 rfl pers_sl).mv 10 rfl).mv 10 rfl).mv 10 rfl).mv 10 rfl).mv 10 rfl).cp 10 rfl pers_sl).mv 10 rfl).mv 10 rfl).mv 10 rfl).keep 11 2)⟩
                 · skip
                   clear F H hm
                   rintro a w ⟨F, H⟩; have hm := hm3119; clear hm3119
                   obtain rfl := Option.some.inj hm
                   refine c_then ?_
                   exact ⟨F.cut _ ⟨rfl, rfl, rfl, rfl, rfl, trivial⟩, ((((((((((((H.mv 10 rfl).cp 10 rfl pers_sl).mv 10 rfl).mv 10 rfl).mv 10 rfl).mv 10 rfl).mv 10 rfl).cp 10 rfl pers_sl).mv 10 rfl).mv 10 rfl).mv 10 rfl).keep 11 2)⟩
             · skip
               clear F H hm
               rintro a w ⟨F, H⟩; have hm := hm3089; clear hm3089
               refine c_blkN ?_
               obtain rfl := Option.some.inj hm
               refine c_then ?_
               exact ⟨F.cut _ ⟨rfl, rfl, rfl, rfl, rfl, trivial⟩, ((((((((((((H.mv 10 rfl).cp 10 rfl pers_sl).mv 10 rfl).mv 10 rfl).mv 10 rfl).mv 10 rfl).mv 10 rfl).cp 10 rfl pers_sl).mv 10 rfl).mv 10 rfl).mv 10 rfl).keep 11 2)⟩
           · skip
             clear F H hm
             rintro a w ⟨F, H⟩; have hm := hm3031; clear hm3031
             refine c_blkN ?_
             obtain rfl := Option.some.inj hm
             refine c_then ?_
             exact ⟨F.cut _ ⟨rfl, rfl, rfl, rfl, rfl, trivial⟩, (((((((((H.mv 0 rfl).mv 10 rfl).cp 10 rfl pers_sl).mv 10 rfl).mv 10 rfl).mv 10 rfl).mv 10 rfl).mv 10 rfl).keep 8 4)⟩
       · skip
         clear F H hm
         rintro a w ⟨F, H⟩; have hm := hm2894; clear hm2894
         refine c_then ?_
         refine r_lit ?_
         refine s_val wkP F rfl rfl rfl rfl (i_add F rfl rfl rfl) ?_; clear F; intro a F
         refine s_val wkP F rfl rfl rfl rfl (y_move F rfl rfl) ?_; clear F; intro a F
         refine wpList_nil ?_
         refine c_then ?_; obtain rfl := Option.some.inj hm
         exact ⟨_, rfl, ⟨F.cut _ ⟨rfl, rfl, rfl, rfl, rfl, trivial⟩, (((((((((H.mv 7 rfl).mv 7 rfl).cp 7 rfl pers_sl).mv 7 rfl).mv 7 rfl).mv 7 rfl).mv 7 rfl).mv 7 rfl).keep 8 1)⟩⟩
     · replace hm := ifF hg2641 hm
       refine wp_exit ?_
       refine c_thenX ?_
       refine c_thenX ?_; obtain rfl := Option.some.inj hm; refine ⟨_, rfl, ?_⟩; rintro rfl
       refine c_hit ?_
       refine c_then ?_
       exact ⟨F.cut _ ⟨rfl, trivial⟩, ((((((((H.mv 7 rfl).mv 7 rfl).mv 6 rfl).mv 6 rfl).mv 6 rfl).mv 6 rfl).mv 6 rfl).keep 7 1)⟩
   · skip
     clear F H hm
     rintro a w ⟨F, H⟩; have hm := hm1627; clear hm1627
     refine c_then ?_
     refine wp_seq ?_
     refine r_lit ?_
     refine s_val wkP F rfl rfl rfl rfl (y_move F rfl rfl) ?_; clear F; intro a F
     refine s_val wkP F rfl rfl rfl rfl (y_assign F rfl rfl) ?_; clear F; intro a F
     refine wpList_nil ?_
     refine c_then ?_
     refine wp_ret ?_
     replace H : St w0 w (HP.rdl (rSl rByte) css58 r1627 :: HP.blk b7 ([.slice p58 (r1627).length c58, .slice none (([] : List (Int × (List UInt8)))).length 0, .int .i64 (-1), .bool false]) 71 :: HP.ow (rPair (rInt .i64) (rSl rByte)) 88 none 0 ([] : List (Int × (List UInt8))) :: HP.blk bo0 ([.slice p1 (d.1).length c1, .slice p2 (d.2.1).length c2, .int .i64 (d.2.2.1), .bool (d.2.2.2)]) 71 :: HP.ow (rSl rByte) 33 p1 c1 d.1 :: HP.ow (rPair (rInt .i64) (rSl rByte)) 88 p2 c2 d.2.1 :: HP.own 33 1 (.slice p58 (r1627).length c58) (r1627).length (css58).flatten :: l) := (H.mv 6 rfl).osFrz
     replace H : St w0 w (HP.rdl (rSl rByte) css58 r1627 :: HP.blk b7 ([.slice p58 (r1627).length c58, .slice none (([] : List (Int × (List UInt8)))).length 0, .int .i64 (-1), .bool false]) 71 :: HP.ow (rPair (rInt .i64) (rSl rByte)) 88 none 0 ([] : List (Int × (List UInt8))) :: HP.blk bo0 ([.slice p1 (d.1).length c1, .slice p2 (d.2.1).length c2, .int .i64 (d.2.2.1), .bool (d.2.2.2)]) 71 :: HP.ow (rSl rByte) 33 p1 c1 d.1 :: HP.ow (rPair (rInt .i64) (rSl rByte)) 88 p2 c2 d.2.1 :: HP.ow (rSl rByte) 33 p58 c58 r1627 :: l) := H.owShut 6 0 rfl rfl
     obtain rfl := Option.some.inj hm
     refine x_ret1 F rfl rfl ?_
     exact ⟨_, rfl, b7, p58, c58, none, 0, rfl, (((((((H.mv 5 rfl).mv 5 rfl).mv 5 rfl).mv 5 rfl).mv 6 rfl).mv 6 rfl).keep 6 1)⟩
end Go.Proofs.YtfepdfjhejkemaaDoor
