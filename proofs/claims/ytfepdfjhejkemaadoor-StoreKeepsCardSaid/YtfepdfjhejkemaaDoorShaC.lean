/- sha -/
import Derived.Test.YtfepdfjhejkemaaDoorShaB
set_option linter.unusedSimpArgs false
set_option linter.unusedVariables false
namespace Go.Proofs.YtfepdfjhejkemaaDoor
open Go.RowKit Go.Tri
theorem arr137 : ArrT Tryd.prog 137 5 64 1 := ⟨Tryd.underlying137, by kernel_rfl⟩
theorem ent82 : ∀ args w, (callFunc 82 args).run Tryd.prog w = .ok (.enter 82 args) w := enters Tryd.func82 (by kernel_rfl) rfl
theorem elem143 : ElemT Tryd.prog 143 80 1 4 (.int .u32 0) := ⟨Tryd.underlying143, by kernel_rfl, by kernel_rfl, by decide⟩
set_option maxRecDepth 100000 in
set_option maxHeartbeats 4000000 in
theorem w_mix (state : List Int) (p : List UInt8)  (w0 w : World) (l : List HP) (hl1 : (state).length = 8) (hl2 : (p).length = 64) (r : (List Int)) (hm : mix state p = some r) (H : St w0 w (HP.row 2 (0) (icells .u32 shaRounds) :: l)) :
  Calls Tryd.prog 76 [.agg (icells .u32 state).toArray, .agg (bcells p).toArray].toArray w (fun e w' => ∃ v, e = .returned v ∧ v = .agg (icells .u32 r).toArray ∧ ((r).length = 8) ∧ St w0 w' (l)) := by
 unfold mix at hm
 refine x_enter Tryd.func76 rfl rfl rfl ?_
 intro a F
 replace F : Fr ⟨146, []⟩ a [(0, .agg (icells .u32 state).toArray), (1, .agg (bcells p).toArray)] := F
 refine wp_seq ?_
 refine r_lit ?_
 refine s_boxA wkP F rfl rfl rfl rfl rfl H ?_; clear F H; intro b4 w a H F
 replace H : St w0 w (HP.blk b4 (icells .u32 state) 83 :: HP.row 2 (0) (icells .u32 shaRounds) :: l) := H
 refine s_boxA wkP F rfl rfl rfl rfl rfl H ?_; clear F H; intro b5 w a H F
 replace H : St w0 w (HP.blk b5 (bcells p) 137 :: HP.blk b4 (icells .u32 state) 83 :: HP.row 2 (0) (icells .u32 shaRounds) :: l) := H
 replace H : St w0 w (HP.sl rByte (some ⟨b5, 0, none⟩) 64 p :: HP.blk b4 (icells .u32 state) 83 :: HP.row 2 (0) (icells .u32 shaRounds) :: l) := H.frzB 0 rfl hl2
 refine s_allocA wkP F rfl rfl rfl agz83 rfl H ?_; clear F H; intro b6 w a H F
 replace H : St w0 w (HP.blk b6 (icells .u32 (List.replicate 8 0)) 83 :: HP.sl rByte (some ⟨b5, 0, none⟩) 64 p :: HP.blk b4 (icells .u32 state) 83 :: HP.row 2 (0) (icells .u32 shaRounds) :: l) := H
 refine wpList_nil ?_
 refine c_then ?_
 refine wp_seq ?_
 refine r_lit ?_
 refine s_allocA wkP F rfl rfl rfl agz81 rfl H ?_; clear F H; intro b7 w a H F
 replace H : St w0 w (HP.blk b7 (icells .u32 (List.replicate 64 0)) 81 :: HP.blk b6 (icells .u32 (List.replicate 8 0)) 83 :: HP.sl rByte (some ⟨b5, 0, none⟩) 64 p :: HP.blk b4 (icells .u32 state) 83 :: HP.row 2 (0) (icells .u32 shaRounds) :: l) := H
 refine wpList_nil ?_
 refine c_then ?_
 refine wp_seq ?_
 refine wp_seq ?_
 refine r_lit ?_
 refine s_val wkP F rfl rfl rfl rfl (y_move F rfl rfl) ?_; clear F; intro a F
 refine wpList_nil ?_
 refine c_then ?_
 obtain ⟨r441, er441, hm441⟩ := ob hm; clear hm; revert er441; intro hm
 refine x_mid (fun aa ww => Fr ⟨146, []⟩ aa [(2, .pointer (some ⟨b4, 0, none⟩)), (4, .pointer (some ⟨b6, 0, none⟩)), (5, .pointer (some ⟨b7, 0, none⟩))] ∧ ((r441).length = 64) ∧ St w0 ww (HP.blk b7 (icells .u32 r441) 81 :: HP.blk b6 (icells .u32 (List.replicate 8 0)) 83 :: HP.blk b4 (icells .u32 state) 83 :: HP.row 2 (0) (icells .u32 shaRounds) :: l)) ?_ ?_
 · skip
   refine wp_block ?_
   refine x_loopO _ (fun (s731 : (List Int) × Int) aa ww => Fr ⟨146, []⟩ aa [(2, .pointer (some ⟨b4, 0, none⟩)), (3, .pointer (some ⟨b5, 0, none⟩)), (4, .pointer (some ⟨b6, 0, none⟩)), (5, .pointer (some ⟨b7, 0, none⟩)), (19, .int .i64 (s731.2))] ∧ ((s731.1).length = 64) ∧ St w0 ww (HP.blk b7 (icells .u32 s731.1) 81 :: HP.blk b6 (icells .u32 (List.replicate 8 0)) 83 :: HP.sl rByte (some ⟨b5, 0, none⟩) 64 p :: HP.blk b4 (icells .u32 state) 83 :: HP.row 2 (0) (icells .u32 shaRounds) :: l)) hm ⟨F.cut _ ⟨rfl, rfl, rfl, rfl, rfl, trivial⟩, (List.length_replicate (n := 64)), ((((((H.cp 4 rfl pers_row).mv 4 rfl).cp 4 rfl pers_sl).mv 4 rfl).mv 4 rfl).keep 5 2)⟩ ?_
   clear F H hm
   rintro s731 a w o ⟨F, hl732, H⟩ hm
   refine wp_seq ?_
   refine r_lit ?_
   refine s_val wkP F rfl rfl rfl rfl (y_lss F rfl rfl rfl) ?_; clear F; intro a F
   refine wpList_nil ?_
   refine c_then ?_
   refine wp_seq ?_
   refine x_condP F rfl (fun hg733 => ?_) (fun hg733 => ?_)
   · replace hm := ifT hg733 hm
     refine wp_skip ?_
     refine c_then ?_
     refine wp_seq ?_
     obtain ⟨r804, er804, hm804⟩ := ob hm; clear hm; revert er804; intro hm
     refine x_mid (fun aa ww => Fr ⟨146, []⟩ aa [(2, .pointer (some ⟨b4, 0, none⟩)), (3, .pointer (some ⟨b5, 0, none⟩)), (4, .pointer (some ⟨b6, 0, none⟩)), (5, .pointer (some ⟨b7, 0, none⟩)), (19, .int .i64 (s731.2))] ∧ ((r804).length = 64) ∧ St w0 ww (HP.blk b7 (icells .u32 r804) 81 :: HP.blk b6 (icells .u32 (List.replicate 8 0)) 83 :: HP.sl rByte (some ⟨b5, 0, none⟩) 64 p :: HP.blk b4 (icells .u32 state) 83 :: HP.row 2 (0) (icells .u32 shaRounds) :: l)) ?_ ?_
     · skip
       refine wp_block ?_
       refine wp_seq ?_
       refine r_lit ?_
       refine s_val wkP F rfl rfl rfl rfl (y_move F rfl rfl) ?_; clear F; intro a F
       refine s_val wkP F rfl rfl rfl rfl (y_assign F rfl rfl) ?_; clear F; intro a F
       refine wpList_nil ?_
       refine c_then ?_
       refine wp_seq ?_
       refine wp_seq ?_
       refine r_lit ?_
       refine s_val wkP F rfl rfl rfl rfl (y_move F rfl rfl) ?_; clear F; intro a F
       refine s_val wkP F rfl rfl rfl rfl (y_lss F rfl rfl rfl) ?_; clear F; intro a F
       refine wpList_nil ?_
       refine c_then ?_
       refine x_condP F rfl (fun hg806 => ?_) (fun hg806 => ?_)
       · replace hm := ifT hg806 hm
         refine wp_seq ?_
         refine wp_seq ?_
         refine r_lit ?_
         refine s_val wkP F rfl rfl rfl rfl (y_move F rfl rfl) ?_; clear F; intro a F
         refine s_val wkP F rfl rfl rfl rfl (i_mul F rfl rfl rfl) ?_; clear F; intro a F
         refine s_val wkP F rfl rfl rfl rfl (y_move F rfl rfl) ?_; clear F; intro a F
         refine s_val wkP F rfl rfl rfl rfl (i_add F rfl rfl rfl) ?_; clear F; intro a F
         refine s_val wkP F rfl rfl rfl rfl (i_mul F rfl rfl rfl) ?_; clear F; intro a F
         obtain ⟨x807, ex807, hn⟩ := ob hm; clear hm; revert hn; intro hm
         replace H : St w0 w (HP.sl rByte (shp (some ⟨b5, 0, none⟩) 64 ((IntKind.i64.wrap (4 * s731.2)) : Int).toNat 1) (64 - ((IntKind.i64.wrap (4 * s731.2)) : Int).toNat) x807 :: HP.blk b7 (icells .u32 s731.1) 81 :: HP.blk b6 (icells .u32 (List.replicate 8 0)) 83 :: HP.sl rByte (some ⟨b5, 0, none⟩) 64 p :: HP.blk b4 (icells .u32 state) 83 :: HP.row 2 (0) (icells .u32 shaRounds) :: l) := H.slSub 2 rfl ex807
         refine s_val wkP F rfl rfl rfl rfl (y_slALH F arr137 rfl rfl rfl rfl ex807 hl2) ?_; clear F; intro a F
         refine s_val wkP F rfl rfl rfl rfl (y_lenS F rfl Tryd.underlying33 rfl) ?_; clear F; intro a F
         refine s_val wkP F rfl rfl rfl rfl (y_move F rfl rfl) ?_; clear F; intro a F
         refine wpList_nil ?_
         refine c_then ?_
         obtain ⟨r833, er833, hm833⟩ := ob hm; clear hm; revert er833; intro hm
         refine x_mid (fun aa ww => Fr ⟨146, []⟩ aa [(2, .pointer (some ⟨b4, 0, none⟩)), (3, .pointer (some ⟨b5, 0, none⟩)), (4, .pointer (some ⟨b6, 0, none⟩)), (5, .pointer (some ⟨b7, 0, none⟩)), (19, .int .i64 (s731.2))] ∧ ((r833).length = 64) ∧ St w0 ww (HP.blk b7 (icells .u32 r833) 81 :: HP.blk b6 (icells .u32 (List.replicate 8 0)) 83 :: HP.sl rByte (some ⟨b5, 0, none⟩) 64 p :: HP.blk b4 (icells .u32 state) 83 :: HP.row 2 (0) (icells .u32 shaRounds) :: l)) ?_ ?_
         · skip
           refine wp_block ?_
           refine x_loopO _ (fun (s851 : (List Int) × Int) aa ww => Fr ⟨146, []⟩ aa [(2, .pointer (some ⟨b4, 0, none⟩)), (3, .pointer (some ⟨b5, 0, none⟩)), (4, .pointer (some ⟨b6, 0, none⟩)), (5, .pointer (some ⟨b7, 0, none⟩)), (6, .int .i64 (s731.2)), (19, .int .i64 (s731.2)), (29, .slice (shp (some ⟨b5, 0, none⟩) 64 ((IntKind.i64.wrap (4 * s731.2)) : Int).toNat 1) (x807).length (64 - ((IntKind.i64.wrap (4 * s731.2)) : Int).toNat)), (30, .int .i64 (((x807).length : Int))), (31, .int .i64 (s851.2))] ∧ ((s851.1).length = 64) ∧ St w0 ww (HP.sl rByte (shp (some ⟨b5, 0, none⟩) 64 ((IntKind.i64.wrap (4 * s731.2)) : Int).toNat 1) (64 - ((IntKind.i64.wrap (4 * s731.2)) : Int).toNat) x807 :: HP.blk b7 (icells .u32 s851.1) 81 :: HP.blk b6 (icells .u32 (List.replicate 8 0)) 83 :: HP.sl rByte (some ⟨b5, 0, none⟩) 64 p :: HP.blk b4 (icells .u32 state) 83 :: HP.row 2 (0) (icells .u32 shaRounds) :: l)) hm ⟨F.cut _ ⟨rfl, rfl, rfl, rfl, rfl, rfl, rfl, rfl, rfl, trivial⟩, hl732, (((((((H.cp 5 rfl pers_row).mv 5 rfl).cp 5 rfl pers_sl).mv 5 rfl).mv 5 rfl).cp 5 rfl pers_sl).keep 6 3)⟩ ?_
           clear F H hm
           rintro s851 a w o ⟨F, hl852, H⟩ hm
           refine wp_seq ?_
           refine r_lit ?_
           refine s_val wkP F rfl rfl rfl rfl (y_lss F rfl rfl rfl) ?_; clear F; intro a F
           refine wpList_nil ?_
           refine c_then ?_
           refine wp_seq ?_
           refine x_condP F rfl (fun hg853 => ?_) (fun hg853 => ?_)
           · replace hm := ifT hg853 hm
             refine wp_skip ?_
             refine c_then ?_
             refine wp_seq ?_
             refine wp_block ?_
             refine wp_seq ?_
             refine r_lit ?_
             obtain ⟨x854, ex854, hn⟩ := ob hm; clear hm; revert hn; intro hm
             obtain ⟨b855, o855, hp855⟩ := H.slP 0 rfl (idxO_some ex854).2
             obtain ⟨cs856, hcl856, H⟩ := H.slEl 0 rfl hp855 (idxO_some ex854).2
             obtain rfl := H.rcB 1 rfl
             replace H := H.dp 1 rfl
             clear hcl856
             refine s_val wkP F rfl rfl rfl rfl (y_idxS F elem33 rfl rfl rfl hp855 ex854) ?_; clear F; intro a F
             refine s_val wkP F rfl rfl rfl rfl (y_load1 F plain5 rfl rfl ((H.rowAt 0 rfl) 0 _ rfl)) ?_; clear F; intro a F
             refine s_val wkP F rfl rfl rfl rfl (y_assign F rfl rfl) ?_; clear F; intro a F
             refine wpList_nil ?_
             refine c_then ?_
             refine r_lit ?_
             refine s_val wkP F rfl rfl rfl rfl (y_move F rfl rfl) ?_; clear F; intro a F
             refine s_val wkP F rfl rfl rfl rfl (y_move F rfl rfl) ?_; clear F; intro a F
             obtain ⟨x857, ex857, hn⟩ := ob hm; clear hm; revert hn; intro hm
             refine s_val wkP F rfl rfl rfl rfl (y_idxA F arr81 rfl rfl rfl ex857 hl852) ?_; clear F; intro a F
             refine s_val wkP F rfl rfl rfl rfl (y_load1 F plain80 rfl rfl (row_ix ((H.blk 2 rfl).row) (icells_idx ex857))) ?_; clear F; intro a F
             refine s_val wkP F rfl rfl rfl rfl (i_shl F rfl rfl rfl (by decide)) ?_; clear F; intro a F
             refine s_val wkP F rfl rfl rfl rfl (y_move F rfl rfl) ?_; clear F; intro a F
             refine s_val wkP F rfl rfl rfl rfl (i_conv F Tryd.underlying5 Tryd.underlying80 rfl rfl) ?_; clear F; intro a F
             refine s_val wkP F rfl rfl rfl rfl (i_or F rfl rfl rfl) ?_; clear F; intro a F
             obtain ⟨x858, ex858, hn⟩ := ob hm; clear hm; revert hn; intro hm
             refine s_val wkP F rfl rfl rfl rfl (y_idxA F arr81 rfl rfl rfl ex858 hl852) ?_; clear F; intro a F
             refine s_store1 wkP F rfl rfl zero80 rfl rfl rfl rfl rfl H 2 rfl (by have := (idxO_some ex858).1; have := (List.getElem?_eq_some_iff.1 (idxO_some ex858).2).1; simp [icells_length, bcells_length] at *; omega) ?_; clear H; intro w H
             replace H : St w0 w (HP.row b855 (o855 + (s851.2 : Int).toNat * 1) ([.int .u8 (((x854).toNat : Int))]) :: HP.sl rByte (shp (some ⟨b5, 0, none⟩) 64 ((IntKind.i64.wrap (4 * s731.2)) : Int).toNat 1) (64 - ((IntKind.i64.wrap (4 * s731.2)) : Int).toNat) x807 :: HP.blk b7 (icells .u32 ((s851.1).set (s731.2 : Int).toNat (orI .u32 (shlI .u32 x857 8) (IntKind.u32.wrap (((x854).toNat : Int)))))) 81 :: HP.blk b6 (icells .u32 (List.replicate 8 0)) 83 :: HP.sl rByte (some ⟨b5, 0, none⟩) 64 p :: HP.blk b4 (icells .u32 state) 83 :: HP.row 2 (0) (icells .u32 shaRounds) :: l) := (by have h := H; rw [icells_setI] at h; exact h)
             refine wpList_nil ?_
             refine c_blkN ?_
             refine c_then ?_
             refine r_lit ?_
             refine s_val wkP F rfl rfl rfl rfl (i_add F rfl rfl rfl) ?_; clear F; intro a F
             refine s_val wkP F rfl rfl rfl rfl (y_move F rfl rfl) ?_; clear F; intro a F
             refine wpList_nil ?_
             refine c_then ?_; obtain rfl := Option.some.inj hm
             exact ⟨_, rfl, ⟨F.cut _ ⟨rfl, rfl, rfl, rfl, rfl, rfl, rfl, rfl, rfl, trivial⟩, ((List.length_set ..).trans hl852), (((((((H.cp 6 rfl pers_row).mv 6 rfl).cp 6 rfl pers_sl).mv 6 rfl).mv 6 rfl).cp 6 rfl pers_sl).keep 6 4)⟩⟩
           · replace hm := ifF hg853 hm
             refine wp_exit ?_
             refine c_thenX ?_
             refine c_thenX ?_; obtain rfl := Option.some.inj hm; refine ⟨_, rfl, ?_⟩; rintro rfl
             refine c_hit ?_
             refine c_then ?_
             exact ⟨F.cut _ ⟨rfl, rfl, rfl, rfl, rfl, trivial⟩, hl852, ((((((H.cp 5 rfl pers_row).mv 5 rfl).cp 5 rfl pers_sl).mv 5 rfl).mv 5 rfl).keep 5 3)⟩
         · skip
           clear F H hm
           rintro a w ⟨F, hl834, H⟩; have hm := hm833; clear hm833
           refine c_then ?_
           refine wp_exit ?_
           refine c_thenX ?_
           refine c_hit ?_
           obtain rfl := Option.some.inj hm
           refine c_then ?_
           exact ⟨F.cut _ ⟨rfl, rfl, rfl, rfl, rfl, trivial⟩, hl834, ((((((H.cp 4 rfl pers_row).mv 4 rfl).cp 4 rfl pers_sl).mv 4 rfl).mv 4 rfl).keep 5 2)⟩
       · replace hm := ifF hg806 hm
         refine wp_skip ?_
         refine c_then ?_
         obtain ⟨x868, ex868, hn⟩ := ob hm; clear hm; revert hn; intro hm
         obtain ⟨x869, ex869, hn⟩ := ob hm; clear hm; revert hn; intro hm
         obtain ⟨x870, ex870, hn⟩ := ob hm; clear hm; revert hn; intro hm
         obtain ⟨x871, ex871, hn⟩ := ob hm; clear hm; revert hn; intro hm
         refine mix_region [5, 15, 23] [23] (.step 0 0 (.step 0 1 (.step 0 2 (.step 0 3 (.step 1 4 (.step 0 6 (.step 0 7 (.step 0 8 (.step 0 9 (.step 0 11 (.step 0 12 (.step 0 13 (.step 0 14 (.step 0 17 (.step 0 18 (.step 0 19 (.step 0 20 (.step 2 5 (.step 0 10 (.step 2 15 (.step 0 16 (.step 0 21 (.step 0 22 (.step 3 23 .done)))))))))))))))))))))))) (fun u => ∃ ls, St w0 u (HP.blk b7 (icells .u32 s731.1) 81 :: ls)) (by kernel_rfl) (by kernel_rfl) ⟨_, (H.drew.mv 0 rfl)⟩ ?_
         replace H := H.drew
         generalize w.drew = w at H ⊢
         refine m_pure F rfl rfl rfl rfl (fun u hu => y_move F rfl rfl) ?_; clear F; intro a F
         refine m_pure F rfl rfl rfl rfl (fun u hu => y_move F rfl rfl) ?_; clear F; intro a F
         refine m_pure F rfl rfl rfl rfl (fun u hu => i_sub F rfl rfl rfl) ?_; clear F; intro a F
         refine m_pure F rfl rfl rfl rfl (fun u hu => y_idxA F arr81 rfl rfl rfl ex868 hl732) ?_; clear F; intro a F
         refine m_read F rfl rfl rfl rfl (y_load1 F plain80 rfl rfl (row_ix ((H.blk 0 rfl).row) (icells_idx ex868))) ?_; clear F; intro a F
         refine m_pure F rfl rfl rfl rfl (fun u hu => y_move F rfl rfl) ?_; clear F; intro a F
         refine m_pure F rfl rfl rfl rfl (fun u hu => i_sub F rfl rfl rfl) ?_; clear F; intro a F
         refine m_pure F rfl rfl rfl rfl (fun u hu => y_idxA F arr81 rfl rfl rfl ex869 hl732) ?_; clear F; intro a F
         refine m_pure F rfl rfl rfl rfl (fun u hu => y_load1 F plain80 rfl rfl (row_ix ((hu.choose_spec.blk 0 rfl).row) (icells_idx ex869))) ?_; clear F; intro a F
         refine m_pure F rfl rfl rfl rfl (fun u hu => y_move F rfl rfl) ?_; clear F; intro a F
         refine m_pure F rfl rfl rfl rfl (fun u hu => i_sub F rfl rfl rfl) ?_; clear F; intro a F
         refine m_pure F rfl rfl rfl rfl (fun u hu => y_idxA F arr81 rfl rfl rfl ex870 hl732) ?_; clear F; intro a F
         refine m_pure F rfl rfl rfl rfl (fun u hu => y_load1 F plain80 rfl rfl (row_ix ((hu.choose_spec.blk 0 rfl).row) (icells_idx ex870))) ?_; clear F; intro a F
         refine m_pure F rfl rfl rfl rfl (fun u hu => y_move F rfl rfl) ?_; clear F; intro a F
         refine m_pure F rfl rfl rfl rfl (fun u hu => i_sub F rfl rfl rfl) ?_; clear F; intro a F
         refine m_pure F rfl rfl rfl rfl (fun u hu => y_idxA F arr81 rfl rfl rfl ex871 hl732) ?_; clear F; intro a F
         refine m_pure F rfl rfl rfl rfl (fun u hu => y_load1 F plain80 rfl rfl (row_ix ((hu.choose_spec.blk 0 rfl).row) (icells_idx ex871))) ?_; clear F; intro a F
         refine m_heavy rfl rfl ?_
         obtain ⟨x872, ex872, hn⟩ := ob hm; clear hm; revert hn; intro hm
         refine s_call wkP F rfl rfl rfl rfl (y_call F rfl rfl ent82) (w_turn x868 17 19 10 true w0 _ _  _ ex872 H) ?_; clear F H; rintro _ w a ⟨rfl, H⟩ F
         replace H : St w0 w (HP.blk b7 (icells .u32 s731.1) 81 :: HP.blk b6 (icells .u32 (List.replicate 8 0)) 83 :: HP.sl rByte (some ⟨b5, 0, none⟩) 64 p :: HP.blk b4 (icells .u32 state) 83 :: HP.row 2 (0) (icells .u32 shaRounds) :: l) := H
         refine wpList_nil ?_; refine c_then ⟨⟨_, (H.mv 0 rfl)⟩, ?_⟩
         refine m_pure F rfl rfl rfl rfl (fun u hu => i_add F rfl rfl rfl) ?_; clear F; intro a F
         refine m_heavy rfl rfl ?_
         obtain ⟨x873, ex873, hn⟩ := ob hm; clear hm; revert hn; intro hm
         refine s_call wkP F rfl rfl rfl rfl (y_call F rfl rfl ent82) (w_turn x870 7 18 3 true w0 _ _  _ ex873 H) ?_; clear F H; rintro _ w a ⟨rfl, H⟩ F
         replace H : St w0 w (HP.blk b7 (icells .u32 s731.1) 81 :: HP.blk b6 (icells .u32 (List.replicate 8 0)) 83 :: HP.sl rByte (some ⟨b5, 0, none⟩) 64 p :: HP.blk b4 (icells .u32 state) 83 :: HP.row 2 (0) (icells .u32 shaRounds) :: l) := H
         refine wpList_nil ?_; refine c_then ⟨⟨_, (H.mv 0 rfl)⟩, ?_⟩
         refine m_pure F rfl rfl rfl rfl (fun u hu => i_add F rfl rfl rfl) ?_; clear F; intro a F
         refine m_pure F rfl rfl rfl rfl (fun u hu => i_add F rfl rfl rfl) ?_; clear F; intro a F
         obtain ⟨x874, ex874, hn⟩ := ob hm; clear hm; revert hn; intro hm
         refine m_pure F rfl rfl rfl rfl (fun u hu => y_idxA F arr81 rfl rfl rfl ex874 hl732) ?_; clear F; intro a F
         refine m_last rfl rfl ?_
         refine s_store1 wkP F rfl rfl zero80 rfl rfl rfl rfl rfl H 0 rfl (by have := (idxO_some ex874).1; have := (List.getElem?_eq_some_iff.1 (idxO_some ex874).2).1; simp [icells_length, bcells_length] at *; omega) ?_; clear H; intro w H
         replace H : St w0 w (HP.blk b7 (icells .u32 ((s731.1).set (s731.2 : Int).toNat (IntKind.u32.wrap ((IntKind.u32.wrap ((IntKind.u32.wrap (x872 + x869)) + x873)) + x871)))) 81 :: HP.blk b6 (icells .u32 (List.replicate 8 0)) 83 :: HP.sl rByte (some ⟨b5, 0, none⟩) 64 p :: HP.blk b4 (icells .u32 state) 83 :: HP.row 2 (0) (icells .u32 shaRounds) :: l) := (by have h := H; rw [icells_setI] at h; exact h)
         refine wpList_nil ?_; refine c_then ?_
         refine m_nil ?_
         refine c_blkN ?_
         obtain rfl := Option.some.inj hm
         refine c_then ?_
         exact ⟨F.cut _ ⟨rfl, rfl, rfl, rfl, rfl, trivial⟩, ((List.length_set ..).trans hl732), ((((((H.cp 4 rfl pers_row).mv 4 rfl).cp 4 rfl pers_sl).mv 4 rfl).mv 4 rfl).keep 5 2)⟩
     · skip
       clear F H hm
       rintro a w ⟨F, hl805, H⟩; have hm := hm804; clear hm804
       refine c_then ?_
       refine r_lit ?_
       refine s_val wkP F rfl rfl rfl rfl (i_add F rfl rfl rfl) ?_; clear F; intro a F
       refine s_val wkP F rfl rfl rfl rfl (y_move F rfl rfl) ?_; clear F; intro a F
       refine wpList_nil ?_
       refine c_then ?_; obtain rfl := Option.some.inj hm
       exact ⟨_, rfl, ⟨F.cut _ ⟨rfl, rfl, rfl, rfl, rfl, trivial⟩, hl805, ((((((H.cp 4 rfl pers_row).mv 4 rfl).cp 4 rfl pers_sl).mv 4 rfl).mv 4 rfl).keep 5 2)⟩⟩
   · replace hm := ifF hg733 hm
     refine wp_exit ?_
     refine c_thenX ?_
     refine c_thenX ?_; obtain rfl := Option.some.inj hm; refine ⟨_, rfl, ?_⟩; rintro rfl
     refine c_hit ?_
     refine c_then ?_
     exact ⟨F.cut _ ⟨rfl, rfl, rfl, trivial⟩, hl732, (((((H.cp 4 rfl pers_row).mv 4 rfl).mv 3 rfl).mv 3 rfl).keep 4 2)⟩
 · skip
   clear F H hm
   rintro a w ⟨F, hl442, H⟩; have hm := hm441; clear hm441
   refine c_then ?_
   refine wp_seq ?_
   refine r_lit ?_
   refine s_val wkP F rfl rfl rfl rfl (y_loadA F agg83 rfl rfl ((H.blk 2 rfl).row) ((icells_length _ _).trans hl1)) ?_; clear F; intro a F
   refine s_allocA wkP F rfl rfl rfl agz83 rfl H ?_; clear F H; intro b876 w a H F
   replace H : St w0 w (HP.blk b876 (icells .u32 (List.replicate 8 0)) 83 :: HP.blk b7 (icells .u32 r441) 81 :: HP.blk b6 (icells .u32 (List.replicate 8 0)) 83 :: HP.blk b4 (icells .u32 state) 83 :: HP.row 2 (0) (icells .u32 shaRounds) :: l) := H
   refine s_storeA wkP F rfl rfl agg83 rfl rfl rfl H 0 rfl ((icells_length _ _).trans hl1) ((icells_length _ _).trans (List.length_replicate (n := 8))) (icells_flat _ _) ?_; clear H; intro w H
   replace H : St w0 w (HP.blk b876 (icells .u32 state) 83 :: HP.blk b7 (icells .u32 r441) 81 :: HP.blk b6 (icells .u32 (List.replicate 8 0)) 83 :: HP.blk b4 (icells .u32 state) 83 :: HP.row 2 (0) (icells .u32 shaRounds) :: l) := H
   refine wpList_nil ?_
   refine c_then ?_
   refine wp_seq ?_
   refine wp_seq ?_
   refine r_lit ?_
   refine s_val wkP F rfl rfl rfl rfl (y_loadA F agg81 rfl rfl (H.rowAt 4 rfl) ((icells_length _ _).trans shaRounds_len)) ?_; clear F; intro a F
   refine s_val wkP F rfl rfl rfl rfl (y_move F rfl rfl) ?_; clear F; intro a F
   refine wpList_nil ?_
   refine c_then ?_
   obtain ⟨r956, er956, hm956⟩ := ob hm; clear hm; revert er956; intro hm
   refine x_mid (fun aa ww => Fr ⟨146, []⟩ aa [(2, .pointer (some ⟨b4, 0, none⟩)), (4, .pointer (some ⟨b6, 0, none⟩)), (9, .pointer (some ⟨b876, 0, none⟩))] ∧ ((r956).length = 8) ∧ St w0 ww (HP.blk b876 (icells .u32 r956) 83 :: HP.blk b7 (icells .u32 r441) 81 :: HP.blk b6 (icells .u32 (List.replicate 8 0)) 83 :: HP.blk b4 (icells .u32 state) 83 :: HP.row 2 (0) (icells .u32 shaRounds) :: l)) ?_ ?_
   · skip
     refine wp_block ?_
     refine x_loopO _ (fun (s1010 : (List Int) × Int) aa ww => Fr ⟨146, []⟩ aa [(2, .pointer (some ⟨b4, 0, none⟩)), (4, .pointer (some ⟨b6, 0, none⟩)), (5, .pointer (some ⟨b7, 0, none⟩)), (9, .pointer (some ⟨b876, 0, none⟩)), (70, .agg (icells .u32 shaRounds).toArray), (71, .int .i64 (s1010.2))] ∧ ((s1010.1).length = 8) ∧ St w0 ww (HP.blk b876 (icells .u32 s1010.1) 83 :: HP.blk b7 (icells .u32 r441) 81 :: HP.blk b6 (icells .u32 (List.replicate 8 0)) 83 :: HP.blk b4 (icells .u32 state) 83 :: HP.row 2 (0) (icells .u32 shaRounds) :: l)) hm ⟨F.cut _ ⟨rfl, rfl, rfl, rfl, rfl, rfl, trivial⟩, hl1, ((((((H.cp 4 rfl pers_row).mv 4 rfl).mv 4 rfl).mv 4 rfl).mv 4 rfl).keep 5 1)⟩ ?_
     clear F H hm
     rintro s1010 a w o ⟨F, hl1011, H⟩ hm
     refine wp_seq ?_
     refine r_lit ?_
     refine s_val wkP F rfl rfl rfl rfl (y_lss F rfl rfl rfl) ?_; clear F; intro a F
     refine wpList_nil ?_
     refine c_then ?_
     refine wp_seq ?_
     refine x_condP F rfl (fun hg1012 => ?_) (fun hg1012 => ?_)
     · replace hm := ifT hg1012 hm
       refine wp_skip ?_
       refine c_then ?_
       refine wp_seq ?_
       refine wp_block ?_
       refine wp_seq ?_
       refine r_lit ?_
       refine s_val wkP F rfl rfl rfl rfl (y_move F rfl rfl) ?_; clear F; intro a F
       obtain ⟨x1013, ex1013, hn⟩ := ob hm; clear hm; revert hn; intro hm
       refine s_val wkP F rfl rfl rfl rfl (y_idxV F arr81 plain80 rfl rfl rfl (icells_idx ex1013) ((icells_length _ _).trans shaRounds_len)) ?_; clear F; intro a F
       refine s_val wkP F rfl rfl rfl rfl (y_assign F rfl rfl) ?_; clear F; intro a F
       refine s_val wkP F rfl rfl rfl rfl (y_assign F rfl rfl) ?_; clear F; intro a F
       refine wpList_nil ?_
       refine c_then ?_
       refine wp_seq ?_
       obtain ⟨x1014, ex1014, hn⟩ := ob hm; clear hm; revert hn; intro hm
       obtain ⟨x1015, ex1015, hn⟩ := ob hm; clear hm; revert hn; intro hm
       refine q_region (fun u => St w0 u (HP.blk b876 (icells .u32 s1010.1) 83 :: HP.blk b7 (icells .u32 r441) 81 :: HP.blk b6 (icells .u32 (List.replicate 8 0)) 83 :: HP.blk b4 (icells .u32 state) 83 :: HP.row 2 (0) (icells .u32 shaRounds) :: l)) (by kernel_rfl) (by kernel_rfl) H.drew ?_
       refine q_val F rfl rfl rfl (fun u hu => y_idxA F arr83 rfl rfl rfl ex1014 hl1011) ?_; clear F; intro a F
       refine q_val F rfl rfl rfl (fun u hu => y_load1 F plain80 rfl rfl (row_ix ((hu.blk 0 rfl).row) (icells_idx ex1014))) ?_; clear F; intro a F
       refine q_val F rfl rfl rfl (fun u hu => y_idxA F arr83 rfl rfl rfl ex1015 hl1011) ?_; clear F; intro a F
       refine q_val F rfl rfl rfl (fun u hu => y_load1 F plain80 rfl rfl (row_ix ((hu.blk 0 rfl).row) (icells_idx ex1015))) ?_; clear F; intro a F
       refine q_val F rfl rfl rfl (fun u hu => y_assign F rfl rfl) ?_; clear F; intro a F
       refine q_val F rfl rfl rfl (fun u hu => y_assign F rfl rfl) ?_; clear F; intro a F
       refine q_nil ?_; clear H; intro w H
       refine c_then ?_
       refine wp_seq ?_
       refine r_lit ?_
       refine s_val wkP F rfl rfl rfl rfl (y_move F rfl rfl) ?_; clear F; intro a F
       obtain ⟨x1016, ex1016, hn⟩ := ob hm; clear hm; revert hn; intro hm
       refine s_val wkP F rfl rfl rfl rfl (y_idxA F arr83 rfl rfl rfl ex1016 hl1011) ?_; clear F; intro a F
       refine s_val wkP F rfl rfl rfl rfl (y_load1 F plain80 rfl rfl (row_ix ((H.blk 0 rfl).row) (icells_idx ex1016))) ?_; clear F; intro a F
       refine s_val wkP F rfl rfl rfl rfl (i_and F rfl rfl rfl) ?_; clear F; intro a F
       refine s_val wkP F rfl rfl rfl rfl (y_move F rfl rfl) ?_; clear F; intro a F
       refine s_val wkP F rfl rfl rfl rfl (i_not F rfl rfl) ?_; clear F; intro a F
       obtain ⟨x1017, ex1017, hn⟩ := ob hm; clear hm; revert hn; intro hm
       refine s_val wkP F rfl rfl rfl rfl (y_idxA F arr83 rfl rfl rfl ex1017 hl1011) ?_; clear F; intro a F
       refine s_val wkP F rfl rfl rfl rfl (y_load1 F plain80 rfl rfl (row_ix ((H.blk 0 rfl).row) (icells_idx ex1017))) ?_; clear F; intro a F
       refine s_val wkP F rfl rfl rfl rfl (i_and F rfl rfl rfl) ?_; clear F; intro a F
       refine s_val wkP F rfl rfl rfl rfl (i_xor F rfl rfl rfl) ?_; clear F; intro a F
       refine s_val wkP F rfl rfl rfl rfl (y_assign F rfl rfl) ?_; clear F; intro a F
       refine wpList_nil ?_
       refine c_then ?_
       refine wp_seq ?_
       refine r_lit ?_
       refine s_val wkP F rfl rfl rfl rfl (y_move F rfl rfl) ?_; clear F; intro a F
       obtain ⟨x1018, ex1018, hn⟩ := ob hm; clear hm; revert hn; intro hm
       refine s_val wkP F rfl rfl rfl rfl (y_idxA F arr83 rfl rfl rfl ex1018 hl1011) ?_; clear F; intro a F
       refine s_val wkP F rfl rfl rfl rfl (y_load1 F plain80 rfl rfl (row_ix ((H.blk 0 rfl).row) (icells_idx ex1018))) ?_; clear F; intro a F
       refine s_val wkP F rfl rfl rfl rfl (i_and F rfl rfl rfl) ?_; clear F; intro a F
       refine s_val wkP F rfl rfl rfl rfl (y_move F rfl rfl) ?_; clear F; intro a F
       obtain ⟨x1019, ex1019, hn⟩ := ob hm; clear hm; revert hn; intro hm
       refine s_val wkP F rfl rfl rfl rfl (y_idxA F arr83 rfl rfl rfl ex1019 hl1011) ?_; clear F; intro a F
       refine s_val wkP F rfl rfl rfl rfl (y_load1 F plain80 rfl rfl (row_ix ((H.blk 0 rfl).row) (icells_idx ex1019))) ?_; clear F; intro a F
       refine s_val wkP F rfl rfl rfl rfl (i_and F rfl rfl rfl) ?_; clear F; intro a F
       refine s_val wkP F rfl rfl rfl rfl (i_xor F rfl rfl rfl) ?_; clear F; intro a F
       obtain ⟨x1020, ex1020, hn⟩ := ob hm; clear hm; revert hn; intro hm
       refine s_val wkP F rfl rfl rfl rfl (y_idxA F arr83 rfl rfl rfl ex1020 hl1011) ?_; clear F; intro a F
       refine s_val wkP F rfl rfl rfl rfl (y_load1 F plain80 rfl rfl (row_ix ((H.blk 0 rfl).row) (icells_idx ex1020))) ?_; clear F; intro a F
       obtain ⟨x1021, ex1021, hn⟩ := ob hm; clear hm; revert hn; intro hm
       refine s_val wkP F rfl rfl rfl rfl (y_idxA F arr83 rfl rfl rfl ex1021 hl1011) ?_; clear F; intro a F
       refine s_val wkP F rfl rfl rfl rfl (y_load1 F plain80 rfl rfl (row_ix ((H.blk 0 rfl).row) (icells_idx ex1021))) ?_; clear F; intro a F
       refine s_val wkP F rfl rfl rfl rfl (i_and F rfl rfl rfl) ?_; clear F; intro a F
       refine s_val wkP F rfl rfl rfl rfl (i_xor F rfl rfl rfl) ?_; clear F; intro a F
       refine s_val wkP F rfl rfl rfl rfl (y_assign F rfl rfl) ?_; clear F; intro a F
       refine wpList_nil ?_
       refine c_then ?_
       refine wp_seq ?_
       obtain ⟨x1022, ex1022, hn⟩ := ob hm; clear hm; revert hn; intro hm
       obtain ⟨x1023, ex1023, hn⟩ := ob hm; clear hm; revert hn; intro hm
       obtain ⟨x1024, ex1024, hn⟩ := ob hm; clear hm; revert hn; intro hm
       refine q_region (fun u => St w0 u (HP.blk b876 (icells .u32 s1010.1) 83 :: HP.blk b7 (icells .u32 r441) 81 :: HP.blk b6 (icells .u32 (List.replicate 8 0)) 83 :: HP.blk b4 (icells .u32 state) 83 :: HP.row 2 (0) (icells .u32 shaRounds) :: l)) (by kernel_rfl) (by kernel_rfl) H.drew ?_
       refine q_val F rfl rfl rfl (fun u hu => y_idxA F arr83 rfl rfl rfl ex1022 hl1011) ?_; clear F; intro a F
       refine q_val F rfl rfl rfl (fun u hu => y_load1 F plain80 rfl rfl (row_ix ((hu.blk 0 rfl).row) (icells_idx ex1022))) ?_; clear F; intro a F
       refine q_val F rfl rfl rfl (fun u hu => y_move F rfl rfl) ?_; clear F; intro a F
       refine q_call F rfl rfl rfl (fun u hu => y_call F rfl rfl ent82) (fun u hu => (w_turn x1015 6 11 25 false w0 _ _  _ ex1023 hu).mono fun e u2 he => by obtain ⟨v, rfl, rfl, H⟩ := he; exact ⟨rfl, H⟩) ?_; clear F; intro a F
       refine q_val F rfl rfl rfl (fun u hu => i_add F rfl rfl rfl) ?_; clear F; intro a F
       refine q_val F rfl rfl rfl (fun u hu => y_move F rfl rfl) ?_; clear F; intro a F
       refine q_val F rfl rfl rfl (fun u hu => i_add F rfl rfl rfl) ?_; clear F; intro a F
       refine q_val F rfl rfl rfl (fun u hu => y_move F rfl rfl) ?_; clear F; intro a F
       refine q_val F rfl rfl rfl (fun u hu => i_add F rfl rfl rfl) ?_; clear F; intro a F
       refine q_val F rfl rfl rfl (fun u hu => y_move F rfl rfl) ?_; clear F; intro a F
       refine q_val F rfl rfl rfl (fun u hu => y_idxA F arr81 rfl rfl rfl ex1024 hl442) ?_; clear F; intro a F
       refine q_val F rfl rfl rfl (fun u hu => y_load1 F plain80 rfl rfl (row_ix ((hu.blk 1 rfl).row) (icells_idx ex1024))) ?_; clear F; intro a F
       refine q_val F rfl rfl rfl (fun u hu => i_add F rfl rfl rfl) ?_; clear F; intro a F
       refine q_val F rfl rfl rfl (fun u hu => y_assign F rfl rfl) ?_; clear F; intro a F
       refine q_nil ?_; clear H; intro w H
       refine c_then ?_
       refine wp_seq ?_
       obtain ⟨x1028, ex1028, hn⟩ := ob hm; clear hm; revert hn; intro hm
       obtain ⟨x1029, ex1029, hn⟩ := ob hm; clear hm; revert hn; intro hm
       refine mix_region [2] [2] (.step 0 0 (.step 0 1 (.step 3 2 .done))) (fun u => ∃ ls, St w0 u (ls)) (by kernel_rfl) (by kernel_rfl) ⟨_, H.drew⟩ ?_
       replace H := H.drew
       generalize w.drew = w at H ⊢
       refine m_pure F rfl rfl rfl rfl (fun u hu => y_slAL F arr83 rfl rfl rfl ex1028 hl1011) ?_; clear F; intro a F
       refine m_pure F rfl rfl rfl rfl (fun u hu => y_slAH F arr83 rfl rfl rfl ex1029 hl1011) ?_; clear F; intro a F
       refine m_last rfl rfl ?_
       refine s_cpy (f := (Value.int .u32)) wkP F rfl rfl rfl elem143 rfl (fun _ => rfl) rfl (shp_ne (by decide)) rfl H 0 rfl (slB (f := (Value.int .u32)) (H.blk 0 rfl) (shp_ne (by decide)) ex1029 (by decide) (by have := (slcO_some ex1029).2.2; simp at this ⊢; omega)) (by have := (slcO_some ex1028).2.2; have := (slcO_some ex1028).1; simp at *; omega) ?_; clear F H; intro w a H F
       have hl1030 : (putAt s1010.1 (1 : Int).toNat ((x1029).take (x1028).length)).length = 8 := by have h1 := (slcO_some ex1028).2.2; have h2 := (slcO_some ex1028).1; have h3 := hl1011; rw [putAt_len _ _ _ (by simp at *; omega)]; exact h3
       replace H : St w0 w (HP.blk b876 (icells .u32 (putAt s1010.1 (1 : Int).toNat ((x1029).take (x1028).length))) 83 :: HP.blk b7 (icells .u32 r441) 81 :: HP.blk b6 (icells .u32 (List.replicate 8 0)) 83 :: HP.blk b4 (icells .u32 state) 83 :: HP.row 2 (0) (icells .u32 shaRounds) :: l) := H
       refine wpList_nil ?_; refine c_then ?_
       refine m_nil ?_
       refine c_then ?_
       refine wp_seq ?_
       refine r_lit ?_
       obtain ⟨x1031, ex1031, hn⟩ := ob hm; clear hm; revert hn; intro hm
       refine s_val wkP F rfl rfl rfl rfl (y_idxA F arr83 rfl rfl rfl ex1031 hl1030) ?_; clear F; intro a F
       refine s_val wkP F rfl rfl rfl rfl (y_load1 F plain80 rfl rfl (row_ix ((H.blk 0 rfl).row) (icells_idx ex1031))) ?_; clear F; intro a F
       refine s_val wkP F rfl rfl rfl rfl (y_move F rfl rfl) ?_; clear F; intro a F
       refine s_val wkP F rfl rfl rfl rfl (i_add F rfl rfl rfl) ?_; clear F; intro a F
       obtain ⟨x1032, ex1032, hn⟩ := ob hm; clear hm; revert hn; intro hm
       refine s_val wkP F rfl rfl rfl rfl (y_idxA F arr83 rfl rfl rfl ex1032 hl1030) ?_; clear F; intro a F
       refine s_store1 wkP F rfl rfl zero80 rfl rfl rfl rfl rfl H 0 rfl (by have := (idxO_some ex1032).1; have := (List.getElem?_eq_some_iff.1 (idxO_some ex1032).2).1; simp [icells_length, bcells_length] at *; omega) ?_; clear H; intro w H
       replace H : St w0 w (HP.blk b876 (icells .u32 ((putAt s1010.1 (1 : Int).toNat ((x1029).take (x1028).length)).set (4 : Int).toNat (IntKind.u32.wrap (x1031 + (IntKind.u32.wrap ((IntKind.u32.wrap ((IntKind.u32.wrap ((IntKind.u32.wrap (x1022 + x1023)) + (xorI .u32 (andI .u32 x1015 x1016) (andI .u32 (notI .u32 x1015) x1017)))) + x1013)) + x1024)))))) 83 :: HP.blk b7 (icells .u32 r441) 81 :: HP.blk b6 (icells .u32 (List.replicate 8 0)) 83 :: HP.blk b4 (icells .u32 state) 83 :: HP.row 2 (0) (icells .u32 shaRounds) :: l) := (by have h := H; rw [icells_setI] at h; exact h)
       refine wpList_nil ?_
       refine c_then ?_
       refine r_lit ?_
       refine s_val wkP F rfl rfl rfl rfl (y_move F rfl rfl) ?_; clear F; intro a F
       refine s_val wkP F rfl rfl rfl rfl (y_move F rfl rfl) ?_; clear F; intro a F
       obtain ⟨x1034, ex1034, hn⟩ := ob hm; clear hm; revert hn; intro hm
       refine s_call wkP F rfl rfl rfl rfl (y_call F rfl rfl ent82) (w_turn x1014 2 13 22 false w0 _ _  _ ex1034 H) ?_; clear F H; rintro _ w a ⟨rfl, H⟩ F
       replace H : St w0 w (HP.blk b876 (icells .u32 ((putAt s1010.1 (1 : Int).toNat ((x1029).take (x1028).length)).set (4 : Int).toNat (IntKind.u32.wrap (x1031 + (IntKind.u32.wrap ((IntKind.u32.wrap ((IntKind.u32.wrap ((IntKind.u32.wrap (x1022 + x1023)) + (xorI .u32 (andI .u32 x1015 x1016) (andI .u32 (notI .u32 x1015) x1017)))) + x1013)) + x1024)))))) 83 :: HP.blk b7 (icells .u32 r441) 81 :: HP.blk b6 (icells .u32 (List.replicate 8 0)) 83 :: HP.blk b4 (icells .u32 state) 83 :: HP.row 2 (0) (icells .u32 shaRounds) :: l) := H
       refine s_val wkP F rfl rfl rfl rfl (i_add F rfl rfl rfl) ?_; clear F; intro a F
       refine s_val wkP F rfl rfl rfl rfl (y_move F rfl rfl) ?_; clear F; intro a F
       refine s_val wkP F rfl rfl rfl rfl (i_add F rfl rfl rfl) ?_; clear F; intro a F
       obtain ⟨x1035, ex1035, hn⟩ := ob hm; clear hm; revert hn; intro hm
       refine s_val wkP F rfl rfl rfl rfl (y_idxA F arr83 rfl rfl rfl ex1035 ((List.length_set ..).trans hl1030)) ?_; clear F; intro a F
       refine s_store1 wkP F rfl rfl zero80 rfl rfl rfl rfl rfl H 0 rfl (by have := (idxO_some ex1035).1; have := (List.getElem?_eq_some_iff.1 (idxO_some ex1035).2).1; simp [icells_length, bcells_length] at *; omega) ?_; clear H; intro w H
       replace H : St w0 w (HP.blk b876 (icells .u32 (((putAt s1010.1 (1 : Int).toNat ((x1029).take (x1028).length)).set (4 : Int).toNat (IntKind.u32.wrap (x1031 + (IntKind.u32.wrap ((IntKind.u32.wrap ((IntKind.u32.wrap ((IntKind.u32.wrap (x1022 + x1023)) + (xorI .u32 (andI .u32 x1015 x1016) (andI .u32 (notI .u32 x1015) x1017)))) + x1013)) + x1024))))).set (0 : Int).toNat (IntKind.u32.wrap ((IntKind.u32.wrap ((IntKind.u32.wrap ((IntKind.u32.wrap ((IntKind.u32.wrap ((IntKind.u32.wrap (x1022 + x1023)) + (xorI .u32 (andI .u32 x1015 x1016) (andI .u32 (notI .u32 x1015) x1017)))) + x1013)) + x1024)) + x1034)) + (xorI .u32 (xorI .u32 (andI .u32 x1014 x1018) (andI .u32 x1014 x1019)) (andI .u32 x1020 x1021)))))) 83 :: HP.blk b7 (icells .u32 r441) 81 :: HP.blk b6 (icells .u32 (List.replicate 8 0)) 83 :: HP.blk b4 (icells .u32 state) 83 :: HP.row 2 (0) (icells .u32 shaRounds) :: l) := (by have h := H; rw [icells_setI] at h; exact h)
       refine wpList_nil ?_
       refine c_blkN ?_
       refine c_then ?_
       refine r_lit ?_
       refine s_val wkP F rfl rfl rfl rfl (i_add F rfl rfl rfl) ?_; clear F; intro a F
       refine s_val wkP F rfl rfl rfl rfl (y_move F rfl rfl) ?_; clear F; intro a F
       refine wpList_nil ?_
       refine c_then ?_; obtain rfl := Option.some.inj hm
       exact ⟨_, rfl, ⟨F.cut _ ⟨rfl, rfl, rfl, rfl, rfl, rfl, trivial⟩, ((List.length_set ..).trans ((List.length_set ..).trans hl1030)), ((((((H.cp 4 rfl pers_row).mv 4 rfl).mv 4 rfl).mv 4 rfl).mv 4 rfl).keep 5 1)⟩⟩
     · replace hm := ifF hg1012 hm
       refine wp_exit ?_
       refine c_thenX ?_
       refine c_thenX ?_; obtain rfl := Option.some.inj hm; refine ⟨_, rfl, ?_⟩; rintro rfl
       refine c_hit ?_
       refine c_then ?_
       exact ⟨F.cut _ ⟨rfl, rfl, rfl, trivial⟩, hl1011, ((((((H.cp 4 rfl pers_row).mv 4 rfl).mv 4 rfl).mv 4 rfl).mv 4 rfl).keep 5 1)⟩
   · skip
     clear F H hm
     rintro a w ⟨F, hl957, H⟩; have hm := hm956; clear hm956
     refine c_then ?_
     refine wp_seq ?_
     refine wp_seq ?_
     refine r_lit ?_
     refine s_val wkP F rfl rfl rfl rfl (y_loadA F agg83 rfl rfl ((H.blk 3 rfl).row) ((icells_length _ _).trans hl1)) ?_; clear F; intro a F
     refine s_val wkP F rfl rfl rfl rfl (y_move F rfl rfl) ?_; clear F; intro a F
     refine wpList_nil ?_
     refine c_then ?_
     obtain ⟨r1056, er1056, hm1056⟩ := ob hm; clear hm; revert er1056; intro hm
     refine x_mid (fun aa ww => Fr ⟨146, []⟩ aa [(4, .pointer (some ⟨b6, 0, none⟩)), (9, .pointer (some ⟨b876, 0, none⟩))] ∧ ((r1056).length = 8) ∧ St w0 ww (HP.blk b876 (icells .u32 r1056) 83 :: HP.blk b7 (icells .u32 r441) 81 :: HP.blk b6 (icells .u32 (List.replicate 8 0)) 83 :: HP.blk b4 (icells .u32 state) 83 :: HP.row 2 (0) (icells .u32 shaRounds) :: l)) ?_ ?_
     · skip
       refine wp_block ?_
       refine x_loopO _ (fun (s1070 : (List Int) × Int) aa ww => Fr ⟨146, []⟩ aa [(4, .pointer (some ⟨b6, 0, none⟩)), (9, .pointer (some ⟨b876, 0, none⟩)), (133, .agg (icells .u32 state).toArray), (134, .int .i64 (s1070.2))] ∧ ((s1070.1).length = 8) ∧ St w0 ww (HP.blk b876 (icells .u32 s1070.1) 83 :: HP.blk b7 (icells .u32 r441) 81 :: HP.blk b6 (icells .u32 (List.replicate 8 0)) 83 :: HP.blk b4 (icells .u32 state) 83 :: HP.row 2 (0) (icells .u32 shaRounds) :: l)) hm ⟨F.cut _ ⟨rfl, rfl, rfl, rfl, trivial⟩, hl957, ((((((H.cp 4 rfl pers_row).mv 4 rfl).mv 4 rfl).mv 4 rfl).mv 4 rfl).keep 5 1)⟩ ?_
       clear F H hm
       rintro s1070 a w o ⟨F, hl1071, H⟩ hm
       refine wp_seq ?_
       refine r_lit ?_
       refine s_val wkP F rfl rfl rfl rfl (y_lss F rfl rfl rfl) ?_; clear F; intro a F
       refine wpList_nil ?_
       refine c_then ?_
       refine wp_seq ?_
       refine x_condP F rfl (fun hg1072 => ?_) (fun hg1072 => ?_)
       · replace hm := ifT hg1072 hm
         refine wp_skip ?_
         refine c_then ?_
         refine wp_seq ?_
         refine wp_block ?_
         refine wp_seq ?_
         refine r_lit ?_
         refine s_val wkP F rfl rfl rfl rfl (y_move F rfl rfl) ?_; clear F; intro a F
         obtain ⟨x1073, ex1073, hn⟩ := ob hm; clear hm; revert hn; intro hm
         refine s_val wkP F rfl rfl rfl rfl (y_idxV F arr83 plain80 rfl rfl rfl (icells_idx ex1073) ((icells_length _ _).trans hl1)) ?_; clear F; intro a F
         refine s_val wkP F rfl rfl rfl rfl (y_assign F rfl rfl) ?_; clear F; intro a F
         refine s_val wkP F rfl rfl rfl rfl (y_assign F rfl rfl) ?_; clear F; intro a F
         refine wpList_nil ?_
         refine c_then ?_
         refine r_lit ?_
         refine s_val wkP F rfl rfl rfl rfl (y_move F rfl rfl) ?_; clear F; intro a F
         obtain ⟨x1074, ex1074, hn⟩ := ob hm; clear hm; revert hn; intro hm
         refine s_val wkP F rfl rfl rfl rfl (y_idxA F arr83 rfl rfl rfl ex1074 hl1071) ?_; clear F; intro a F
         refine s_val wkP F rfl rfl rfl rfl (y_load1 F plain80 rfl rfl (row_ix ((H.blk 0 rfl).row) (icells_idx ex1074))) ?_; clear F; intro a F
         refine s_val wkP F rfl rfl rfl rfl (y_move F rfl rfl) ?_; clear F; intro a F
         refine s_val wkP F rfl rfl rfl rfl (i_add F rfl rfl rfl) ?_; clear F; intro a F
         obtain ⟨x1075, ex1075, hn⟩ := ob hm; clear hm; revert hn; intro hm
         refine s_val wkP F rfl rfl rfl rfl (y_idxA F arr83 rfl rfl rfl ex1075 hl1071) ?_; clear F; intro a F
         refine s_store1 wkP F rfl rfl zero80 rfl rfl rfl rfl rfl H 0 rfl (by have := (idxO_some ex1075).1; have := (List.getElem?_eq_some_iff.1 (idxO_some ex1075).2).1; simp [icells_length, bcells_length] at *; omega) ?_; clear H; intro w H
         replace H : St w0 w (HP.blk b876 (icells .u32 ((s1070.1).set (s1070.2 : Int).toNat (IntKind.u32.wrap (x1074 + x1073)))) 83 :: HP.blk b7 (icells .u32 r441) 81 :: HP.blk b6 (icells .u32 (List.replicate 8 0)) 83 :: HP.blk b4 (icells .u32 state) 83 :: HP.row 2 (0) (icells .u32 shaRounds) :: l) := (by have h := H; rw [icells_setI] at h; exact h)
         refine wpList_nil ?_
         refine c_blkN ?_
         refine c_then ?_
         refine r_lit ?_
         refine s_val wkP F rfl rfl rfl rfl (i_add F rfl rfl rfl) ?_; clear F; intro a F
         refine s_val wkP F rfl rfl rfl rfl (y_move F rfl rfl) ?_; clear F; intro a F
         refine wpList_nil ?_
         refine c_then ?_; obtain rfl := Option.some.inj hm
         exact ⟨_, rfl, ⟨F.cut _ ⟨rfl, rfl, rfl, rfl, trivial⟩, ((List.length_set ..).trans hl1071), ((((((H.cp 4 rfl pers_row).mv 4 rfl).mv 4 rfl).mv 4 rfl).mv 4 rfl).keep 5 1)⟩⟩
       · replace hm := ifF hg1072 hm
         refine wp_exit ?_
         refine c_thenX ?_
         refine c_thenX ?_; obtain rfl := Option.some.inj hm; refine ⟨_, rfl, ?_⟩; rintro rfl
         refine c_hit ?_
         refine c_then ?_
         exact ⟨F.cut _ ⟨rfl, rfl, trivial⟩, hl1071, ((((((H.cp 4 rfl pers_row).mv 4 rfl).mv 4 rfl).mv 4 rfl).mv 4 rfl).keep 5 1)⟩
     · skip
       clear F H hm
       rintro a w ⟨F, hl1057, H⟩; have hm := hm1056; clear hm1056
       refine c_then ?_
       refine wp_seq ?_
       refine r_lit ?_
       refine s_val wkP F rfl rfl rfl rfl (y_loadA F agg83 rfl rfl ((H.blk 0 rfl).row) ((icells_length _ _).trans hl1057)) ?_; clear F; intro a F
       refine s_storeA wkP F rfl rfl agg83 rfl rfl rfl H 2 rfl ((icells_length _ _).trans hl1057) ((icells_length _ _).trans (List.length_replicate (n := 8))) (icells_flat _ _) ?_; clear H; intro w H
       replace H : St w0 w (HP.blk b876 (icells .u32 r1056) 83 :: HP.blk b7 (icells .u32 r441) 81 :: HP.blk b6 (icells .u32 r1056) 83 :: HP.blk b4 (icells .u32 state) 83 :: HP.row 2 (0) (icells .u32 shaRounds) :: l) := H
       refine wpList_nil ?_
       refine c_then ?_
       refine wp_ret ?_
       obtain rfl := Option.some.inj hm
       refine x_resC1 F rfl (⟨_, rfl, agg83.run_load (H.blk 2 rfl).row ((icells_length _ _).trans hl1057)⟩) ?_
       exact ⟨_, rfl, rfl, hl1057, (H.keep 0 5)⟩
theorem fld135_2 : FieldT Tryd.prog 135 2 9 := by unfold FieldT; rw [Tryd.underlying135]; kernel_rfl
theorem plain115 : Plain Tryd.prog 115 := by unfold Plain; rw [Tryd.underlying115]; rfl
theorem zero115 : Zero1 Tryd.prog 115 (.int .u64 0) := ⟨by kernel_rfl, rfl⟩
theorem fld135_1 : FieldT Tryd.prog 135 1 8 := by unfold FieldT; rw [Tryd.underlying135]; kernel_rfl
theorem plain33 : Plain Tryd.prog 33 := by unfold Plain; rw [Tryd.underlying33]; rfl
theorem zero33 : Zero1 Tryd.prog 33 (.slice none 0 0) := ⟨by kernel_rfl, rfl⟩
theorem fld135_0 : FieldT Tryd.prog 135 0 0 := by unfold FieldT; rw [Tryd.underlying135]; kernel_rfl
theorem agg137 : AggT Tryd.prog 137 64 (List.replicate 64 (.int .u8 0)) := ⟨by rw [Tryd.underlying137]; rfl, by kernel_rfl, by kernel_rfl⟩
theorem ent76 : ∀ args w, (callFunc 76 args).run Tryd.prog w = .ok (.enter 76 args) w := enters Tryd.func76 (by kernel_rfl) rfl
set_option maxRecDepth 100000 in
set_option maxHeartbeats 4000000 in
theorem w_shaAdd (h : (List Int) × (List UInt8) × Int) (b : List UInt8) (bo0 : Nat) (p2 : Option Addr) (c2 : Nat) (p3 : Option Addr) (c3 : Nat) (w0 w : World) (l : List HP) (hl1 : (h.1).length = 8) (r : ((List Int) × (List UInt8) × Int)) (hm : shaAdd h b = some r) (H : St w0 w (HP.row 2 (0) (icells .u32 shaRounds) :: HP.blk bo0 (icells .u32 h.1 ++ ([Value.slice p2 (h.2.1).length c2, Value.int .u64 (h.2.2)])) 135 :: HP.ow rByte 5 p2 c2 h.2.1 :: HP.sl rByte p3 c3 b :: l)) :
  Calls Tryd.prog 62 [.pointer (some ⟨bo0, 0, none⟩), .slice p3 (b).length c3].toArray w (fun e w' => ∃ v, e = .returned v ∧ ∃ (p5 : Option Addr) (c5 : Nat), v = .tuple [].toArray ∧ ((r.1).length = 8) ∧ St w0 w' (HP.blk bo0 (icells .u32 r.1 ++ ([Value.slice p5 (r.2.1).length c5, Value.int .u64 (r.2.2)])) 135 :: HP.sl rByte p5 c5 r.2.1 :: l)) := by
 unfold shaAdd at hm
 refine x_enter Tryd.func62 rfl rfl rfl ?_
 intro a F
 replace F : Fr ⟨52, []⟩ a [(0, .pointer (some ⟨bo0, 0, none⟩)), (1, .slice p3 (b).length c3)] := F
 refine wp_seq ?_
 refine r_lit ?_
 refine s_val wkP F rfl rfl rfl rfl (y_move F rfl rfl) ?_; clear F; intro a F
 refine s_val wkP F rfl rfl rfl rfl (y_nilCheck F rfl rfl) ?_; clear F; intro a F
 refine s_val wkP F rfl rfl rfl rfl (y_fieldAddr F fld135_2 rfl rfl) ?_; clear F; intro a F
 refine s_val wkP F rfl rfl rfl rfl (y_load1 F plain115 rfl rfl (row_at (v := .int .u64 (h.2.2)) ((H.blk 1 rfl).row) (by simp [List.getElem?_append, icells_length, bcells_length, hl1]))) ?_; clear F; intro a F
 refine s_val wkP F rfl rfl rfl rfl (y_move F rfl rfl) ?_; clear F; intro a F
 refine s_val wkP F rfl rfl rfl rfl (y_lenS F rfl Tryd.underlying33 rfl) ?_; clear F; intro a F
 refine s_val wkP F rfl rfl rfl rfl (i_conv F Tryd.underlying3 Tryd.underlying115 rfl rfl) ?_; clear F; intro a F
 refine s_val wkP F rfl rfl rfl rfl (i_add F rfl rfl rfl) ?_; clear F; intro a F
 refine s_val wkP F rfl rfl rfl rfl (y_nilCheck F rfl rfl) ?_; clear F; intro a F
 refine s_val wkP F rfl rfl rfl rfl (y_fieldAddr F fld135_2 rfl rfl) ?_; clear F; intro a F
 refine s_store1 wkP F rfl rfl zero115 rfl rfl rfl rfl rfl H 1 rfl (by simp [icells_length, bcells_length, hl1]) ?_; clear H; intro w H
 replace H : St w0 w (HP.row 2 (0) (icells .u32 shaRounds) :: HP.blk bo0 (icells .u32 h.1 ++ ([Value.slice p2 (h.2.1).length c2, Value.int .u64 (IntKind.u64.wrap (h.2.2 + (IntKind.u64.wrap (((b).length : Int)))))])) 135 :: HP.ow rByte 5 p2 c2 h.2.1 :: HP.sl rByte p3 c3 b :: l) := (by have h := H; simp only [List.set_append, icells_length, bcells_length, hl1] at h; simpa using h)
 refine wpList_nil ?_
 refine c_then ?_
 refine wp_seq ?_
 refine r_lit ?_
 refine s_val wkP F rfl rfl rfl rfl (y_move F rfl rfl) ?_; clear F; intro a F
 refine s_val wkP F rfl rfl rfl rfl (y_move F rfl rfl) ?_; clear F; intro a F
 refine s_val wkP F rfl rfl rfl rfl (y_nilCheck F rfl rfl) ?_; clear F; intro a F
 refine s_val wkP F rfl rfl rfl rfl (y_fieldAddr F fld135_1 rfl rfl) ?_; clear F; intro a F
 refine s_val wkP F rfl rfl rfl rfl (y_load1 F plain33 rfl rfl (row_at (v := .slice p2 (h.2.1).length c2) ((H.blk 1 rfl).row) (by simp [List.getElem?_append, icells_length, bcells_length, hl1]))) ?_; clear F; intro a F
 refine s_val wkP F rfl rfl rfl rfl (y_move F rfl rfl) ?_; clear F; intro a F
 obtain ⟨x7, ex7, hn⟩ := ob hm; clear hm; revert hn; intro hm
 refine s_app wkP F rfl rfl rfl rfl rfl rfl elem33 rfl ex7 H 2 3 rfl rfl ?_; clear F H; intro p6 c6 w a H F
 replace H : St w0 w (HP.row 2 (0) (icells .u32 shaRounds) :: HP.blk bo0 (icells .u32 h.1 ++ ([Value.slice p2 (h.2.1).length c2, Value.int .u64 (IntKind.u64.wrap (h.2.2 + (IntKind.u64.wrap (((b).length : Int)))))])) 135 :: HP.ow rByte 5 p6 c6 x7 :: HP.sl rByte p3 c3 b :: l) := H
 refine s_val wkP F rfl rfl rfl rfl (y_nilCheck F rfl rfl) ?_; clear F; intro a F
 refine s_val wkP F rfl rfl rfl rfl (y_fieldAddr F fld135_1 rfl rfl) ?_; clear F; intro a F
 refine s_store1 wkP F rfl rfl zero33 rfl rfl rfl rfl rfl H 1 rfl (by simp [icells_length, bcells_length, hl1]) ?_; clear H; intro w H
 replace H : St w0 w (HP.row 2 (0) (icells .u32 shaRounds) :: HP.blk bo0 (icells .u32 h.1 ++ ([Value.slice p6 (x7).length c6, Value.int .u64 (IntKind.u64.wrap (h.2.2 + (IntKind.u64.wrap (((b).length : Int)))))])) 135 :: HP.ow rByte 5 p6 c6 x7 :: HP.sl rByte p3 c3 b :: l) := (by have h := H; simp only [List.set_append, icells_length, bcells_length, hl1] at h; simpa using h)
 refine wpList_nil ?_
 refine c_then ?_
 obtain ⟨r60, er60, hm60⟩ := ob hm; clear hm; revert er60; intro hm
 refine x_mid (fun aa ww => ∃ (p62 : Option Addr) (c62 : Nat), Fr ⟨52, []⟩ aa [] ∧ ((r60.1).length = 8) ∧ St w0 ww (HP.row 2 (0) (icells .u32 shaRounds) :: HP.blk bo0 (icells .u32 r60.1 ++ ([Value.slice p62 (r60.2).length c62, Value.int .u64 (IntKind.u64.wrap (h.2.2 + (IntKind.u64.wrap (((b).length : Int)))))])) 135 :: HP.sl rByte p62 c62 r60.2 :: l)) ?_ ?_
 · skip
   refine wp_block ?_
   replace H : St w0 w (HP.sl rByte p6 c6 x7 :: HP.row 2 (0) (icells .u32 shaRounds) :: HP.blk bo0 (icells .u32 h.1 ++ ([Value.slice p6 (x7).length c6, Value.int .u64 (IntKind.u64.wrap (h.2.2 + (IntKind.u64.wrap (((b).length : Int)))))])) 135 :: HP.sl rByte p3 c3 b :: l) := H.frz 2 rfl
   refine x_loopO _ (fun (s97 : ((List Int) × (List UInt8))) aa ww => ∃ (p99 : Option Addr) (c99 : Nat), Fr ⟨52, []⟩ aa [(0, .pointer (some ⟨bo0, 0, none⟩))] ∧ ((s97.1).length = 8) ∧ St w0 ww (HP.row 2 (0) (icells .u32 shaRounds) :: HP.blk bo0 (icells .u32 s97.1 ++ ([Value.slice p99 (s97.2).length c99, Value.int .u64 (IntKind.u64.wrap (h.2.2 + (IntKind.u64.wrap (((b).length : Int)))))])) 135 :: HP.sl rByte p99 c99 s97.2 :: l)) hm ⟨p6, c6, F.cut _ ⟨rfl, trivial⟩, hl1, ((((H.cp 0 rfl pers_sl).mv 3 rfl).cp 3 rfl pers_row).keep 3 3)⟩ ?_
   clear F H hm
   rintro s97 a w o ⟨p99, c99, F, hl98, H⟩ hm
   refine wp_seq ?_
   refine wp_seq ?_
   refine r_lit ?_
   refine s_val wkP F rfl rfl rfl rfl (y_move F rfl rfl) ?_; clear F; intro a F
   refine s_val wkP F rfl rfl rfl rfl (y_nilCheck F rfl rfl) ?_; clear F; intro a F
   refine s_val wkP F rfl rfl rfl rfl (y_fieldAddr F fld135_1 rfl rfl) ?_; clear F; intro a F
   refine s_val wkP F rfl rfl rfl rfl (y_load1 F plain33 rfl rfl (row_at (v := .slice p99 (s97.2).length c99) ((H.blk 1 rfl).row) (by simp [List.getElem?_append, icells_length, bcells_length, hl98]))) ?_; clear F; intro a F
   refine s_val wkP F rfl rfl rfl rfl (y_lenS F rfl Tryd.underlying33 rfl) ?_; clear F; intro a F
   refine s_val wkP F rfl rfl rfl rfl (y_geq F rfl rfl rfl) ?_; clear F; intro a F
   refine wpList_nil ?_
   refine c_then ?_
   refine x_condP F rfl (fun hg100 => ?_) (fun hg100 => ?_)
   · replace hm := ifT hg100 hm
     refine wp_skip ?_
     refine c_then ?_
     refine wp_block ?_
     refine wp_seq ?_
     obtain ⟨x108, ex108, hn⟩ := ob hm; clear hm; revert hn; intro hm
     have hc107 := H.slCap 2 rfl
     replace H : St w0 w (HP.sl rByte (shp p99 c99 0 1) (c99 - 0) x108 :: HP.row 2 (0) (icells .u32 shaRounds) :: HP.blk bo0 (icells .u32 s97.1 ++ ([Value.slice p99 (s97.2).length c99, Value.int .u64 (IntKind.u64.wrap (h.2.2 + (IntKind.u64.wrap (((b).length : Int)))))])) 135 :: HP.sl rByte p99 c99 s97.2 :: l) := H.slSub 2 rfl ex108
     obtain ⟨x110, ex110, hn⟩ := ob hm; clear hm; revert hn; intro hm
     obtain ⟨b109, o109, hp109, H⟩ := H.slRowB 0 rfl (arrO_some ex110).2.1
     refine mix_region [12, 15] [15] (.step 0 0 (.step 0 1 (.step 0 2 (.step 0 3 (.step 1 4 (.step 0 5 (.step 0 6 (.step 0 7 (.step 1 8 (.step 0 9 (.step 0 10 (.step 1 11 (.step 2 12 (.step 0 13 (.step 0 14 (.step 3 15 .done)))))))))))))))) (fun u => ∃ ls, St w0 u (ls)) (by kernel_rfl) (by kernel_rfl) ⟨_, H.drew⟩ ?_
     replace H := H.drew
     generalize w.drew = w at H ⊢
     refine m_pure F rfl rfl rfl rfl (fun u hu => y_move F rfl rfl) ?_; clear F; intro a F
     refine m_pure F rfl rfl rfl rfl (fun u hu => y_move F rfl rfl) ?_; clear F; intro a F
     refine m_pure F rfl rfl rfl rfl (fun u hu => y_nilCheck F rfl rfl) ?_; clear F; intro a F
     refine m_pure F rfl rfl rfl rfl (fun u hu => y_fieldAddr F fld135_0 rfl rfl) ?_; clear F; intro a F
     refine m_read F rfl rfl rfl rfl (y_loadA F agg83 rfl rfl (row_mid (A := ([] : List Value)) (X := icells .u32 s97.1) (C := [.slice p99 (s97.2).length c99, .int .u64 (IntKind.u64.wrap (h.2.2 + (IntKind.u64.wrap (((b).length : Int)))))]) (w := _) ((H.blk 3 rfl).row) rfl) ((icells_length _ _).trans hl98)) ?_; clear F; intro a F
     refine m_pure F rfl rfl rfl rfl (fun u hu => y_move F rfl rfl) ?_; clear F; intro a F
     refine m_pure F rfl rfl rfl rfl (fun u hu => y_nilCheck F rfl rfl) ?_; clear F; intro a F
     refine m_pure F rfl rfl rfl rfl (fun u hu => y_fieldAddr F fld135_1 rfl rfl) ?_; clear F; intro a F
     refine m_read F rfl rfl rfl rfl (y_load1 F plain33 rfl rfl (row_at (v := .slice p99 (s97.2).length c99) ((H.blk 3 rfl).row) (by simp [List.getElem?_append, icells_length, bcells_length, hl98]))) ?_; clear F; intro a F
     refine m_pure F rfl rfl rfl rfl (fun u hu => y_slH F elem33 rfl rfl rfl ex108 hc107) ?_; clear F; intro a F
     refine m_pure F rfl rfl rfl rfl (fun u hu => y_s2a F Tryd.underlying137 rfl rfl ex110 hp109) ?_; clear F; intro a F
     refine m_read F rfl rfl rfl rfl (y_loadA F agg137 rfl rfl (H.rowAt 0 rfl) ((bcells_length _).trans (arrO_some ex110).1)) ?_; clear F; intro a F
     refine m_heavy rfl rfl ?_
     obtain ⟨x111, ex111, hn⟩ := ob hm; clear hm; revert hn; intro hm
     refine s_call wkP F rfl rfl rfl rfl (y_call F rfl rfl ent76) (w_mix s97.1 x108 w0 _ _ hl98 (arrO_some ex110).1 _ ex111 (H.cp 2 rfl pers_row)) ?_; clear F H; rintro _ w a ⟨rfl, hl112, H⟩ F
     replace H : St w0 w (HP.row b109 (o109) (bcells x108) :: HP.sl rByte (shp p99 c99 0 1) (c99 - 0) x108 :: HP.row 2 (0) (icells .u32 shaRounds) :: HP.blk bo0 (icells .u32 s97.1 ++ ([Value.slice p99 (s97.2).length c99, Value.int .u64 (IntKind.u64.wrap (h.2.2 + (IntKind.u64.wrap (((b).length : Int)))))])) 135 :: HP.sl rByte p99 c99 s97.2 :: l) := H
     refine wpList_nil ?_; refine c_then ⟨⟨_, H⟩, ?_⟩
     refine m_pure F rfl rfl rfl rfl (fun u hu => y_nilCheck F rfl rfl) ?_; clear F; intro a F
     refine m_pure F rfl rfl rfl rfl (fun u hu => y_fieldAddr F fld135_0 rfl rfl) ?_; clear F; intro a F
     refine m_last rfl rfl ?_
     refine s_storeF wkP F rfl rfl agg83 rfl rfl rfl H 3 rfl (A := ([] : List Value)) (X := icells .u32 s97.1) (C := [.slice p99 (s97.2).length c99, .int .u64 (IntKind.u64.wrap (h.2.2 + (IntKind.u64.wrap (((b).length : Int)))))]) rfl rfl ((icells_length _ _).trans hl98) ((icells_length _ _).trans hl112) (icells_flat _ _) ?_; clear H; intro w H
     replace H : St w0 w (HP.row b109 (o109) (bcells x108) :: HP.sl rByte (shp p99 c99 0 1) (c99 - 0) x108 :: HP.row 2 (0) (icells .u32 shaRounds) :: HP.blk bo0 (icells .u32 x111 ++ ([Value.slice p99 (s97.2).length c99, Value.int .u64 (IntKind.u64.wrap (h.2.2 + (IntKind.u64.wrap (((b).length : Int)))))])) 135 :: HP.sl rByte p99 c99 s97.2 :: l) := H
     refine wpList_nil ?_; refine c_then ?_
     refine m_nil ?_
     refine c_then ?_
     refine r_lit ?_
     refine s_val wkP F rfl rfl rfl rfl (y_move F rfl rfl) ?_; clear F; intro a F
     refine s_val wkP F rfl rfl rfl rfl (y_move F rfl rfl) ?_; clear F; intro a F
     refine s_val wkP F rfl rfl rfl rfl (y_nilCheck F rfl rfl) ?_; clear F; intro a F
     refine s_val wkP F rfl rfl rfl rfl (y_fieldAddr F fld135_1 rfl rfl) ?_; clear F; intro a F
     refine s_val wkP F rfl rfl rfl rfl (y_load1 F plain33 rfl rfl (row_at (v := .slice p99 (s97.2).length c99) ((H.blk 3 rfl).row) (by simp [List.getElem?_append, icells_length, bcells_length, hl112]))) ?_; clear F; intro a F
     obtain ⟨x114, ex114, hn⟩ := ob hm; clear hm; revert hn; intro hm
     have hc113 := H.slCap 4 rfl
     replace H : St w0 w (HP.sl rByte (shp p99 c99 (64 : Int).toNat 1) (c99 - (64 : Int).toNat) x114 :: HP.row b109 (o109) (bcells x108) :: HP.sl rByte (shp p99 c99 0 1) (c99 - 0) x108 :: HP.row 2 (0) (icells .u32 shaRounds) :: HP.blk bo0 (icells .u32 x111 ++ ([Value.slice p99 (s97.2).length c99, Value.int .u64 (IntKind.u64.wrap (h.2.2 + (IntKind.u64.wrap (((b).length : Int)))))])) 135 :: HP.sl rByte p99 c99 s97.2 :: l) := H.slSub 4 rfl ex114
     refine s_val wkP F rfl rfl rfl rfl (y_slL F elem33 rfl rfl rfl ex114 hc113) ?_; clear F; intro a F
     refine s_val wkP F rfl rfl rfl rfl (y_nilCheck F rfl rfl) ?_; clear F; intro a F
     refine s_val wkP F rfl rfl rfl rfl (y_fieldAddr F fld135_1 rfl rfl) ?_; clear F; intro a F
     refine s_store1 wkP F rfl rfl zero33 rfl rfl rfl rfl rfl H 4 rfl (by simp [icells_length, bcells_length, hl112]) ?_; clear H; intro w H
     replace H : St w0 w (HP.sl rByte (shp p99 c99 (64 : Int).toNat 1) (c99 - (64 : Int).toNat) x114 :: HP.row b109 (o109) (bcells x108) :: HP.sl rByte (shp p99 c99 0 1) (c99 - 0) x108 :: HP.row 2 (0) (icells .u32 shaRounds) :: HP.blk bo0 (icells .u32 x111 ++ ([Value.slice (shp p99 c99 (64 : Int).toNat 1) (x114).length (c99 - (64 : Int).toNat), Value.int .u64 (IntKind.u64.wrap (h.2.2 + (IntKind.u64.wrap (((b).length : Int)))))])) 135 :: HP.sl rByte p99 c99 s97.2 :: l) := (by have h := H; simp only [List.set_append, icells_length, bcells_length, hl112] at h; simpa using h)
     refine wpList_nil ?_
     refine c_blkN ?_
     refine c_then ?_; obtain rfl := Option.some.inj hm
     exact ⟨_, rfl, ⟨(shp p99 c99 (64 : Int).toNat 1), (c99 - (64 : Int).toNat), F.cut _ ⟨rfl, trivial⟩, hl112, ((((H.cp 0 rfl pers_sl).mv 5 rfl).cp 5 rfl pers_row).keep 3 5)⟩⟩
   · replace hm := ifF hg100 hm
     refine wp_exit ?_
     refine c_thenX ?_
     refine c_thenX ?_; obtain rfl := Option.some.inj hm; refine ⟨_, rfl, ?_⟩; rintro rfl
     refine c_hit ?_
     refine c_then ?_
     exact ⟨p99, c99, F.cut _ trivial, hl98, ((((H.cp 2 rfl pers_sl).mv 2 rfl).cp 2 rfl pers_row).keep 3 2)⟩
 · skip
   clear F H hm
   rintro a w ⟨p62, c62, F, hl61, H⟩; have hm := hm60; clear hm60
   obtain rfl := Option.some.inj hm
   refine x_end0 F rfl ?_
   exact ⟨_, rfl, p62, c62, rfl, hl61, (((H.cp 2 rfl pers_sl).mv 2 rfl).keep 2 2)⟩
theorem build_135_0_1 : ∀ (s0 : List Int) (h0 : s0.length = 8) (p1 : Option Addr) (x1 : List UInt8) (c1 : Nat), Tryd.prog.built 135 [(0, .agg (icells .u32 s0).toArray), (1, .slice p1 (x1).length c1)] = some ((icells .u32 s0 ++ ([Value.slice p1 (x1).length c1, Value.int .u64 (0)]) : List Value)).toArray := fun s0 h0 p1 x1 c1 => match s0, h0 with | [a0_0, a0_1, a0_2, a0_3, a0_4, a0_5, a0_6, a0_7], _ => by kernel_rfl
theorem agz135 : AggT Tryd.prog 135 10 (icells .u32 (List.replicate 8 0) ++ ([Value.slice none (([] : List UInt8)).length 0, Value.int .u64 (0)])) := ⟨by rw [Tryd.underlying135]; rfl, by kernel_rfl, by kernel_rfl⟩
theorem agg135 : AggT Tryd.prog 135 10 [.int .u32 0, .int .u32 0, .int .u32 0, .int .u32 0, .int .u32 0, .int .u32 0, .int .u32 0, .int .u32 0, .slice none 0 0, .int .u64 0] := ⟨by rw [Tryd.underlying135]; rfl, by kernel_rfl, by kernel_rfl⟩
theorem ent62 : ∀ args w, (callFunc 62 args).run Tryd.prog w = .ok (.enter 62 args) w := enters Tryd.func62 (by kernel_rfl) rfl
set_option maxRecDepth 100000 in
set_option maxHeartbeats 4000000 in
theorem w_shaHSum (h : (List Int) × (List UInt8) × Int) (bo0 : Nat) (p2 : Option Addr) (c2 : Nat) (w0 w : World) (l : List HP) (hl1 : (h.1).length = 8) (r : (List UInt8) × ((List Int) × (List UInt8) × Int)) (hm : shaHSum h = some r) (H : St w0 w (HP.row 2 (0) (icells .u32 shaRounds) :: HP.blk bo0 (icells .u32 h.1 ++ ([Value.slice p2 (h.2.1).length c2, Value.int .u64 (h.2.2)])) 135 :: HP.sl rByte p2 c2 h.2.1 :: l)) :
  Calls Tryd.prog 63 [.pointer (some ⟨bo0, 0, none⟩)].toArray w (fun e w' => ∃ v, e = .returned v ∧ ∃ (p5 : Option Addr) (c5 : Nat), v = .agg (bcells r.1).toArray ∧ ((r.1).length = 32) ∧ ((r.2.1).length = 8) ∧ St w0 w' (HP.blk bo0 (icells .u32 r.2.1 ++ ([Value.slice p5 (r.2.2.1).length c5, Value.int .u64 (r.2.2.2)])) 135 :: HP.sl rByte p5 c5 r.2.2.1 :: l)) := by
 unfold shaHSum at hm
 refine x_enter Tryd.func63 rfl rfl rfl ?_
 intro a F
 replace F : Fr ⟨78, []⟩ a [(0, .pointer (some ⟨bo0, 0, none⟩))] := F
 refine wp_seq ?_
 refine r_lit ?_
 refine s_allocA wkP F rfl rfl rfl agz35 rfl H ?_; clear F H; intro b6 w a H F
 replace H : St w0 w (HP.blk b6 (bcells (List.replicate 32 0)) 35 :: HP.row 2 (0) (icells .u32 shaRounds) :: HP.blk bo0 (icells .u32 h.1 ++ ([Value.slice p2 (h.2.1).length c2, Value.int .u64 (h.2.2)])) 135 :: HP.sl rByte p2 c2 h.2.1 :: l) := H
 refine wpList_nil ?_
 refine c_then ?_
 refine wp_seq ?_
 obtain ⟨r29, er29, hm29⟩ := ob hm; clear hm; revert er29; intro hm
 refine x_mid (fun aa ww => ∃ (b30 : Nat) (p31 : Option Addr) (c31 : Nat), Fr ⟨78, []⟩ aa [(0, .pointer (some ⟨bo0, 0, none⟩)), (2, .pointer (some ⟨b6, 0, none⟩)), (3, .pointer (some ⟨b30, 0, none⟩))] ∧ St w0 ww (HP.blk b6 (bcells (List.replicate 32 0)) 35 :: HP.row 2 (0) (icells .u32 shaRounds) :: HP.blk bo0 (icells .u32 h.1 ++ ([Value.slice p2 (h.2.1).length c2, Value.int .u64 (h.2.2)])) 135 :: HP.sl rByte p2 c2 h.2.1 :: HP.blk b30 (icells .u32 h.1 ++ ([Value.slice p31 (r29).length c31, Value.int .u64 (0)])) 135 :: HP.ow rByte 5 p31 c31 r29 :: l)) ?_ ?_
 · skip
   refine mix_region [4, 9, 11, 12] [12] (.step 0 0 (.step 0 1 (.step 0 2 (.step 0 3 (.step 0 5 (.step 0 6 (.step 0 7 (.step 0 8 (.fork 4 (.fork 9 (.step 0 10 (.step 2 11 (.step 3 12 .done))) 11 (.step 2 9 (.step 0 10 (.step 3 12 .done)))) 11 (.step 2 4 (.step 2 9 (.step 0 10 (.step 3 12 .done))))))))))))) (fun u => ∃ ls, St w0 u (HP.blk bo0 (icells .u32 h.1 ++ ([Value.slice p2 (h.2.1).length c2, Value.int .u64 (h.2.2)])) 135 :: ls)) (by kernel_rfl) (by kernel_rfl) ⟨_, (H.drew.mv 2 rfl)⟩ ?_
   replace H := H.drew
   generalize w.drew = w at H ⊢
   refine m_pure F rfl rfl rfl rfl (fun u hu => y_move F rfl rfl) ?_; clear F; intro a F
   refine m_pure F rfl rfl rfl rfl (fun u hu => y_nilCheck F rfl rfl) ?_; clear F; intro a F
   refine m_pure F rfl rfl rfl rfl (fun u hu => y_fieldAddr F fld135_0 rfl rfl) ?_; clear F; intro a F
   refine m_pure F rfl rfl rfl rfl (fun u hu => y_loadA F agg83 rfl rfl (row_mid (A := ([] : List Value)) (X := icells .u32 h.1) (C := [.slice p2 (h.2.1).length c2, .int .u64 (h.2.2)]) (w := _) ((hu.choose_spec.blk 0 rfl).row) rfl) ((icells_length _ _).trans hl1)) ?_; clear F; intro a F
   refine m_pure F rfl rfl rfl rfl (fun u hu => y_move F rfl rfl) ?_; clear F; intro a F
   refine m_pure F rfl rfl rfl rfl (fun u hu => y_nilCheck F rfl rfl) ?_; clear F; intro a F
   refine m_pure F rfl rfl rfl rfl (fun u hu => y_fieldAddr F fld135_1 rfl rfl) ?_; clear F; intro a F
   refine m_pure F rfl rfl rfl rfl (fun u hu => y_load1 F plain33 rfl rfl (row_at (v := .slice p2 (h.2.1).length c2) ((hu.choose_spec.blk 0 rfl).row) (by simp [List.getElem?_append, icells_length, bcells_length, hl1]))) ?_; clear F; intro a F
   refine m_fork rfl rfl rfl rfl ?_ ?_
   · skip
     refine m_heavy rfl rfl ?_
     refine s_build0O (R := rByte) wkP F rfl rfl rfl elem33 rfl H ?_; clear F H; intro b43 w a H F
     replace H : St w0 w (HP.ow rByte 5 (some ⟨b43, 0, none⟩) 0 ([] : List UInt8) :: HP.blk b6 (bcells (List.replicate 32 0)) 35 :: HP.row 2 (0) (icells .u32 shaRounds) :: HP.blk bo0 (icells .u32 h.1 ++ ([Value.slice p2 (h.2.1).length c2, Value.int .u64 (h.2.2)])) 135 :: HP.sl rByte p2 c2 h.2.1 :: l) := H
     refine wpList_nil ?_; refine c_then ⟨⟨_, (H.mv 3 rfl)⟩, ?_⟩
     refine m_fork rfl rfl rfl rfl ?_ ?_
     · skip
       refine m_heavy rfl rfl ?_
       obtain ⟨x45, ex45, hn⟩ := ob hm; clear hm; revert hn; intro hm
       refine s_app wkP F rfl rfl rfl rfl rfl rfl elem33 rfl ex45 H 0 4 rfl rfl ?_; clear F H; intro p44 c44 w a H F
       replace H : St w0 w (HP.ow rByte 5 p44 c44 x45 :: HP.blk b6 (bcells (List.replicate 32 0)) 35 :: HP.row 2 (0) (icells .u32 shaRounds) :: HP.blk bo0 (icells .u32 h.1 ++ ([Value.slice p2 (h.2.1).length c2, Value.int .u64 (h.2.2)])) 135 :: HP.sl rByte p2 c2 h.2.1 :: l) := H
       refine wpList_nil ?_; refine c_then ⟨⟨_, (H.mv 3 rfl)⟩, ?_⟩
       refine m_pure F rfl rfl rfl rfl (fun u hu => y_build F rfl rfl (cs := icells .u32 h.1 ++ ([Value.slice p44 (x45).length c44, Value.int .u64 (0)])) (build_135_0_1 h.1 hl1 p44 x45 c44)) ?_; clear F; intro a F
       refine m_heavy rfl rfl ?_
       replace H : St w0 w (HP.ow rByte 5 none 0 ([] : List UInt8) :: HP.ow rByte 5 p44 c44 x45 :: HP.blk b6 (bcells (List.replicate 32 0)) 35 :: HP.row 2 (0) (icells .u32 shaRounds) :: HP.blk bo0 (icells .u32 h.1 ++ ([Value.slice p2 (h.2.1).length c2, Value.int .u64 (h.2.2)])) 135 :: HP.sl rByte p2 c2 h.2.1 :: l) := H.owNil rByte 5
       refine s_allocA wkP F rfl rfl rfl agz135 rfl H ?_; clear F H; intro b46 w a H F
       replace H : St w0 w (HP.blk b46 (icells .u32 (List.replicate 8 0) ++ ([Value.slice none (([] : List UInt8)).length 0, Value.int .u64 (0)])) 135 :: HP.ow rByte 5 none 0 ([] : List UInt8) :: HP.ow rByte 5 p44 c44 x45 :: HP.blk b6 (bcells (List.replicate 32 0)) 35 :: HP.row 2 (0) (icells .u32 shaRounds) :: HP.blk bo0 (icells .u32 h.1 ++ ([Value.slice p2 (h.2.1).length c2, Value.int .u64 (h.2.2)])) 135 :: HP.sl rByte p2 c2 h.2.1 :: l) := H
       refine wpList_nil ?_; refine c_then ⟨⟨_, (H.mv 5 rfl)⟩, ?_⟩
       refine m_last rfl rfl ?_
       refine s_storeA wkP F rfl rfl agg135 rfl rfl rfl H 0 rfl (by simp only [List.length_append, List.length_cons, List.length_nil, icells_length, bcells_length, hl1]) (by simp only [List.length_append, List.length_cons, List.length_nil, icells_length, bcells_length, (List.length_replicate (n := 8))]) (by intro v hv; simp only [List.mem_append, List.mem_cons, List.not_mem_nil, or_false] at hv; first | (rcases hv with h | h <;> first | (subst h; rfl) | exact bcells_flat _ _ h | exact icells_flat _ _ _ h | (rcases h with h | h <;> first | (subst h; rfl) | exact bcells_flat _ _ h | exact icells_flat _ _ _ h | (rcases h with h | h <;> first | (subst h; rfl) | exact bcells_flat _ _ h | (rcases h with h | h <;> first | (subst h; rfl) | (rcases h with h | h <;> (subst h; rfl)))))) | (subst hv; rfl)) ?_; clear H; intro w H
       replace H : St w0 w (HP.blk b46 (icells .u32 h.1 ++ ([Value.slice p44 (x45).length c44, Value.int .u64 (0)])) 135 :: HP.ow rByte 5 none 0 ([] : List UInt8) :: HP.ow rByte 5 p44 c44 x45 :: HP.blk b6 (bcells (List.replicate 32 0)) 35 :: HP.row 2 (0) (icells .u32 shaRounds) :: HP.blk bo0 (icells .u32 h.1 ++ ([Value.slice p2 (h.2.1).length c2, Value.int .u64 (h.2.2)])) 135 :: HP.sl rByte p2 c2 h.2.1 :: l) := H
       refine wpList_nil ?_; refine c_then ?_
       refine m_nil ?_
       obtain rfl := Option.some.inj hm
       refine c_then ?_
       exact ⟨b46, p44, c44, F.cut _ ⟨rfl, rfl, rfl, trivial⟩, (((((((H.mv 2 rfl).mv 1 rfl).cp 6 rfl pers_sl).mv 6 rfl).cp 6 rfl pers_row).mv 6 rfl).keep 6 3)⟩
     · skip
       refine m_heavy rfl rfl ?_
       replace H : St w0 w (HP.ow rByte 5 none 0 ([] : List UInt8) :: HP.ow rByte 5 (some ⟨b43, 0, none⟩) 0 ([] : List UInt8) :: HP.blk b6 (bcells (List.replicate 32 0)) 35 :: HP.row 2 (0) (icells .u32 shaRounds) :: HP.blk bo0 (icells .u32 h.1 ++ ([Value.slice p2 (h.2.1).length c2, Value.int .u64 (h.2.2)])) 135 :: HP.sl rByte p2 c2 h.2.1 :: l) := H.owNil rByte 5
       refine s_allocA wkP F rfl rfl rfl agz135 rfl H ?_; clear F H; intro b47 w a H F
       replace H : St w0 w (HP.blk b47 (icells .u32 (List.replicate 8 0) ++ ([Value.slice none (([] : List UInt8)).length 0, Value.int .u64 (0)])) 135 :: HP.ow rByte 5 none 0 ([] : List UInt8) :: HP.ow rByte 5 (some ⟨b43, 0, none⟩) 0 ([] : List UInt8) :: HP.blk b6 (bcells (List.replicate 32 0)) 35 :: HP.row 2 (0) (icells .u32 shaRounds) :: HP.blk bo0 (icells .u32 h.1 ++ ([Value.slice p2 (h.2.1).length c2, Value.int .u64 (h.2.2)])) 135 :: HP.sl rByte p2 c2 h.2.1 :: l) := H
       refine wpList_nil ?_; refine c_then ⟨⟨_, (H.mv 5 rfl)⟩, ?_⟩
       refine m_heavy rfl rfl ?_
       obtain ⟨x49, ex49, hn⟩ := ob hm; clear hm; revert hn; intro hm
       refine s_app wkP F rfl rfl rfl rfl rfl rfl elem33 rfl ex49 H 2 6 rfl rfl ?_; clear F H; intro p48 c48 w a H F
       replace H : St w0 w (HP.blk b47 (icells .u32 (List.replicate 8 0) ++ ([Value.slice none (([] : List UInt8)).length 0, Value.int .u64 (0)])) 135 :: HP.ow rByte 5 none 0 ([] : List UInt8) :: HP.ow rByte 5 p48 c48 x49 :: HP.blk b6 (bcells (List.replicate 32 0)) 35 :: HP.row 2 (0) (icells .u32 shaRounds) :: HP.blk bo0 (icells .u32 h.1 ++ ([Value.slice p2 (h.2.1).length c2, Value.int .u64 (h.2.2)])) 135 :: HP.sl rByte p2 c2 h.2.1 :: l) := H
       refine wpList_nil ?_; refine c_then ⟨⟨_, (H.mv 5 rfl)⟩, ?_⟩
       refine m_pure F rfl rfl rfl rfl (fun u hu => y_build F rfl rfl (cs := icells .u32 h.1 ++ ([Value.slice p48 (x49).length c48, Value.int .u64 (0)])) (build_135_0_1 h.1 hl1 p48 x49 c48)) ?_; clear F; intro a F
       refine m_last rfl rfl ?_
       refine s_storeA wkP F rfl rfl agg135 rfl rfl rfl H 0 rfl (by simp only [List.length_append, List.length_cons, List.length_nil, icells_length, bcells_length, hl1]) (by simp only [List.length_append, List.length_cons, List.length_nil, icells_length, bcells_length, (List.length_replicate (n := 8))]) (by intro v hv; simp only [List.mem_append, List.mem_cons, List.not_mem_nil, or_false] at hv; first | (rcases hv with h | h <;> first | (subst h; rfl) | exact bcells_flat _ _ h | exact icells_flat _ _ _ h | (rcases h with h | h <;> first | (subst h; rfl) | exact bcells_flat _ _ h | exact icells_flat _ _ _ h | (rcases h with h | h <;> first | (subst h; rfl) | exact bcells_flat _ _ h | (rcases h with h | h <;> first | (subst h; rfl) | (rcases h with h | h <;> (subst h; rfl)))))) | (subst hv; rfl)) ?_; clear H; intro w H
       replace H : St w0 w (HP.blk b47 (icells .u32 h.1 ++ ([Value.slice p48 (x49).length c48, Value.int .u64 (0)])) 135 :: HP.ow rByte 5 none 0 ([] : List UInt8) :: HP.ow rByte 5 p48 c48 x49 :: HP.blk b6 (bcells (List.replicate 32 0)) 35 :: HP.row 2 (0) (icells .u32 shaRounds) :: HP.blk bo0 (icells .u32 h.1 ++ ([Value.slice p2 (h.2.1).length c2, Value.int .u64 (h.2.2)])) 135 :: HP.sl rByte p2 c2 h.2.1 :: l) := H
       refine wpList_nil ?_; refine c_then ?_
       refine m_nil ?_
       obtain rfl := Option.some.inj hm
       refine c_then ?_
       exact ⟨b47, p48, c48, F.cut _ ⟨rfl, rfl, rfl, trivial⟩, (((((((H.mv 2 rfl).mv 1 rfl).cp 6 rfl pers_sl).mv 6 rfl).cp 6 rfl pers_row).mv 6 rfl).keep 6 3)⟩
   · skip
     refine m_heavy rfl rfl ?_
     replace H : St w0 w (HP.ow rByte 5 none 0 ([] : List UInt8) :: HP.blk b6 (bcells (List.replicate 32 0)) 35 :: HP.row 2 (0) (icells .u32 shaRounds) :: HP.blk bo0 (icells .u32 h.1 ++ ([Value.slice p2 (h.2.1).length c2, Value.int .u64 (h.2.2)])) 135 :: HP.sl rByte p2 c2 h.2.1 :: l) := H.owNil rByte 5
     refine s_allocA wkP F rfl rfl rfl agz135 rfl H ?_; clear F H; intro b50 w a H F
     replace H : St w0 w (HP.blk b50 (icells .u32 (List.replicate 8 0) ++ ([Value.slice none (([] : List UInt8)).length 0, Value.int .u64 (0)])) 135 :: HP.ow rByte 5 none 0 ([] : List UInt8) :: HP.blk b6 (bcells (List.replicate 32 0)) 35 :: HP.row 2 (0) (icells .u32 shaRounds) :: HP.blk bo0 (icells .u32 h.1 ++ ([Value.slice p2 (h.2.1).length c2, Value.int .u64 (h.2.2)])) 135 :: HP.sl rByte p2 c2 h.2.1 :: l) := H
     refine wpList_nil ?_; refine c_then ⟨⟨_, (H.mv 4 rfl)⟩, ?_⟩
     refine m_heavy rfl rfl ?_
     refine s_build0O (R := rByte) wkP F rfl rfl rfl elem33 rfl H ?_; clear F H; intro b51 w a H F
     replace H : St w0 w (HP.ow rByte 5 (some ⟨b51, 0, none⟩) 0 ([] : List UInt8) :: HP.blk b50 (icells .u32 (List.replicate 8 0) ++ ([Value.slice none (([] : List UInt8)).length 0, Value.int .u64 (0)])) 135 :: HP.ow rByte 5 none 0 ([] : List UInt8) :: HP.blk b6 (bcells (List.replicate 32 0)) 35 :: HP.row 2 (0) (icells .u32 shaRounds) :: HP.blk bo0 (icells .u32 h.1 ++ ([Value.slice p2 (h.2.1).length c2, Value.int .u64 (h.2.2)])) 135 :: HP.sl rByte p2 c2 h.2.1 :: l) := H
     refine wpList_nil ?_; refine c_then ⟨⟨_, (H.mv 5 rfl)⟩, ?_⟩
     refine m_heavy rfl rfl ?_
     obtain ⟨x53, ex53, hn⟩ := ob hm; clear hm; revert hn; intro hm
     refine s_app wkP F rfl rfl rfl rfl rfl rfl elem33 rfl ex53 H 0 6 rfl rfl ?_; clear F H; intro p52 c52 w a H F
     replace H : St w0 w (HP.ow rByte 5 p52 c52 x53 :: HP.blk b50 (icells .u32 (List.replicate 8 0) ++ ([Value.slice none (([] : List UInt8)).length 0, Value.int .u64 (0)])) 135 :: HP.ow rByte 5 none 0 ([] : List UInt8) :: HP.blk b6 (bcells (List.replicate 32 0)) 35 :: HP.row 2 (0) (icells .u32 shaRounds) :: HP.blk bo0 (icells .u32 h.1 ++ ([Value.slice p2 (h.2.1).length c2, Value.int .u64 (h.2.2)])) 135 :: HP.sl rByte p2 c2 h.2.1 :: l) := H
     refine wpList_nil ?_; refine c_then ⟨⟨_, (H.mv 5 rfl)⟩, ?_⟩
     refine m_pure F rfl rfl rfl rfl (fun u hu => y_build F rfl rfl (cs := icells .u32 h.1 ++ ([Value.slice p52 (x53).length c52, Value.int .u64 (0)])) (build_135_0_1 h.1 hl1 p52 x53 c52)) ?_; clear F; intro a F
     refine m_last rfl rfl ?_
     refine s_storeA wkP F rfl rfl agg135 rfl rfl rfl H 1 rfl (by simp only [List.length_append, List.length_cons, List.length_nil, icells_length, bcells_length, hl1]) (by simp only [List.length_append, List.length_cons, List.length_nil, icells_length, bcells_length, (List.length_replicate (n := 8))]) (by intro v hv; simp only [List.mem_append, List.mem_cons, List.not_mem_nil, or_false] at hv; first | (rcases hv with h | h <;> first | (subst h; rfl) | exact bcells_flat _ _ h | exact icells_flat _ _ _ h | (rcases h with h | h <;> first | (subst h; rfl) | exact bcells_flat _ _ h | exact icells_flat _ _ _ h | (rcases h with h | h <;> first | (subst h; rfl) | exact bcells_flat _ _ h | (rcases h with h | h <;> first | (subst h; rfl) | (rcases h with h | h <;> (subst h; rfl)))))) | (subst hv; rfl)) ?_; clear H; intro w H
     replace H : St w0 w (HP.ow rByte 5 p52 c52 x53 :: HP.blk b50 (icells .u32 h.1 ++ ([Value.slice p52 (x53).length c52, Value.int .u64 (0)])) 135 :: HP.ow rByte 5 none 0 ([] : List UInt8) :: HP.blk b6 (bcells (List.replicate 32 0)) 35 :: HP.row 2 (0) (icells .u32 shaRounds) :: HP.blk bo0 (icells .u32 h.1 ++ ([Value.slice p2 (h.2.1).length c2, Value.int .u64 (h.2.2)])) 135 :: HP.sl rByte p2 c2 h.2.1 :: l) := H
     refine wpList_nil ?_; refine c_then ?_
     refine m_nil ?_
     obtain rfl := Option.some.inj hm
     refine c_then ?_
     exact ⟨b50, p52, c52, F.cut _ ⟨rfl, rfl, rfl, trivial⟩, (((((((H.mv 0 rfl).mv 1 rfl).cp 6 rfl pers_sl).mv 6 rfl).cp 6 rfl pers_row).mv 6 rfl).keep 6 3)⟩
 · skip
   clear F H hm
   rintro a w ⟨b30, p31, c31, F, H⟩; have hm := hm29; clear hm29
   refine c_then ?_
   refine wp_seq ?_
   refine r_lit ?_
   obtain ⟨x55, ex55, hn⟩ := ob hm; clear hm; revert hn; intro hm
   refine s_buildC wkP F rfl rfl rfl elem33 zero5 rfl rfl rfl rfl (by simp [Value.cells]) (by decide) H ?_; clear F H; intro b54 w a H F
   replace H : St w0 w (HP.blk b54 ([.int .u8 (128)]) 5 :: HP.blk b6 (bcells (List.replicate 32 0)) 35 :: HP.row 2 (0) (icells .u32 shaRounds) :: HP.blk bo0 (icells .u32 h.1 ++ ([Value.slice p2 (h.2.1).length c2, Value.int .u64 (h.2.2)])) 135 :: HP.sl rByte p2 c2 h.2.1 :: HP.blk b30 (icells .u32 h.1 ++ ([Value.slice p31 (r29).length c31, Value.int .u64 (0)])) 135 :: HP.ow rByte 5 p31 c31 r29 :: l) := H
   replace H : St w0 w (HP.ow rByte 5 (some ⟨b54, 0, none⟩) (([x55]).length) ([x55]) :: HP.blk b6 (bcells (List.replicate 32 0)) 35 :: HP.row 2 (0) (icells .u32 shaRounds) :: HP.blk bo0 (icells .u32 h.1 ++ ([Value.slice p2 (h.2.1).length c2, Value.int .u64 (h.2.2)])) 135 :: HP.sl rByte p2 c2 h.2.1 :: HP.blk b30 (icells .u32 h.1 ++ ([Value.slice p31 (r29).length c31, Value.int .u64 (0)])) 135 :: HP.ow rByte 5 p31 c31 r29 :: l) := H.blkOw (R := rByte) 0 rfl (fun gg => ⟨[[.int .u8 (128)]], rfl, (congrArg (fun z => [Value.int .u8 z]) (u8O_some ex55).symm), trivial⟩) (by simp)
   refine s_val wkP F rfl rfl rfl rfl (y_assign F rfl rfl) ?_; clear F; intro a F
   refine wpList_nil ?_
   refine c_then ?_
   refine wp_seq ?_
   obtain ⟨r78, er78, hm78⟩ := ob hm; clear hm; revert er78; intro hm
   refine x_mid (fun aa ww => ∃ (p79 : Option Addr) (c79 : Nat), Fr ⟨78, []⟩ aa [(0, .pointer (some ⟨bo0, 0, none⟩)), (2, .pointer (some ⟨b6, 0, none⟩)), (3, .pointer (some ⟨b30, 0, none⟩)), (4, .slice p79 (r78).length c79)] ∧ St w0 ww (HP.blk b6 (bcells (List.replicate 32 0)) 35 :: HP.row 2 (0) (icells .u32 shaRounds) :: HP.blk bo0 (icells .u32 h.1 ++ ([Value.slice p2 (h.2.1).length c2, Value.int .u64 (h.2.2)])) 135 :: HP.sl rByte p2 c2 h.2.1 :: HP.blk b30 (icells .u32 h.1 ++ ([Value.slice p31 (r29).length c31, Value.int .u64 (0)])) 135 :: HP.ow rByte 5 p31 c31 r29 :: HP.ow rByte 5 p79 c79 r78 :: l)) ?_ ?_
   · skip
     refine wp_block ?_
     refine x_loopO _ (fun (s94 : (List UInt8)) aa ww => ∃ (p95 : Option Addr) (c95 : Nat), Fr ⟨78, []⟩ aa [(0, .pointer (some ⟨bo0, 0, none⟩)), (2, .pointer (some ⟨b6, 0, none⟩)), (3, .pointer (some ⟨b30, 0, none⟩)), (4, .slice p95 (s94).length c95)] ∧ St w0 ww (HP.blk b6 (bcells (List.replicate 32 0)) 35 :: HP.row 2 (0) (icells .u32 shaRounds) :: HP.blk bo0 (icells .u32 h.1 ++ ([Value.slice p2 (h.2.1).length c2, Value.int .u64 (h.2.2)])) 135 :: HP.sl rByte p2 c2 h.2.1 :: HP.blk b30 (icells .u32 h.1 ++ ([Value.slice p31 (r29).length c31, Value.int .u64 (0)])) 135 :: HP.ow rByte 5 p31 c31 r29 :: HP.ow rByte 5 p95 c95 s94 :: l)) hm ⟨(some ⟨b54, 0, none⟩), ([x55]).length, F.cut _ ⟨rfl, rfl, rfl, rfl, trivial⟩, ((((((((H.mv 0 rfl).mv 6 rfl).mv 6 rfl).cp 6 rfl pers_sl).mv 6 rfl).cp 6 rfl pers_row).mv 6 rfl).keep 7 2)⟩ ?_
     clear F H hm
     rintro s94 a w o ⟨p95, c95, F, H⟩ hm
     refine wp_seq ?_
     refine wp_seq ?_
     refine r_lit ?_
     refine s_val wkP F rfl rfl rfl rfl (y_move F rfl rfl) ?_; clear F; intro a F
     refine s_val wkP F rfl rfl rfl rfl (y_nilCheck F rfl rfl) ?_; clear F; intro a F
     refine s_val wkP F rfl rfl rfl rfl (y_fieldAddr F fld135_1 rfl rfl) ?_; clear F; intro a F
     refine s_val wkP F rfl rfl rfl rfl (y_load1 F plain33 rfl rfl (row_at (v := .slice p2 (h.2.1).length c2) ((H.blk 2 rfl).row) (by simp [List.getElem?_append, icells_length, bcells_length, hl1]))) ?_; clear F; intro a F
     refine s_val wkP F rfl rfl rfl rfl (y_lenS F rfl Tryd.underlying33 rfl) ?_; clear F; intro a F
     refine s_val wkP F rfl rfl rfl rfl (y_move F rfl rfl) ?_; clear F; intro a F
     refine s_val wkP F rfl rfl rfl rfl (y_lenS F rfl Tryd.underlying33 rfl) ?_; clear F; intro a F
     refine s_val wkP F rfl rfl rfl rfl (i_add F rfl rfl rfl) ?_; clear F; intro a F
     refine s_val wkP F rfl rfl rfl rfl (i_add F rfl rfl rfl) ?_; clear F; intro a F
     obtain ⟨x96, ex96, hn⟩ := ob hm; clear hm; revert hn; intro hm
     refine s_val wkP F rfl rfl rfl rfl (i_rem F rfl rfl rfl ex96) ?_; clear F; intro a F
     refine s_val wkP F rfl rfl rfl rfl (y_neq F rfl rfl rfl) ?_; clear F; intro a F
     refine wpList_nil ?_
     refine c_then ?_
     refine x_condN F rfl (fun hg97 => ?_) (fun hg97 => ?_)
     · replace hm := ifF hg97 hm
       refine wp_skip ?_
       refine c_then ?_
       refine wp_block ?_
       refine r_lit ?_
       refine s_val wkP F rfl rfl rfl rfl (y_move F rfl rfl) ?_; clear F; intro a F
       obtain ⟨x99, ex99, hn⟩ := ob hm; clear hm; revert hn; intro hm
       refine s_buildC wkP F rfl rfl rfl elem33 zero5 rfl rfl rfl rfl (by simp [Value.cells]) (by decide) H ?_; clear F H; intro b98 w a H F
       replace H : St w0 w (HP.blk b98 ([.int .u8 (0)]) 5 :: HP.blk b6 (bcells (List.replicate 32 0)) 35 :: HP.row 2 (0) (icells .u32 shaRounds) :: HP.blk bo0 (icells .u32 h.1 ++ ([Value.slice p2 (h.2.1).length c2, Value.int .u64 (h.2.2)])) 135 :: HP.sl rByte p2 c2 h.2.1 :: HP.blk b30 (icells .u32 h.1 ++ ([Value.slice p31 (r29).length c31, Value.int .u64 (0)])) 135 :: HP.ow rByte 5 p31 c31 r29 :: HP.ow rByte 5 p95 c95 s94 :: l) := H
       replace H : St w0 w (HP.ow rByte 5 (some ⟨b98, 0, none⟩) (([x99]).length) ([x99]) :: HP.blk b6 (bcells (List.replicate 32 0)) 35 :: HP.row 2 (0) (icells .u32 shaRounds) :: HP.blk bo0 (icells .u32 h.1 ++ ([Value.slice p2 (h.2.1).length c2, Value.int .u64 (h.2.2)])) 135 :: HP.sl rByte p2 c2 h.2.1 :: HP.blk b30 (icells .u32 h.1 ++ ([Value.slice p31 (r29).length c31, Value.int .u64 (0)])) 135 :: HP.ow rByte 5 p31 c31 r29 :: HP.ow rByte 5 p95 c95 s94 :: l) := H.blkOw (R := rByte) 0 rfl (fun gg => ⟨[[.int .u8 (0)]], rfl, (congrArg (fun z => [Value.int .u8 z]) (u8O_some ex99).symm), trivial⟩) (by simp)
       replace H : St w0 w (HP.sl rByte (some ⟨b98, 0, none⟩) (([x99]).length) ([x99]) :: HP.blk b6 (bcells (List.replicate 32 0)) 35 :: HP.row 2 (0) (icells .u32 shaRounds) :: HP.blk bo0 (icells .u32 h.1 ++ ([Value.slice p2 (h.2.1).length c2, Value.int .u64 (h.2.2)])) 135 :: HP.sl rByte p2 c2 h.2.1 :: HP.blk b30 (icells .u32 h.1 ++ ([Value.slice p31 (r29).length c31, Value.int .u64 (0)])) 135 :: HP.ow rByte 5 p31 c31 r29 :: HP.ow rByte 5 p95 c95 s94 :: l) := H.frz 0 rfl
       obtain ⟨x101, ex101, hn⟩ := ob hm; clear hm; revert hn; intro hm
       refine s_app wkP F rfl rfl rfl rfl rfl rfl elem33 rfl ex101 H 7 0 rfl rfl ?_; clear F H; intro p100 c100 w a H F
       replace H : St w0 w (HP.sl rByte (some ⟨b98, 0, none⟩) (([x99]).length) ([x99]) :: HP.blk b6 (bcells (List.replicate 32 0)) 35 :: HP.row 2 (0) (icells .u32 shaRounds) :: HP.blk bo0 (icells .u32 h.1 ++ ([Value.slice p2 (h.2.1).length c2, Value.int .u64 (h.2.2)])) 135 :: HP.sl rByte p2 c2 h.2.1 :: HP.blk b30 (icells .u32 h.1 ++ ([Value.slice p31 (r29).length c31, Value.int .u64 (0)])) 135 :: HP.ow rByte 5 p31 c31 r29 :: HP.ow rByte 5 p100 c100 x101 :: l) := H
       refine s_val wkP F rfl rfl rfl rfl (y_assign F rfl rfl) ?_; clear F; intro a F
       refine wpList_nil ?_
       refine c_blkN ?_
       refine c_then ?_; obtain rfl := Option.some.inj hm
       exact ⟨_, rfl, ⟨p100, c100, F.cut _ ⟨rfl, rfl, rfl, rfl, trivial⟩, ((((((((H.mv 7 rfl).mv 7 rfl).mv 7 rfl).cp 7 rfl pers_sl).mv 7 rfl).cp 7 rfl pers_row).mv 7 rfl).keep 7 3)⟩⟩
     · replace hm := ifT hg97 hm
       refine wp_exit ?_
       refine c_thenX ?_
       refine c_thenX ?_; obtain rfl := Option.some.inj hm; refine ⟨_, rfl, ?_⟩; rintro rfl
       refine c_hit ?_
       refine c_then ?_
       exact ⟨p95, c95, F.cut _ ⟨rfl, rfl, rfl, rfl, trivial⟩, ((((((((H.mv 6 rfl).mv 6 rfl).mv 6 rfl).cp 6 rfl pers_sl).mv 6 rfl).cp 6 rfl pers_row).mv 6 rfl).keep 7 2)⟩
   · skip
     clear F H hm
     rintro a w ⟨p79, c79, F, H⟩; have hm := hm78; clear hm78
     refine c_then ?_
     refine wp_seq ?_
     refine r_lit ?_
     refine s_val wkP F rfl rfl rfl rfl (y_move F rfl rfl) ?_; clear F; intro a F
     refine s_val wkP F rfl rfl rfl rfl (y_nilCheck F rfl rfl) ?_; clear F; intro a F
     refine s_val wkP F rfl rfl rfl rfl (y_fieldAddr F fld135_2 rfl rfl) ?_; clear F; intro a F
     refine s_val wkP F rfl rfl rfl rfl (y_load1 F plain115 rfl rfl (row_at (v := .int .u64 (h.2.2)) ((H.blk 2 rfl).row) (by simp [List.getElem?_append, icells_length, bcells_length, hl1]))) ?_; clear F; intro a F
     refine s_val wkP F rfl rfl rfl rfl (i_mul F rfl rfl rfl) ?_; clear F; intro a F
     refine s_val wkP F rfl rfl rfl rfl (y_assign F rfl rfl) ?_; clear F; intro a F
     refine wpList_nil ?_
     refine c_then ?_
     refine wp_seq ?_
     refine wp_seq ?_
     refine r_lit ?_
     refine s_val wkP F rfl rfl rfl rfl (y_assign F rfl rfl) ?_; clear F; intro a F
     refine wpList_nil ?_
     refine c_then ?_
     obtain ⟨r124, er124, hm124⟩ := ob hm; clear hm; revert er124; intro hm
     refine x_mid (fun aa ww => ∃ (p125 : Option Addr) (c125 : Nat), Fr ⟨78, []⟩ aa [(2, .pointer (some ⟨b6, 0, none⟩)), (3, .pointer (some ⟨b30, 0, none⟩)), (4, .slice p125 (r124).length c125)] ∧ St w0 ww (HP.blk b6 (bcells (List.replicate 32 0)) 35 :: HP.row 2 (0) (icells .u32 shaRounds) :: HP.blk bo0 (icells .u32 h.1 ++ ([Value.slice p2 (h.2.1).length c2, Value.int .u64 (h.2.2)])) 135 :: HP.sl rByte p2 c2 h.2.1 :: HP.blk b30 (icells .u32 h.1 ++ ([Value.slice p31 (r29).length c31, Value.int .u64 (0)])) 135 :: HP.ow rByte 5 p31 c31 r29 :: HP.ow rByte 5 p125 c125 r124 :: l)) ?_ ?_
     · skip
       refine wp_block ?_
       refine x_loopO _ (fun (s140 : (List UInt8) × Int) aa ww => ∃ (p141 : Option Addr) (c141 : Nat), Fr ⟨78, []⟩ aa [(2, .pointer (some ⟨b6, 0, none⟩)), (3, .pointer (some ⟨b30, 0, none⟩)), (4, .slice p141 (s140.1).length c141), (5, .int .u64 (IntKind.u64.wrap (h.2.2 * 8))), (6, .int .i64 (s140.2))] ∧ St w0 ww (HP.blk b6 (bcells (List.replicate 32 0)) 35 :: HP.row 2 (0) (icells .u32 shaRounds) :: HP.blk bo0 (icells .u32 h.1 ++ ([Value.slice p2 (h.2.1).length c2, Value.int .u64 (h.2.2)])) 135 :: HP.sl rByte p2 c2 h.2.1 :: HP.blk b30 (icells .u32 h.1 ++ ([Value.slice p31 (r29).length c31, Value.int .u64 (0)])) 135 :: HP.ow rByte 5 p31 c31 r29 :: HP.ow rByte 5 p141 c141 s140.1 :: l)) hm ⟨p79, c79, F.cut _ ⟨rfl, rfl, rfl, rfl, rfl, trivial⟩, ((((((((H.mv 6 rfl).mv 6 rfl).mv 6 rfl).cp 6 rfl pers_sl).mv 6 rfl).cp 6 rfl pers_row).mv 6 rfl).keep 7 2)⟩ ?_
       clear F H hm
       rintro s140 a w o ⟨p141, c141, F, H⟩ hm
       refine wp_seq ?_
       refine wp_seq ?_
       refine r_lit ?_
       refine s_val wkP F rfl rfl rfl rfl (y_move F rfl rfl) ?_; clear F; intro a F
       refine s_val wkP F rfl rfl rfl rfl (y_geq F rfl rfl rfl) ?_; clear F; intro a F
       refine wpList_nil ?_
       refine c_then ?_
       refine x_condP F rfl (fun hg142 => ?_) (fun hg142 => ?_)
       · replace hm := ifT hg142 hm
         refine wp_skip ?_
         refine c_then ?_
         refine wp_seq ?_
         refine wp_block ?_
         refine r_lit ?_
         refine s_val wkP F rfl rfl rfl rfl (y_move F rfl rfl) ?_; clear F; intro a F
         refine s_val wkP F rfl rfl rfl rfl (y_move F rfl rfl) ?_; clear F; intro a F
         refine s_val wkP F rfl rfl rfl rfl (y_move F rfl rfl) ?_; clear F; intro a F
         refine s_val wkP F rfl rfl rfl rfl (i_mul F rfl rfl rfl) ?_; clear F; intro a F
         obtain ⟨x143, ex143, hn⟩ := ob hm; clear hm; revert hn; intro hm
         refine s_val wkP F rfl rfl rfl rfl (i_shrO F rfl rfl rfl ex143) ?_; clear F; intro a F
         refine s_val wkP F rfl rfl rfl rfl (i_conv F Tryd.underlying115 Tryd.underlying5 rfl rfl) ?_; clear F; intro a F
         obtain ⟨x145, ex145, hn⟩ := ob hm; clear hm; revert hn; intro hm
         refine s_buildC wkP F rfl rfl rfl elem33 zero5 rfl rfl rfl rfl (by simp [Value.cells]) (by decide) H ?_; clear F H; intro b144 w a H F
         replace H : St w0 w (HP.blk b144 ([.int .u8 (IntKind.u8.wrap (x143))]) 5 :: HP.blk b6 (bcells (List.replicate 32 0)) 35 :: HP.row 2 (0) (icells .u32 shaRounds) :: HP.blk bo0 (icells .u32 h.1 ++ ([Value.slice p2 (h.2.1).length c2, Value.int .u64 (h.2.2)])) 135 :: HP.sl rByte p2 c2 h.2.1 :: HP.blk b30 (icells .u32 h.1 ++ ([Value.slice p31 (r29).length c31, Value.int .u64 (0)])) 135 :: HP.ow rByte 5 p31 c31 r29 :: HP.ow rByte 5 p141 c141 s140.1 :: l) := H
         replace H : St w0 w (HP.ow rByte 5 (some ⟨b144, 0, none⟩) (([x145]).length) ([x145]) :: HP.blk b6 (bcells (List.replicate 32 0)) 35 :: HP.row 2 (0) (icells .u32 shaRounds) :: HP.blk bo0 (icells .u32 h.1 ++ ([Value.slice p2 (h.2.1).length c2, Value.int .u64 (h.2.2)])) 135 :: HP.sl rByte p2 c2 h.2.1 :: HP.blk b30 (icells .u32 h.1 ++ ([Value.slice p31 (r29).length c31, Value.int .u64 (0)])) 135 :: HP.ow rByte 5 p31 c31 r29 :: HP.ow rByte 5 p141 c141 s140.1 :: l) := H.blkOw (R := rByte) 0 rfl (fun gg => ⟨[[.int .u8 (IntKind.u8.wrap (x143))]], rfl, (congrArg (fun z => [Value.int .u8 z]) (u8O_some ex145).symm), trivial⟩) (by simp)
         replace H : St w0 w (HP.sl rByte (some ⟨b144, 0, none⟩) (([x145]).length) ([x145]) :: HP.blk b6 (bcells (List.replicate 32 0)) 35 :: HP.row 2 (0) (icells .u32 shaRounds) :: HP.blk bo0 (icells .u32 h.1 ++ ([Value.slice p2 (h.2.1).length c2, Value.int .u64 (h.2.2)])) 135 :: HP.sl rByte p2 c2 h.2.1 :: HP.blk b30 (icells .u32 h.1 ++ ([Value.slice p31 (r29).length c31, Value.int .u64 (0)])) 135 :: HP.ow rByte 5 p31 c31 r29 :: HP.ow rByte 5 p141 c141 s140.1 :: l) := H.frz 0 rfl
         obtain ⟨x147, ex147, hn⟩ := ob hm; clear hm; revert hn; intro hm
         refine s_app wkP F rfl rfl rfl rfl rfl rfl elem33 rfl ex147 H 7 0 rfl rfl ?_; clear F H; intro p146 c146 w a H F
         replace H : St w0 w (HP.sl rByte (some ⟨b144, 0, none⟩) (([x145]).length) ([x145]) :: HP.blk b6 (bcells (List.replicate 32 0)) 35 :: HP.row 2 (0) (icells .u32 shaRounds) :: HP.blk bo0 (icells .u32 h.1 ++ ([Value.slice p2 (h.2.1).length c2, Value.int .u64 (h.2.2)])) 135 :: HP.sl rByte p2 c2 h.2.1 :: HP.blk b30 (icells .u32 h.1 ++ ([Value.slice p31 (r29).length c31, Value.int .u64 (0)])) 135 :: HP.ow rByte 5 p31 c31 r29 :: HP.ow rByte 5 p146 c146 x147 :: l) := H
         refine s_val wkP F rfl rfl rfl rfl (y_assign F rfl rfl) ?_; clear F; intro a F
         refine wpList_nil ?_
         refine c_blkN ?_
         refine c_then ?_
         refine r_lit ?_
         refine s_val wkP F rfl rfl rfl rfl (y_move F rfl rfl) ?_; clear F; intro a F
         refine s_val wkP F rfl rfl rfl rfl (i_sub F rfl rfl rfl) ?_; clear F; intro a F
         refine s_val wkP F rfl rfl rfl rfl (y_assign F rfl rfl) ?_; clear F; intro a F
         refine wpList_nil ?_
         refine c_then ?_; obtain rfl := Option.some.inj hm
         exact ⟨_, rfl, ⟨p146, c146, F.cut _ ⟨rfl, rfl, rfl, rfl, rfl, trivial⟩, ((((((((H.mv 7 rfl).mv 7 rfl).mv 7 rfl).cp 7 rfl pers_sl).mv 7 rfl).cp 7 rfl pers_row).mv 7 rfl).keep 7 3)⟩⟩
       · replace hm := ifF hg142 hm
         refine wp_exit ?_
         refine c_thenX ?_
         refine c_thenX ?_; obtain rfl := Option.some.inj hm; refine ⟨_, rfl, ?_⟩; rintro rfl
         refine c_hit ?_
         refine c_then ?_
         exact ⟨p141, c141, F.cut _ ⟨rfl, rfl, rfl, trivial⟩, ((((((((H.mv 6 rfl).mv 6 rfl).mv 6 rfl).cp 6 rfl pers_sl).mv 6 rfl).cp 6 rfl pers_row).mv 6 rfl).keep 7 2)⟩
     · skip
       clear F H hm
       rintro a w ⟨p125, c125, F, H⟩; have hm := hm124; clear hm124
       refine c_then ?_
       refine wp_seq ?_
       refine r_lit ?_
       refine s_val wkP F rfl rfl rfl rfl (y_move F rfl rfl) ?_; clear F; intro a F
       replace H : St w0 w (HP.sl rByte p125 c125 r124 :: HP.blk b6 (bcells (List.replicate 32 0)) 35 :: HP.row 2 (0) (icells .u32 shaRounds) :: HP.blk bo0 (icells .u32 h.1 ++ ([Value.slice p2 (h.2.1).length c2, Value.int .u64 (h.2.2)])) 135 :: HP.sl rByte p2 c2 h.2.1 :: HP.blk b30 (icells .u32 h.1 ++ ([Value.slice p31 (r29).length c31, Value.int .u64 (0)])) 135 :: HP.ow rByte 5 p31 c31 r29 :: l) := H.frz 6 rfl
       obtain ⟨x148, ex148, hn⟩ := ob hm; clear hm; revert hn; intro hm
       refine s_call wkP F rfl rfl rfl rfl (y_call F rfl rfl ent62) (w_shaAdd (h.1, r29, 0) r124 b30 p31 c31 p125 c125 w0 _ _ hl1 _ ex148 ((((H.cp 0 rfl pers_sl).mv 7 rfl).mv 7 rfl).cp 5 rfl pers_row)) ?_; clear F H; rintro _ w a ⟨p150, c150, rfl, hl149, H⟩ F
       replace H : St w0 w (HP.blk b30 (icells .u32 x148.1 ++ ([Value.slice p150 (x148.2.1).length c150, Value.int .u64 (x148.2.2)])) 135 :: HP.sl rByte p150 c150 x148.2.1 :: HP.sl rByte p125 c125 r124 :: HP.blk b6 (bcells (List.replicate 32 0)) 35 :: HP.row 2 (0) (icells .u32 shaRounds) :: HP.blk bo0 (icells .u32 h.1 ++ ([Value.slice p2 (h.2.1).length c2, Value.int .u64 (h.2.2)])) 135 :: HP.sl rByte p2 c2 h.2.1 :: l) := H
       refine wpList_nil ?_
       refine c_then ?_
       refine wp_seq ?_
       refine wp_seq ?_
       refine r_lit ?_
       refine s_val wkP F rfl rfl rfl rfl (y_fieldAddr F fld135_0 rfl rfl) ?_; clear F; intro a F
       refine s_val wkP F rfl rfl rfl rfl (y_loadA F agg83 rfl rfl (row_mid (A := ([] : List Value)) (X := icells .u32 x148.1) (C := [.slice p150 (x148.2.1).length c150, .int .u64 (x148.2.2)]) (w := _) ((H.blk 0 rfl).row) rfl) ((icells_length _ _).trans hl149)) ?_; clear F; intro a F
       refine s_val wkP F rfl rfl rfl rfl (y_move F rfl rfl) ?_; clear F; intro a F
       refine wpList_nil ?_
       refine c_then ?_
       obtain ⟨r281, er281, hm281⟩ := ob hm; clear hm; revert er281; intro hm
       refine x_mid (fun aa ww => Fr ⟨78, []⟩ aa [(2, .pointer (some ⟨b6, 0, none⟩))] ∧ ((r281).length = 32) ∧ St w0 ww (HP.blk b30 (icells .u32 x148.1 ++ ([Value.slice p150 (x148.2.1).length c150, Value.int .u64 (x148.2.2)])) 135 :: HP.sl rByte p150 c150 x148.2.1 :: HP.blk b6 (bcells r281) 35 :: HP.row 2 (0) (icells .u32 shaRounds) :: HP.blk bo0 (icells .u32 h.1 ++ ([Value.slice p2 (h.2.1).length c2, Value.int .u64 (h.2.2)])) 135 :: HP.sl rByte p2 c2 h.2.1 :: l)) ?_ ?_
       · skip
         refine wp_block ?_
         refine x_loopO _ (fun (s369 : (List UInt8) × Int) aa ww => Fr ⟨78, []⟩ aa [(2, .pointer (some ⟨b6, 0, none⟩)), (56, .agg (icells .u32 x148.1).toArray), (57, .int .i64 (s369.2))] ∧ ((s369.1).length = 32) ∧ St w0 ww (HP.blk b30 (icells .u32 x148.1 ++ ([Value.slice p150 (x148.2.1).length c150, Value.int .u64 (x148.2.2)])) 135 :: HP.sl rByte p150 c150 x148.2.1 :: HP.blk b6 (bcells s369.1) 35 :: HP.row 2 (0) (icells .u32 shaRounds) :: HP.blk bo0 (icells .u32 h.1 ++ ([Value.slice p2 (h.2.1).length c2, Value.int .u64 (h.2.2)])) 135 :: HP.sl rByte p2 c2 h.2.1 :: l)) hm ⟨F.cut _ ⟨rfl, rfl, rfl, trivial⟩, (List.length_replicate (n := 32)), (((((((H.cp 6 rfl pers_sl).mv 6 rfl).cp 6 rfl pers_row).mv 6 rfl).cp 5 rfl pers_sl).mv 5 rfl).keep 6 4)⟩ ?_
         clear F H hm
         rintro s369 a w o ⟨F, hl370, H⟩ hm
         refine wp_seq ?_
         refine r_lit ?_
         refine s_val wkP F rfl rfl rfl rfl (y_lss F rfl rfl rfl) ?_; clear F; intro a F
         refine wpList_nil ?_
         refine c_then ?_
         refine wp_seq ?_
         refine x_condP F rfl (fun hg371 => ?_) (fun hg371 => ?_)
         · replace hm := ifT hg371 hm
           refine wp_skip ?_
           refine c_then ?_
           refine wp_seq ?_
           refine wp_block ?_
           refine wp_seq ?_
           refine r_lit ?_
           refine s_val wkP F rfl rfl rfl rfl (y_move F rfl rfl) ?_; clear F; intro a F
           obtain ⟨x372, ex372, hn⟩ := ob hm; clear hm; revert hn; intro hm
           refine s_val wkP F rfl rfl rfl rfl (y_idxV F arr83 plain80 rfl rfl rfl (icells_idx ex372) ((icells_length _ _).trans hl149)) ?_; clear F; intro a F
           refine s_val wkP F rfl rfl rfl rfl (y_assign F rfl rfl) ?_; clear F; intro a F
           refine s_val wkP F rfl rfl rfl rfl (y_assign F rfl rfl) ?_; clear F; intro a F
           refine wpList_nil ?_
           refine c_then ?_
           refine wp_seq ?_
           refine r_lit ?_
           refine s_val wkP F rfl rfl rfl rfl (y_move F rfl rfl) ?_; clear F; intro a F
           refine wpList_nil ?_
           refine c_then ?_
           obtain ⟨r392, er392, hm392⟩ := ob hm; clear hm; revert er392; intro hm
           refine x_mid (fun aa ww => Fr ⟨78, []⟩ aa [(2, .pointer (some ⟨b6, 0, none⟩)), (56, .agg (icells .u32 x148.1).toArray), (57, .int .i64 (s369.2))] ∧ ((r392).length = 32) ∧ St w0 ww (HP.blk b30 (icells .u32 x148.1 ++ ([Value.slice p150 (x148.2.1).length c150, Value.int .u64 (x148.2.2)])) 135 :: HP.sl rByte p150 c150 x148.2.1 :: HP.blk b6 (bcells r392) 35 :: HP.row 2 (0) (icells .u32 shaRounds) :: HP.blk bo0 (icells .u32 h.1 ++ ([Value.slice p2 (h.2.1).length c2, Value.int .u64 (h.2.2)])) 135 :: HP.sl rByte p2 c2 h.2.1 :: l)) ?_ ?_
           · skip
             refine wp_block ?_
             refine x_loopO _ (fun (s406 : (List UInt8) × Int) aa ww => Fr ⟨78, []⟩ aa [(2, .pointer (some ⟨b6, 0, none⟩)), (7, .int .i64 (s369.2)), (8, .int .u32 (x372)), (56, .agg (icells .u32 x148.1).toArray), (57, .int .i64 (s369.2)), (61, .int .i64 (s406.2))] ∧ ((s406.1).length = 32) ∧ St w0 ww (HP.blk b30 (icells .u32 x148.1 ++ ([Value.slice p150 (x148.2.1).length c150, Value.int .u64 (x148.2.2)])) 135 :: HP.sl rByte p150 c150 x148.2.1 :: HP.blk b6 (bcells s406.1) 35 :: HP.row 2 (0) (icells .u32 shaRounds) :: HP.blk bo0 (icells .u32 h.1 ++ ([Value.slice p2 (h.2.1).length c2, Value.int .u64 (h.2.2)])) 135 :: HP.sl rByte p2 c2 h.2.1 :: l)) hm ⟨F.cut _ ⟨rfl, rfl, rfl, rfl, rfl, rfl, trivial⟩, hl370, (((((((H.cp 5 rfl pers_sl).mv 5 rfl).cp 5 rfl pers_row).mv 5 rfl).cp 5 rfl pers_sl).mv 5 rfl).keep 6 3)⟩ ?_
             clear F H hm
             rintro s406 a w o ⟨F, hl407, H⟩ hm
             refine wp_seq ?_
             refine r_lit ?_
             refine s_val wkP F rfl rfl rfl rfl (y_lss F rfl rfl rfl) ?_; clear F; intro a F
             refine wpList_nil ?_
             refine c_then ?_
             refine wp_seq ?_
             refine x_condP F rfl (fun hg408 => ?_) (fun hg408 => ?_)
             · replace hm := ifT hg408 hm
               refine wp_skip ?_
               refine c_then ?_
               refine wp_seq ?_
               refine wp_block ?_
               refine wp_seq ?_
               refine r_lit ?_
               refine s_val wkP F rfl rfl rfl rfl (y_move F rfl rfl) ?_; clear F; intro a F
               refine s_val wkP F rfl rfl rfl rfl (y_assign F rfl rfl) ?_; clear F; intro a F
               refine wpList_nil ?_
               refine c_then ?_
               refine r_lit ?_
               refine s_val wkP F rfl rfl rfl rfl (y_move F rfl rfl) ?_; clear F; intro a F
               refine s_val wkP F rfl rfl rfl rfl (i_mul F rfl rfl rfl) ?_; clear F; intro a F
               refine s_val wkP F rfl rfl rfl rfl (y_move F rfl rfl) ?_; clear F; intro a F
               refine s_val wkP F rfl rfl rfl rfl (i_add F rfl rfl rfl) ?_; clear F; intro a F
               refine s_val wkP F rfl rfl rfl rfl (y_move F rfl rfl) ?_; clear F; intro a F
               refine s_val wkP F rfl rfl rfl rfl (y_move F rfl rfl) ?_; clear F; intro a F
               refine s_val wkP F rfl rfl rfl rfl (i_sub F rfl rfl rfl) ?_; clear F; intro a F
               refine s_val wkP F rfl rfl rfl rfl (i_mul F rfl rfl rfl) ?_; clear F; intro a F
               obtain ⟨x409, ex409, hn⟩ := ob hm; clear hm; revert hn; intro hm
               refine s_val wkP F rfl rfl rfl rfl (i_shrO F rfl rfl rfl ex409) ?_; clear F; intro a F
               refine s_val wkP F rfl rfl rfl rfl (i_conv F Tryd.underlying80 Tryd.underlying5 rfl rfl) ?_; clear F; intro a F
               obtain ⟨x410, ex410, hn⟩ := ob hm; clear hm; revert hn; intro hm
               refine s_val wkP F rfl rfl rfl rfl (y_idxA F arr35 rfl rfl rfl ex410 hl407) ?_; clear F; intro a F
               obtain ⟨x412, ex412, hn⟩ := ob hm; clear hm; revert hn; intro hm
               refine s_store1 wkP F rfl rfl zero5 rfl rfl rfl rfl rfl H 2 rfl (by have := (idxO_some ex410).1; have := (List.getElem?_eq_some_iff.1 (idxO_some ex410).2).1; simp [icells_length, bcells_length] at *; omega) ?_; clear H; intro w H
               replace H : St w0 w (HP.blk b30 (icells .u32 x148.1 ++ ([Value.slice p150 (x148.2.1).length c150, Value.int .u64 (x148.2.2)])) 135 :: HP.sl rByte p150 c150 x148.2.1 :: HP.blk b6 (bcells ((s406.1).set (IntKind.i64.wrap ((IntKind.i64.wrap (4 * s369.2)) + s406.2) : Int).toNat x412)) 35 :: HP.row 2 (0) (icells .u32 shaRounds) :: HP.blk bo0 (icells .u32 h.1 ++ ([Value.slice p2 (h.2.1).length c2, Value.int .u64 (h.2.2)])) 135 :: HP.sl rByte p2 c2 h.2.1 :: l) := (by have h := H; rw [bcells_setI (h := ex412)] at h; exact h)
               refine wpList_nil ?_
               refine c_blkN ?_
               refine c_then ?_
               refine r_lit ?_
               refine s_val wkP F rfl rfl rfl rfl (i_add F rfl rfl rfl) ?_; clear F; intro a F
               refine s_val wkP F rfl rfl rfl rfl (y_move F rfl rfl) ?_; clear F; intro a F
               refine wpList_nil ?_
               refine c_then ?_; obtain rfl := Option.some.inj hm
               exact ⟨_, rfl, ⟨F.cut _ ⟨rfl, rfl, rfl, rfl, rfl, rfl, trivial⟩, ((List.length_set ..).trans hl407), (((((((H.cp 5 rfl pers_sl).mv 5 rfl).cp 5 rfl pers_row).mv 5 rfl).cp 5 rfl pers_sl).mv 5 rfl).keep 6 3)⟩⟩
             · replace hm := ifF hg408 hm
               refine wp_exit ?_
               refine c_thenX ?_
               refine c_thenX ?_; obtain rfl := Option.some.inj hm; refine ⟨_, rfl, ?_⟩; rintro rfl
               refine c_hit ?_
               refine c_then ?_
               exact ⟨F.cut _ ⟨rfl, rfl, rfl, trivial⟩, hl407, (((((((H.cp 5 rfl pers_sl).mv 5 rfl).cp 5 rfl pers_row).mv 5 rfl).cp 5 rfl pers_sl).mv 5 rfl).keep 6 3)⟩
           · skip
             clear F H hm
             rintro a w ⟨F, hl393, H⟩; have hm := hm392; clear hm392
             refine c_blkN ?_
             refine c_then ?_
             refine r_lit ?_
             refine s_val wkP F rfl rfl rfl rfl (i_add F rfl rfl rfl) ?_; clear F; intro a F
             refine s_val wkP F rfl rfl rfl rfl (y_move F rfl rfl) ?_; clear F; intro a F
             refine wpList_nil ?_
             refine c_then ?_; obtain rfl := Option.some.inj hm
             exact ⟨_, rfl, ⟨F.cut _ ⟨rfl, rfl, rfl, trivial⟩, hl393, (((((((H.cp 5 rfl pers_sl).mv 5 rfl).cp 5 rfl pers_row).mv 5 rfl).cp 5 rfl pers_sl).mv 5 rfl).keep 6 3)⟩⟩
         · replace hm := ifF hg371 hm
           refine wp_exit ?_
           refine c_thenX ?_
           refine c_thenX ?_; obtain rfl := Option.some.inj hm; refine ⟨_, rfl, ?_⟩; rintro rfl
           refine c_hit ?_
           refine c_then ?_
           exact ⟨F.cut _ ⟨rfl, trivial⟩, hl370, (((((((H.cp 5 rfl pers_sl).mv 5 rfl).cp 5 rfl pers_row).mv 5 rfl).cp 5 rfl pers_sl).mv 5 rfl).keep 6 3)⟩
       · skip
         clear F H hm
         rintro a w ⟨F, hl282, H⟩; have hm := hm281; clear hm281
         refine c_then ?_
         refine wp_seq ?_
         refine r_lit ?_
         refine s_val wkP F rfl rfl rfl rfl (y_loadA F agg35 rfl rfl ((H.blk 2 rfl).row) ((bcells_length _).trans hl282)) ?_; clear F; intro a F
         refine s_storeA wkP F rfl rfl agg35 rfl rfl rfl H 2 rfl ((bcells_length _).trans hl282) ((bcells_length _).trans hl282) (bcells_flat _) ?_; clear H; intro w H
         replace H : St w0 w (HP.blk b30 (icells .u32 x148.1 ++ ([Value.slice p150 (x148.2.1).length c150, Value.int .u64 (x148.2.2)])) 135 :: HP.sl rByte p150 c150 x148.2.1 :: HP.blk b6 (bcells r281) 35 :: HP.row 2 (0) (icells .u32 shaRounds) :: HP.blk bo0 (icells .u32 h.1 ++ ([Value.slice p2 (h.2.1).length c2, Value.int .u64 (h.2.2)])) 135 :: HP.sl rByte p2 c2 h.2.1 :: l) := H
         refine wpList_nil ?_
         refine c_then ?_
         refine wp_ret ?_
         obtain rfl := Option.some.inj hm
         refine x_resC1 F rfl (⟨_, rfl, agg35.run_load (H.blk 2 rfl).row ((bcells_length _).trans hl282)⟩) ?_
         exact ⟨_, rfl, p2, c2, rfl, hl282, hl1, (((H.cp 5 rfl pers_sl).mv 5 rfl).keep 2 5)⟩
theorem ent61 : ∀ args w, (callFunc 61 args).run Tryd.prog w = .ok (.enter 61 args) w := enters Tryd.func61 (by kernel_rfl) rfl
theorem ent63 : ∀ args w, (callFunc 63 args).run Tryd.prog w = .ok (.enter 63 args) w := enters Tryd.func63 (by kernel_rfl) rfl
set_option maxRecDepth 100000 in
set_option maxHeartbeats 4000000 in
theorem w_shaSum (b : List UInt8) (p1 : Option Addr) (c1 : Nat) (w0 w : World) (l : List HP)  (r : (List UInt8)) (hm : shaSum b = some r) (H : St w0 w (HP.row 0 (0) (icells .u32 shaStart) :: HP.row 2 (0) (icells .u32 shaRounds) :: HP.sl rByte p1 c1 b :: l)) :
  Calls Tryd.prog 35 [.slice p1 (b).length c1].toArray w (fun e w' => ∃ v, e = .returned v ∧ v = .agg (bcells r).toArray ∧ ((r).length = 32) ∧ St w0 w' (l)) := by
 unfold shaSum at hm
 refine x_enter Tryd.func35 rfl rfl rfl ?_
 intro a F
 replace F : Fr ⟨10, []⟩ a [(0, .slice p1 (b).length c1)] := F
 refine wp_seq ?_
 refine r_lit ?_
 refine s_allocA wkP F rfl rfl rfl agz35 rfl H ?_; clear F H; intro b3 w a H F
 replace H : St w0 w (HP.blk b3 (bcells (List.replicate 32 0)) 35 :: HP.row 0 (0) (icells .u32 shaStart) :: HP.row 2 (0) (icells .u32 shaRounds) :: HP.sl rByte p1 c1 b :: l) := H
 refine wpList_nil ?_
 refine c_then ?_
 refine wp_seq ?_
 refine r_lit ?_
 obtain ⟨x4, ex4, hn⟩ := ob hm; clear hm; revert hn; intro hm
 refine s_call wkP F rfl rfl rfl rfl (y_call F rfl rfl ent61) (w_shaNew  w0 _ _  _ ex4 (H.cp 1 rfl pers_row)) ?_; clear F H; rintro _ w a ⟨b5, p7, c7, rfl, hl6, H⟩ F
 replace H : St w0 w (HP.blk b5 (icells .u32 x4.1 ++ ([Value.slice p7 (x4.2.1).length c7, Value.int .u64 (x4.2.2)])) 135 :: HP.ow rByte 5 p7 c7 x4.2.1 :: HP.blk b3 (bcells (List.replicate 32 0)) 35 :: HP.row 0 (0) (icells .u32 shaStart) :: HP.row 2 (0) (icells .u32 shaRounds) :: HP.sl rByte p1 c1 b :: l) := H
 refine s_val wkP F rfl rfl rfl rfl (y_assign F rfl rfl) ?_; clear F; intro a F
 refine wpList_nil ?_
 refine c_then ?_
 refine wp_seq ?_
 refine r_lit ?_
 refine s_val wkP F rfl rfl rfl rfl (y_move F rfl rfl) ?_; clear F; intro a F
 refine s_val wkP F rfl rfl rfl rfl (y_move F rfl rfl) ?_; clear F; intro a F
 obtain ⟨x8, ex8, hn⟩ := ob hm; clear hm; revert hn; intro hm
 refine s_call wkP F rfl rfl rfl rfl (y_call F rfl rfl ent62) (w_shaAdd (x4.1, x4.2.1, x4.2.2) b b5 p7 c7 p1 c1 w0 _ _ hl6 _ ex8 ((((H.cp 5 rfl pers_sl).mv 2 rfl).mv 2 rfl).cp 5 rfl pers_row)) ?_; clear F H; rintro _ w a ⟨p10, c10, rfl, hl9, H⟩ F
 replace H : St w0 w (HP.blk b5 (icells .u32 x8.1 ++ ([Value.slice p10 (x8.2.1).length c10, Value.int .u64 (x8.2.2)])) 135 :: HP.sl rByte p10 c10 x8.2.1 :: HP.blk b3 (bcells (List.replicate 32 0)) 35 :: HP.row 0 (0) (icells .u32 shaStart) :: HP.row 2 (0) (icells .u32 shaRounds) :: HP.sl rByte p1 c1 b :: l) := H
 refine wpList_nil ?_
 refine c_then ?_
 refine wp_seq ?_
 refine r_lit ?_
 refine s_val wkP F rfl rfl rfl rfl (y_move F rfl rfl) ?_; clear F; intro a F
 obtain ⟨x11, ex11, hn⟩ := ob hm; clear hm; revert hn; intro hm
 refine s_call wkP F rfl rfl rfl rfl (y_call F rfl rfl ent63) (w_shaHSum (x8.1, x8.2.1, x8.2.2) b5 p10 c10 w0 _ _ hl9 _ ex11 (((H.cp 1 rfl pers_sl).mv 1 rfl).cp 5 rfl pers_row)) ?_; clear F H; rintro _ w a ⟨p14, c14, rfl, hl12, hl13, H⟩ F
 replace H : St w0 w (HP.blk b5 (icells .u32 x11.2.1 ++ ([Value.slice p14 (x11.2.2.1).length c14, Value.int .u64 (x11.2.2.2)])) 135 :: HP.sl rByte p14 c14 x11.2.2.1 :: HP.sl rByte p10 c10 x8.2.1 :: HP.blk b3 (bcells (List.replicate 32 0)) 35 :: HP.row 0 (0) (icells .u32 shaStart) :: HP.row 2 (0) (icells .u32 shaRounds) :: HP.sl rByte p1 c1 b :: l) := H
 refine s_storeA wkP F rfl rfl agg35 rfl rfl rfl H 3 rfl ((bcells_length _).trans hl12) ((bcells_length _).trans (List.length_replicate (n := 32))) (bcells_flat _) ?_; clear H; intro w H
 replace H : St w0 w (HP.blk b5 (icells .u32 x11.2.1 ++ ([Value.slice p14 (x11.2.2.1).length c14, Value.int .u64 (x11.2.2.2)])) 135 :: HP.sl rByte p14 c14 x11.2.2.1 :: HP.sl rByte p10 c10 x8.2.1 :: HP.blk b3 (bcells x11.1) 35 :: HP.row 0 (0) (icells .u32 shaStart) :: HP.row 2 (0) (icells .u32 shaRounds) :: HP.sl rByte p1 c1 b :: l) := H
 refine wpList_nil ?_
 refine c_then ?_
 refine wp_ret ?_
 obtain rfl := Option.some.inj hm
 refine x_resC1 F rfl (⟨_, rfl, agg35.run_load (H.blk 3 rfl).row ((bcells_length _).trans hl12)⟩) ?_
 exact ⟨_, rfl, rfl, hl12, (H.keep 0 7)⟩
end Go.Proofs.YtfepdfjhejkemaaDoor
