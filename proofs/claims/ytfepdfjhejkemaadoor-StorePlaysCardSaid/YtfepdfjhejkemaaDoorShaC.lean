/- sha -/
import Derived.Test.YtfepdfjhejkemaaDoorShaB
set_option linter.unusedSimpArgs false
set_option linter.unusedVariables false
namespace Go.Proofs.YtfepdfjhejkemaaDoor
open Go.RowKit Go.Tri
theorem arr137 : ArrT Tryd.prog 137 5 64 1 := ⟨Tryd.underlying137, by kernel_rfl⟩
theorem ent82 : ∀ args w, (callFunc 82 args).run Tryd.prog w = .ok (.enter 82 args) w := enters Tryd.func82 (by kernel_rfl) rfl
theorem elem143 : ElemT Tryd.prog 143 80 1 4 (.int .u32 0) := ⟨Tryd.underlying143, by kernel_rfl, by kernel_rfl, by decide⟩
set_option maxRecDepth 100000 in
set_option maxHeartbeats 4000000 in
theorem w_mix {state : List Int} {p : List UInt8}  {w0 w : World} {l : List HP} (hl1 : (state).length = 8) (hl2 : (p).length = 64) {r : (List Int)} (hm : mix state p = some r) (H : St w0 w (HP.row 2 (0) (icells .u32 shaRounds) :: l)) :
  Calls Tryd.prog 76 [.agg (icells .u32 state).toArray, .agg (bcells p).toArray].toArray w (fun e w' => ∃ v, e = .returned v ∧ v = .agg (icells .u32 r).toArray ∧ ((r).length = 8) ∧ St w0 w' (l)) := by
 unfold mix at hm
 refine x_enter Tryd.func76 rfl rfl rfl ?_
 intro a F
 refine sr (s_boxA wkP F rfl rfl rfl rfl rfl H ?_); clear F H; intro b4 w a H F
 refine s_boxA wkP F rfl rfl rfl rfl rfl H ?_; clear F H; intro b5 w a H F
 replace H := H.frzB 0 rfl hl2
 refine s_allocA wkP F rfl rfl rfl agz83 rfl H ?_; clear F H; intro b6 w a H F
 replace H := H.nf 4 rfl
 refine nl (sr (s_allocA wkP F rfl rfl rfl agz81 rfl H ?_)); clear F H; intro b7 w a H F
 replace H := H.nf 5 rfl
 refine nl (sq (sr (bk [0] F H rfl trivial ?_))); clear F; intro a F
 refine nl ?_
 obtain ⟨r441, er441, hm441⟩ := ob hm; clear hm; revert er441; intro hm
 refine x_mid (fun aa ww => Fr ⟨146, []⟩ aa [(2, .pointer (some ⟨b4, 0, none⟩)), (4, .pointer (some ⟨b6, 0, none⟩)), (5, .pointer (some ⟨b7, 0, none⟩))] ∧ ((r441).length = 64) ∧ St w0 ww (HP.blk b7 (icells .u32 r441) 81 :: HP.blk b6 (icells .u32 (List.replicate 8 0)) 83 :: HP.blk b4 (icells .u32 state) 83 :: HP.row 2 (0) (icells .u32 shaRounds) :: l)) ?_ ?_
 · skip
   refine bl ?_
   refine x_loopO _ (fun (s731 : (List Int) × Int) aa ww => Fr ⟨146, []⟩ aa [(2, .pointer (some ⟨b4, 0, none⟩)), (3, .pointer (some ⟨b5, 0, none⟩)), (4, .pointer (some ⟨b6, 0, none⟩)), (5, .pointer (some ⟨b7, 0, none⟩)), (19, .int .i64 (s731.2))] ∧ ((s731.1).length = 64) ∧ St w0 ww (HP.blk b7 (icells .u32 s731.1) 81 :: HP.blk b6 (icells .u32 (List.replicate 8 0)) 83 :: HP.sl rByte (some ⟨b5, 0, none⟩) 64 p :: HP.blk b4 (icells .u32 state) 83 :: HP.row 2 (0) (icells .u32 shaRounds) :: l)) hm ⟨F.sl rfl, (List.length_replicate (n := 64)), H⟩ ?_
   clear F H hm
   rintro s731 a w o ⟨F, hl732, H⟩ hm
   refine sr (bk [0] F H rfl trivial ?_); clear F; intro a F
   refine nl (sq (cP F rfl (fun hg733 => ?_) (fun hg733 => ?_)))
   · replace hm := ifT hg733 hm
     refine sk (ct (sq ?_))
     obtain ⟨r804, er804, hm804⟩ := ob hm; clear hm; revert er804; intro hm
     refine x_mid (fun aa ww => Fr ⟨146, []⟩ aa [(2, .pointer (some ⟨b4, 0, none⟩)), (3, .pointer (some ⟨b5, 0, none⟩)), (4, .pointer (some ⟨b6, 0, none⟩)), (5, .pointer (some ⟨b7, 0, none⟩)), (19, .int .i64 (s731.2))] ∧ ((r804).length = 64) ∧ St w0 ww (HP.blk b7 (icells .u32 r804) 81 :: HP.blk b6 (icells .u32 (List.replicate 8 0)) 83 :: HP.sl rByte (some ⟨b5, 0, none⟩) 64 p :: HP.blk b4 (icells .u32 state) 83 :: HP.row 2 (0) (icells .u32 shaRounds) :: l)) ?_ ?_
     · skip
       refine bl (sr (bk [0, 0] F H rfl trivial ?_)); clear F; intro a F
       refine nl (sq (sr (bk [0, 0] F H rfl trivial ?_))); clear F; intro a F
       refine nl (cP F rfl (fun hg806 => ?_) (fun hg806 => ?_))
       · replace hm := ifT hg806 hm
         refine sq (sr (bk (List.replicate 5 0) F H rfl trivial ?_)); clear F; intro a F
         obtain ⟨x807, ex807, hm⟩ := ob hm
         replace H := H.slSubN 1 rfl 2 rfl ex807
         refine s_val wkP F rfl rfl rfl rfl (y_slALH F arr137 rfl rfl rfl rfl ex807 hl2) ?_; clear F; intro a F
         refine bk [0, 0] F H rfl ⟨⟨_, Tryd.underlying33⟩, trivial⟩ ?_; clear F; intro a F
         replace H := H.nf 6 rfl
         refine nl ?_
         obtain ⟨r833, er833, hm833⟩ := ob hm; clear hm; revert er833; intro hm
         refine x_mid (fun aa ww => Fr ⟨146, []⟩ aa [(2, .pointer (some ⟨b4, 0, none⟩)), (3, .pointer (some ⟨b5, 0, none⟩)), (4, .pointer (some ⟨b6, 0, none⟩)), (5, .pointer (some ⟨b7, 0, none⟩)), (19, .int .i64 (s731.2))] ∧ ((r833).length = 64) ∧ St w0 ww (HP.blk b7 (icells .u32 r833) 81 :: HP.blk b6 (icells .u32 (List.replicate 8 0)) 83 :: HP.sl rByte (some ⟨b5, 0, none⟩) 64 p :: HP.blk b4 (icells .u32 state) 83 :: HP.row 2 (0) (icells .u32 shaRounds) :: l)) ?_ ?_
         · skip
           refine bl ?_
           refine x_loopO _ (fun (s851 : (List Int) × Int) aa ww => Fr ⟨146, []⟩ aa [(2, .pointer (some ⟨b4, 0, none⟩)), (3, .pointer (some ⟨b5, 0, none⟩)), (4, .pointer (some ⟨b6, 0, none⟩)), (5, .pointer (some ⟨b7, 0, none⟩)), (6, .int .i64 (s731.2)), (19, .int .i64 (s731.2)), (29, .slice (shp (some ⟨b5, 0, none⟩) 64 ((IntKind.i64.wrap (4 * s731.2)) : Int).toNat 1) (x807).length (64 - ((IntKind.i64.wrap (4 * s731.2)) : Int).toNat)), (30, .int .i64 (((x807).length : Int))), (31, .int .i64 (s851.2))] ∧ ((s851.1).length = 64) ∧ St w0 ww (HP.sl rByte (shp (some ⟨b5, 0, none⟩) 64 ((IntKind.i64.wrap (4 * s731.2)) : Int).toNat 1) (64 - ((IntKind.i64.wrap (4 * s731.2)) : Int).toNat) x807 :: HP.blk b7 (icells .u32 s851.1) 81 :: HP.blk b6 (icells .u32 (List.replicate 8 0)) 83 :: HP.sl rByte (some ⟨b5, 0, none⟩) 64 p :: HP.blk b4 (icells .u32 state) 83 :: HP.row 2 (0) (icells .u32 shaRounds) :: l)) hm ⟨F.sl rfl, hl732, H⟩ ?_
           clear F H hm
           rintro s851 a w o ⟨F, hl852, H⟩ hm
           refine sr (bk [0] F H rfl trivial ?_); clear F; intro a F
           refine nl (sq (cP F rfl (fun hg853 => ?_) (fun hg853 => ?_)))
           · replace hm := ifT hg853 hm
             refine sk (ct (sq (bl (sr ?_))))
             obtain ⟨x854, ex854, hm⟩ := ob hm
             obtain ⟨b855, o855, hp855⟩ := H.slP 0 rfl (idxO_some ex854).2
             obtain ⟨cs856, hcl856, H⟩ := H.slEl 0 rfl hp855 (idxO_some ex854).2
             obtain rfl := H.rcB 1 rfl
             replace H := H.dp 1 rfl
             clear hcl856
             refine s_val wkP F rfl rfl rfl rfl (y_idxS F elem33 rfl rfl rfl hp855 ex854) ?_; clear F; intro a F
             refine bk [0, 0] F H rfl ⟨rfl, plain5, trivial⟩ ?_; clear F; intro a F
             refine nl (rl (bk [0, 0] F H rfl trivial ?_)); clear F; intro a F
             obtain ⟨x857, ex857, hm⟩ := ob hm
             refine s_val wkP F rfl rfl rfl rfl (y_idxA F arr81 rfl rfl rfl ex857 hl852) ?_; clear F; intro a F
             refine s_val wkP F rfl rfl rfl rfl (y_load1 F plain80 rfl rfl (row_ix ((H.blk 2 rfl).row) (icells_idx ex857))) ?_; clear F; intro a F
             refine s_val wkP F rfl rfl rfl rfl (i_shl F rfl rfl rfl (by decide)) ?_; clear F; intro a F
             refine bk [0, 3, 0] F H rfl ⟨Tryd.underlying5, Tryd.underlying80, trivial⟩ ?_; clear F; intro a F
             obtain ⟨x858, ex858, hm⟩ := ob hm
             refine s_val wkP F rfl rfl rfl rfl (y_idxA F arr81 rfl rfl rfl ex858 hl852) ?_; clear F; intro a F
             refine s_stI wkP F rfl rfl zero80 rfl rfl rfl H 2 rfl ex858 ?_; clear H; intro w H
             replace H := H.nf 7 rfl
             refine lz (bn (ct (rl (bk [0, 0] F H rfl trivial ?_)))); clear F; intro a F
             refine lz (ct ?_); cases hm
             exact ⟨_, rfl, ⟨F.sl rfl, ((List.length_set ..).trans hl852), (H.pm 7 [1, 2, 3, 4, 5, 6] rfl:)⟩⟩
           · replace hm := ifF hg853 hm
             refine ex (cx (cx ?_)); cases hm; refine ⟨_, rfl, ?_⟩; rintro rfl
             refine ch (ct ?_)
             exact ⟨F.sl rfl, hl852, (H.pm 6 [1, 2, 3, 4, 5] rfl:)⟩
         · skip
           clear F H hm
           rintro a w ⟨F, hl834, H⟩; have hm := hm833; clear hm833
           refine ct (ex (cx (ch ?_)))
           cases hm
           refine ct ?_
           exact ⟨F.sl rfl, hl834, H⟩
       · replace hm := ifF hg806 hm
         refine sk (ct ?_)
         obtain ⟨x868, ex868, hm⟩ := ob hm
         obtain ⟨x869, ex869, hm⟩ := ob hm
         obtain ⟨x870, ex870, hm⟩ := ob hm
         obtain ⟨x871, ex871, hm⟩ := ob hm
         refine mix_region [5, 15, 23] [23] (.step 0 0 (.step 0 1 (.step 0 2 (.step 0 3 (.step 1 4 (.step 0 6 (.step 0 7 (.step 0 8 (.step 0 9 (.step 0 11 (.step 0 12 (.step 0 13 (.step 0 14 (.step 0 17 (.step 0 18 (.step 0 19 (.step 0 20 (.step 2 5 (.step 0 10 (.step 2 15 (.step 0 16 (.step 0 21 (.step 0 22 (.step 3 23 .done)))))))))))))))))))))))) (fun u => ∃ ls, St w0 u (HP.blk b7 (icells .u32 s731.1) 81 :: ls)) (by kernel_rfl) (by kernel_rfl) ⟨_, H.drew⟩ ?_
         replace H := H.drew
         generalize w.drew = w at H ⊢
         refine mbk [0, 0, 0] F H rfl trivial ?_; clear F; intro a F
         refine m_pure F rfl rfl rfl rfl (fun u hu => y_idxA F arr81 rfl rfl rfl ex868 hl732) ?_; clear F; intro a F
         refine m_read F rfl rfl rfl rfl (y_load1 F plain80 rfl rfl (row_ix ((H.blk 0 rfl).row) (icells_idx ex868))) ?_; clear F; intro a F
         refine mbk [0, 0] F H rfl trivial ?_; clear F; intro a F
         refine m_pure F rfl rfl rfl rfl (fun u hu => y_idxA F arr81 rfl rfl rfl ex869 hl732) ?_; clear F; intro a F
         refine m_pure F rfl rfl rfl rfl (fun u hu => y_load1 F plain80 rfl rfl (row_ix ((hu.choose_spec.blk 0 rfl).row) (icells_idx ex869))) ?_; clear F; intro a F
         refine mbk [0, 0] F H rfl trivial ?_; clear F; intro a F
         refine m_pure F rfl rfl rfl rfl (fun u hu => y_idxA F arr81 rfl rfl rfl ex870 hl732) ?_; clear F; intro a F
         refine m_pure F rfl rfl rfl rfl (fun u hu => y_load1 F plain80 rfl rfl (row_ix ((hu.choose_spec.blk 0 rfl).row) (icells_idx ex870))) ?_; clear F; intro a F
         refine mbk [0, 0] F H rfl trivial ?_; clear F; intro a F
         refine m_pure F rfl rfl rfl rfl (fun u hu => y_idxA F arr81 rfl rfl rfl ex871 hl732) ?_; clear F; intro a F
         refine m_pure F rfl rfl rfl rfl (fun u hu => y_load1 F plain80 rfl rfl (row_ix ((hu.choose_spec.blk 0 rfl).row) (icells_idx ex871))) ?_; clear F; intro a F
         refine m_heavy rfl rfl ?_
         obtain ⟨x872, ex872, hm⟩ := ob hm
         refine sc wkP F rfl ent82 (w_turn ex872 H:) ?_; clear F H; rintro _ w a ⟨rfl, H⟩ F
         refine lz ?_; refine ct ⟨⟨_, H⟩, ?_⟩
         refine mbk [0] F H rfl trivial ?_; clear F; intro a F
         refine m_heavy rfl rfl ?_
         obtain ⟨x873, ex873, hm⟩ := ob hm
         refine sc wkP F rfl ent82 (w_turn ex873 H:) ?_; clear F H; rintro _ w a ⟨rfl, H⟩ F
         refine lz ?_; refine ct ⟨⟨_, H⟩, ?_⟩
         refine mbk [0, 0] F H rfl trivial ?_; clear F; intro a F
         obtain ⟨x874, ex874, hm⟩ := ob hm
         refine m_pure F rfl rfl rfl rfl (fun u hu => y_idxA F arr81 rfl rfl rfl ex874 hl732) ?_; clear F; intro a F
         refine m_last rfl rfl ?_
         refine s_stI wkP F rfl rfl zero80 rfl rfl rfl H 0 rfl ex874 ?_; clear H; intro w H
         refine lz ?_; refine ct ?_
         refine m_nil ?_
         refine bn ?_
         cases hm
         refine ct ?_
         exact ⟨F.sl rfl, ((List.length_set ..).trans hl732), H⟩
     · skip
       clear F H hm
       rintro a w ⟨F, hl805, H⟩; have hm := hm804; clear hm804
       refine ct (rl (bk [0, 0] F H rfl trivial ?_)); clear F; intro a F
       refine lz (ct ?_); cases hm
       exact ⟨_, rfl, ⟨F.sl rfl, hl805, H⟩⟩
   · replace hm := ifF hg733 hm
     refine ex (cx (cx ?_)); cases hm; refine ⟨_, rfl, ?_⟩; rintro rfl
     refine ch (ct ?_)
     exact ⟨F.sl rfl, hl732, (H.pm 5 [0, 1, 3, 4] rfl:)⟩
 · skip
   clear F H hm
   rintro a w ⟨F, hl442, H⟩; have hm := hm441; clear hm441
   refine ct (sr (bk [2999] F H rfl ⟨rfl, (aggn agg83 ((icells_length _ _).trans hl1)), trivial⟩ ?_)); clear F; intro a F
   refine s_allocA wkP F rfl rfl rfl agz83 rfl H ?_; clear F H; intro b876 w a H F
   refine s_storeA wkP F rfl rfl agg83 rfl rfl rfl H 0 rfl ((icells_length _ _).trans hl1) ((icells_length _ _).trans (List.length_replicate (n := 8))) (icells_flat _ _) ?_; clear H; intro w H
   replace H := H.nf 5 rfl
   refine nl (sq (sr (bk [4999, 0] F H rfl ⟨rfl, (aggn agg81 ((icells_length _ _).trans shaRounds_len)), trivial⟩ ?_))); clear F; intro a F
   refine nl ?_
   obtain ⟨r956, er956, hm956⟩ := ob hm; clear hm; revert er956; intro hm
   refine x_mid (fun aa ww => Fr ⟨146, []⟩ aa [(2, .pointer (some ⟨b4, 0, none⟩)), (4, .pointer (some ⟨b6, 0, none⟩)), (9, .pointer (some ⟨b876, 0, none⟩))] ∧ ((r956).length = 8) ∧ St w0 ww (HP.blk b876 (icells .u32 r956) 83 :: HP.blk b7 (icells .u32 r441) 81 :: HP.blk b6 (icells .u32 (List.replicate 8 0)) 83 :: HP.blk b4 (icells .u32 state) 83 :: HP.row 2 (0) (icells .u32 shaRounds) :: l)) ?_ ?_
   · skip
     refine bl ?_
     refine x_loopO _ (fun (s1010 : (List Int) × Int) aa ww => Fr ⟨146, []⟩ aa [(2, .pointer (some ⟨b4, 0, none⟩)), (4, .pointer (some ⟨b6, 0, none⟩)), (5, .pointer (some ⟨b7, 0, none⟩)), (9, .pointer (some ⟨b876, 0, none⟩)), (70, .agg (icells .u32 shaRounds).toArray), (71, .int .i64 (s1010.2))] ∧ ((s1010.1).length = 8) ∧ St w0 ww (HP.blk b876 (icells .u32 s1010.1) 83 :: HP.blk b7 (icells .u32 r441) 81 :: HP.blk b6 (icells .u32 (List.replicate 8 0)) 83 :: HP.blk b4 (icells .u32 state) 83 :: HP.row 2 (0) (icells .u32 shaRounds) :: l)) hm ⟨F.sl rfl, hl1, H⟩ ?_
     clear F H hm
     rintro s1010 a w o ⟨F, hl1011, H⟩ hm
     refine sr (bk [0] F H rfl trivial ?_); clear F; intro a F
     refine nl (sq (cP F rfl (fun hg1012 => ?_) (fun hg1012 => ?_)))
     · replace hm := ifT hg1012 hm
       refine sk (ct (sq (bl (sr (bk [0] F H rfl trivial ?_))))); clear F; intro a F
       obtain ⟨x1013, ex1013, hm⟩ := ob hm
       refine s_val wkP F rfl rfl rfl rfl (y_idxV F arr81 plain80 rfl rfl rfl (icells_idx ex1013) ((icells_length _ _).trans shaRounds_len)) ?_; clear F; intro a F
       refine bk [0, 0] F H rfl trivial ?_; clear F; intro a F
       refine nl (sq ?_)
       obtain ⟨x1014, ex1014, hm⟩ := ob hm
       obtain ⟨x1015, ex1015, hm⟩ := ob hm
       refine qr H (by kernel_rfl) (by kernel_rfl) ?_
       refine q_val F rfl rfl rfl (fun u hu => y_idxA F arr83 rfl rfl rfl ex1014 hl1011) ?_; clear F; intro a F
       refine q_val F rfl rfl rfl (fun u hu => y_load1 F plain80 rfl rfl (row_ix ((hu.blk 0 rfl).row) (icells_idx ex1014))) ?_; clear F; intro a F
       refine q_val F rfl rfl rfl (fun u hu => y_idxA F arr83 rfl rfl rfl ex1015 hl1011) ?_; clear F; intro a F
       refine q_val F rfl rfl rfl (fun u hu => y_load1 F plain80 rfl rfl (row_ix ((hu.blk 0 rfl).row) (icells_idx ex1015))) ?_; clear F; intro a F
       refine qbk [0, 0] F rfl trivial ?_; clear F; intro a F
       refine q_nil ?_; clear H; intro w H
       refine ct (sr (bk [0] F H rfl trivial ?_)); clear F; intro a F
       obtain ⟨x1016, ex1016, hm⟩ := ob hm
       refine s_val wkP F rfl rfl rfl rfl (y_idxA F arr83 rfl rfl rfl ex1016 hl1011) ?_; clear F; intro a F
       refine s_val wkP F rfl rfl rfl rfl (y_load1 F plain80 rfl rfl (row_ix ((H.blk 0 rfl).row) (icells_idx ex1016))) ?_; clear F; intro a F
       refine bk [0, 0, 0] F H rfl trivial ?_; clear F; intro a F
       obtain ⟨x1017, ex1017, hm⟩ := ob hm
       refine s_val wkP F rfl rfl rfl rfl (y_idxA F arr83 rfl rfl rfl ex1017 hl1011) ?_; clear F; intro a F
       refine s_val wkP F rfl rfl rfl rfl (y_load1 F plain80 rfl rfl (row_ix ((H.blk 0 rfl).row) (icells_idx ex1017))) ?_; clear F; intro a F
       refine bk [0, 0, 0] F H rfl trivial ?_; clear F; intro a F
       refine nl (sr (bk [0] F H rfl trivial ?_)); clear F; intro a F
       obtain ⟨x1018, ex1018, hm⟩ := ob hm
       refine s_val wkP F rfl rfl rfl rfl (y_idxA F arr83 rfl rfl rfl ex1018 hl1011) ?_; clear F; intro a F
       refine s_val wkP F rfl rfl rfl rfl (y_load1 F plain80 rfl rfl (row_ix ((H.blk 0 rfl).row) (icells_idx ex1018))) ?_; clear F; intro a F
       refine bk [0, 0] F H rfl trivial ?_; clear F; intro a F
       obtain ⟨x1019, ex1019, hm⟩ := ob hm
       refine s_val wkP F rfl rfl rfl rfl (y_idxA F arr83 rfl rfl rfl ex1019 hl1011) ?_; clear F; intro a F
       refine s_val wkP F rfl rfl rfl rfl (y_load1 F plain80 rfl rfl (row_ix ((H.blk 0 rfl).row) (icells_idx ex1019))) ?_; clear F; intro a F
       refine bk [0, 0] F H rfl trivial ?_; clear F; intro a F
       obtain ⟨x1020, ex1020, hm⟩ := ob hm
       refine s_val wkP F rfl rfl rfl rfl (y_idxA F arr83 rfl rfl rfl ex1020 hl1011) ?_; clear F; intro a F
       refine s_val wkP F rfl rfl rfl rfl (y_load1 F plain80 rfl rfl (row_ix ((H.blk 0 rfl).row) (icells_idx ex1020))) ?_; clear F; intro a F
       obtain ⟨x1021, ex1021, hm⟩ := ob hm
       refine s_val wkP F rfl rfl rfl rfl (y_idxA F arr83 rfl rfl rfl ex1021 hl1011) ?_; clear F; intro a F
       refine s_val wkP F rfl rfl rfl rfl (y_load1 F plain80 rfl rfl (row_ix ((H.blk 0 rfl).row) (icells_idx ex1021))) ?_; clear F; intro a F
       refine bk [0, 0, 0] F H rfl trivial ?_; clear F; intro a F
       refine nl (sq ?_)
       obtain ⟨x1022, ex1022, hm⟩ := ob hm
       obtain ⟨x1023, ex1023, hm⟩ := ob hm
       obtain ⟨x1024, ex1024, hm⟩ := ob hm
       refine qr H (by kernel_rfl) (by kernel_rfl) ?_
       refine q_val F rfl rfl rfl (fun u hu => y_idxA F arr83 rfl rfl rfl ex1022 hl1011) ?_; clear F; intro a F
       refine q_val F rfl rfl rfl (fun u hu => y_load1 F plain80 rfl rfl (row_ix ((hu.blk 0 rfl).row) (icells_idx ex1022))) ?_; clear F; intro a F
       refine qbk [0] F rfl trivial ?_; clear F; intro a F
       refine q_call F rfl rfl rfl (fun u hu => y_call F rfl rfl ent82) (fun u hu => (w_turn ex1023 hu).mono fun e u2 he => by obtain ⟨v, rfl, rfl, H⟩ := he; exact ⟨rfl, H⟩) ?_; clear F; intro a F
       refine qbk (List.replicate 6 0) F rfl trivial ?_; clear F; intro a F
       refine q_val F rfl rfl rfl (fun u hu => y_idxA F arr81 rfl rfl rfl ex1024 hl442) ?_; clear F; intro a F
       refine q_val F rfl rfl rfl (fun u hu => y_load1 F plain80 rfl rfl (row_ix ((hu.blk 1 rfl).row) (icells_idx ex1024))) ?_; clear F; intro a F
       refine qbk [0, 0] F rfl trivial ?_; clear F; intro a F
       refine q_nil ?_; clear H; intro w H
       refine ct (sq ?_)
       obtain ⟨x1028, ex1028, hm⟩ := ob hm
       obtain ⟨x1029, ex1029, hm⟩ := ob hm
       refine mix_region [2] [2] (.step 0 0 (.step 0 1 (.step 3 2 .done))) (fun u => ∃ ls, St w0 u (ls)) (by kernel_rfl) (by kernel_rfl) ⟨_, H.drew⟩ ?_
       replace H := H.drew
       generalize w.drew = w at H ⊢
       refine m_pure F rfl rfl rfl rfl (fun u hu => y_slAL F arr83 rfl rfl rfl ex1028 hl1011) ?_; clear F; intro a F
       refine m_pure F rfl rfl rfl rfl (fun u hu => y_slAH F arr83 rfl rfl rfl ex1029 hl1011) ?_; clear F; intro a F
       refine m_last rfl rfl ?_
       refine s_cpy (f := (Value.int .u32)) wkP F rfl rfl rfl elem143 rfl (fun _ => rfl) rfl (shp_ne (by decide)) rfl H 0 rfl (slB (f := (Value.int .u32)) (H.blk 0 rfl) (shp_ne (by decide)) ex1029 (by decide) (by have := (slcO_some ex1029).2.2; simp at this ⊢; omega)) (by have := (slcO_some ex1028).2.2; have := (slcO_some ex1028).1; simp at *; omega) ?_; clear F H; intro w a H F
       have hl1030 : (putAt s1010.1 (1 : Int).toNat ((x1029).take (x1028).length)).length = 8 := by have h1 := (slcO_some ex1028).2.2; have h2 := (slcO_some ex1028).1; have h3 := hl1011; rw [putAt_len _ _ _ (by simp at *; omega)]; exact h3
       refine lz ?_; refine ct ?_
       refine m_nil ?_
       refine ct (sr ?_)
       obtain ⟨x1031, ex1031, hm⟩ := ob hm
       refine s_val wkP F rfl rfl rfl rfl (y_idxA F arr83 rfl rfl rfl ex1031 hl1030) ?_; clear F; intro a F
       refine s_val wkP F rfl rfl rfl rfl (y_load1 F plain80 rfl rfl (row_ix ((H.blk 0 rfl).row) (icells_idx ex1031))) ?_; clear F; intro a F
       refine bk [0, 0] F H rfl trivial ?_; clear F; intro a F
       obtain ⟨x1032, ex1032, hm⟩ := ob hm
       refine s_val wkP F rfl rfl rfl rfl (y_idxA F arr83 rfl rfl rfl ex1032 hl1030) ?_; clear F; intro a F
       refine s_stI wkP F rfl rfl zero80 rfl rfl rfl H 0 rfl ex1032 ?_; clear H; intro w H
       replace H := H.nf 5 rfl
       refine nl (rl (bk [0, 0] F H rfl trivial ?_)); clear F; intro a F
       obtain ⟨x1034, ex1034, hm⟩ := ob hm
       refine sc wkP F rfl ent82 (w_turn ex1034 H:) ?_; clear F H; rintro _ w a ⟨rfl, H⟩ F
       refine bk [0, 0, 0] F H rfl trivial ?_; clear F; intro a F
       obtain ⟨x1035, ex1035, hm⟩ := ob hm
       refine s_val wkP F rfl rfl rfl rfl (y_idxA F arr83 rfl rfl rfl ex1035 ((List.length_set ..).trans hl1030)) ?_; clear F; intro a F
       refine s_stI wkP F rfl rfl zero80 rfl rfl rfl H 0 rfl ex1035 ?_; clear H; intro w H
       replace H := H.nf 5 rfl
       refine lz (bn (ct (rl (bk [0, 0] F H rfl trivial ?_)))); clear F; intro a F
       refine lz (ct ?_); cases hm
       exact ⟨_, rfl, ⟨F.sl rfl, ((List.length_set ..).trans ((List.length_set ..).trans hl1030)), H⟩⟩
     · replace hm := ifF hg1012 hm
       refine ex (cx (cx ?_)); cases hm; refine ⟨_, rfl, ?_⟩; rintro rfl
       refine ch (ct ?_)
       exact ⟨F.sl rfl, hl1011, H⟩
   · skip
     clear F H hm
     rintro a w ⟨F, hl957, H⟩; have hm := hm956; clear hm956
     refine ct (sq (sr (bk [3999, 0] F H rfl ⟨rfl, (aggn agg83 ((icells_length _ _).trans hl1)), trivial⟩ ?_))); clear F; intro a F
     refine nl ?_
     obtain ⟨r1056, er1056, hm1056⟩ := ob hm; clear hm; revert er1056; intro hm
     refine x_mid (fun aa ww => Fr ⟨146, []⟩ aa [(4, .pointer (some ⟨b6, 0, none⟩)), (9, .pointer (some ⟨b876, 0, none⟩))] ∧ ((r1056).length = 8) ∧ St w0 ww (HP.blk b876 (icells .u32 r1056) 83 :: HP.blk b7 (icells .u32 r441) 81 :: HP.blk b6 (icells .u32 (List.replicate 8 0)) 83 :: HP.blk b4 (icells .u32 state) 83 :: HP.row 2 (0) (icells .u32 shaRounds) :: l)) ?_ ?_
     · skip
       refine bl ?_
       refine x_loopO _ (fun (s1070 : (List Int) × Int) aa ww => Fr ⟨146, []⟩ aa [(4, .pointer (some ⟨b6, 0, none⟩)), (9, .pointer (some ⟨b876, 0, none⟩)), (133, .agg (icells .u32 state).toArray), (134, .int .i64 (s1070.2))] ∧ ((s1070.1).length = 8) ∧ St w0 ww (HP.blk b876 (icells .u32 s1070.1) 83 :: HP.blk b7 (icells .u32 r441) 81 :: HP.blk b6 (icells .u32 (List.replicate 8 0)) 83 :: HP.blk b4 (icells .u32 state) 83 :: HP.row 2 (0) (icells .u32 shaRounds) :: l)) hm ⟨F.sl rfl, hl957, H⟩ ?_
       clear F H hm
       rintro s1070 a w o ⟨F, hl1071, H⟩ hm
       refine sr (bk [0] F H rfl trivial ?_); clear F; intro a F
       refine nl (sq (cP F rfl (fun hg1072 => ?_) (fun hg1072 => ?_)))
       · replace hm := ifT hg1072 hm
         refine sk (ct (sq (bl (sr (bk [0] F H rfl trivial ?_))))); clear F; intro a F
         obtain ⟨x1073, ex1073, hm⟩ := ob hm
         refine s_val wkP F rfl rfl rfl rfl (y_idxV F arr83 plain80 rfl rfl rfl (icells_idx ex1073) ((icells_length _ _).trans hl1)) ?_; clear F; intro a F
         refine bk [0, 0] F H rfl trivial ?_; clear F; intro a F
         refine nl (rl (bk [0] F H rfl trivial ?_)); clear F; intro a F
         obtain ⟨x1074, ex1074, hm⟩ := ob hm
         refine s_val wkP F rfl rfl rfl rfl (y_idxA F arr83 rfl rfl rfl ex1074 hl1071) ?_; clear F; intro a F
         refine s_val wkP F rfl rfl rfl rfl (y_load1 F plain80 rfl rfl (row_ix ((H.blk 0 rfl).row) (icells_idx ex1074))) ?_; clear F; intro a F
         refine bk [0, 0] F H rfl trivial ?_; clear F; intro a F
         obtain ⟨x1075, ex1075, hm⟩ := ob hm
         refine s_val wkP F rfl rfl rfl rfl (y_idxA F arr83 rfl rfl rfl ex1075 hl1071) ?_; clear F; intro a F
         refine s_stI wkP F rfl rfl zero80 rfl rfl rfl H 0 rfl ex1075 ?_; clear H; intro w H
         replace H := H.nf 5 rfl
         refine lz (bn (ct (rl (bk [0, 0] F H rfl trivial ?_)))); clear F; intro a F
         refine lz (ct ?_); cases hm
         exact ⟨_, rfl, ⟨F.sl rfl, ((List.length_set ..).trans hl1071), H⟩⟩
       · replace hm := ifF hg1072 hm
         refine ex (cx (cx ?_)); cases hm; refine ⟨_, rfl, ?_⟩; rintro rfl
         refine ch (ct ?_)
         exact ⟨F.sl rfl, hl1071, H⟩
     · skip
       clear F H hm
       rintro a w ⟨F, hl1057, H⟩; have hm := hm1056; clear hm1056
       refine ct (sr (bk [999] F H rfl ⟨rfl, (aggn agg83 ((icells_length _ _).trans hl1057)), trivial⟩ ?_)); clear F; intro a F
       refine s_storeA wkP F rfl rfl agg83 rfl rfl rfl H 2 rfl ((icells_length _ _).trans hl1057) ((icells_length _ _).trans (List.length_replicate (n := 8))) (icells_flat _ _) ?_; clear H; intro w H
       replace H := H.nf 5 rfl
       refine nl (wr ?_)
       cases hm
       refine x_resC1 F rfl (⟨_, rfl, agg83.run_load (H.blk 2 rfl).row ((icells_length _ _).trans hl1057)⟩) ?_
       exact ⟨_, rfl, rfl, hl1057, (H.pm 5 [] rfl:)⟩
theorem fld135_2 : FieldT Tryd.prog 135 2 9 := by unfold FieldT; rw [Tryd.underlying135]; kernel_rfl
theorem plain115 : Plain Tryd.prog 115 := by unfold Plain; rw [Tryd.underlying115]; rfl
theorem zero115 : Zero1 Tryd.prog 115 (.int .u64 0) := ⟨by kernel_rfl, rfl⟩
theorem fld135_1 : FieldT Tryd.prog 135 1 8 := by unfold FieldT; rw [Tryd.underlying135]; kernel_rfl
theorem plain33 : Plain Tryd.prog 33 := by unfold Plain; rw [Tryd.underlying33]; rfl
theorem zero33 : Zero1 Tryd.prog 33 (.slice none 0 0) := ⟨by kernel_rfl, rfl⟩
theorem fld135_0 : FieldT Tryd.prog 135 0 0 := by unfold FieldT; rw [Tryd.underlying135]; kernel_rfl
theorem agg137 : AggT Tryd.prog 137 64 (List.replicate 64 (.int .u8 0)) := ⟨by rw [Tryd.underlying137]; rfl, by kernel_rfl, by kernel_rfl⟩
theorem ent76 : ∀ args w, (callFunc 76 args).run Tryd.prog w = .ok (.enter 76 args) w := enters Tryd.func76 (by kernel_rfl) rfl
set_option maxRecDepth 100000 in
set_option maxHeartbeats 4000000 in
theorem w_shaAdd {h : T_sha_Hasher_o} {b : List UInt8} {bo0 : Nat} {p1 : Option Addr} {c1 : Nat} {w0 w : World} {l : List HP}  {r : T_sha_Hasher_o} (hm : shaAdd h b = some r) (H : St w0 w (HP.row 2 (0) (icells .u32 shaRounds) :: O_sha_Hasher bo0 h :: HP.sl rByte p1 c1 b :: l)) :
  Calls Tryd.prog 62 [.pointer (some ⟨bo0, 0, none⟩), .slice p1 (b).length c1].toArray w (fun e w' => ∃ v, e = .returned v ∧ v = .tuple [].toArray ∧ St w0 w' (O_sha_Hasher_1 bo0 r :: l)) := by
 unfold shaAdd at hm
 refine x_enter Tryd.func62 rfl rfl rfl ?_
 intro a F
 refine sr (bk [0, 0, 9] F H rfl ⟨fld135_2, trivial⟩ ?_); clear F; intro a F
 obtain ⟨p2, c3, hl4, H⟩ := O_sha_Hasher_o (H.pk 1 rfl)
 refine s_val wkP F rfl rfl rfl rfl (y_load1 F plain115 rfl rfl (row_at (v := .int .u64 (h.2.2)) ((H.blk 0 rfl).row) (by simp [List.getElem?_append, icells_length, bcells_length, hl4]))) ?_; clear F; intro a F
 refine bk [0, 0, 2, 0, 0, 9] F H rfl ⟨⟨_, Tryd.underlying33⟩, Tryd.underlying3, Tryd.underlying115, fld135_2, trivial⟩ ?_; clear F; intro a F
 refine s_store1 wkP F rfl rfl zero115 rfl rfl rfl rfl rfl H 0 rfl (by simp [icells_length, bcells_length, hl4]) ?_; clear H; intro w H
 replace H : St w0 w (HP.blk bo0 (icells .u32 h.1 ++ ([Value.slice p2 (h.2.1).length c3, Value.int .u64 (IntKind.u64.wrap (h.2.2 + (IntKind.u64.wrap (((b).length : Int)))))])) 135 :: HP.ow rByte 5 p2 c3 h.2.1 :: HP.row 2 (0) (icells .u32 shaRounds) :: HP.sl rByte p1 c1 b :: l) := (by have h := H; simp only [List.set_append, icells_length, bcells_length, hl4] at h; simpa using h)
 refine nl (sr (bk [0, 0, 0, 8] F H rfl ⟨fld135_1, trivial⟩ ?_)); clear F; intro a F
 refine s_val wkP F rfl rfl rfl rfl (y_load1 F plain33 rfl rfl (row_at (v := .slice p2 (h.2.1).length c3) ((H.blk 0 rfl).row) (by simp [List.getElem?_append, icells_length, bcells_length, hl4]))) ?_; clear F; intro a F
 refine bk [0] F H rfl trivial ?_; clear F; intro a F
 obtain ⟨x6, ex6, hm⟩ := ob hm
 refine s_app wkP F rfl rfl rfl rfl rfl rfl elem33 rfl ex6 H 1 3 rfl rfl ?_; clear F H; intro p5 c5 w a H F
 refine bk [0, 8] F H rfl ⟨fld135_1, trivial⟩ ?_; clear F; intro a F
 refine s_store1 wkP F rfl rfl zero33 rfl rfl rfl rfl rfl H 0 rfl (by simp [icells_length, bcells_length, hl4]) ?_; clear H; intro w H
 replace H : St w0 w (HP.blk bo0 (icells .u32 h.1 ++ ([Value.slice p5 (x6).length c5, Value.int .u64 (IntKind.u64.wrap (h.2.2 + (IntKind.u64.wrap (((b).length : Int)))))])) 135 :: HP.ow rByte 5 p5 c5 x6 :: HP.row 2 (0) (icells .u32 shaRounds) :: HP.sl rByte p1 c1 b :: l) := (by have h := H; simp only [List.set_append, icells_length, bcells_length, hl4] at h; simpa using h)
 refine nl ?_
 replace H := O_sha_Hasher_s hl4 H
 obtain ⟨p80, c81, hl82, H⟩ := O_sha_Hasher_o (H.pk 0 rfl)
 obtain ⟨r135, er135, hm135⟩ := ob hm; clear hm; revert er135; intro hm
 refine x_mid (fun aa ww => ∃ (p137 : Option Addr) (c137 : Nat), Fr ⟨52, []⟩ aa [] ∧ ((r135.1).length = 8) ∧ St w0 ww (HP.blk bo0 (icells .u32 r135.1 ++ ([Value.slice p137 (r135.2).length c137, Value.int .u64 (((h.1, x6, IntKind.u64.wrap (h.2.2 + (IntKind.u64.wrap (((b).length : Int))))).2).2)])) 135 :: HP.row 2 (0) (icells .u32 shaRounds) :: HP.sl rByte p137 c137 r135.2 :: l)) ?_ ?_
 · skip
   refine bl ?_
   replace H := H.frz 1 rfl
   refine x_loopO _ (fun (s172 : ((List Int) × (List UInt8))) aa ww => ∃ (p174 : Option Addr) (c174 : Nat), Fr ⟨52, []⟩ aa [(0, .pointer (some ⟨bo0, 0, none⟩))] ∧ ((s172.1).length = 8) ∧ St w0 ww (HP.blk bo0 (icells .u32 s172.1 ++ ([Value.slice p174 (s172.2).length c174, Value.int .u64 (((h.1, x6, IntKind.u64.wrap (h.2.2 + (IntKind.u64.wrap (((b).length : Int))))).2).2)])) 135 :: HP.row 2 (0) (icells .u32 shaRounds) :: HP.sl rByte p174 c174 s172.2 :: l)) hm ⟨p80, c81, F.sl rfl, hl82, (H.pm 4 [1, 2, 0] rfl:)⟩ ?_
   clear F H hm
   rintro s172 a w o ⟨p174, c174, F, hl173, H⟩ hm
   refine sq (sr (bk [0, 0, 8] F H rfl ⟨fld135_1, trivial⟩ ?_)); clear F; intro a F
   refine s_val wkP F rfl rfl rfl rfl (y_load1 F plain33 rfl rfl (row_at (v := .slice p174 (s172.2).length c174) ((H.blk 0 rfl).row) (by simp [List.getElem?_append, icells_length, bcells_length, hl173]))) ?_; clear F; intro a F
   refine bk [0, 0] F H rfl ⟨⟨_, Tryd.underlying33⟩, trivial⟩ ?_; clear F; intro a F
   replace H := H.nf 3 rfl
   refine nl (cP F rfl (fun hg175 => ?_) (fun hg175 => ?_))
   · replace hm := ifT hg175 hm
     refine sk (ct (bl (sq ?_)))
     obtain ⟨x183, ex183, hm⟩ := ob hm
     have hc182 := H.slCap 2 rfl
     replace H := H.slSubN 1 rfl 2 rfl ex183
     obtain ⟨x185, ex185, hm⟩ := ob hm
     obtain ⟨b184, o184, hp184, H⟩ := H.slRowB 0 rfl (arrO_some ex185).2.1
     refine mix_region [12, 15] [15] (.step 0 0 (.step 0 1 (.step 0 2 (.step 0 3 (.step 1 4 (.step 0 5 (.step 0 6 (.step 0 7 (.step 1 8 (.step 0 9 (.step 0 10 (.step 1 11 (.step 2 12 (.step 0 13 (.step 0 14 (.step 3 15 .done)))))))))))))))) (fun u => ∃ ls, St w0 u (ls)) (by kernel_rfl) (by kernel_rfl) ⟨_, H.drew⟩ ?_
     replace H := H.drew
     generalize w.drew = w at H ⊢
     refine mbk [0, 0, 0, 0] F H rfl ⟨fld135_0, trivial⟩ ?_; clear F; intro a F
     refine m_read F rfl rfl rfl rfl (y_loadA F agg83 rfl rfl (row_mid (A := ([] : List Value)) (X := icells .u32 s172.1) (C := [.slice p174 (s172.2).length c174, .int .u64 (((h.1, x6, IntKind.u64.wrap (h.2.2 + (IntKind.u64.wrap (((b).length : Int))))).2).2)]) (w := _) ((H.blk 2 rfl).row) rfl) ((icells_length _ _).trans hl173)) ?_; clear F; intro a F
     refine mbk [0, 0, 8] F H rfl ⟨fld135_1, trivial⟩ ?_; clear F; intro a F
     refine m_read F rfl rfl rfl rfl (y_load1 F plain33 rfl rfl (row_at (v := .slice p174 (s172.2).length c174) ((H.blk 2 rfl).row) (by simp [List.getElem?_append, icells_length, bcells_length, hl173]))) ?_; clear F; intro a F
     refine m_pure F rfl rfl rfl rfl (fun u hu => y_slH F elem33 rfl rfl rfl ex183 hc182) ?_; clear F; intro a F
     refine m_pure F rfl rfl rfl rfl (fun u hu => y_s2a F Tryd.underlying137 rfl rfl ex185 hp184) ?_; clear F; intro a F
     refine mbk [999] F H rfl ⟨rfl, (aggn agg137 ((bcells_length _).trans (arrO_some ex185).1)), trivial⟩ ?_; clear F; intro a F
     refine m_heavy rfl rfl ?_
     obtain ⟨x186, ex186, hm⟩ := ob hm
     refine sc wkP F rfl ent76 (w_mix hl173 ((arrO_some ex185).1) ex186 (H.pm 5 [3, 0, 1, 2, 3, 4] rfl:):) ?_; clear F H; rintro _ w a ⟨rfl, hl187, H⟩ F
     refine lz ?_; refine ct ⟨⟨_, H⟩, ?_⟩
     refine mbk [0, 0] F H rfl ⟨fld135_0, trivial⟩ ?_; clear F; intro a F
     refine m_last rfl rfl ?_
     refine s_storeF wkP F rfl rfl agg83 rfl rfl rfl H 2 rfl (A := ([] : List Value)) (X := icells .u32 s172.1) (C := [.slice p174 (s172.2).length c174, .int .u64 (((h.1, x6, IntKind.u64.wrap (h.2.2 + (IntKind.u64.wrap (((b).length : Int))))).2).2)]) rfl rfl ((icells_length _ _).trans hl173) ((icells_length _ _).trans hl187) (icells_flat _ _) ?_; clear H; intro w H
     refine lz ?_; refine ct ?_
     refine m_nil ?_
     refine ct (rl (bk [0, 0, 0, 8] F H rfl ⟨fld135_1, trivial⟩ ?_)); clear F; intro a F
     refine s_val wkP F rfl rfl rfl rfl (y_load1 F plain33 rfl rfl (row_at (v := .slice p174 (s172.2).length c174) ((H.blk 2 rfl).row) (by simp [List.getElem?_append, icells_length, bcells_length, hl187]))) ?_; clear F; intro a F
     obtain ⟨x189, ex189, hm⟩ := ob hm
     have hc188 := H.slCap 4 rfl
     replace H := H.slSubN 1 rfl 4 rfl ex189
     refine s_val wkP F rfl rfl rfl rfl (y_slL F elem33 rfl rfl rfl ex189 hc188) ?_; clear F; intro a F
     refine bk [0, 8] F H rfl ⟨fld135_1, trivial⟩ ?_; clear F; intro a F
     refine s_store1 wkP F rfl rfl zero33 rfl rfl rfl rfl rfl H 3 rfl (by simp [icells_length, bcells_length, hl187]) ?_; clear H; intro w H
     replace H : St w0 w (HP.sl rByte (shp p174 c174 (64 : Int).toNat 1) (c174 - (64 : Int).toNat) x189 :: HP.row b184 (o184) (bcells x183) :: HP.sl rByte (shp p174 c174 0 1) (c174 - 0) x183 :: HP.blk bo0 (icells .u32 x186 ++ ([Value.slice (shp p174 c174 (64 : Int).toNat 1) (x189).length (c174 - (64 : Int).toNat), Value.int .u64 (((h.1, x6, IntKind.u64.wrap (h.2.2 + (IntKind.u64.wrap (((b).length : Int))))).2).2)])) 135 :: HP.row 2 (0) (icells .u32 shaRounds) :: HP.sl rByte p174 c174 s172.2 :: l) := (by have h := H; simp only [List.set_append, icells_length, bcells_length, hl187] at h; simpa using h)
     refine lz (bn (ct ?_)); cases hm
     exact ⟨_, rfl, ⟨(shp p174 c174 (64 : Int).toNat 1), (c174 - (64 : Int).toNat), F.sl rfl, hl187, (H.pm 6 [3, 4, 0] rfl:)⟩⟩
   · replace hm := ifF hg175 hm
     refine ex (cx (cx ?_)); cases hm; refine ⟨_, rfl, ?_⟩; rintro rfl
     refine ch (ct ?_)
     exact ⟨p174, c174, F.cut _ trivial, hl173, H⟩
 · skip
   clear F H hm
   rintro a w ⟨p137, c137, F, hl136, H⟩; have hm := hm135; clear hm135
   replace H := O_sha_Hasher_1_s hl136 (H.pm 3 [0, 2, 1, 2] rfl:)
   cases hm
   refine x_end0 F rfl ?_
   exact ⟨_, rfl, rfl, (H.pm 3 [0] rfl:)⟩
theorem build_135_0_1 : ∀ (s0 : List Int) (h0 : s0.length = 8) (p1 : Option Addr) (x1 : List UInt8) (c1 : Nat), Tryd.prog.built 135 [(0, .agg (icells .u32 s0).toArray), (1, .slice p1 (x1).length c1)] = some ((icells .u32 s0 ++ ([Value.slice p1 (x1).length c1, Value.int .u64 (0)]) : List Value)).toArray := fun s0 h0 p1 x1 c1 => match s0, h0 with | [a0_0, a0_1, a0_2, a0_3, a0_4, a0_5, a0_6, a0_7], _ => by kernel_rfl
theorem agz135 : AggT Tryd.prog 135 10 (icells .u32 (List.replicate 8 0) ++ ([Value.slice none (([] : List UInt8)).length 0, Value.int .u64 (0)])) := ⟨by rw [Tryd.underlying135]; rfl, by kernel_rfl, by kernel_rfl⟩
theorem agg135 : AggT Tryd.prog 135 10 [.int .u32 0, .int .u32 0, .int .u32 0, .int .u32 0, .int .u32 0, .int .u32 0, .int .u32 0, .int .u32 0, .slice none 0 0, .int .u64 0] := ⟨by rw [Tryd.underlying135]; rfl, by kernel_rfl, by kernel_rfl⟩
theorem ent62 : ∀ args w, (callFunc 62 args).run Tryd.prog w = .ok (.enter 62 args) w := enters Tryd.func62 (by kernel_rfl) rfl
set_option maxRecDepth 100000 in
set_option maxHeartbeats 4000000 in
theorem w_shaHSum {h : T_sha_Hasher_o} {bo0 : Nat} {w0 w : World} {l : List HP}  {r : (List UInt8) × T_sha_Hasher_o} (hm : shaHSum h = some r) (H : St w0 w (HP.row 2 (0) (icells .u32 shaRounds) :: O_sha_Hasher_1 bo0 h :: l)) :
  Calls Tryd.prog 63 [.pointer (some ⟨bo0, 0, none⟩)].toArray w (fun e w' => ∃ v, e = .returned v ∧ v = .agg (bcells r.1).toArray ∧ ((r.1).length = 32) ∧ St w0 w' (O_sha_Hasher_1 bo0 r.2 :: l)) := by
 unfold shaHSum at hm
 refine x_enter Tryd.func63 rfl rfl rfl ?_
 intro a F
 refine sr (s_allocA wkP F rfl rfl rfl agz35 rfl H ?_); clear F H; intro b2 w a H F
 replace H := H.nf 3 rfl
 refine nl (sq ?_)
 obtain ⟨r31, er31, hm31⟩ := ob hm; clear hm; revert er31; intro hm
 refine x_mid (fun aa ww => ∃ (b32 : Nat) (p34 : Option Addr) (c34 : Nat), Fr ⟨78, []⟩ aa [(0, .pointer (some ⟨bo0, 0, none⟩)), (2, .pointer (some ⟨b2, 0, none⟩)), (3, .pointer (some ⟨b32, 0, none⟩))] ∧ ((h.1).length = 8) ∧ St w0 ww (HP.blk b2 (bcells (List.replicate 32 0)) 35 :: HP.row 2 (0) (icells .u32 shaRounds) :: O_sha_Hasher_1 bo0 h :: HP.blk b32 (icells .u32 h.1 ++ ([Value.slice p34 (r31).length c34, Value.int .u64 (0)])) 135 :: HP.ow rByte 5 p34 c34 r31 :: l)) ?_ ?_
 · skip
   obtain ⟨p49, c50, hl51, H⟩ := O_sha_Hasher_1_o (H.pk 2 rfl)
   refine mix_region [4, 9, 11, 12] [12] (.step 0 0 (.step 0 1 (.step 0 2 (.step 0 3 (.step 0 5 (.step 0 6 (.step 0 7 (.step 0 8 (.fork 4 (.fork 9 (.step 0 10 (.step 2 11 (.step 3 12 .done))) 11 (.step 2 9 (.step 0 10 (.step 3 12 .done)))) 11 (.step 2 4 (.step 2 9 (.step 0 10 (.step 3 12 .done))))))))))))) (fun u => ∃ ls, St w0 u (HP.blk bo0 (icells .u32 h.1 ++ ([Value.slice p49 (h.2.1).length c50, Value.int .u64 (h.2.2)])) 135 :: ls)) (by kernel_rfl) (by kernel_rfl) ⟨_, H.drew⟩ ?_
   replace H := H.drew
   generalize w.drew = w at H ⊢
   refine mbk [0, 0, 0] F H rfl ⟨fld135_0, trivial⟩ ?_; clear F; intro a F
   refine m_pure F rfl rfl rfl rfl (fun u hu => y_loadA F agg83 rfl rfl (row_mid (A := ([] : List Value)) (X := icells .u32 h.1) (C := [.slice p49 (h.2.1).length c50, .int .u64 (h.2.2)]) (w := _) ((hu.choose_spec.blk 0 rfl).row) rfl) ((icells_length _ _).trans hl51)) ?_; clear F; intro a F
   refine mbk [0, 0, 8] F H rfl ⟨fld135_1, trivial⟩ ?_; clear F; intro a F
   refine m_pure F rfl rfl rfl rfl (fun u hu => y_load1 F plain33 rfl rfl (row_at (v := .slice p49 (h.2.1).length c50) ((hu.choose_spec.blk 0 rfl).row) (by simp [List.getElem?_append, icells_length, bcells_length, hl51]))) ?_; clear F; intro a F
   refine m_fork rfl rfl rfl rfl ?_ ?_
   · skip
     refine m_heavy rfl rfl ?_
     refine s_build0O (R := rByte) wkP F rfl rfl rfl elem33 rfl H ?_; clear F H; intro b52 w a H F
     refine lz ?_; refine ct ⟨⟨_, (H.pm 5 [1, 0, 2, 3, 4] rfl:)⟩, ?_⟩
     refine m_fork rfl rfl rfl rfl ?_ ?_
     · skip
       refine m_heavy rfl rfl ?_
       obtain ⟨x54, ex54, hm⟩ := ob hm
       refine s_app wkP F rfl rfl rfl rfl rfl rfl elem33 rfl ex54 H 0 2 rfl rfl ?_; clear F H; intro p53 c53 w a H F
       refine lz ?_; refine ct ⟨⟨_, (H.pm 5 [1, 0, 2, 3, 4] rfl:)⟩, ?_⟩
       refine m_pure F rfl rfl rfl rfl (fun u hu => y_build F rfl rfl (cs := icells .u32 h.1 ++ ([Value.slice p53 (x54).length c53, Value.int .u64 (0)])) (build_135_0_1 h.1 hl51 p53 x54 c53)) ?_; clear F; intro a F
       refine m_heavy rfl rfl ?_
       replace H := H.owNil rByte 5
       refine s_allocA wkP F rfl rfl rfl agz135 rfl H ?_; clear F H; intro b55 w a H F
       refine lz ?_; refine ct ⟨⟨_, (H.pm 7 [3, 0, 1, 2, 4, 5, 6] rfl:)⟩, ?_⟩
       refine m_last rfl rfl ?_
       refine s_storeA wkP F rfl rfl agg135 rfl rfl rfl H 0 rfl (by simp only [List.length_append, List.length_cons, List.length_nil, icells_length, bcells_length, hl51]) (by simp only [List.length_append, List.length_cons, List.length_nil, icells_length, bcells_length, (List.length_replicate (n := 8))]) (by intro v hv; simp only [List.mem_append, List.mem_cons, List.not_mem_nil, or_false] at hv; first | (rcases hv with h | h <;> first | (subst h; rfl) | exact bcells_flat _ _ h | exact icells_flat _ _ _ h | (rcases h with h | h <;> first | (subst h; rfl) | exact bcells_flat _ _ h | exact icells_flat _ _ _ h | (rcases h with h | h <;> first | (subst h; rfl) | exact bcells_flat _ _ h | (rcases h with h | h <;> first | (subst h; rfl) | (rcases h with h | h <;> (subst h; rfl)))))) | (subst hv; rfl)) ?_; clear H; intro w H
       refine lz ?_; refine ct ?_
       refine m_nil ?_
       replace H := O_sha_Hasher_1_s hl51 (H.pm 7 [3, 4, 0, 1, 2, 4, 5, 6] rfl:)
       cases hm
       refine ct ?_
       exact ⟨b55, p53, c53, F.sl rfl, hl51, (H.pm 7 [5, 6, 0, 1, 3] rfl:)⟩
     · skip
       refine m_heavy rfl rfl ?_
       replace H := H.owNil rByte 5
       refine s_allocA wkP F rfl rfl rfl agz135 rfl H ?_; clear F H; intro b56 w a H F
       refine lz ?_; refine ct ⟨⟨_, (H.pm 7 [3, 0, 1, 2, 4, 5, 6] rfl:)⟩, ?_⟩
       refine m_heavy rfl rfl ?_
       obtain ⟨x58, ex58, hm⟩ := ob hm
       refine s_app wkP F rfl rfl rfl rfl rfl rfl elem33 rfl ex58 H 2 4 rfl rfl ?_; clear F H; intro p57 c57 w a H F
       refine lz ?_; refine ct ⟨⟨_, (H.pm 7 [3, 0, 1, 2, 4, 5, 6] rfl:)⟩, ?_⟩
       refine m_pure F rfl rfl rfl rfl (fun u hu => y_build F rfl rfl (cs := icells .u32 h.1 ++ ([Value.slice p57 (x58).length c57, Value.int .u64 (0)])) (build_135_0_1 h.1 hl51 p57 x58 c57)) ?_; clear F; intro a F
       refine m_last rfl rfl ?_
       refine s_storeA wkP F rfl rfl agg135 rfl rfl rfl H 0 rfl (by simp only [List.length_append, List.length_cons, List.length_nil, icells_length, bcells_length, hl51]) (by simp only [List.length_append, List.length_cons, List.length_nil, icells_length, bcells_length, (List.length_replicate (n := 8))]) (by intro v hv; simp only [List.mem_append, List.mem_cons, List.not_mem_nil, or_false] at hv; first | (rcases hv with h | h <;> first | (subst h; rfl) | exact bcells_flat _ _ h | exact icells_flat _ _ _ h | (rcases h with h | h <;> first | (subst h; rfl) | exact bcells_flat _ _ h | exact icells_flat _ _ _ h | (rcases h with h | h <;> first | (subst h; rfl) | exact bcells_flat _ _ h | (rcases h with h | h <;> first | (subst h; rfl) | (rcases h with h | h <;> (subst h; rfl)))))) | (subst hv; rfl)) ?_; clear H; intro w H
       refine lz ?_; refine ct ?_
       refine m_nil ?_
       replace H := O_sha_Hasher_1_s hl51 (H.pm 7 [3, 4, 0, 1, 2, 4, 5, 6] rfl:)
       cases hm
       refine ct ?_
       exact ⟨b56, p57, c57, F.sl rfl, hl51, (H.pm 7 [5, 6, 0, 1, 3] rfl:)⟩
   · skip
     refine m_heavy rfl rfl ?_
     replace H := H.owNil rByte 5
     refine s_allocA wkP F rfl rfl rfl agz135 rfl H ?_; clear F H; intro b59 w a H F
     refine lz ?_; refine ct ⟨⟨_, (H.pm 6 [2, 0, 1, 3, 4, 5] rfl:)⟩, ?_⟩
     refine m_heavy rfl rfl ?_
     refine s_build0O (R := rByte) wkP F rfl rfl rfl elem33 rfl H ?_; clear F H; intro b60 w a H F
     refine lz ?_; refine ct ⟨⟨_, (H.pm 7 [3, 0, 1, 2, 4, 5, 6] rfl:)⟩, ?_⟩
     refine m_heavy rfl rfl ?_
     obtain ⟨x62, ex62, hm⟩ := ob hm
     refine s_app wkP F rfl rfl rfl rfl rfl rfl elem33 rfl ex62 H 0 4 rfl rfl ?_; clear F H; intro p61 c61 w a H F
     refine lz ?_; refine ct ⟨⟨_, (H.pm 7 [3, 0, 1, 2, 4, 5, 6] rfl:)⟩, ?_⟩
     refine m_pure F rfl rfl rfl rfl (fun u hu => y_build F rfl rfl (cs := icells .u32 h.1 ++ ([Value.slice p61 (x62).length c61, Value.int .u64 (0)])) (build_135_0_1 h.1 hl51 p61 x62 c61)) ?_; clear F; intro a F
     refine m_last rfl rfl ?_
     refine s_storeA wkP F rfl rfl agg135 rfl rfl rfl H 1 rfl (by simp only [List.length_append, List.length_cons, List.length_nil, icells_length, bcells_length, hl51]) (by simp only [List.length_append, List.length_cons, List.length_nil, icells_length, bcells_length, (List.length_replicate (n := 8))]) (by intro v hv; simp only [List.mem_append, List.mem_cons, List.not_mem_nil, or_false] at hv; first | (rcases hv with h | h <;> first | (subst h; rfl) | exact bcells_flat _ _ h | exact icells_flat _ _ _ h | (rcases h with h | h <;> first | (subst h; rfl) | exact bcells_flat _ _ h | exact icells_flat _ _ _ h | (rcases h with h | h <;> first | (subst h; rfl) | exact bcells_flat _ _ h | (rcases h with h | h <;> first | (subst h; rfl) | (rcases h with h | h <;> (subst h; rfl)))))) | (subst hv; rfl)) ?_; clear H; intro w H
     refine lz ?_; refine ct ?_
     refine m_nil ?_
     replace H := O_sha_Hasher_1_s hl51 (H.pm 7 [3, 4, 0, 1, 2, 4, 5, 6] rfl:)
     cases hm
     refine ct ?_
     exact ⟨b59, p61, c61, F.sl rfl, hl51, (H.pm 7 [5, 6, 0, 2, 1] rfl:)⟩
 · skip
   clear F H hm
   rintro a w ⟨b32, p34, c34, F, hl33, H⟩; have hm := hm31; clear hm31
   refine ct (sr ?_)
   obtain ⟨x64, ex64, hm⟩ := ob hm
   refine s_buildC wkP F rfl rfl rfl elem33 zero5 rfl rfl rfl rfl (by simp [Value.cells]) (by decide) H ?_; clear F H; intro b63 w a H F
   replace H : St w0 w (HP.ow rByte 5 (some ⟨b63, 0, none⟩) (([x64]).length) ([x64]) :: HP.blk b2 (bcells (List.replicate 32 0)) 35 :: HP.row 2 (0) (icells .u32 shaRounds) :: O_sha_Hasher_1 bo0 h :: HP.blk b32 (icells .u32 h.1 ++ ([Value.slice p34 (r31).length c34, Value.int .u64 (0)])) 135 :: HP.ow rByte 5 p34 c34 r31 :: l) := H.blkOw (R := rByte) 0 rfl (fun gg => ⟨[[.int .u8 (128)]], rfl, (congrArg (fun z => [Value.int .u8 z]) (u8O_some ex64).symm), trivial⟩) (by simp)
   refine bk [0] F H rfl trivial ?_; clear F; intro a F
   refine nl (sq ?_)
   obtain ⟨r96, er96, hm96⟩ := ob hm; clear hm; revert er96; intro hm
   refine x_mid (fun aa ww => ∃ (p97 : Option Addr) (c97 : Nat), Fr ⟨78, []⟩ aa [(0, .pointer (some ⟨bo0, 0, none⟩)), (2, .pointer (some ⟨b2, 0, none⟩)), (3, .pointer (some ⟨b32, 0, none⟩)), (4, .slice p97 (r96).length c97)] ∧ St w0 ww (HP.blk b2 (bcells (List.replicate 32 0)) 35 :: HP.row 2 (0) (icells .u32 shaRounds) :: O_sha_Hasher_1 bo0 h :: HP.blk b32 (icells .u32 h.1 ++ ([Value.slice p34 (r31).length c34, Value.int .u64 (0)])) 135 :: HP.ow rByte 5 p34 c34 r31 :: HP.ow rByte 5 p97 c97 r96 :: l)) ?_ ?_
   · skip
     refine bl ?_
     refine x_loopO _ (fun (s118 : (List UInt8)) aa ww => ∃ (p119 : Option Addr) (c119 : Nat), Fr ⟨78, []⟩ aa [(0, .pointer (some ⟨bo0, 0, none⟩)), (2, .pointer (some ⟨b2, 0, none⟩)), (3, .pointer (some ⟨b32, 0, none⟩)), (4, .slice p119 (s118).length c119)] ∧ St w0 ww (HP.blk b2 (bcells (List.replicate 32 0)) 35 :: HP.row 2 (0) (icells .u32 shaRounds) :: O_sha_Hasher_1 bo0 h :: HP.blk b32 (icells .u32 h.1 ++ ([Value.slice p34 (r31).length c34, Value.int .u64 (0)])) 135 :: HP.ow rByte 5 p34 c34 r31 :: HP.ow rByte 5 p119 c119 s118 :: l)) hm ⟨(some ⟨b63, 0, none⟩), ([x64]).length, F.sl rfl, (H.pm 6 [1, 2, 3, 4, 5, 0] rfl:)⟩ ?_
     clear F H hm
     rintro s118 a w o ⟨p119, c119, F, H⟩ hm
     refine sq (sr (bk [0, 0, 8] F H rfl ⟨fld135_1, trivial⟩ ?_)); clear F; intro a F
     obtain ⟨p120, c121, hl122, H⟩ := O_sha_Hasher_1_o (H.pk 2 rfl)
     refine s_val wkP F rfl rfl rfl rfl (y_load1 F plain33 rfl rfl (row_at (v := .slice p120 (h.2.1).length c121) ((H.blk 0 rfl).row) (by simp [List.getElem?_append, icells_length, bcells_length, hl122]))) ?_; clear F; intro a F
     refine bk (List.replicate 5 0) F H rfl ⟨⟨_, Tryd.underlying33⟩, ⟨_, Tryd.underlying33⟩, trivial⟩ ?_; clear F; intro a F
     obtain ⟨x123, ex123, hm⟩ := ob hm
     refine s_val wkP F rfl rfl rfl rfl (i_rem F rfl rfl rfl ex123) ?_; clear F; intro a F
     refine bk [0] F H rfl trivial ?_; clear F; intro a F
     refine nl (cN F rfl (fun hg124 => ?_) (fun hg124 => ?_))
     · replace hm := ifF hg124 hm
       refine sk (ct (bl (rl (bk [0] F H rfl trivial ?_)))); clear F; intro a F
       obtain ⟨x126, ex126, hm⟩ := ob hm
       refine s_buildC wkP F rfl rfl rfl elem33 zero5 rfl rfl rfl rfl (by simp [Value.cells]) (by decide) H ?_; clear F H; intro b125 w a H F
       replace H : St w0 w (HP.ow rByte 5 (some ⟨b125, 0, none⟩) (([x126]).length) ([x126]) :: HP.blk bo0 (icells .u32 h.1 ++ ([Value.slice p120 (h.2.1).length c121, Value.int .u64 (h.2.2)])) 135 :: HP.sl rByte p120 c121 h.2.1 :: HP.blk b2 (bcells (List.replicate 32 0)) 35 :: HP.row 2 (0) (icells .u32 shaRounds) :: HP.blk b32 (icells .u32 h.1 ++ ([Value.slice p34 (r31).length c34, Value.int .u64 (0)])) 135 :: HP.ow rByte 5 p34 c34 r31 :: HP.ow rByte 5 p119 c119 s118 :: l) := H.blkOw (R := rByte) 0 rfl (fun gg => ⟨[[.int .u8 (0)]], rfl, (congrArg (fun z => [Value.int .u8 z]) (u8O_some ex126).symm), trivial⟩) (by simp)
       replace H := H.frz 0 rfl
       obtain ⟨x128, ex128, hm⟩ := ob hm
       refine s_app wkP F rfl rfl rfl rfl rfl rfl elem33 rfl ex128 H 7 0 rfl rfl ?_; clear F H; intro p127 c127 w a H F
       refine bk [0] F H rfl trivial ?_; clear F; intro a F
       replace H := H.nf 8 rfl
       refine lz (bn ?_)
       replace H := O_sha_Hasher_1_s hl122 (H.pm 8 [1, 2, 0, 2, 3, 4, 5, 6, 7] rfl:)
       refine ct ?_; cases hm
       exact ⟨_, rfl, ⟨p127, c127, F.sl rfl, (H.pm 8 [3, 4, 0, 5, 6, 7] rfl:)⟩⟩
     · replace hm := ifT hg124 hm
       refine ex (cx (cx ?_)); cases hm; refine ⟨_, rfl, ?_⟩; rintro rfl
       refine ch ?_
       replace H := O_sha_Hasher_1_s hl122 (H.pm 7 [0, 1, 1, 2, 3, 4, 5, 6] rfl:)
       refine ct ?_
       exact ⟨p119, c119, F.sl rfl, (H.pm 7 [2, 3, 0, 4, 5, 6] rfl:)⟩
   · skip
     clear F H hm
     rintro a w ⟨p97, c97, F, H⟩; have hm := hm96; clear hm96
     refine ct (sr (bk [0, 0, 9] F H rfl ⟨fld135_2, trivial⟩ ?_)); clear F; intro a F
     obtain ⟨p129, c130, hl131, H⟩ := O_sha_Hasher_1_o (H.pk 2 rfl)
     refine s_val wkP F rfl rfl rfl rfl (y_load1 F plain115 rfl rfl (row_at (v := .int .u64 (h.2.2)) ((H.blk 0 rfl).row) (by simp [List.getElem?_append, icells_length, bcells_length, hl131]))) ?_; clear F; intro a F
     refine bk [0, 0] F H rfl trivial ?_; clear F; intro a F
     refine nl (sq (sr (bk [0] F H rfl trivial ?_))); clear F; intro a F
     refine nl ?_
     replace H := O_sha_Hasher_1_s hl131 (H.pm 7 [0, 1, 1, 2, 3, 4, 5, 6] rfl:)
     obtain ⟨r154, er154, hm154⟩ := ob hm; clear hm; revert er154; intro hm
     refine x_mid (fun aa ww => ∃ (p155 : Option Addr) (c155 : Nat), Fr ⟨78, []⟩ aa [(2, .pointer (some ⟨b2, 0, none⟩)), (3, .pointer (some ⟨b32, 0, none⟩)), (4, .slice p155 (r154).length c155)] ∧ St w0 ww (O_sha_Hasher_1 bo0 h :: HP.blk b2 (bcells (List.replicate 32 0)) 35 :: HP.row 2 (0) (icells .u32 shaRounds) :: HP.blk b32 (icells .u32 h.1 ++ ([Value.slice p34 (r31).length c34, Value.int .u64 (0)])) 135 :: HP.ow rByte 5 p34 c34 r31 :: HP.ow rByte 5 p155 c155 r154 :: l)) ?_ ?_
     · skip
       refine bl ?_
       refine x_loopO _ (fun (s170 : (List UInt8) × Int) aa ww => ∃ (p171 : Option Addr) (c171 : Nat), Fr ⟨78, []⟩ aa [(2, .pointer (some ⟨b2, 0, none⟩)), (3, .pointer (some ⟨b32, 0, none⟩)), (4, .slice p171 (s170.1).length c171), (5, .int .u64 (IntKind.u64.wrap (h.2.2 * 8))), (6, .int .i64 (s170.2))] ∧ St w0 ww (O_sha_Hasher_1 bo0 h :: HP.blk b2 (bcells (List.replicate 32 0)) 35 :: HP.row 2 (0) (icells .u32 shaRounds) :: HP.blk b32 (icells .u32 h.1 ++ ([Value.slice p34 (r31).length c34, Value.int .u64 (0)])) 135 :: HP.ow rByte 5 p34 c34 r31 :: HP.ow rByte 5 p171 c171 s170.1 :: l)) hm ⟨p97, c97, F.sl rfl, (H.pm 7 [0, 2, 3, 4, 5, 6] rfl:)⟩ ?_
       clear F H hm
       rintro s170 a w o ⟨p171, c171, F, H⟩ hm
       refine sq (sr (bk [0, 0] F H rfl trivial ?_)); clear F; intro a F
       refine nl (cP F rfl (fun hg172 => ?_) (fun hg172 => ?_))
       · replace hm := ifT hg172 hm
         refine sk (ct (sq (bl (rl (bk [0, 0, 0, 0] F H rfl trivial ?_))))); clear F; intro a F
         obtain ⟨x173, ex173, hm⟩ := ob hm
         refine s_val wkP F rfl rfl rfl rfl (i_shrO F rfl rfl rfl ex173) ?_; clear F; intro a F
         refine bk [1] F H rfl ⟨Tryd.underlying115, Tryd.underlying5, trivial⟩ ?_; clear F; intro a F
         obtain ⟨x175, ex175, hm⟩ := ob hm
         refine s_buildC wkP F rfl rfl rfl elem33 zero5 rfl rfl rfl rfl (by simp [Value.cells]) (by decide) H ?_; clear F H; intro b174 w a H F
         replace H : St w0 w (HP.ow rByte 5 (some ⟨b174, 0, none⟩) (([x175]).length) ([x175]) :: O_sha_Hasher_1 bo0 h :: HP.blk b2 (bcells (List.replicate 32 0)) 35 :: HP.row 2 (0) (icells .u32 shaRounds) :: HP.blk b32 (icells .u32 h.1 ++ ([Value.slice p34 (r31).length c34, Value.int .u64 (0)])) 135 :: HP.ow rByte 5 p34 c34 r31 :: HP.ow rByte 5 p171 c171 s170.1 :: l) := H.blkOw (R := rByte) 0 rfl (fun gg => ⟨[[.int .u8 (IntKind.u8.wrap (x173))]], rfl, (congrArg (fun z => [Value.int .u8 z]) (u8O_some ex175).symm), trivial⟩) (by simp)
         replace H := H.frz 0 rfl
         obtain ⟨x177, ex177, hm⟩ := ob hm
         refine s_app wkP F rfl rfl rfl rfl rfl rfl elem33 rfl ex177 H 6 0 rfl rfl ?_; clear F H; intro p176 c176 w a H F
         refine bk [0] F H rfl trivial ?_; clear F; intro a F
         replace H := H.nf 7 rfl
         refine lz (bn (ct (rl (bk [0, 0, 0] F H rfl trivial ?_)))); clear F; intro a F
         refine lz (ct ?_); cases hm
         exact ⟨_, rfl, ⟨p176, c176, F.sl rfl, (H.pm 7 [1, 2, 3, 4, 5, 6] rfl:)⟩⟩
       · replace hm := ifF hg172 hm
         refine ex (cx (cx ?_)); cases hm; refine ⟨_, rfl, ?_⟩; rintro rfl
         refine ch (ct ?_)
         exact ⟨p171, c171, F.sl rfl, H⟩
     · skip
       clear F H hm
       rintro a w ⟨p155, c155, F, H⟩; have hm := hm154; clear hm154
       refine ct (sr (bk [0] F H rfl trivial ?_)); clear F; intro a F
       replace H := O_sha_Hasher_s hl33 (H.pm 6 [3, 4, 0, 1, 2, 5] rfl:)
       replace H := H.frz 4 rfl
       obtain ⟨x178, ex178, hm⟩ := ob hm
       refine sc wkP F rfl ent62 (w_shaAdd ex178 (H.pm 5 [4, 1, 0, 0, 2, 3, 4] rfl:):) ?_; clear F H; rintro _ w a ⟨rfl, H⟩ F
       replace H := H.nf 5 rfl
       refine nl (sq (sr (bk [0] F H rfl ⟨fld135_0, trivial⟩ ?_))); clear F; intro a F
       obtain ⟨p179, c180, hl181, H⟩ := O_sha_Hasher_1_o (H.pk 0 rfl)
       refine s_val wkP F rfl rfl rfl rfl (y_loadA F agg83 rfl rfl (row_mid (A := ([] : List Value)) (X := icells .u32 x178.1) (C := [.slice p179 (x178.2.1).length c180, .int .u64 (x178.2.2)]) (w := _) ((H.blk 0 rfl).row) rfl) ((icells_length _ _).trans hl181)) ?_; clear F; intro a F
       refine bk [0] F H rfl trivial ?_; clear F; intro a F
       refine nl ?_
       replace H := O_sha_Hasher_1_s hl181 (H.pm 6 [0, 1, 1, 2, 3, 4, 5] rfl:)
       obtain ⟨r312, er312, hm312⟩ := ob hm; clear hm; revert er312; intro hm
       refine x_mid (fun aa ww => Fr ⟨78, []⟩ aa [(2, .pointer (some ⟨b2, 0, none⟩))] ∧ ((r312).length = 32) ∧ St w0 ww (O_sha_Hasher_1 b32 x178 :: O_sha_Hasher_1 bo0 h :: HP.blk b2 (bcells r312) 35 :: HP.row 2 (0) (icells .u32 shaRounds) :: l)) ?_ ?_
       · skip
         refine bl ?_
         refine x_loopO _ (fun (s400 : (List UInt8) × Int) aa ww => Fr ⟨78, []⟩ aa [(2, .pointer (some ⟨b2, 0, none⟩)), (56, .agg (icells .u32 x178.1).toArray), (57, .int .i64 (s400.2))] ∧ ((s400.1).length = 32) ∧ St w0 ww (O_sha_Hasher_1 b32 x178 :: O_sha_Hasher_1 bo0 h :: HP.blk b2 (bcells s400.1) 35 :: HP.row 2 (0) (icells .u32 shaRounds) :: l)) hm ⟨F.sl rfl, (List.length_replicate (n := 32)), (H.pm 6 [0, 3, 4, 5] rfl:)⟩ ?_
         clear F H hm
         rintro s400 a w o ⟨F, hl401, H⟩ hm
         refine sr (bk [0] F H rfl trivial ?_); clear F; intro a F
         refine nl (sq (cP F rfl (fun hg402 => ?_) (fun hg402 => ?_)))
         · replace hm := ifT hg402 hm
           refine sk (ct (sq (bl (sr (bk [0] F H rfl trivial ?_))))); clear F; intro a F
           obtain ⟨x403, ex403, hm⟩ := ob hm
           refine s_val wkP F rfl rfl rfl rfl (y_idxV F arr83 plain80 rfl rfl rfl (icells_idx ex403) ((icells_length _ _).trans hl181)) ?_; clear F; intro a F
           refine bk [0, 0] F H rfl trivial ?_; clear F; intro a F
           refine nl (sr (bk [0] F H rfl trivial ?_)); clear F; intro a F
           refine nl ?_
           obtain ⟨r423, er423, hm423⟩ := ob hm; clear hm; revert er423; intro hm
           refine x_mid (fun aa ww => Fr ⟨78, []⟩ aa [(2, .pointer (some ⟨b2, 0, none⟩)), (56, .agg (icells .u32 x178.1).toArray), (57, .int .i64 (s400.2))] ∧ ((r423).length = 32) ∧ St w0 ww (O_sha_Hasher_1 b32 x178 :: O_sha_Hasher_1 bo0 h :: HP.blk b2 (bcells r423) 35 :: HP.row 2 (0) (icells .u32 shaRounds) :: l)) ?_ ?_
           · skip
             refine bl ?_
             refine x_loopO _ (fun (s437 : (List UInt8) × Int) aa ww => Fr ⟨78, []⟩ aa [(2, .pointer (some ⟨b2, 0, none⟩)), (7, .int .i64 (s400.2)), (8, .int .u32 (x403)), (56, .agg (icells .u32 x178.1).toArray), (57, .int .i64 (s400.2)), (61, .int .i64 (s437.2))] ∧ ((s437.1).length = 32) ∧ St w0 ww (O_sha_Hasher_1 b32 x178 :: O_sha_Hasher_1 bo0 h :: HP.blk b2 (bcells s437.1) 35 :: HP.row 2 (0) (icells .u32 shaRounds) :: l)) hm ⟨F.sl rfl, hl401, H⟩ ?_
             clear F H hm
             rintro s437 a w o ⟨F, hl438, H⟩ hm
             refine sr (bk [0] F H rfl trivial ?_); clear F; intro a F
             refine nl (sq (cP F rfl (fun hg439 => ?_) (fun hg439 => ?_)))
             · replace hm := ifT hg439 hm
               refine sk (ct (sq (bl (sr (bk [0, 0] F H rfl trivial ?_))))); clear F; intro a F
               refine nl (rl (bk (List.replicate 8 0) F H rfl trivial ?_)); clear F; intro a F
               obtain ⟨x440, ex440, hm⟩ := ob hm
               refine s_val wkP F rfl rfl rfl rfl (i_shrO F rfl rfl rfl ex440) ?_; clear F; intro a F
               refine bk [1] F H rfl ⟨Tryd.underlying80, Tryd.underlying5, trivial⟩ ?_; clear F; intro a F
               obtain ⟨x441, ex441, hm⟩ := ob hm
               refine s_val wkP F rfl rfl rfl rfl (y_idxA F arr35 rfl rfl rfl ex441 hl438) ?_; clear F; intro a F
               obtain ⟨x443, ex443, hm⟩ := ob hm
               refine s_stB wkP F rfl rfl zero5 rfl rfl rfl ex443 H 2 rfl ex441 ?_; clear H; intro w H
               replace H := H.nf 4 rfl
               refine lz (bn (ct (rl (bk [0, 0] F H rfl trivial ?_)))); clear F; intro a F
               refine lz (ct ?_); cases hm
               exact ⟨_, rfl, ⟨F.sl rfl, ((List.length_set ..).trans hl438), H⟩⟩
             · replace hm := ifF hg439 hm
               refine ex (cx (cx ?_)); cases hm; refine ⟨_, rfl, ?_⟩; rintro rfl
               refine ch (ct ?_)
               exact ⟨F.sl rfl, hl438, H⟩
           · skip
             clear F H hm
             rintro a w ⟨F, hl424, H⟩; have hm := hm423; clear hm423
             refine bn (ct (rl (bk [0, 0] F H rfl trivial ?_))); clear F; intro a F
             refine lz (ct ?_); cases hm
             exact ⟨_, rfl, ⟨F.sl rfl, hl424, H⟩⟩
         · replace hm := ifF hg402 hm
           refine ex (cx (cx ?_)); cases hm; refine ⟨_, rfl, ?_⟩; rintro rfl
           refine ch (ct ?_)
           exact ⟨F.sl rfl, hl401, H⟩
       · skip
         clear F H hm
         rintro a w ⟨F, hl313, H⟩; have hm := hm312; clear hm312
         refine ct (sr (bk [2999] F H rfl ⟨rfl, (aggn agg35 ((bcells_length _).trans hl313)), trivial⟩ ?_)); clear F; intro a F
         refine s_storeA wkP F rfl rfl agg35 rfl rfl rfl H 2 rfl ((bcells_length _).trans hl313) ((bcells_length _).trans hl313) (bcells_flat _) ?_; clear H; intro w H
         replace H := H.nf 4 rfl
         refine nl (wr ?_)
         cases hm
         refine x_resC1 F rfl (⟨_, rfl, agg35.run_load (H.blk 2 rfl).row ((bcells_length _).trans hl313)⟩) ?_
         exact ⟨_, rfl, rfl, hl313, (H.pm 4 [1] rfl:)⟩
theorem ent61 : ∀ args w, (callFunc 61 args).run Tryd.prog w = .ok (.enter 61 args) w := enters Tryd.func61 (by kernel_rfl) rfl
theorem ent63 : ∀ args w, (callFunc 63 args).run Tryd.prog w = .ok (.enter 63 args) w := enters Tryd.func63 (by kernel_rfl) rfl
set_option maxRecDepth 100000 in
set_option maxHeartbeats 4000000 in
theorem w_shaSum {b : List UInt8} {p1 : Option Addr} {c1 : Nat} {w0 w : World} {l : List HP}  {r : (List UInt8)} (hm : shaSum b = some r) (H : St w0 w (HP.row 0 (0) (icells .u32 shaStart) :: HP.row 2 (0) (icells .u32 shaRounds) :: HP.sl rByte p1 c1 b :: l)) :
  Calls Tryd.prog 35 [.slice p1 (b).length c1].toArray w (fun e w' => ∃ v, e = .returned v ∧ v = .agg (bcells r).toArray ∧ ((r).length = 32) ∧ St w0 w' (l)) := by
 unfold shaSum at hm
 refine x_enter Tryd.func35 rfl rfl rfl ?_
 intro a F
 refine sr (s_allocA wkP F rfl rfl rfl agz35 rfl H ?_); clear F H; intro b3 w a H F
 replace H := H.nf 4 rfl
 refine nl (sr ?_)
 obtain ⟨x4, ex4, hm⟩ := ob hm
 refine sc wkP F rfl ent61 (w_shaNew ex4 (H.pm 4 [1, 0, 1, 2, 3] rfl:):) ?_; clear F H; rintro _ w a ⟨b5, rfl, H⟩ F
 refine bk [0] F H rfl trivial ?_; clear F; intro a F
 replace H := H.nf 5 rfl
 refine nl (sr (bk [0, 0] F H rfl trivial ?_)); clear F; intro a F
 obtain ⟨x6, ex6, hm⟩ := ob hm
 refine sc wkP F rfl ent62 (w_shaAdd ex6 (H.pm 5 [3, 0, 4, 1, 2, 3, 4] rfl:):) ?_; clear F H; rintro _ w a ⟨rfl, H⟩ F
 replace H := H.nf 5 rfl
 refine nl (sr (bk [0] F H rfl trivial ?_)); clear F; intro a F
 obtain ⟨x7, ex7, hm⟩ := ob hm
 refine sc wkP F rfl ent63 (w_shaHSum ex7 (H.pm 5 [3, 0, 1, 2, 3, 4] rfl:):) ?_; clear F H; rintro _ w a ⟨rfl, hl8, H⟩ F
 refine s_storeA wkP F rfl rfl agg35 rfl rfl rfl H 1 rfl ((bcells_length _).trans hl8) ((bcells_length _).trans (List.length_replicate (n := 32))) (bcells_flat _) ?_; clear H; intro w H
 replace H := H.nf 5 rfl
 refine nl (wr ?_)
 cases hm
 refine x_resC1 F rfl (⟨_, rfl, agg35.run_load (H.blk 1 rfl).row ((bcells_length _).trans hl8)⟩) ?_
 exact ⟨_, rfl, rfl, hl8, (H.pm 5 [] rfl:)⟩
end Go.Proofs.YtfepdfjhejkemaaDoor
