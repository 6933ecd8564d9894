/- a store that nobody uses -/
import Derived.Test.YtfepdfjhejkemaaDoorStoreC
set_option linter.unusedSimpArgs false
set_option linter.unusedVariables false
namespace Go.Proofs.YtfepdfjhejkemaaDoor
open Go.RowKit Go.Tri
set_option maxRecDepth 100000 in
set_option maxHeartbeats 4000000 in
theorem w_stOpenE {d : T_disk_Disk_o} {bo0 : Nat} {w0 w : World} {l : List HP}  {r : Unit × Int} (hm : stOpenE d = some r) (H : St w0 w (HP.row 0 (0) (icells .u32 shaStart) :: HP.row 2 (0) (icells .u32 shaRounds) :: O_disk_Disk bo0 d :: l)) :
  Calls Tryd.prog 10 [.pointer (some ⟨bo0, 0, none⟩)].toArray w (fun e w' => ∃ v, e = .returned v ∧ ∃ (q1 : Option Addr), v = .tuple [.pointer q1, .int .i64 (r.2)].toArray ∧ St w0 w' (O_disk_Disk bo0 d :: l)) := by
 unfold stOpenE at hm
 refine x_enter Tryd.func10 rfl rfl rfl ?_
 intro a F
 refine sr (bk [0, 0] F H rfl trivial ?_); clear F; intro a F
 refine nl (sr (bk [0] F H rfl trivial ?_)); clear F; intro a F
 refine s_mmNew hv false (rInt .i64) (fun l => l.length = 32) wkP F rfl rfl rfl rfl H ?_; clear F H; intro m2 w a H F
 refine s_mmNew (Value.int .i64) true (rBytesN 32) (fun _ => True) wkP F rfl rfl rfl rfl H ?_; clear F H; intro m3 w a H F
 refine s_mmNew hv false (rInt .i64) (fun l => l.length = 32) wkP F rfl rfl rfl rfl H ?_; clear F H; intro m4 w a H F
 refine s_val wkP F rfl rfl rfl rfl (y_build F rfl rfl (cs := [.pointer (some ⟨bo0, 0, none⟩), .map (some m2), .map (some m3), .map (some m4)]) (by kernel_rfl)) ?_; clear F; intro a F
 refine s_boxA wkP F rfl rfl rfl rfl rfl H ?_; clear F H; intro b5 w a H F
 refine bk [0] F H rfl trivial ?_; clear F; intro a F
 replace H := H.nf 7 rfl
 refine nl (sq (sr (bk [0] F H rfl trivial ?_))); clear F; intro a F
 obtain ⟨x6, ex6, hm⟩ := ob hm
 refine sc wkP F rfl ent32 (w_diskSectors ex6 (H.pm 7 [6, 0, 1, 2, 3, 4, 5] rfl:):) ?_; clear F H; rintro _ w a ⟨rfl, H⟩ F
 refine bk [0] F H rfl trivial ?_; clear F; intro a F
 replace H := H.nf 7 rfl
 refine nl ?_
 replace H := O_store_Store_s (H.pm 7 [1, 4, 3, 2, 0, 5, 6] rfl:)
 obtain ⟨o242, eo242, hm242⟩ := ob hm; clear hm; revert eo242; intro hm
 refine x_mid (fun aa ww => ∃ r242, o242 = Sum.inl r242 ∧ Fr ⟨74, []⟩ aa [(4, .pointer (some ⟨b5, 0, none⟩))] ∧ St w0 ww (O_store_Store b5 bo0 r242 :: O_disk_Disk bo0 d :: HP.row 0 (0) (icells .u32 shaStart) :: HP.row 2 (0) (icells .u32 shaRounds) :: l)) ?_ ?_
 · skip
   refine bl (x_loopO _ (fun (s399 : T_store_Store_o × Int) aa ww => Fr ⟨74, []⟩ aa [(0, .pointer (some ⟨bo0, 0, none⟩)), (4, .pointer (some ⟨b5, 0, none⟩)), (19, .int .i64 (x6)), (20, .int .i64 (s399.2))] ∧ St w0 ww (O_store_Store b5 bo0 s399.1 :: O_disk_Disk bo0 d :: HP.row 0 (0) (icells .u32 shaStart) :: HP.row 2 (0) (icells .u32 shaRounds) :: l)) hm ⟨F.sl rfl, H⟩ ?_)
   clear F H hm
   rintro s399 a w o ⟨F, H⟩ hm
   refine sr (bk [0] F H rfl trivial ?_); clear F; intro a F
   refine nl (sq (cP F rfl (fun hg400 => ?_) (fun hg400 => ?_)))
   · replace hm := ifT hg400 hm
     refine sk (ct (sq ?_))
     obtain ⟨o439, eo439, hm439⟩ := ob hm; clear hm; revert eo439; intro hm
     refine x_mid (fun aa ww => ∃ r439, o439 = Sum.inl r439 ∧ Fr ⟨74, []⟩ aa [(0, .pointer (some ⟨bo0, 0, none⟩)), (4, .pointer (some ⟨b5, 0, none⟩)), (19, .int .i64 (x6)), (20, .int .i64 (s399.2))] ∧ St w0 ww (O_store_Store b5 bo0 r439 :: O_disk_Disk bo0 d :: HP.row 0 (0) (icells .u32 shaStart) :: HP.row 2 (0) (icells .u32 shaRounds) :: l)) ?_ ?_
     · skip
       refine bl (sr (bk [0, 0] F H rfl trivial ?_)); clear F; intro a F
       refine nl (sr (bk [0, 0] F H rfl trivial ?_)); clear F; intro a F
       obtain ⟨x440, ex440, hm⟩ := ob hm
       refine sc wkP F rfl ent33 (w_diskRead ex440 (H.pm 4 [1, 0, 2, 3] rfl:):) ?_; clear F H; rintro _ w a ⟨p441, c441, rfl, H⟩ F
       refine bk (List.replicate 5 0) F H rfl trivial ?_; clear F; intro a F
       replace H := H.nf 5 rfl
       refine nl (sq (sr (bk [0, 0] F H rfl trivial ?_))); clear F; intro a F
       refine nl (cN F rfl (fun hg442 => ?_) (fun hg442 => ?_))
       · replace hm := ifF hg442 hm
         refine sr (bk [0, 0, 0] F H rfl trivial ?_); clear F; intro a F
         refine nl (wr (tr (br (tr ?_))))
         cases hm
         replace hm := elimR hm439
         refine tr (tr ?_); cases hm; refine ⟨_, rfl, ?_⟩; rintro rfl
         refine br (tr ?_)
         replace hm := elimR hm242
         refine tr ?_
         cases hm
         refine x_ret2 F rfl rfl rfl ?_
         exact ⟨_, rfl, none, rfl, (H.pm 5 [1] rfl:)⟩
       · replace hm := ifT hg442 hm
         refine sk (ct (sr (bk [0] F H rfl trivial ?_))); clear F; intro a F
         obtain ⟨x443, ex443, hm⟩ := ob hm
         refine sc wkP F rfl ent34 (w_unwrap ex443 (H.pm 5 [0, 0, 1, 2, 3, 4] rfl:):) ?_; clear F H; rintro _ w a ⟨p444, c444, rfl, H⟩ F
         refine bk (List.replicate 5 0) F H rfl trivial ?_; clear F; intro a F
         replace H := H.nf 6 rfl
         refine nl (sq (sr (bk [0, 0, 0] F H rfl trivial ?_))); clear F; intro a F
         by_cases hg445 : s399.2 < 2
         · replace hm := ifT hg445 hm
           replace F := F.bT 39 hg445 rfl
           refine bk [0, 0, 0] F H rfl trivial ?_; clear F; intro a F
           refine nl (cT F rfl ?_)
           refine ex (cx (ch ?_))
           cases hm
           refine ct ?_
           exact ⟨_, rfl, F.sl rfl, (H.pm 6 [3, 2, 4, 5] rfl:)⟩
         · replace hm := ifF hg445 hm
           replace F := F.bF 39 hg445 rfl
           refine bk [0, 0, 0] F H rfl trivial ?_; clear F; intro a F
           refine nl (cN F rfl (fun hg446 => ?_) (fun hg446 => ?_))
           · replace hm := ifF hg446 hm
             refine ex (cx (ch ?_))
             cases hm
             refine ct ?_
             exact ⟨_, rfl, F.sl rfl, (H.pm 6 [3, 2, 4, 5] rfl:)⟩
           · replace hm := ifT hg446 hm
             refine sk (ct (sr (bk [0] F H rfl trivial ?_))); clear F; intro a F
             obtain ⟨x447, ex447, hm⟩ := ob hm
             refine sc wkP F rfl ent35 (w_shaSum ex447 (H.pm 6 [4, 5, 0, 0, 1, 2, 3, 4, 5] rfl:):) ?_; clear F H; rintro _ w a ⟨rfl, hl448, H⟩ F
             refine s_allocA wkP F rfl rfl rfl agz35 rfl H ?_; clear F H; intro b449 w a H F
             refine s_storeA wkP F rfl rfl agg35 rfl rfl rfl H 0 rfl ((bcells_length _).trans hl448) ((bcells_length _).trans (List.length_replicate (n := 32))) (bcells_flat _) ?_; clear H; intro w H
             replace H := H.nf 7 rfl
             refine nl (sq ?_)
             obtain ⟨m450, m451, m452, H⟩ := O_store_Store_o (H.pk 4 rfl)
             obtain ⟨es453, H⟩ := H.mmOpen 1 rfl
             obtain ⟨cs454, hcs454, H⟩ := H.mxGet 1 rfl x447 (zc := [Value.int .i64 0]) (z0 := 0) (fun _ => rfl)
             obtain rfl := H.rcI 0 rfl
             replace H := H.dp 0 rfl
             refine qr H (by kernel_rfl) (by kernel_rfl) ?_
             refine qbk [0, 0, 1, 1, 4999] F rfl ⟨fld75_1, rfl, plain72, rfl, (aggn agg35 ((bcells_length _).trans hl448)), trivial⟩ ?_; clear F; intro a F
             refine q_val F rfl rfl rfl (fun u hu => y_mxGet2 (agg := false) (zc := [Value.int .i64 0]) F Tryd.underlying72 (keyH key35) (fun w => zero3.run w) rfl hu 1 rfl rfl (k := x447) rfl hl448 hcs454) ?_; clear F; intro a F
             refine qbk (List.replicate 5 0) F rfl trivial ?_; clear F; intro a F
             refine q_nil ?_; clear H; intro w H
             replace H := H.mxShut 1 rfl
             refine ct (sr (bk [0, 0] F H rfl trivial ?_)); clear F; intro a F
             replace H := H.nf 10 rfl
             refine nl ?_
             replace H := O_store_Store_s H
             obtain ⟨r466, er466, hm466⟩ := ob hm; clear hm; revert er466; intro hm
             refine x_mid (fun aa ww => Fr ⟨74, []⟩ aa [(0, .pointer (some ⟨bo0, 0, none⟩)), (4, .pointer (some ⟨b5, 0, none⟩)), (19, .int .i64 (x6)), (20, .int .i64 (s399.2))] ∧ St w0 ww (O_store_Store b5 bo0 r466 :: HP.blk b449 (bcells x447) 35 :: O_disk_Disk bo0 d :: HP.row 0 (0) (icells .u32 shaStart) :: HP.row 2 (0) (icells .u32 shaRounds) :: l)) ?_ ?_
             · skip
               refine cB F rfl (fun hg467 => ?_) (fun hg467 => ?_)
               · replace hm := ifT hg467 hm
                 obtain ⟨m473, m474, m475, H⟩ := O_store_Store_o (H.pk 0 rfl)
                 refine mix_region [12, 14, 15, 17] [17] (.step 0 0 (.step 0 1 (.step 0 2 (.step 1 3 (.step 1 4 (.step 0 5 (.step 0 6 (.step 0 7 (.step 1 8 (.step 0 9 (.step 0 10 (.step 0 11 (.step 2 12 (.step 0 13 (.step 2 14 (.step 2 15 (.step 0 16 (.step 3 17 .done)))))))))))))))))) (fun u => ∃ ls, St w0 u (HP.blk b449 (bcells x447) 35 :: ls)) (by kernel_rfl) (by kernel_rfl) ⟨_, (H.drew.pm 10 [4, 0, 1, 2, 3, 5, 6, 7, 8, 9] rfl:)⟩ ?_
                 replace H := H.drew
                 generalize w.drew = w at H ⊢
                 refine mbk [0, 0, 1, 1, 4999, 0, 0, 2, 2, 0, 0] F H rfl ⟨fld75_1, rfl, plain72, rfl, (aggn agg35 ((bcells_length _).trans hl448)), fld75_2, rfl, plain73, trivial⟩ ?_; clear F; intro a F
                 refine m_pure F rfl rfl rfl rfl (fun u hu => y_loadA F agg35 rfl rfl ((hu.choose_spec.blk 0 rfl).row) ((bcells_length _).trans hl448)) ?_; clear F; intro a F
                 refine m_heavy rfl rfl ?_
                 refine s_mmEntry (agg := false) (R := (rInt .i64)) (ek := hv) (ok := (fun l => l.length = 32)) wkP F rfl rfl rfl Tryd.underlying72 (keyH key35) (zc := [Value.int .i64 0]) (z0 := 0) (fun w => zero3.run w) (fun _ => rfl) rfl H 1 rfl rfl (k := x447) rfl hl448 ?_; clear F H; intro v476 q476 w a H F
                 refine lz ?_; refine ct ⟨⟨_, (H.pm 10 [4, 0, 1, 2, 3, 5, 6, 7, 8, 9] rfl:)⟩, ?_⟩
                 refine mbk [0] F H rfl trivial ?_; clear F; intro a F
                 refine m_heavy rfl rfl ?_
                 refine s_entStore wkP F rfl rfl rfl H 1 rfl inj_hv hl448 rfl rfl (cs := [.int .i64 (s399.2)]) rfl (v := s399.2) (fun gg => rfl) ?_; clear H; intro w H
                 refine lz ?_; refine ct ⟨⟨_, (H.pm 10 [4, 0, 1, 2, 3, 5, 6, 7, 8, 9] rfl:)⟩, ?_⟩
                 refine m_heavy rfl rfl ?_
                 refine s_mmEntry (agg := true) (R := (rBytesN 32)) (ek := (Value.int .i64)) (ok := (fun _ => True)) wkP F rfl rfl rfl Tryd.underlying73 (keyInt Tryd.underlying3) (zc := (bcells (List.replicate 32 0))) (z0 := (List.replicate 32 0)) (fun w => aggz35.run_zero w) (fun _ => ⟨rfl, List.length_replicate⟩) rfl H 2 rfl rfl (k := s399.2) rfl trivial ?_; clear F H; intro v477 q477 w a H F
                 refine lz ?_; refine ct ⟨⟨_, (H.pm 10 [4, 0, 1, 2, 3, 5, 6, 7, 8, 9] rfl:)⟩, ?_⟩
                 refine mbk [0] F H rfl trivial ?_; clear F; intro a F
                 refine m_last rfl rfl ?_
                 refine s_entStore wkP F rfl rfl rfl H 2 rfl inj_int trivial rfl rfl (cs := bcells x447) rfl (v := x447) (fun gg => ⟨rfl, hl448⟩) ?_; clear H; intro w H
                 refine lz ?_; refine ct ?_
                 refine m_nil ?_
                 replace H := O_store_Store_s H
                 cases hm
                 refine ct ?_
                 exact ⟨F.sl rfl, (H.pm 7 [0, 1, 4, 5, 6] rfl:)⟩
               · replace hm := ifF (nT hg467) hm
                 refine sk ?_
                 cases hm
                 refine ct ?_
                 exact ⟨F.sl rfl, (H.pm 7 [0, 1, 4, 5, 6] rfl:)⟩
             · skip
               clear F H hm
               rintro a w ⟨F, H⟩; have hm := hm466; clear hm466
               refine bn ?_
               cases hm
               refine ct ?_
               exact ⟨_, rfl, F.sl rfl, (H.pm 5 [0, 2, 3, 4] rfl:)⟩
     · skip
       clear F H hm
       rintro a w ⟨r439, rfl, F, H⟩; have hm := elimL hm439; clear hm439
       refine ct (rl (bk [0, 0] F H rfl trivial ?_)); clear F; intro a F
       refine lz (ct ?_); cases hm
       exact ⟨_, rfl, ⟨F.sl rfl, H⟩⟩
   · replace hm := ifF hg400 hm
     refine ex (cx (cx ?_)); cases hm; refine ⟨_, rfl, ?_⟩; rintro rfl
     refine ch (ct ?_)
     exact ⟨_, rfl, F.sl rfl, H⟩
 · skip
   clear F H hm
   rintro a w ⟨r242, rfl, F, H⟩; have hm := elimL hm242; clear hm242
   refine ct (sr (bk [0, 0, 0] F H rfl trivial ?_)); clear F; intro a F
   refine nl (wr ?_)
   cases hm
   refine x_ret2 F rfl rfl rfl ?_
   exact ⟨_, rfl, (some ⟨b5, 0, none⟩), rfl, (H.pm 4 [1] rfl:)⟩
end Go.Proofs.YtfepdfjhejkemaaDoor
