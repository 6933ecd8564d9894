/- the statements -/
import Derived.Test.YtfepdfjhejkemaaDoorStoreB
set_option linter.unusedSimpArgs false
set_option linter.unusedVariables false
namespace Go.Proofs.YtfepdfjhejkemaaDoor
open Go.RowKit Go.Tri
set_option maxRecDepth 100000 in
set_option maxHeartbeats 4000000 in
theorem w_stOpen {d : T_disk_Disk_o} {bo0 : Nat} {w0 w : World} {l : List HP}  {r : T_store_Store_o × Int} (hm : stOpen d = some r) (H : St w0 w (HP.row 0 (0) (icells .u32 shaStart) :: HP.row 2 (0) (icells .u32 shaRounds) :: O_disk_Disk bo0 d :: l)) :
  Calls Tryd.prog 10 [.pointer (some ⟨bo0, 0, none⟩)].toArray w (fun e w' => ∃ v, e = .returned v ∧ ∃ (b1 : Nat), v = .tuple [.pointer (some ⟨b1, 0, none⟩), .int .i64 (r.2)].toArray ∧ St w0 w' (O_store_Store b1 bo0 r.1 :: O_disk_Disk bo0 d :: l)) := by
 unfold stOpen at hm
 refine x_enter Tryd.func10 rfl rfl rfl ?_
 intro a F
 refine sr (bk [0, 0] F H rfl trivial ?_); clear F; intro a F
 refine nl (sr (bk [0] F H rfl trivial ?_)); clear F; intro a F
 refine s_mmNew hv false (rInt .i64) (fun l => l.length = 32) wkP F rfl rfl rfl rfl H ?_; clear F H; intro m2 w a H F
 refine s_mmNew (Value.int .i64) true (rBytesN 32) (fun _ => True) wkP F rfl rfl rfl rfl H ?_; clear F H; intro m3 w a H F
 refine s_mmNew hv false (rInt .i64) (fun l => l.length = 32) wkP F rfl rfl rfl rfl H ?_; clear F H; intro m4 w a H F
 refine s_val wkP F rfl rfl rfl rfl (y_build F rfl rfl (cs := [.pointer (some ⟨bo0, 0, none⟩), .map (some m2), .map (some m3), .map (some m4)]) (by kernel_rfl)) ?_; clear F; intro a F
 refine s_boxA wkP F rfl rfl rfl rfl rfl H ?_; clear F H; intro b5 w a H F
 refine bk [0] F H rfl trivial ?_; clear F; intro a F
 replace H := H.nf 7 rfl
 refine nl (sq (sr (bk [0] F H rfl trivial ?_))); clear F; intro a F
 obtain ⟨x6, ex6, hm⟩ := ob hm
 refine sc wkP F rfl ent32 (w_diskSectors ex6 (H.pm 7 [6, 0, 1, 2, 3, 4, 5] rfl:):) ?_; clear F H; rintro _ w a ⟨rfl, H⟩ F
 refine bk [0] F H rfl trivial ?_; clear F; intro a F
 replace H := H.nf 7 rfl
 refine nl ?_
 replace H := O_store_Store_s (H.pm 7 [1, 4, 3, 2, 0, 5, 6] rfl:)
 obtain ⟨o242, eo242, hm242⟩ := ob hm; clear hm; revert eo242; intro hm
 refine x_mid (fun aa ww => ∃ r242, o242 = Sum.inl r242 ∧ Fr ⟨74, []⟩ aa [(4, .pointer (some ⟨b5, 0, none⟩))] ∧ St w0 ww (O_store_Store b5 bo0 r242 :: O_disk_Disk bo0 d :: HP.row 0 (0) (icells .u32 shaStart) :: HP.row 2 (0) (icells .u32 shaRounds) :: l)) ?_ ?_
 · skip
   refine bl (x_loopO _ (fun (s399 : T_store_Store_o × Int) aa ww => Fr ⟨74, []⟩ aa [(0, .pointer (some ⟨bo0, 0, none⟩)), (4, .pointer (some ⟨b5, 0, none⟩)), (19, .int .i64 (x6)), (20, .int .i64 (s399.2))] ∧ St w0 ww (O_store_Store b5 bo0 s399.1 :: O_disk_Disk bo0 d :: HP.row 0 (0) (icells .u32 shaStart) :: HP.row 2 (0) (icells .u32 shaRounds) :: l)) hm ⟨F.sl rfl, H⟩ ?_)
   clear F H hm
   rintro s399 a w o ⟨F, H⟩ hm
   refine sr (bk [0] F H rfl trivial ?_); clear F; intro a F
   refine nl (sq (cP F rfl (fun hg400 => ?_) (fun hg400 => ?_)))
   · replace hm := ifT hg400 hm
     refine sk (ct (sq ?_))
     obtain ⟨o439, eo439, hm439⟩ := ob hm; clear hm; revert eo439; intro hm
     refine x_mid (fun aa ww => ∃ r439, o439 = Sum.inl r439 ∧ Fr ⟨74, []⟩ aa [(0, .pointer (some ⟨bo0, 0, none⟩)), (4, .pointer (some ⟨b5, 0, none⟩)), (19, .int .i64 (x6)), (20, .int .i64 (s399.2))] ∧ St w0 ww (O_store_Store b5 bo0 r439 :: O_disk_Disk bo0 d :: HP.row 0 (0) (icells .u32 shaStart) :: HP.row 2 (0) (icells .u32 shaRounds) :: l)) ?_ ?_
     · skip
       refine bl (sr (bk [0, 0] F H rfl trivial ?_)); clear F; intro a F
       refine nl (sr (bk [0, 0] F H rfl trivial ?_)); clear F; intro a F
       obtain ⟨x440, ex440, hm⟩ := ob hm
       refine sc wkP F rfl ent33 (w_diskRead ex440 (H.pm 4 [1, 0, 2, 3] rfl:):) ?_; clear F H; rintro _ w a ⟨p441, c441, rfl, H⟩ F
       refine bk (List.replicate 5 0) F H rfl trivial ?_; clear F; intro a F
       replace H := H.nf 5 rfl
       refine nl (sq (sr (bk [0, 0] F H rfl trivial ?_))); clear F; intro a F
       refine nl (cN F rfl (fun hg442 => ?_) (fun hg442 => ?_))
       · replace hm := ifF hg442 hm
         refine sr (bk [0, 0, 0] F H rfl trivial ?_); clear F; intro a F
         refine nl (wr ?_)
         cases hm
       · replace hm := ifT hg442 hm
         refine sk (ct (sr (bk [0] F H rfl trivial ?_))); clear F; intro a F
         obtain ⟨x443, ex443, hm⟩ := ob hm
         refine sc wkP F rfl ent34 (w_unwrap ex443 (H.pm 5 [0, 0, 1, 2, 3, 4] rfl:):) ?_; clear F H; rintro _ w a ⟨p444, c444, rfl, H⟩ F
         refine bk (List.replicate 5 0) F H rfl trivial ?_; clear F; intro a F
         replace H := H.nf 6 rfl
         refine nl (sq (sr (bk [0, 0, 0] F H rfl trivial ?_))); clear F; intro a F
         by_cases hg445 : s399.2 < 2
         · replace hm := ifT hg445 hm
           replace F := F.bT 39 hg445 rfl
           refine bk [0, 0, 0] F H rfl trivial ?_; clear F; intro a F
           refine nl (cT F rfl ?_)
           refine ex (cx (ch ?_))
           cases hm
           refine ct ?_
           exact ⟨_, rfl, F.sl rfl, (H.pm 6 [3, 2, 4, 5] rfl:)⟩
         · replace hm := ifF hg445 hm
           replace F := F.bF 39 hg445 rfl
           refine bk [0, 0, 0] F H rfl trivial ?_; clear F; intro a F
           refine nl (cN F rfl (fun hg446 => ?_) (fun hg446 => ?_))
           · replace hm := ifF hg446 hm
             refine ex (cx (ch ?_))
             cases hm
             refine ct ?_
             exact ⟨_, rfl, F.sl rfl, (H.pm 6 [3, 2, 4, 5] rfl:)⟩
           · replace hm := ifT hg446 hm
             refine sk (ct (sr (bk [0] F H rfl trivial ?_))); clear F; intro a F
             obtain ⟨x447, ex447, hm⟩ := ob hm
             refine sc wkP F rfl ent35 (w_shaSum ex447 (H.pm 6 [4, 5, 0, 0, 1, 2, 3, 4, 5] rfl:):) ?_; clear F H; rintro _ w a ⟨rfl, hl448, H⟩ F
             refine s_allocA wkP F rfl rfl rfl agz35 rfl H ?_; clear F H; intro b449 w a H F
             refine s_storeA wkP F rfl rfl agg35 rfl rfl rfl H 0 rfl ((bcells_length _).trans hl448) ((bcells_length _).trans (List.length_replicate (n := 32))) (bcells_flat _) ?_; clear H; intro w H
             replace H := H.nf 7 rfl
             refine nl (sq ?_)
             obtain ⟨m450, m451, m452, H⟩ := O_store_Store_o (H.pk 4 rfl)
             obtain ⟨es453, H⟩ := H.mmOpen 1 rfl
             obtain ⟨cs454, hcs454, H⟩ := H.mxGet 1 rfl x447 (zc := [Value.int .i64 0]) (z0 := 0) (fun _ => rfl)
             obtain rfl := H.rcI 0 rfl
             replace H := H.dp 0 rfl
             refine qr H (by kernel_rfl) (by kernel_rfl) ?_
             refine qbk [0, 0, 1, 1, 4999] F rfl ⟨fld75_1, rfl, plain72, rfl, (aggn agg35 ((bcells_length _).trans hl448)), trivial⟩ ?_; clear F; intro a F
             refine q_val F rfl rfl rfl (fun u hu => y_mxGet2 (agg := false) (zc := [Value.int .i64 0]) F Tryd.underlying72 (keyH key35) (fun w => zero3.run w) rfl hu 1 rfl rfl (k := x447) rfl hl448 hcs454) ?_; clear F; intro a F
             refine qbk (List.replicate 5 0) F rfl trivial ?_; clear F; intro a F
             refine q_nil ?_; clear H; intro w H
             replace H := H.mxShut 1 rfl
             refine ct (sr (bk [0, 0] F H rfl trivial ?_)); clear F; intro a F
             replace H := H.nf 10 rfl
             refine nl ?_
             replace H := O_store_Store_s H
             obtain ⟨r466, er466, hm466⟩ := ob hm; clear hm; revert er466; intro hm
             refine x_mid (fun aa ww => Fr ⟨74, []⟩ aa [(0, .pointer (some ⟨bo0, 0, none⟩)), (4, .pointer (some ⟨b5, 0, none⟩)), (19, .int .i64 (x6)), (20, .int .i64 (s399.2))] ∧ St w0 ww (O_store_Store b5 bo0 r466 :: HP.blk b449 (bcells x447) 35 :: O_disk_Disk bo0 d :: HP.row 0 (0) (icells .u32 shaStart) :: HP.row 2 (0) (icells .u32 shaRounds) :: l)) ?_ ?_
             · skip
               refine cB F rfl (fun hg467 => ?_) (fun hg467 => ?_)
               · replace hm := ifT hg467 hm
                 obtain ⟨m473, m474, m475, H⟩ := O_store_Store_o (H.pk 0 rfl)
                 refine mix_region [12, 14, 15, 17] [17] (.step 0 0 (.step 0 1 (.step 0 2 (.step 1 3 (.step 1 4 (.step 0 5 (.step 0 6 (.step 0 7 (.step 1 8 (.step 0 9 (.step 0 10 (.step 0 11 (.step 2 12 (.step 0 13 (.step 2 14 (.step 2 15 (.step 0 16 (.step 3 17 .done)))))))))))))))))) (fun u => ∃ ls, St w0 u (HP.blk b449 (bcells x447) 35 :: ls)) (by kernel_rfl) (by kernel_rfl) ⟨_, (H.drew.pm 10 [4, 0, 1, 2, 3, 5, 6, 7, 8, 9] rfl:)⟩ ?_
                 replace H := H.drew
                 generalize w.drew = w at H ⊢
                 refine mbk [0, 0, 1, 1, 4999, 0, 0, 2, 2, 0, 0] F H rfl ⟨fld75_1, rfl, plain72, rfl, (aggn agg35 ((bcells_length _).trans hl448)), fld75_2, rfl, plain73, trivial⟩ ?_; clear F; intro a F
                 refine m_pure F rfl rfl rfl rfl (fun u hu => y_loadA F agg35 rfl rfl ((hu.choose_spec.blk 0 rfl).row) ((bcells_length _).trans hl448)) ?_; clear F; intro a F
                 refine m_heavy rfl rfl ?_
                 refine s_mmEntry (agg := false) (R := (rInt .i64)) (ek := hv) (ok := (fun l => l.length = 32)) wkP F rfl rfl rfl Tryd.underlying72 (keyH key35) (zc := [Value.int .i64 0]) (z0 := 0) (fun w => zero3.run w) (fun _ => rfl) rfl H 1 rfl rfl (k := x447) rfl hl448 ?_; clear F H; intro v476 q476 w a H F
                 refine lz ?_; refine ct ⟨⟨_, (H.pm 10 [4, 0, 1, 2, 3, 5, 6, 7, 8, 9] rfl:)⟩, ?_⟩
                 refine mbk [0] F H rfl trivial ?_; clear F; intro a F
                 refine m_heavy rfl rfl ?_
                 refine s_entStore wkP F rfl rfl rfl H 1 rfl inj_hv hl448 rfl rfl (cs := [.int .i64 (s399.2)]) rfl (v := s399.2) (fun gg => rfl) ?_; clear H; intro w H
                 refine lz ?_; refine ct ⟨⟨_, (H.pm 10 [4, 0, 1, 2, 3, 5, 6, 7, 8, 9] rfl:)⟩, ?_⟩
                 refine m_heavy rfl rfl ?_
                 refine s_mmEntry (agg := true) (R := (rBytesN 32)) (ek := (Value.int .i64)) (ok := (fun _ => True)) wkP F rfl rfl rfl Tryd.underlying73 (keyInt Tryd.underlying3) (zc := (bcells (List.replicate 32 0))) (z0 := (List.replicate 32 0)) (fun w => aggz35.run_zero w) (fun _ => ⟨rfl, List.length_replicate⟩) rfl H 2 rfl rfl (k := s399.2) rfl trivial ?_; clear F H; intro v477 q477 w a H F
                 refine lz ?_; refine ct ⟨⟨_, (H.pm 10 [4, 0, 1, 2, 3, 5, 6, 7, 8, 9] rfl:)⟩, ?_⟩
                 refine mbk [0] F H rfl trivial ?_; clear F; intro a F
                 refine m_last rfl rfl ?_
                 refine s_entStore wkP F rfl rfl rfl H 2 rfl inj_int trivial rfl rfl (cs := bcells x447) rfl (v := x447) (fun gg => ⟨rfl, hl448⟩) ?_; clear H; intro w H
                 refine lz ?_; refine ct ?_
                 refine m_nil ?_
                 replace H := O_store_Store_s H
                 cases hm
                 refine ct ?_
                 exact ⟨F.sl rfl, (H.pm 7 [0, 1, 4, 5, 6] rfl:)⟩
               · replace hm := ifF (nT hg467) hm
                 refine sk ?_
                 cases hm
                 refine ct ?_
                 exact ⟨F.sl rfl, (H.pm 7 [0, 1, 4, 5, 6] rfl:)⟩
             · skip
               clear F H hm
               rintro a w ⟨F, H⟩; have hm := hm466; clear hm466
               refine bn ?_
               cases hm
               refine ct ?_
               exact ⟨_, rfl, F.sl rfl, (H.pm 5 [0, 2, 3, 4] rfl:)⟩
     · skip
       clear F H hm
       rintro a w ⟨r439, rfl, F, H⟩; have hm := elimL hm439; clear hm439
       refine ct (rl (bk [0, 0] F H rfl trivial ?_)); clear F; intro a F
       refine lz (ct ?_); cases hm
       exact ⟨_, rfl, ⟨F.sl rfl, H⟩⟩
   · replace hm := ifF hg400 hm
     refine ex (cx (cx ?_)); cases hm; refine ⟨_, rfl, ?_⟩; rintro rfl
     refine ch (ct ?_)
     exact ⟨_, rfl, F.sl rfl, H⟩
 · skip
   clear F H hm
   rintro a w ⟨r242, rfl, F, H⟩; have hm := elimL hm242; clear hm242
   refine ct (sr (bk [0, 0, 0] F H rfl trivial ?_)); clear F; intro a F
   refine nl (wr ?_)
   cases hm
   refine x_ret2 F rfl rfl rfl ?_
   exact ⟨_, rfl, b5, rfl, (H.pm 4 [0, 1] rfl:)⟩
theorem ent9 : ∀ args w, (callFunc 9 args).run Tryd.prog w = .ok (.enter 9 args) w := enters Tryd.func9 (by kernel_rfl) rfl
theorem ent10 : ∀ args w, (callFunc 10 args).run Tryd.prog w = .ok (.enter 10 args) w := enters Tryd.func10 (by kernel_rfl) rfl
theorem ent11 : ∀ args w, (callFunc 11 args).run Tryd.prog w = .ok (.enter 11 args) w := enters Tryd.func11 (by kernel_rfl) rfl
theorem ent14 : ∀ args w, (callFunc 14 args).run Tryd.prog w = .ok (.enter 14 args) w := enters Tryd.func14 (by kernel_rfl) rfl
theorem ent17 : ∀ args w, (callFunc 17 args).run Tryd.prog w = .ok (.enter 17 args) w := enters Tryd.func17 (by kernel_rfl) rfl
set_option maxRecDepth 100000 in
set_option maxHeartbeats 4000000 in
theorem w_m_triremelaw05_speaks   {w0 w : World} {l : List HP}  {r : Bool} (hm : m_triremelaw05_speaks  = some r) (H : St w0 w (HP.row 0 (0) (icells .u32 shaStart) :: HP.row 2 (0) (icells .u32 shaRounds) :: l)) :
  Calls Tryd.prog 8 [].toArray w (fun e w' => ∃ v, e = .returned v ∧ v = .bool (r) ∧ St w0 w' (l)) := by
 unfold m_triremelaw05_speaks at hm
 refine x_enter Tryd.func8 rfl rfl rfl ?_
 intro a F
 refine sr (bk [0] F H rfl trivial ?_); clear F; intro a F
 refine nl (sr ?_)
 obtain ⟨x1, ex1, hm⟩ := ob hm
 refine sc wkP F rfl ent9 (w_diskNew ex1 H:) ?_; clear F H; rintro _ w a ⟨b2, rfl, H⟩ F
 refine bk (List.replicate 5 0) F H rfl trivial ?_; clear F; intro a F
 replace H := H.nf 3 rfl
 refine nl (sq (sr (bk [0] F H rfl trivial ?_))); clear F; intro a F
 refine s_val wkP F rfl rfl rfl rfl (y_eqlPN F rfl rfl rfl Tryd.underlying25) ?_; clear F; intro a F
 refine nl (cF F rfl ?_)
 refine sk (ct (sr (bk [0] F H rfl trivial ?_))); clear F; intro a F
 obtain ⟨x3, ex3, hm⟩ := ob hm
 refine sc wkP F rfl ent10 (w_stOpen ex3 (H.pm 3 [1, 2, 0, 1, 2] rfl:):) ?_; clear F H; rintro _ w a ⟨b4, rfl, H⟩ F
 refine bk (List.replicate 5 0) F H rfl trivial ?_; clear F; intro a F
 replace H := H.nf 4 rfl
 refine nl (sq (sr (bk [0] F H rfl trivial ?_))); clear F; intro a F
 refine s_val wkP F rfl rfl rfl rfl (y_eqlPN F rfl rfl rfl Tryd.underlying29) ?_; clear F; intro a F
 refine bk [0, 0, 0, 0] F H rfl trivial ?_; clear F; intro a F
 refine nl (cN F rfl (fun hg5 => ?_) (fun hg5 => ?_))
 · replace hm := ifF hg5 hm
   refine sr (bk [0] F H rfl trivial ?_); clear F; intro a F
   refine nl (wr (tr ?_))
   cases hm
   refine x_ret1 F rfl rfl ?_
   exact ⟨_, rfl, rfl, (H.pm 4 [] rfl:)⟩
 · replace hm := ifT hg5 hm
   refine sk (ct (sr (bk [0] F H rfl trivial ?_))); clear F; intro a F
   obtain ⟨x7, ex7, hm⟩ := ob hm
   refine s_buildC wkP F rfl rfl rfl elem33 zero5 rfl rfl rfl rfl (by simp [Value.cells]) (by decide) H ?_; clear F H; intro b6 w a H F
   replace H : St w0 w (HP.ow rByte 5 (some ⟨b6, 0, none⟩) (([x7]).length) ([x7]) :: O_store_Store b4 b2 x3.1 :: O_disk_Disk b2 x1.1 :: HP.row 0 (0) (icells .u32 shaStart) :: HP.row 2 (0) (icells .u32 shaRounds) :: l) := H.blkOw (R := rByte) 0 rfl (fun gg => ⟨[[.int .u8 (97)]], rfl, (congrArg (fun z => [Value.int .u8 z]) (u8O_some ex7).symm), trivial⟩) (by simp)
   refine s_convSl wkP F rfl rfl rfl Tryd.underlying33 Tryd.underlying5 rfl rfl H 0 rfl ?_; clear F H; intro w a H F
   obtain ⟨x8, ex8, hm⟩ := ob hm
   refine sc wkP F rfl ent11 (w_stPut ex8 (H.pm 5 [3, 4, 1, 2, 0, 0, 3, 4] rfl:):) ?_; clear F H; rintro _ w a ⟨rfl, hl9, H⟩ F
   refine bk [0, 0, 0] F H rfl trivial ?_; clear F; intro a F
   refine s_allocA wkP F rfl rfl rfl agz35 rfl H ?_; clear F H; intro b10 w a H F
   refine s_storeA wkP F rfl rfl agg35 rfl rfl rfl H 0 rfl ((bcells_length _).trans hl9) ((bcells_length _).trans (List.length_replicate (n := 32))) (bcells_flat _) ?_; clear H; intro w H
   refine bk [0] F H rfl trivial ?_; clear F; intro a F
   replace H := H.nf 6 rfl
   refine nl (sr (bk [0] F H rfl trivial ?_)); clear F; intro a F
   obtain ⟨x12, ex12, hm⟩ := ob hm
   refine s_buildC wkP F rfl rfl rfl elem33 zero5 rfl rfl rfl rfl (by simp [Value.cells]) (by decide) H ?_; clear F H; intro b11 w a H F
   replace H : St w0 w (HP.ow rByte 5 (some ⟨b11, 0, none⟩) (([x12]).length) ([x12]) :: HP.blk b10 (bcells x8.1) 35 :: O_store_Store b4 b2 x8.2.2.2 :: O_disk_Disk b2 x8.2.2.1 :: HP.sl rByte (some ⟨b6, 0, none⟩) (([x7]).length) ([x7]) :: HP.row 0 (0) (icells .u32 shaStart) :: HP.row 2 (0) (icells .u32 shaRounds) :: l) := H.blkOw (R := rByte) 0 rfl (fun gg => ⟨[[.int .u8 (98)]], rfl, (congrArg (fun z => [Value.int .u8 z]) (u8O_some ex12).symm), trivial⟩) (by simp)
   refine s_convSl wkP F rfl rfl rfl Tryd.underlying33 Tryd.underlying5 rfl rfl H 0 rfl ?_; clear F H; intro w a H F
   obtain ⟨x13, ex13, hm⟩ := ob hm
   refine sc wkP F rfl ent11 (w_stPut ex13 (H.pm 7 [5, 6, 2, 3, 0, 0, 1, 4, 5, 6] rfl:):) ?_; clear F H; rintro _ w a ⟨rfl, hl14, H⟩ F
   replace H := H.nf 7 rfl
   refine nl (sr (bk [0] F H rfl trivial ?_)); clear F; intro a F
   obtain ⟨x16, ex16, hm⟩ := ob hm
   refine s_buildC wkP F rfl rfl rfl elem33 zero5 rfl rfl rfl rfl (by simp [Value.cells]) (by decide) H ?_; clear F H; intro b15 w a H F
   replace H : St w0 w (HP.ow rByte 5 (some ⟨b15, 0, none⟩) (([x16]).length) ([x16]) :: O_store_Store b4 b2 x13.2.2.2 :: O_disk_Disk b2 x13.2.2.1 :: HP.sl rByte (some ⟨b11, 0, none⟩) (([x12]).length) ([x12]) :: HP.blk b10 (bcells x8.1) 35 :: HP.sl rByte (some ⟨b6, 0, none⟩) (([x7]).length) ([x7]) :: HP.row 0 (0) (icells .u32 shaStart) :: HP.row 2 (0) (icells .u32 shaRounds) :: l) := H.blkOw (R := rByte) 0 rfl (fun gg => ⟨[[.int .u8 (99)]], rfl, (congrArg (fun z => [Value.int .u8 z]) (u8O_some ex16).symm), trivial⟩) (by simp)
   refine s_convSl wkP F rfl rfl rfl Tryd.underlying33 Tryd.underlying5 rfl rfl H 0 rfl ?_; clear F H; intro w a H F
   obtain ⟨x17, ex17, hm⟩ := ob hm
   refine sc wkP F rfl ent11 (w_stPut ex17 (H.pm 8 [6, 7, 1, 2, 0, 0, 3, 4, 5, 6, 7] rfl:):) ?_; clear F H; rintro _ w a ⟨rfl, hl18, H⟩ F
   refine bk [0, 0, 0] F H rfl trivial ?_; clear F; intro a F
   refine s_allocA wkP F rfl rfl rfl agz35 rfl H ?_; clear F H; intro b19 w a H F
   refine s_storeA wkP F rfl rfl agg35 rfl rfl rfl H 0 rfl ((bcells_length _).trans hl18) ((bcells_length _).trans (List.length_replicate (n := 32))) (bcells_flat _) ?_; clear H; intro w H
   refine bk [0] F H rfl trivial ?_; clear F; intro a F
   replace H := H.nf 9 rfl
   refine nl (sr (bk [0] F H rfl trivial ?_)); clear F; intro a F
   replace H := H.owNil (rBytesN 32) 35
   replace H := H.frz 0 rfl
   obtain ⟨x20, ex20, hm⟩ := ob hm
   refine sc wkP F rfl ent14 (w_stHold ex20 (H.pm 10 [2, 3, 0, 0, 1, 4, 5, 6, 7, 8, 9] rfl:):) ?_; clear F H; rintro _ w a ⟨rfl, H⟩ F
   replace H := H.nf 10 rfl
   refine nl (sr (bk [0] F H rfl trivial ?_)); clear F; intro a F
   obtain ⟨x22, ex22, hm⟩ := ob hm
   refine s_buildC wkP F rfl rfl rfl elem33 zero5 rfl rfl rfl rfl (by simp [Value.cells]) (by decide) H ?_; clear F H; intro b21 w a H F
   replace H : St w0 w (HP.ow rByte 5 (some ⟨b21, 0, none⟩) (([x22]).length) ([x22]) :: O_store_Store b4 b2 x20.2 :: O_disk_Disk b2 x20.1 :: HP.sl (rBytesN 32) none 0 ([] : List (List UInt8)) :: HP.blk b19 (bcells x17.1) 35 :: HP.sl rByte (some ⟨b15, 0, none⟩) (([x16]).length) ([x16]) :: HP.sl rByte (some ⟨b11, 0, none⟩) (([x12]).length) ([x12]) :: HP.blk b10 (bcells x8.1) 35 :: HP.sl rByte (some ⟨b6, 0, none⟩) (([x7]).length) ([x7]) :: HP.row 0 (0) (icells .u32 shaStart) :: HP.row 2 (0) (icells .u32 shaRounds) :: l) := H.blkOw (R := rByte) 0 rfl (fun gg => ⟨[[.int .u8 (99)]], rfl, (congrArg (fun z => [Value.int .u8 z]) (u8O_some ex22).symm), trivial⟩) (by simp)
   refine s_convSl wkP F rfl rfl rfl Tryd.underlying33 Tryd.underlying5 rfl rfl H 0 rfl ?_; clear F H; intro w a H F
   obtain ⟨x23, ex23, hm⟩ := ob hm
   refine sc wkP F rfl ent11 (w_stPut ex23 (H.pm 11 [9, 10, 1, 2, 0, 0, 3, 4, 5, 6, 7, 8, 9, 10] rfl:):) ?_; clear F H; rintro _ w a ⟨rfl, hl24, H⟩ F
   refine bk [0, 0, 0] F H rfl trivial ?_; clear F; intro a F
   refine s_allocA wkP F rfl rfl rfl agz35 rfl H ?_; clear F H; intro b25 w a H F
   refine s_storeA wkP F rfl rfl agg35 rfl rfl rfl H 0 rfl ((bcells_length _).trans hl24) ((bcells_length _).trans (List.length_replicate (n := 32))) (bcells_flat _) ?_; clear H; intro w H
   refine bk [0] F H rfl trivial ?_; clear F; intro a F
   replace H := H.nf 12 rfl
   refine nl (sq ?_)
   by_cases hg37 : x8.2.1 = 0
   · replace hm := ifT hg37 hm
     refine mix_region [4, 5, 6, 20, 25] [] (.step 0 0 (.step 0 1 (.step 0 2 (.step 0 3 (.step 2 4 (.step 2 5 (.step 2 6 (.step 0 7 (.step 0 8 (.step 0 9 (.step 0 10 (.step 0 11 (.step 0 12 (.step 0 13 (.step 0 14 (.step 0 15 (.step 0 16 (.step 0 17 (.step 0 18 (.step 1 19 (.step 2 20 (.step 0 21 (.step 0 22 (.step 0 23 (.step 0 24 (.step 2 25 (.step 0 26 (.step 0 27 (.step 0 28 .done))))))))))))))))))))))))))))) (fun u => ∃ ls, St w0 u (HP.blk b10 (bcells x8.1) 35 :: ls)) (by kernel_rfl) (by kernel_rfl) ⟨_, (H.drew.pm 12 [8, 0, 1, 2, 3, 4, 5, 6, 7, 9, 10, 11] rfl:)⟩ ?_
     replace H := H.drew
     generalize w.drew = w at H ⊢
     refine mbk [0, 0, 0] F H rfl trivial ?_; clear F; intro a F
     replace F := F.bT 57 hg37 rfl
     refine m_on (k := 0) F rfl rfl rfl rfl rfl rfl rfl (fun u hu => y_loadA F agg35 rfl rfl ((hu.choose_spec.blk 0 rfl).row) ((bcells_length _).trans hl9)) ?_; clear F; intro a F
     refine m_heavyOn F rfl rfl rfl rfl rfl ?_; refine g_onP F rfl rfl rfl rfl ?_
     obtain ⟨x39, ex39, hm⟩ := ob hm
     refine s_buildC wkP F rfl rfl rfl elem33 zero5 rfl rfl rfl rfl (by simp [Value.cells]) (by decide) H ?_; clear F H; intro b38 w a H F
     replace H : St w0 w (HP.ow rByte 5 (some ⟨b38, 0, none⟩) (([x39]).length) ([x39]) :: HP.blk b25 (bcells x23.1) 35 :: O_store_Store b4 b2 x23.2.2.2 :: O_disk_Disk b2 x23.2.2.1 :: HP.sl rByte (some ⟨b21, 0, none⟩) (([x22]).length) ([x22]) :: HP.sl (rBytesN 32) none 0 ([] : List (List UInt8)) :: HP.blk b19 (bcells x17.1) 35 :: HP.sl rByte (some ⟨b15, 0, none⟩) (([x16]).length) ([x16]) :: HP.sl rByte (some ⟨b11, 0, none⟩) (([x12]).length) ([x12]) :: HP.blk b10 (bcells x8.1) 35 :: HP.sl rByte (some ⟨b6, 0, none⟩) (([x7]).length) ([x7]) :: HP.row 0 (0) (icells .u32 shaStart) :: HP.row 2 (0) (icells .u32 shaRounds) :: l) := H.blkOw (R := rByte) 0 rfl (fun gg => ⟨[[.int .u8 (97)]], rfl, (congrArg (fun z => [Value.int .u8 z]) (u8O_some ex39).symm), trivial⟩) (by simp)
     refine lz ?_; refine ct ⟨⟨_, (H.pm 13 [9, 0, 1, 2, 3, 4, 5, 6, 7, 8, 10, 11, 12] rfl:)⟩, ?_⟩
     refine m_heavyOn F rfl rfl rfl rfl rfl ?_; refine g_onP F rfl rfl rfl rfl ?_
     refine s_convSl wkP F rfl rfl rfl Tryd.underlying33 Tryd.underlying5 rfl rfl H 0 rfl ?_; clear F H; intro w a H F
     refine lz ?_; refine ct ⟨⟨_, (H.pm 13 [9, 0, 1, 2, 3, 4, 5, 6, 7, 8, 10, 11, 12] rfl:)⟩, ?_⟩
     refine m_heavyOn F rfl rfl rfl rfl rfl ?_; refine g_onP F rfl rfl rfl rfl ?_
     obtain ⟨x40, ex40, hm⟩ := ob hm
     refine sc wkP F rfl ent12 (w_rSum ex40 (H.pm 13 [0, 0, 1, 2, 3, 4, 5, 6, 7, 8, 9, 10, 11, 12] rfl:):) ?_; clear F H; rintro _ w a ⟨rfl, hl41, H⟩ F
     refine lz ?_; refine ct ⟨⟨_, (H.pm 13 [9, 0, 1, 2, 3, 4, 5, 6, 7, 8, 10, 11, 12] rfl:)⟩, ?_⟩
     refine m_on (k := 0) F rfl rfl rfl rfl rfl rfl rfl (fun u hu => y_eqlA F key35 rfl rfl rfl hl9 hl41) ?_; clear F; intro a F
     refine mbk [0, 0] F H rfl trivial ?_; clear F; intro a F
     by_cases hg42 : x8.1 = x40
     · replace hm := ifT hg42 hm
       replace F := F.bT 64 hg42 rfl
       refine mbk [0, 0, 0, 0] F H rfl trivial ?_; clear F; intro a F
       by_cases hg43 : x17.2.1 = 50
       · replace hm := ifT hg43 hm
         replace F := F.bT 68 hg43 rfl
         refine mbk [0, 0, 0, 0] F H rfl trivial ?_; clear F; intro a F
         by_cases hg44 : x23.2.1 = 0
         · replace hm := ifT hg44 hm
           replace F := F.bT 72 hg44 rfl
           refine mbk [0, 9999] F H rfl ⟨rfl, (aggn agg35 ((bcells_length _).trans hl9)), trivial⟩ ?_; clear F; intro a F
           refine m_heavyOn F rfl rfl rfl rfl rfl ?_; refine g_onP F rfl rfl rfl rfl ?_
           obtain ⟨x45, ex45, hm⟩ := ob hm
           refine sc wkP F rfl ent30 (w_stHas hl9 ex45 (H.pm 13 [2, 3, 0, 1, 4, 5, 6, 7, 8, 9, 10, 11, 12] rfl:):) ?_; clear F H; rintro _ w a ⟨rfl, H⟩ F
           refine lz ?_; refine ct ⟨⟨_, (H.pm 13 [9, 0, 1, 2, 3, 4, 5, 6, 7, 8, 10, 11, 12] rfl:)⟩, ?_⟩
           refine mbk [0, 0, 0] F H rfl trivial ?_; clear F; intro a F
           by_cases hg46 : (!x45) = true
           · replace hm := ifT hg46 hm
             replace F := F.vT 78 hg46 rfl
             refine mbk [0] F H rfl trivial ?_; clear F; intro a F
             refine m_heavyOn F rfl rfl rfl rfl rfl ?_; refine g_onP F rfl rfl rfl rfl ?_
             obtain ⟨x47, ex47, hm⟩ := ob hm
             refine sc wkP F rfl ent17 (w_stFree ex47 H:) ?_; clear F H; rintro _ w a ⟨rfl, H⟩ F
             refine lz ?_; refine ct ⟨⟨_, (H.pm 13 [9, 0, 1, 2, 3, 4, 5, 6, 7, 8, 10, 11, 12] rfl:)⟩, ?_⟩
             refine mbk [0, 0, 0] F H rfl trivial ?_; clear F; intro a F
             refine m_nil ?_
             refine ct (wr ?_)
             cases hm
             refine x_ret1 F rfl rfl ?_
             exact ⟨_, rfl, rfl, (H.pm 13 [] rfl:)⟩
           · replace hm := ifF hg46 hm
             replace F := F.vF 78 hg46 rfl
             refine mbk (List.replicate 5 0) F H rfl trivial ?_; clear F; intro a F
             refine m_nil ?_
             refine ct (wr ?_)
             cases hm
             refine x_ret1 F rfl rfl ?_
             exact ⟨_, rfl, rfl, (H.pm 13 [] rfl:)⟩
         · replace hm := ifF hg44 hm
           replace F := F.bF 72 hg44 rfl
           refine mbk (List.replicate 11 0) F H rfl trivial ?_; clear F; intro a F
           refine m_nil ?_
           refine ct (wr ?_)
           cases hm
           refine x_ret1 F rfl rfl ?_
           exact ⟨_, rfl, rfl, (H.pm 13 [] rfl:)⟩
       · replace hm := ifF hg43 hm
         replace F := F.bF 68 hg43 rfl
         refine mbk (List.replicate 15 0) F H rfl trivial ?_; clear F; intro a F
         refine m_nil ?_
         refine ct (wr ?_)
         cases hm
         refine x_ret1 F rfl rfl ?_
         exact ⟨_, rfl, rfl, (H.pm 13 [] rfl:)⟩
     · replace hm := ifF hg42 hm
       replace F := F.bF 64 hg42 rfl
       refine mbk (List.replicate 19 0) F H rfl trivial ?_; clear F; intro a F
       refine m_nil ?_
       refine ct (wr ?_)
       cases hm
       refine x_ret1 F rfl rfl ?_
       exact ⟨_, rfl, rfl, (H.pm 13 [] rfl:)⟩
   · replace hm := ifF hg37 hm
     refine mix_region [4, 5, 6, 20, 25] [] (.step 0 0 (.step 0 1 (.step 0 2 (.step 0 3 (.step 2 4 (.step 2 5 (.step 2 6 (.step 0 7 (.step 0 8 (.step 0 9 (.step 0 10 (.step 0 11 (.step 0 12 (.step 0 13 (.step 0 14 (.step 0 15 (.step 0 16 (.step 0 17 (.step 0 18 (.step 1 19 (.step 2 20 (.step 0 21 (.step 0 22 (.step 0 23 (.step 0 24 (.step 2 25 (.step 0 26 (.step 0 27 (.step 0 28 .done))))))))))))))))))))))))))))) (fun u => ∃ ls, St w0 u (HP.blk b10 (bcells x8.1) 35 :: ls)) (by kernel_rfl) (by kernel_rfl) ⟨_, (H.drew.pm 12 [8, 0, 1, 2, 3, 4, 5, 6, 7, 9, 10, 11] rfl:)⟩ ?_
     replace H := H.drew
     generalize w.drew = w at H ⊢
     refine mbk [0, 0, 0] F H rfl trivial ?_; clear F; intro a F
     replace F := F.bF 57 hg37 rfl
     refine mbk (List.replicate 26 0) F H rfl trivial ?_; clear F; intro a F
     refine m_nil ?_
     refine ct (wr ?_)
     cases hm
     refine x_ret1 F rfl rfl ?_
     exact ⟨_, rfl, rfl, (H.pm 12 [] rfl:)⟩
end Go.Proofs.YtfepdfjhejkemaaDoor
