/- the statement -/
import Derived.Test.YtfepdfjhejkemaaDoorLawA
set_option linter.unusedSimpArgs false
set_option linter.unusedVariables false
namespace Go.Proofs.YtfepdfjhejkemaaDoor
open Go.RowKit Go.Tri
theorem ent8 : ∀ args w, (callFunc 8 args).run Tryd.prog w = .ok (.enter 8 args) w := enters Tryd.func8 (by kernel_rfl) rfl
theorem ent13 : ∀ args w, (callFunc 13 args).run Tryd.prog w = .ok (.enter 13 args) w := enters Tryd.func13 (by kernel_rfl) rfl
theorem ent15 : ∀ args w, (callFunc 15 args).run Tryd.prog w = .ok (.enter 15 args) w := enters Tryd.func15 (by kernel_rfl) rfl
theorem ent16 : ∀ args w, (callFunc 16 args).run Tryd.prog w = .ok (.enter 16 args) w := enters Tryd.func16 (by kernel_rfl) rfl
set_option maxRecDepth 100000 in
set_option maxHeartbeats 4000000 in
theorem w_m_triremelaw05_StoreKeeps {x0_ : List (List UInt8)} {x1_ : List (List UInt8)} {x2_ : List Int} {p1 : Option Addr} {c1 : Nat} {p2 : Option Addr} {c2 : Nat} {p3 : Option Addr} {c3 : Nat} {w0 w : World} {l : List HP}  {r : Bool} (hm : m_triremelaw05_StoreKeeps x0_ x1_ x2_ = some r) (H : St w0 w (HP.row 0 (0) (icells .u32 shaStart) :: HP.row 2 (0) (icells .u32 shaRounds) :: HP.sl (rSl rByte) p1 c1 x0_ :: HP.sl (rSl rByte) p2 c2 x1_ :: HP.sl (rInt .i64) p3 c3 x2_ :: l)) :
  Calls Tryd.prog 3 [.slice p1 (x0_).length c1, .slice p2 (x1_).length c2, .slice p3 (x2_).length c3].toArray w (fun e w' => ∃ v, e = .returned v ∧ v = .bool (r) ∧ St w0 w' (l)) := by
 unfold m_triremelaw05_StoreKeeps at hm
 refine x_enter Tryd.func3 rfl rfl rfl ?_
 intro a F
 refine sr (bk [0] F H rfl trivial ?_); clear F; intro a F
 refine nl (sq (sr ?_))
 obtain ⟨x4, ex4, hm⟩ := ob hm
 refine sc wkP F rfl ent8 (w_m_triremelaw05_speaks ex4 (H.pm 5 [0, 1, 0, 1, 2, 3, 4] rfl:):) ?_; clear F H; rintro _ w a ⟨rfl, H⟩ F
 refine bk [0] F H rfl trivial ?_; clear F; intro a F
 replace H := H.nf 5 rfl
 refine nl (cB F rfl (fun hg5 => ?_) (fun hg5 => ?_))
 · replace hm := ifT hg5 hm
   refine sr (bk [0] F H rfl trivial ?_); clear F; intro a F
   refine nl (wr (tr ?_))
   cases hm
   refine x_ret1 F rfl rfl ?_
   exact ⟨_, rfl, rfl, (H.pm 5 [] rfl:)⟩
 · replace hm := ifF (nT hg5) hm
   refine sk (ct (sq (sr (bk [0, 0, 0, 0] F H rfl ⟨⟨_, Tryd.underlying22⟩, trivial⟩ ?_)))); clear F; intro a F
   by_cases hg6 : 10 < ((x0_).length : Int)
   · replace hm := ifT hg6 hm
     replace F := F.bT 30 hg6 rfl
     refine bk [0, 0, 0, 0] F H rfl trivial ?_; clear F; intro a F
     refine nl (cT F rfl ?_)
     refine sr (bk [0] F H rfl trivial ?_); clear F; intro a F
     refine nl (wr (tr ?_))
     cases hm
     refine x_ret1 F rfl rfl ?_
     exact ⟨_, rfl, rfl, (H.pm 5 [] rfl:)⟩
   · replace hm := ifF hg6 hm
     replace F := F.bF 30 hg6 rfl
     refine bk [0, 0, 0, 0] F H rfl ⟨⟨_, Tryd.underlying22⟩, trivial⟩ ?_; clear F; intro a F
     refine nl (cP F rfl (fun hg7 => ?_) (fun hg7 => ?_))
     · replace hm := ifT hg7 hm
       refine sr (bk [0] F H rfl trivial ?_); clear F; intro a F
       refine nl (wr (tr ?_))
       cases hm
       refine x_ret1 F rfl rfl ?_
       exact ⟨_, rfl, rfl, (H.pm 5 [] rfl:)⟩
     · replace hm := ifF hg7 hm
       refine sk (ct (sr ?_))
       obtain ⟨x8, ex8, hm⟩ := ob hm
       refine sc wkP F rfl ent9 (w_diskNew ex8 H:) ?_; clear F H; rintro _ w a ⟨b9, rfl, H⟩ F
       refine bk (List.replicate 5 0) F H rfl trivial ?_; clear F; intro a F
       replace H := H.nf 6 rfl
       refine nl (sq (sr (bk [0] F H rfl trivial ?_))); clear F; intro a F
       refine s_val wkP F rfl rfl rfl rfl (y_eqlPN F rfl rfl rfl Tryd.underlying25) ?_; clear F; intro a F
       refine nl (cF F rfl ?_)
       refine sk (ct (sr (bk [0] F H rfl trivial ?_))); clear F; intro a F
       obtain ⟨x10, ex10, hm⟩ := ob hm
       refine sc wkP F rfl ent10 (w_stOpen ex10 (H.pm 6 [1, 2, 0, 1, 2, 3, 4, 5] rfl:):) ?_; clear F H; rintro _ w a ⟨b11, rfl, H⟩ F
       refine bk (List.replicate 5 0) F H rfl trivial ?_; clear F; intro a F
       replace H := H.nf 7 rfl
       refine nl (sq (sr (bk [0] F H rfl trivial ?_))); clear F; intro a F
       refine s_val wkP F rfl rfl rfl rfl (y_eqlPN F rfl rfl rfl Tryd.underlying29) ?_; clear F; intro a F
       refine nl (cF F rfl ?_)
       refine sk (ct (sr (s_build0O (R := (rBytesN 32)) wkP F rfl rfl rfl elem32 rfl H ?_))); clear F H; intro b12 w a H F
       refine bk [0] F H rfl trivial ?_; clear F; intro a F
       replace H := H.nf 8 rfl
       refine nl (sq (sr (bk [0, 0, 0] F H rfl ⟨⟨_, Tryd.underlying22⟩, trivial⟩ ?_))); clear F; intro a F
       refine nl ?_
       obtain ⟨o65, eo65, hm65⟩ := ob hm; clear hm; revert eo65; intro hm
       refine x_mid (fun aa ww => ∃ r65, o65 = Sum.inl r65 ∧ ∃ (p66 : Option Addr) (c66 : Nat), Fr ⟨140, []⟩ aa [(0, .slice p1 (x0_).length c1), (1, .slice p2 (x1_).length c2), (2, .slice p3 (x2_).length c3), (7, .pointer (some ⟨b9, 0, none⟩)), (9, .pointer (some ⟨b11, 0, none⟩)), (11, .slice p66 (r65.2.2).length c66)] ∧ St w0 ww (O_store_Store b11 b9 r65.1 :: O_disk_Disk b9 r65.2.1 :: HP.row 0 (0) (icells .u32 shaStart) :: HP.row 2 (0) (icells .u32 shaRounds) :: HP.sl (rSl rByte) p1 c1 x0_ :: HP.sl (rSl rByte) p2 c2 x1_ :: HP.sl (rInt .i64) p3 c3 x2_ :: HP.ow (rBytesN 32) 35 p66 c66 r65.2.2 :: l)) ?_ ?_
       · skip
         refine bl ?_
         refine x_loopO _ (fun (s101 : T_store_Store_o × T_disk_Disk_o × (List (List UInt8)) × Int) aa ww => ∃ (p102 : Option Addr) (c102 : Nat), Fr ⟨140, []⟩ aa [(0, .slice p1 (x0_).length c1), (1, .slice p2 (x1_).length c2), (2, .slice p3 (x2_).length c3), (7, .pointer (some ⟨b9, 0, none⟩)), (9, .pointer (some ⟨b11, 0, none⟩)), (11, .slice p102 (s101.2.2.1).length c102), (49, .slice p1 (x0_).length c1), (50, .int .i64 (((x0_).length : Int))), (51, .int .i64 (s101.2.2.2))] ∧ St w0 ww (O_store_Store b11 b9 s101.1 :: O_disk_Disk b9 s101.2.1 :: HP.row 0 (0) (icells .u32 shaStart) :: HP.row 2 (0) (icells .u32 shaRounds) :: HP.sl (rSl rByte) p1 c1 x0_ :: HP.sl (rSl rByte) p2 c2 x1_ :: HP.sl (rInt .i64) p3 c3 x2_ :: HP.ow (rBytesN 32) 35 p102 c102 s101.2.2.1 :: l)) hm ⟨(some ⟨b12, 0, none⟩), 0, F.sl rfl, (H.pm 8 [1, 2, 3, 4, 5, 6, 7, 0] rfl:)⟩ ?_
         clear F H hm
         rintro s101 a w o ⟨p102, c102, F, H⟩ hm
         refine sr (bk [0] F H rfl trivial ?_); clear F; intro a F
         refine nl (sq (cP F rfl (fun hg103 => ?_) (fun hg103 => ?_)))
         · replace hm := ifT hg103 hm
           refine sk (ct (sq (bl (sr ?_))))
           obtain ⟨x104, ex104, hm⟩ := ob hm
           obtain ⟨b105, o105, hp105⟩ := H.slP 4 rfl (idxO_some ex104).2
           obtain ⟨cs106, hcl106, H⟩ := H.slEl 4 rfl hp105 (idxO_some ex104).2
           obtain ⟨p107, c107, rfl, H⟩ := H.rcSl 1 rfl
           replace H := H.dp 2 rfl
           clear hcl106
           refine s_val wkP F rfl rfl rfl rfl (y_idxS F elem22 rfl rfl rfl hp105 ex104) ?_; clear F; intro a F
           refine bk [1000, 0] F H rfl ⟨rfl, plain33, trivial⟩ ?_; clear F; intro a F
           refine nl (sq (sr (bk [0, 0, 0] F H rfl ⟨⟨_, Tryd.underlying33⟩, trivial⟩ ?_))); clear F; intro a F
           refine nl (cP F rfl (fun hg108 => ?_) (fun hg108 => ?_))
           · replace hm := ifT hg108 hm
             refine sr (bk [0] F H rfl trivial ?_); clear F; intro a F
             refine nl (wr (tr (br (tr (tr ?_))))); cases hm; refine ⟨_, rfl, ?_⟩; rintro rfl
             refine br (tr ?_)
             replace hm := elimR hm65
             refine tr ?_
             cases hm
             refine x_ret1 F rfl rfl ?_
             exact ⟨_, rfl, rfl, (H.pm 10 [] rfl:)⟩
           · replace hm := ifF hg108 hm
             refine sk (ct (sr (bk [0, 0] F H rfl trivial ?_))); clear F; intro a F
             obtain ⟨x109, ex109, hm⟩ := ob hm
             refine sc wkP F rfl ent11 (w_stPut ex109 (H.pm 10 [4, 5, 2, 3, 0, 0, 1, 4, 5, 6, 7, 8, 9] rfl:):) ?_; clear F H; rintro _ w a ⟨rfl, hl110, H⟩ F
             refine bk [0, 0, 0] F H rfl trivial ?_; clear F; intro a F
             refine s_allocA wkP F rfl rfl rfl agz35 rfl H ?_; clear F H; intro b111 w a H F
             refine s_storeA wkP F rfl rfl agg35 rfl rfl rfl H 0 rfl ((bcells_length _).trans hl110) ((bcells_length _).trans (List.length_replicate (n := 32))) (bcells_flat _) ?_; clear H; intro w H
             refine bk [0] F H rfl trivial ?_; clear F; intro a F
             replace H := H.nf 11 rfl
             refine nl (sq (sq ?_))
             by_cases hg112 : x109.2.1 = 0
             · replace hm := ifT hg112 hm
               obtain ⟨x113, ex113, hm⟩ := ob hm
               have hl114 : (x113).length = 32 := by obtain ⟨_, _, _, _, _, hx, _⟩ := calls_ex (w_rSum ex113 (H.pm 11 [3, 0, 1, 2, 3, 4, 5, 6, 7, 8, 9, 10] rfl:)); exact hx
               refine qr H (by kernel_rfl) (by kernel_rfl) ?_
               refine qbk [0, 0, 0] F rfl trivial ?_; clear F; intro a F
               replace F := F.nT 66 hg112 rfl
               refine qbk [999, 0] F rfl ⟨rfl, (aggn agg35 ((bcells_length _).trans hl110)), trivial⟩ ?_; clear F; intro a F
               refine qg_on F rfl rfl rfl rfl ?_
               refine q_call F rfl rfl rfl (fun u hu => y_call F rfl rfl ent12) (fun u hu => (w_rSum ex113 (hu.pm 11 [3, 0, 1, 2, 3, 4, 5, 6, 7, 8, 9, 10] rfl:)).mono fun e u2 he => by obtain ⟨v, rfl, rfl, _, H⟩ := he; exact ⟨rfl, H⟩) ?_; clear F; intro a F
               refine qg_on F rfl rfl rfl rfl ?_
               refine q_val F rfl rfl rfl (fun u hu => y_neqA F key35 rfl rfl rfl hl110 hl114) ?_; clear F; intro a F
               refine qbk [0] F rfl trivial ?_; clear F; intro a F
               refine q_nil ?_; clear H; intro w H
               refine ct (cN F rfl (fun hg115 => ?_) (fun hg115 => ?_))
               · replace hm := ifF hg115 hm
                 refine sr (bk [0] F H rfl trivial ?_); clear F; intro a F
                 refine nl (wr (tr (br (tr (tr ?_))))); cases hm; refine ⟨_, rfl, ?_⟩; rintro rfl
                 refine br (tr ?_)
                 replace hm := elimR hm65
                 refine tr ?_
                 cases hm
                 refine x_ret1 F rfl rfl ?_
                 exact ⟨_, rfl, rfl, (H.pm 11 [] rfl:)⟩
               · replace hm := ifT hg115 hm
                 refine sk (ct (rl (bk [0, 999] F H rfl ⟨rfl, (aggn agg35 ((bcells_length _).trans hl110)), trivial⟩ ?_))); clear F; intro a F
                 refine s_build1 wkP F rfl rfl rfl agg35 elem32 rfl rfl ((bcells_length _).trans hl110) (by decide) H ?_; clear F H; intro b116 w a H F
                 replace H : St w0 w (HP.ow (rBytesN 32) 35 (some ⟨b116, 0, none⟩) (([x109.1]).length) ([x109.1]) :: HP.blk b111 (bcells x109.1) 35 :: O_store_Store b11 b9 x109.2.2.2 :: O_disk_Disk b9 x109.2.2.1 :: HP.sl rByte p107 c107 x104 :: HP.row b105 (o105 + (s101.2.2.2 : Int).toNat * 1) ([.slice p107 (x104).length c107]) :: HP.row 0 (0) (icells .u32 shaStart) :: HP.row 2 (0) (icells .u32 shaRounds) :: HP.sl (rSl rByte) p1 c1 x0_ :: HP.sl (rSl rByte) p2 c2 x1_ :: HP.sl (rInt .i64) p3 c3 x2_ :: HP.ow (rBytesN 32) 35 p102 c102 s101.2.2.1 :: l) := H.blkOw (R := (rBytesN 32)) 0 rfl (fun gg => ⟨[bcells x109.1], by simp, ⟨rfl, hl110⟩, trivial⟩) (by simp)
                 replace H := H.frz 0 rfl
                 obtain ⟨x118, ex118, hm⟩ := ob hm
                 refine s_app wkP F rfl rfl rfl rfl rfl rfl elem32 rfl ex118 H 11 0 rfl rfl ?_; clear F H; intro p117 c117 w a H F
                 refine bk [0] F H rfl trivial ?_; clear F; intro a F
                 replace H := H.nf 12 rfl
                 refine lz (bn (ct (rl (bk [0, 0] F H rfl trivial ?_)))); clear F; intro a F
                 refine lz (ct ?_); cases hm
                 exact ⟨_, rfl, ⟨p117, c117, F.sl rfl, (H.pm 12 [2, 3, 6, 7, 8, 9, 10, 11] rfl:)⟩⟩
             · replace hm := ifF hg112 hm
               refine qr H (by kernel_rfl) (by kernel_rfl) ?_
               refine qbk [0, 0, 0] F rfl trivial ?_; clear F; intro a F
               replace F := F.nF 66 hg112 rfl
               refine qbk (List.replicate 5 0) F rfl trivial ?_; clear F; intro a F
               refine q_nil ?_; clear H; intro w H
               refine ct (cT F rfl ?_)
               refine sr (bk [0] F H rfl trivial ?_); clear F; intro a F
               refine nl (wr (tr (br (tr (tr ?_))))); cases hm; refine ⟨_, rfl, ?_⟩; rintro rfl
               refine br (tr ?_)
               replace hm := elimR hm65
               refine tr ?_
               cases hm
               refine x_ret1 F rfl rfl ?_
               exact ⟨_, rfl, rfl, (H.pm 11 [] rfl:)⟩
         · replace hm := ifF hg103 hm
           refine ex (cx (cx ?_)); cases hm; refine ⟨_, rfl, ?_⟩; rintro rfl
           refine ch (ct ?_)
           exact ⟨_, rfl, p102, c102, F.sl rfl, H⟩
       · skip
         clear F H hm
         rintro a w ⟨r65, rfl, p66, c66, F, H⟩; have hm := elimL hm65; clear hm65
         refine ct (sr (bk [0] F H rfl trivial ?_)); clear F; intro a F
         obtain ⟨x119, ex119, hm⟩ := ob hm
         refine sc wkP F rfl ent13 (w_diskFlush ex119 (H.pm 8 [1, 0, 2, 3, 4, 5, 6, 7] rfl:):) ?_; clear F H; rintro _ w a ⟨rfl, H⟩ F
         replace H := H.nf 8 rfl
         refine nl (sr (bk [0, 0] F H rfl trivial ?_)); clear F; intro a F
         replace H := H.frz 7 rfl
         obtain ⟨x120, ex120, hm⟩ := ob hm
         refine sc wkP F rfl ent14 (w_stHold ex120 (H.pm 8 [2, 1, 0, 0, 3, 4, 5, 6, 7] rfl:):) ?_; clear F H; rintro _ w a ⟨rfl, H⟩ F
         replace H := H.nf 8 rfl
         refine nl (sq (sr (bk [0, 0, 0] F H rfl ⟨⟨_, Tryd.underlying22⟩, trivial⟩ ?_))); clear F; intro a F
         refine nl ?_
         obtain ⟨r143, er143, hm143⟩ := ob hm; clear hm; revert er143; intro hm
         refine x_mid (fun aa ww => Fr ⟨140, []⟩ aa [(0, .slice p1 (x0_).length c1), (2, .slice p3 (x2_).length c3), (7, .pointer (some ⟨b9, 0, none⟩)), (11, .slice p66 (r65.2.2).length c66)] ∧ St w0 ww (O_store_Store b11 b9 r143.1 :: O_disk_Disk b9 r143.2 :: HP.sl (rBytesN 32) p66 c66 r65.2.2 :: HP.row 0 (0) (icells .u32 shaStart) :: HP.row 2 (0) (icells .u32 shaRounds) :: HP.sl (rSl rByte) p1 c1 x0_ :: HP.sl (rInt .i64) p3 c3 x2_ :: l)) ?_ ?_
         · skip
           refine bl ?_
           refine x_loopO _ (fun (s158 : T_store_Store_o × T_disk_Disk_o × Int) aa ww => Fr ⟨140, []⟩ aa [(0, .slice p1 (x0_).length c1), (2, .slice p3 (x2_).length c3), (7, .pointer (some ⟨b9, 0, none⟩)), (9, .pointer (some ⟨b11, 0, none⟩)), (11, .slice p66 (r65.2.2).length c66), (82, .slice p2 (x1_).length c2), (83, .int .i64 (((x1_).length : Int))), (84, .int .i64 (s158.2.2))] ∧ St w0 ww (O_store_Store b11 b9 s158.1 :: O_disk_Disk b9 s158.2.1 :: HP.sl (rBytesN 32) p66 c66 r65.2.2 :: HP.row 0 (0) (icells .u32 shaStart) :: HP.row 2 (0) (icells .u32 shaRounds) :: HP.sl (rSl rByte) p1 c1 x0_ :: HP.sl (rSl rByte) p2 c2 x1_ :: HP.sl (rInt .i64) p3 c3 x2_ :: l)) hm ⟨F.sl rfl, H⟩ ?_
           clear F H hm
           rintro s158 a w o ⟨F, H⟩ hm
           refine sr (bk [0] F H rfl trivial ?_); clear F; intro a F
           refine nl (sq (cP F rfl (fun hg159 => ?_) (fun hg159 => ?_)))
           · replace hm := ifT hg159 hm
             refine sk (ct (sq (bl (sr ?_))))
             obtain ⟨x160, ex160, hm⟩ := ob hm
             obtain ⟨b161, o161, hp161⟩ := H.slP 6 rfl (idxO_some ex160).2
             obtain ⟨cs162, hcl162, H⟩ := H.slEl 6 rfl hp161 (idxO_some ex160).2
             obtain ⟨p163, c163, rfl, H⟩ := H.rcSl 1 rfl
             replace H := H.dp 2 rfl
             clear hcl162
             refine s_val wkP F rfl rfl rfl rfl (y_idxS F elem22 rfl rfl rfl hp161 ex160) ?_; clear F; intro a F
             refine bk [1000, 0] F H rfl ⟨rfl, plain33, trivial⟩ ?_; clear F; intro a F
             refine nl (rl (bk [0, 0] F H rfl trivial ?_)); clear F; intro a F
             obtain ⟨x164, ex164, hm⟩ := ob hm
             refine sc wkP F rfl ent11 (w_stPut ex164 (H.pm 10 [5, 6, 2, 3, 0, 0, 1, 4, 5, 6, 7, 8, 9] rfl:):) ?_; clear F H; rintro _ w a ⟨rfl, hl165, H⟩ F
             replace H := H.nf 10 rfl
             refine lz (bn (ct (rl (bk [0, 0] F H rfl trivial ?_)))); clear F; intro a F
             refine lz (ct ?_); cases hm
             exact ⟨_, rfl, ⟨F.sl rfl, (H.pm 10 [0, 1, 4, 5, 6, 7, 8, 9] rfl:)⟩⟩
           · replace hm := ifF hg159 hm
             refine ex (cx (cx ?_)); cases hm; refine ⟨_, rfl, ?_⟩; rintro rfl
             refine ch (ct ?_)
             exact ⟨F.sl rfl, (H.pm 8 [0, 1, 2, 3, 4, 5, 7] rfl:)⟩
         · skip
           clear F H hm
           rintro a w ⟨F, H⟩; have hm := hm143; clear hm143
           refine ct (sr (bk [0, 0] F H rfl trivial ?_)); clear F; intro a F
           obtain ⟨x166, ex166, hm⟩ := ob hm
           refine sc wkP F rfl ent15 (w_diskCrash ex166 (H.pm 7 [1, 6, 0, 2, 3, 4, 5, 6] rfl:):) ?_; clear F H; rintro _ w a ⟨b167, rfl, H⟩ F
           refine bk [0] F H rfl trivial ?_; clear F; intro a F
           replace H := H.nf 8 rfl
           refine nl (sq (sr (bk [0] F H rfl trivial ?_))); clear F; intro a F
           refine s_val wkP F rfl rfl rfl rfl (y_eqlPN F rfl rfl rfl Tryd.underlying25) ?_; clear F; intro a F
           refine nl (cF F rfl ?_)
           refine sk (ct (sr (bk [0] F H rfl trivial ?_))); clear F; intro a F
           obtain ⟨x168, ex168, hm⟩ := ob hm
           refine sc wkP F rfl ent10 (w_stOpen ex168 (H.pm 8 [4, 5, 0, 1, 2, 3, 4, 5, 6, 7] rfl:):) ?_; clear F H; rintro _ w a ⟨b169, rfl, H⟩ F
           refine bk (List.replicate 5 0) F H rfl trivial ?_; clear F; intro a F
           replace H := H.nf 9 rfl
           refine nl (sq (sr (bk [0] F H rfl trivial ?_))); clear F; intro a F
           refine s_val wkP F rfl rfl rfl rfl (y_eqlPN F rfl rfl rfl Tryd.underlying29) ?_; clear F; intro a F
           refine bk [0, 0, 0, 0] F H rfl trivial ?_; clear F; intro a F
           refine nl (cN F rfl (fun hg170 => ?_) (fun hg170 => ?_))
           · replace hm := ifF hg170 hm
             refine sr (bk [0] F H rfl trivial ?_); clear F; intro a F
             refine nl (wr (tr ?_))
             cases hm
             refine x_ret1 F rfl rfl ?_
             exact ⟨_, rfl, rfl, (H.pm 9 [] rfl:)⟩
           · replace hm := ifT hg170 hm
             refine sk (ct (sq (sr (bk [0, 0, 0] F H rfl ⟨⟨_, Tryd.underlying32⟩, trivial⟩ ?_)))); clear F; intro a F
             refine nl ?_
             obtain ⟨o223, eo223, hm223⟩ := ob hm; clear hm; revert eo223; intro hm
             refine x_mid (fun aa ww => ∃ r223, o223 = Sum.inl r223 ∧ Fr ⟨140, []⟩ aa [] ∧ St w0 ww (O_store_Store b169 b167 x168.1 :: O_disk_Disk b167 x166 :: O_disk_Disk b9 r143.2 :: O_store_Store b11 b9 r143.1 :: HP.row 0 (0) (icells .u32 shaStart) :: HP.row 2 (0) (icells .u32 shaRounds) :: l)) ?_ ?_
             · skip
               refine bl ?_
               refine x_loopO _ (fun (s258 : Int) aa ww => Fr ⟨140, []⟩ aa [(0, .slice p1 (x0_).length c1), (19, .pointer (some ⟨b169, 0, none⟩)), (108, .slice p66 (r65.2.2).length c66), (109, .int .i64 (((r65.2.2).length : Int))), (110, .int .i64 (s258))] ∧ St w0 ww (O_store_Store b169 b167 x168.1 :: O_disk_Disk b167 x166 :: O_disk_Disk b9 r143.2 :: O_store_Store b11 b9 r143.1 :: HP.sl (rBytesN 32) p66 c66 r65.2.2 :: HP.row 0 (0) (icells .u32 shaStart) :: HP.row 2 (0) (icells .u32 shaRounds) :: HP.sl (rSl rByte) p1 c1 x0_ :: l)) hm ⟨F.sl rfl, (H.pm 9 [0, 1, 2, 3, 4, 5, 6, 7] rfl:)⟩ ?_
               clear F H hm
               rintro s258 a w o ⟨F, H⟩ hm
               refine sr (bk [0] F H rfl trivial ?_); clear F; intro a F
               refine nl (sq (cP F rfl (fun hg259 => ?_) (fun hg259 => ?_)))
               · replace hm := ifT hg259 hm
                 refine sk (ct (sq (bl (sr (bk [0] F H rfl trivial ?_))))); clear F; intro a F
                 obtain ⟨x260, ex260, hm⟩ := ob hm
                 obtain ⟨b261, o261, hp261⟩ := H.slP 4 rfl (idxO_some ex260).2
                 obtain ⟨cs262, hcl262, H⟩ := H.slEl 4 rfl hp261 (idxO_some ex260).2
                 obtain ⟨rfl, hl263⟩ := H.rcBN 1 rfl
                 replace H := H.dp 1 rfl
                 clear hcl262
                 refine s_val wkP F rfl rfl rfl rfl (y_idxS F elem32 rfl rfl rfl hp261 ex260) ?_; clear F; intro a F
                 refine bk [999] F H rfl ⟨rfl, (aggn agg35 ((bcells_length _).trans hl263)), trivial⟩ ?_; clear F; intro a F
                 refine s_allocA wkP F rfl rfl rfl agz35 rfl H ?_; clear F H; intro b264 w a H F
                 refine bk [0] F H rfl trivial ?_; clear F; intro a F
                 refine s_storeA wkP F rfl rfl agg35 rfl rfl rfl H 0 rfl ((bcells_length _).trans hl263) ((bcells_length _).trans (List.length_replicate (n := 32))) (bcells_flat _) ?_; clear H; intro w H
                 replace H := H.nf 10 rfl
                 refine nl (sr (bk [0, 999] F H rfl ⟨rfl, (aggn agg35 ((bcells_length _).trans hl263)), trivial⟩ ?_)); clear F; intro a F
                 obtain ⟨x265, ex265, hm⟩ := ob hm
                 refine sc wkP F rfl ent16 (w_stGet hl263 ex265 (H.pm 10 [7, 8, 2, 3, 0, 1, 4, 5, 6, 7, 8, 9] rfl:):) ?_; clear F H; rintro _ w a ⟨p266, c266, rfl, H⟩ F
                 refine bk (List.replicate 5 0) F H rfl trivial ?_; clear F; intro a F
                 replace H := H.nf 11 rfl
                 refine nl (sq ?_)
                 by_cases hg267 : x265.2 = 0
                 · replace hm := ifT hg267 hm
                   obtain ⟨x268, ex268, hm⟩ := ob hm
                   obtain ⟨b269, o269, hp269⟩ := H.slP 10 rfl (idxO_some ex268).2
                   obtain ⟨cs270, hcl270, H⟩ := H.slEl 10 rfl hp269 (idxO_some ex268).2
                   obtain ⟨p271, c271, rfl, H⟩ := H.rcSl 1 rfl
                   replace H := H.dp 2 rfl
                   clear hcl270
                   by_cases hg272 : x265.1 = x268
                   · replace hm := ifT hg272 hm
                     refine qr H (by kernel_rfl) (by kernel_rfl) ?_
                     refine qbk [0, 0, 0] F rfl trivial ?_; clear F; intro a F
                     replace F := F.nT 123 hg267 rfl
                     refine qbk [0] F rfl trivial ?_; clear F; intro a F
                     refine qg_on F rfl rfl rfl rfl ?_
                     refine q_val F rfl rfl rfl (fun u hu => y_b2s F Tryd.underlying33 Tryd.underlying9 Tryd.underlying5 rfl rfl (hu) 2 rfl) ?_; clear F; intro a F
                     refine qbk [0, 0] F rfl trivial ?_; clear F; intro a F
                     refine qg_on F rfl rfl rfl rfl ?_
                     refine q_val F rfl rfl rfl (fun u hu => y_idxS F elem22 rfl rfl rfl hp269 ex268) ?_; clear F; intro a F
                     refine qbk [1000] F rfl ⟨rfl, plain33, trivial⟩ ?_; clear F; intro a F
                     refine qg_on F rfl rfl rfl rfl ?_
                     refine q_val F rfl rfl rfl (fun u hu => y_b2s F Tryd.underlying33 Tryd.underlying9 Tryd.underlying5 rfl rfl (hu) 0 rfl) ?_; clear F; intro a F
                     refine qg_on F rfl rfl rfl rfl ?_
                     refine q_val F rfl rfl rfl (fun u hu => y_neT (l := x265.1) (m := x268) F rfl rfl rfl) ?_; clear F; intro a F
                     refine qbk [0] F rfl trivial ?_; clear F; intro a F
                     replace F := F.nT 132 hg272 rfl
                     refine qbk (List.replicate 6 0) F rfl trivial ?_; clear F; intro a F
                     refine q_nil ?_; clear H; intro w H
                     refine ct (cF F rfl ?_)
                     refine sk (bn (ct (rl (bk [0, 0] F H rfl trivial ?_)))); clear F; intro a F
                     refine lz (ct ?_); cases hm
                     exact ⟨_, rfl, ⟨F.sl rfl, (H.pm 13 [3, 4, 7, 8, 9, 10, 11, 12] rfl:)⟩⟩
                   · replace hm := ifF hg272 hm
                     obtain ⟨x273, ex273, hm⟩ := ob hm
                     have hl274 : (x273).length = 32 := by obtain ⟨_, _, _, _, _, hx, _⟩ := calls_ex (w_rSum ex273 (H.pm 13 [2, 0, 1, 2, 3, 4, 5, 6, 7, 8, 9, 10, 11, 12] rfl:)); exact hx
                     refine qr H (by kernel_rfl) (by kernel_rfl) ?_
                     refine qbk [0, 0, 0] F rfl trivial ?_; clear F; intro a F
                     replace F := F.nT 123 hg267 rfl
                     refine qbk [0] F rfl trivial ?_; clear F; intro a F
                     refine qg_on F rfl rfl rfl rfl ?_
                     refine q_val F rfl rfl rfl (fun u hu => y_b2s F Tryd.underlying33 Tryd.underlying9 Tryd.underlying5 rfl rfl (hu) 2 rfl) ?_; clear F; intro a F
                     refine qbk [0, 0] F rfl trivial ?_; clear F; intro a F
                     refine qg_on F rfl rfl rfl rfl ?_
                     refine q_val F rfl rfl rfl (fun u hu => y_idxS F elem22 rfl rfl rfl hp269 ex268) ?_; clear F; intro a F
                     refine qbk [1000] F rfl ⟨rfl, plain33, trivial⟩ ?_; clear F; intro a F
                     refine qg_on F rfl rfl rfl rfl ?_
                     refine q_val F rfl rfl rfl (fun u hu => y_b2s F Tryd.underlying33 Tryd.underlying9 Tryd.underlying5 rfl rfl (hu) 0 rfl) ?_; clear F; intro a F
                     refine qg_on F rfl rfl rfl rfl ?_
                     refine q_val F rfl rfl rfl (fun u hu => y_neT (l := x265.1) (m := x268) F rfl rfl rfl) ?_; clear F; intro a F
                     refine qbk [0] F rfl trivial ?_; clear F; intro a F
                     replace F := F.nF 132 hg272 rfl
                     refine qbk [0] F rfl trivial ?_; clear F; intro a F
                     refine qg_on F rfl rfl rfl rfl ?_
                     refine q_call F rfl rfl rfl (fun u hu => y_call F rfl rfl ent12) (fun u hu => (w_rSum ex273 (hu.pm 13 [2, 0, 1, 2, 3, 4, 5, 6, 7, 8, 9, 10, 11, 12] rfl:)).mono fun e u2 he => by obtain ⟨v, rfl, rfl, _, H⟩ := he; exact ⟨rfl, H⟩) ?_; clear F; intro a F
                     refine qbk [5999] F rfl ⟨rfl, (aggn agg35 ((bcells_length _).trans hl263)), trivial⟩ ?_; clear F; intro a F
                     refine qg_on F rfl rfl rfl rfl ?_
                     refine q_val F rfl rfl rfl (fun u hu => y_neqA F key35 rfl rfl rfl hl274 hl263) ?_; clear F; intro a F
                     refine qbk [0, 0] F rfl trivial ?_; clear F; intro a F
                     refine q_nil ?_; clear H; intro w H
                     refine ct (cN F rfl (fun hg275 => ?_) (fun hg275 => ?_))
                     · replace hm := ifF hg275 hm
                       refine sr (bk [0] F H rfl trivial ?_); clear F; intro a F
                       refine nl (wr (br (tr (tr ?_)))); cases hm; refine ⟨_, rfl, ?_⟩; rintro rfl
                       refine br (tr ?_)
                       replace hm := elimR hm223
                       refine tr ?_
                       cases hm
                       refine x_ret1 F rfl rfl ?_
                       exact ⟨_, rfl, rfl, (H.pm 13 [] rfl:)⟩
                     · replace hm := ifT hg275 hm
                       refine sk (bn (ct (rl (bk [0, 0] F H rfl trivial ?_)))); clear F; intro a F
                       refine lz (ct ?_); cases hm
                       exact ⟨_, rfl, ⟨F.sl rfl, (H.pm 13 [3, 4, 7, 8, 9, 10, 11, 12] rfl:)⟩⟩
                 · replace hm := ifF hg267 hm
                   refine qr H (by kernel_rfl) (by kernel_rfl) ?_
                   refine qbk [0, 0, 0] F rfl trivial ?_; clear F; intro a F
                   replace F := F.nF 123 hg267 rfl
                   refine qbk (List.replicate 15 0) F rfl trivial ?_; clear F; intro a F
                   refine q_nil ?_; clear H; intro w H
                   refine ct (cT F rfl ?_)
                   refine sr (bk [0] F H rfl trivial ?_); clear F; intro a F
                   refine nl (wr (br (tr (tr ?_)))); cases hm; refine ⟨_, rfl, ?_⟩; rintro rfl
                   refine br (tr ?_)
                   replace hm := elimR hm223
                   refine tr ?_
                   cases hm
                   refine x_ret1 F rfl rfl ?_
                   exact ⟨_, rfl, rfl, (H.pm 11 [] rfl:)⟩
               · replace hm := ifF hg259 hm
                 refine ex (cx (cx ?_)); cases hm; refine ⟨_, rfl, ?_⟩; rintro rfl
                 refine ch (ct ?_)
                 exact ⟨_, rfl, F.cut _ trivial, (H.pm 8 [0, 1, 2, 3, 5, 6] rfl:)⟩
             · skip
               clear F H hm
               rintro a w ⟨r223, rfl, F, H⟩; have hm := elimL hm223; clear hm223
               refine ct (sr (bk [0] F H rfl trivial ?_)); clear F; intro a F
               refine nl (wr ?_)
               cases hm
               refine x_ret1 F rfl rfl ?_
               exact ⟨_, rfl, rfl, (H.pm 6 [] rfl:)⟩
end Go.Proofs.YtfepdfjhejkemaaDoor
