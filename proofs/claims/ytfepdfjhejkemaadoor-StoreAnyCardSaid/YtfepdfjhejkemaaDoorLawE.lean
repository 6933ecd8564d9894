/- the statement -/
import Derived.Test.YtfepdfjhejkemaaDoorLawD
set_option linter.unusedSimpArgs false
set_option linter.unusedVariables false
namespace Go.Proofs.YtfepdfjhejkemaaDoor
open Go.RowKit Go.Tri
set_option maxRecDepth 100000 in
set_option maxHeartbeats 4000000 in
theorem w_m_triremelaw05_StoreAny {x0_ : List (List UInt8)} {p1 : Option Addr} {c1 : Nat} {w0 w : World} {l : List HP}  {r : Bool} (hm : m_triremelaw05_StoreAny x0_ = some r) (H : St w0 w (HP.row 0 (0) (icells .u32 shaStart) :: HP.row 2 (0) (icells .u32 shaRounds) :: HP.sl (rSl rByte) p1 c1 x0_ :: l)) :
  Calls Tryd.prog 5 [.slice p1 (x0_).length c1].toArray w (fun e w' => ∃ v, e = .returned v ∧ v = .bool (r) ∧ St w0 w' (l)) := by
 unfold m_triremelaw05_StoreAny at hm
 refine x_enter Tryd.func5 rfl rfl rfl ?_
 intro a F
 refine sr (bk [0] F H rfl trivial ?_); clear F; intro a F
 refine nl (sq (sr ?_))
 obtain ⟨x2, ex2, hm⟩ := ob hm
 refine sc wkP F rfl ent8 (w_m_triremelaw05_speaks ex2 (H.pm 3 [0, 1, 0, 1, 2] rfl:):) ?_; clear F H; rintro _ w a ⟨rfl, H⟩ F
 refine bk [0] F H rfl trivial ?_; clear F; intro a F
 replace H := H.nf 3 rfl
 refine nl (cB F rfl (fun hg3 => ?_) (fun hg3 => ?_))
 · replace hm := ifT hg3 hm
   refine sr (bk [0] F H rfl trivial ?_); clear F; intro a F
   refine nl (wr (tr ?_))
   cases hm
   refine x_ret1 F rfl rfl ?_
   exact ⟨_, rfl, rfl, (H.pm 3 [] rfl:)⟩
 · replace hm := ifF (nT hg3) hm
   refine sk (ct (sq (sr (bk [0, 0, 0] F H rfl ⟨⟨_, Tryd.underlying22⟩, trivial⟩ ?_)))); clear F; intro a F
   refine nl (cP F rfl (fun hg4 => ?_) (fun hg4 => ?_))
   · replace hm := ifT hg4 hm
     refine sr (bk [0] F H rfl trivial ?_); clear F; intro a F
     refine nl (wr (tr ?_))
     cases hm
     refine x_ret1 F rfl rfl ?_
     exact ⟨_, rfl, rfl, (H.pm 3 [] rfl:)⟩
   · replace hm := ifF hg4 hm
     refine sk (ct (sr ?_))
     obtain ⟨x5, ex5, hm⟩ := ob hm
     refine sc wkP F rfl ent9 (w_diskNew ex5 H:) ?_; clear F H; rintro _ w a ⟨b6, rfl, H⟩ F
     refine bk (List.replicate 5 0) F H rfl trivial ?_; clear F; intro a F
     replace H := H.nf 4 rfl
     refine nl (sq (sr (bk [0] F H rfl trivial ?_))); clear F; intro a F
     refine s_val wkP F rfl rfl rfl rfl (y_eqlPN F rfl rfl rfl Tryd.underlying25) ?_; clear F; intro a F
     refine nl (cF F rfl ?_)
     refine sk (ct (sq (sr (bk [0, 0, 0] F H rfl ⟨⟨_, Tryd.underlying22⟩, trivial⟩ ?_)))); clear F; intro a F
     refine nl ?_
     obtain ⟨r35, er35, hm35⟩ := ob hm; clear hm; revert er35; intro hm
     refine x_mid (fun aa ww => Fr ⟨89, []⟩ aa [(3, .pointer (some ⟨b6, 0, none⟩))] ∧ St w0 ww (O_disk_Disk b6 r35 :: HP.row 0 (0) (icells .u32 shaStart) :: HP.row 2 (0) (icells .u32 shaRounds) :: l)) ?_ ?_
     · skip
       refine bl (x_loopO _ (fun (s54 : T_disk_Disk_o × Int) aa ww => Fr ⟨89, []⟩ aa [(3, .pointer (some ⟨b6, 0, none⟩)), (26, .slice p1 (x0_).length c1), (27, .int .i64 (((x0_).length : Int))), (28, .int .i64 (s54.2))] ∧ St w0 ww (O_disk_Disk b6 s54.1 :: HP.row 0 (0) (icells .u32 shaStart) :: HP.row 2 (0) (icells .u32 shaRounds) :: HP.sl (rSl rByte) p1 c1 x0_ :: l)) hm ⟨F.sl rfl, H⟩ ?_)
       clear F H hm
       rintro s54 a w o ⟨F, H⟩ hm
       refine sr (bk [0] F H rfl trivial ?_); clear F; intro a F
       refine nl (sq (cP F rfl (fun hg55 => ?_) (fun hg55 => ?_)))
       · replace hm := ifT hg55 hm
         refine sk (ct (sq (bl (sr (bk [0] F H rfl trivial ?_))))); clear F; intro a F
         obtain ⟨x56, ex56, hm⟩ := ob hm
         obtain ⟨b57, o57, hp57⟩ := H.slP 3 rfl (idxO_some ex56).2
         obtain ⟨cs58, hcl58, H⟩ := H.slEl 3 rfl hp57 (idxO_some ex56).2
         obtain ⟨p59, c59, rfl, H⟩ := H.rcSl 1 rfl
         replace H := H.dp 2 rfl
         clear hcl58
         refine s_val wkP F rfl rfl rfl rfl (y_idxS F elem22 rfl rfl rfl hp57 ex56) ?_; clear F; intro a F
         refine bk [1000, 0, 0] F H rfl ⟨rfl, plain33, trivial⟩ ?_; clear F; intro a F
         refine nl (sr ?_)
         obtain ⟨x61, ex61, hm⟩ := ob hm
         refine s_mkO (R := rByte) wkP F rfl rfl rfl elem33 rfl rfl rfl rfl rfl rfl (z := (0 : UInt8)) (fun _ => rfl) ex61 H ?_; clear F H; intro b60 w a H F
         refine bk [0] F H rfl trivial ?_; clear F; intro a F
         replace H := H.nf 7 rfl
         refine nl (sr (bk [0, 0] F H rfl trivial ?_)); clear F; intro a F
         have hf62 : 0 + (x61).length ≤ (x61).length := (by rw [Nat.zero_add]; exact Nat.le_refl _)
         have hl62 : (putAt x61 0 ((x56).take (x61).length)).length = (x61).length := putAt_len _ _ _ (by rw [List.length_take]; omega)
         refine s_cpyO wkP F rfl rfl rfl elem33 rfl H 0 1 rfl rfl (fun h => by obtain ⟨b, hb⟩ := H.owP 0 rfl (List.getElem?_eq_getElem h); exact ⟨b, hb, hb⟩) hf62 rfl rfl ?_; clear F H; intro w a H F
         replace F := F.bool (k := 33) (u := .slice (some ⟨b60, 0, none⟩) ((putAt x61 0 ((x56).take (x61).length))).length ((x61).length)) rfl (by rw [hl62])
         replace F := F.bool (k := 7) (u := .slice (some ⟨b60, 0, none⟩) ((putAt x61 0 ((x56).take (x61).length))).length ((x61).length)) rfl (by rw [hl62])
         replace F := F.bool (k := 34) (u := .slice (some ⟨b60, 0, none⟩) ((putAt x61 0 ((x56).take (x61).length))).length ((x61).length)) rfl (by rw [hl62])
         replace H := H.nf 7 rfl
         refine nl (rl (bk [0, 0, 0] F H rfl trivial ?_)); clear F; intro a F
         replace H := H.frz 0 rfl
         obtain ⟨x63, ex63, hm⟩ := ob hm
         refine sc wkP F rfl ent19 (w_diskWrite ex63 (H.pm 7 [3, 0, 0, 1, 2, 4, 5, 6] rfl:):) ?_; clear F H; rintro _ w a ⟨rfl, H⟩ F
         replace H := H.nf 7 rfl
         refine lz (bn (ct (rl (bk [0, 0] F H rfl trivial ?_)))); clear F; intro a F
         refine lz (ct ?_); cases hm
         exact ⟨_, rfl, ⟨F.sl rfl, (H.pm 7 [0, 4, 5, 6] rfl:)⟩⟩
       · replace hm := ifF hg55 hm
         refine ex (cx (cx ?_)); cases hm; refine ⟨_, rfl, ?_⟩; rintro rfl
         refine ch (ct ?_)
         exact ⟨F.sl rfl, (H.pm 4 [0, 1, 2] rfl:)⟩
     · skip
       clear F H hm
       rintro a w ⟨F, H⟩; have hm := hm35; clear hm35
       refine ct (sr (bk [0] F H rfl trivial ?_)); clear F; intro a F
       obtain ⟨x64, ex64, hm⟩ := ob hm
       refine sc wkP F rfl ent10 (w_stOpen ex64 (H.pm 3 [1, 2, 0, 1, 2] rfl:):) ?_; clear F H; rintro _ w a ⟨b65, rfl, H⟩ F
       refine bk (List.replicate 5 0) F H rfl trivial ?_; clear F; intro a F
       replace H := H.nf 4 rfl
       refine nl (sq (sr (bk [0] F H rfl trivial ?_))); clear F; intro a F
       refine s_val wkP F rfl rfl rfl rfl (y_eqlPN F rfl rfl rfl Tryd.underlying29) ?_; clear F; intro a F
       refine bk [0, 0, 0, 0] F H rfl trivial ?_; clear F; intro a F
       refine nl (cN F rfl (fun hg66 => ?_) (fun hg66 => ?_))
       · replace hm := ifF hg66 hm
         refine sr (bk [0] F H rfl trivial ?_); clear F; intro a F
         refine nl (wr (tr ?_))
         cases hm
         refine x_ret1 F rfl rfl ?_
         exact ⟨_, rfl, rfl, (H.pm 4 [] rfl:)⟩
       · replace hm := ifT hg66 hm
         refine sk (ct (sr (bk [0] F H rfl trivial ?_))); clear F; intro a F
         obtain ⟨x67, ex67, hm⟩ := ob hm
         refine sc wkP F rfl ent18 (w_stHashes ex67 H:) ?_; clear F H; rintro _ w a ⟨p68, c68, rfl, H⟩ F
         refine bk [0] F H rfl trivial ?_; clear F; intro a F
         replace H := H.nf 5 rfl
         refine nl (sq (sr (bk [0, 0, 0] F H rfl ⟨⟨_, Tryd.underlying32⟩, trivial⟩ ?_))); clear F; intro a F
         refine nl ?_
         obtain ⟨o109, eo109, hm109⟩ := ob hm; clear hm; revert eo109; intro hm
         refine x_mid (fun aa ww => ∃ r109, o109 = Sum.inl r109 ∧ Fr ⟨89, []⟩ aa [(8, .pointer (some ⟨b65, 0, none⟩)), (10, .slice p68 (x67).length c68)] ∧ St w0 ww (HP.ow (rBytesN 32) 35 p68 c68 x67 :: O_store_Store b65 b6 x64.1 :: O_disk_Disk b6 r35 :: HP.row 0 (0) (icells .u32 shaStart) :: HP.row 2 (0) (icells .u32 shaRounds) :: l)) ?_ ?_
         · skip
           refine bl ?_
           refine x_loopO _ (fun (s136 : Int) aa ww => Fr ⟨89, []⟩ aa [(8, .pointer (some ⟨b65, 0, none⟩)), (10, .slice p68 (x67).length c68), (55, .slice p68 (x67).length c68), (56, .int .i64 (((x67).length : Int))), (57, .int .i64 (s136))] ∧ St w0 ww (HP.ow (rBytesN 32) 35 p68 c68 x67 :: O_store_Store b65 b6 x64.1 :: O_disk_Disk b6 r35 :: HP.row 0 (0) (icells .u32 shaStart) :: HP.row 2 (0) (icells .u32 shaRounds) :: l)) hm ⟨F.sl rfl, H⟩ ?_
           clear F H hm
           rintro s136 a w o ⟨F, H⟩ hm
           refine sr (bk [0] F H rfl trivial ?_); clear F; intro a F
           refine nl (sq (cP F rfl (fun hg137 => ?_) (fun hg137 => ?_)))
           · replace hm := ifT hg137 hm
             refine sk (ct (sq (bl (sr ?_))))
             obtain ⟨x138, ex138, hm⟩ := ob hm
             obtain ⟨b139, hp139⟩ := H.owP 0 rfl (idxO_some ex138).2
             obtain ⟨css140, H⟩ := H.oxOpen 0 rfl
             obtain ⟨cs140, hcs140, hcl140, H⟩ := H.oxEl 0 rfl (idxO_some ex138).2
             obtain ⟨rfl, hl141⟩ := H.rcBN 0 rfl
             replace H := H.dp 0 rfl
             refine s_val wkP F rfl rfl rfl rfl (y_idxS F elem32 rfl rfl rfl hp139 ex138) ?_; clear F; intro a F
             refine s_val wkP F rfl rfl rfl rfl (y_loadA F agg35 rfl rfl (H.oxRow 0 rfl hp139 hcs140 hcl140) ((bcells_length _).trans hl141)) ?_; clear F; intro a F
             refine s_allocA wkP F rfl rfl rfl agz35 rfl H ?_; clear F H; intro b142 w a H F
             refine s_storeA wkP F rfl rfl agg35 rfl rfl rfl H 0 rfl ((bcells_length _).trans hl141) ((bcells_length _).trans (List.length_replicate (n := 32))) (bcells_flat _) ?_; clear H; intro w H
             replace H := H.nf 6 rfl
             refine nl ?_
             replace H := H.oxShut 1 rfl
             refine sr (bk [0, 999] F H rfl ⟨rfl, (aggn agg35 ((bcells_length _).trans hl141)), trivial⟩ ?_); clear F; intro a F
             obtain ⟨x143, ex143, hm⟩ := ob hm
             refine sc wkP F rfl ent16 (w_stGet hl141 ex143 (H.pm 6 [4, 5, 2, 3, 0, 1, 4, 5] rfl:):) ?_; clear F H; rintro _ w a ⟨p144, c144, rfl, H⟩ F
             refine bk (List.replicate 5 0) F H rfl trivial ?_; clear F; intro a F
             replace H := H.nf 7 rfl
             refine nl (sq ?_)
             by_cases hg145 : x143.2 = 0
             · replace hm := ifT hg145 hm
               obtain ⟨x146, ex146, hm⟩ := ob hm
               have hl147 : (x146).length = 32 := by obtain ⟨_, _, _, _, _, hx, _⟩ := calls_ex (w_rSum ex146 (H.pm 7 [0, 0, 1, 2, 3, 4, 5, 6] rfl:)); exact hx
               by_cases hg148 : x146 = x138
               · replace hm := ifT hg148 hm
                 refine qr H (by kernel_rfl) (by kernel_rfl) ?_
                 refine qbk [0, 0, 0] F rfl trivial ?_; clear F; intro a F
                 replace F := F.nT 69 hg145 rfl
                 refine qbk [0] F rfl trivial ?_; clear F; intro a F
                 refine qg_on F rfl rfl rfl rfl ?_
                 refine q_call F rfl rfl rfl (fun u hu => y_call F rfl rfl ent12) (fun u hu => (w_rSum ex146 (hu.pm 7 [0, 0, 1, 2, 3, 4, 5, 6] rfl:)).mono fun e u2 he => by obtain ⟨v, rfl, rfl, _, H⟩ := he; exact ⟨rfl, H⟩) ?_; clear F; intro a F
                 refine qbk [3999] F rfl ⟨rfl, (aggn agg35 ((bcells_length _).trans hl141)), trivial⟩ ?_; clear F; intro a F
                 refine qg_on F rfl rfl rfl rfl ?_
                 refine q_val F rfl rfl rfl (fun u hu => y_neqA F key35 rfl rfl rfl hl147 hl141) ?_; clear F; intro a F
                 refine qbk [0, 0] F rfl trivial ?_; clear F; intro a F
                 replace F := F.nT 75 hg148 rfl
                 refine qbk [0, 0, 0, 0] F rfl ⟨⟨_, Tryd.underlying33⟩, trivial⟩ ?_; clear F; intro a F
                 refine q_nil ?_; clear H; intro w H
                 refine ct (cP F rfl (fun hg149 => ?_) (fun hg149 => ?_))
                 · replace hm := ifT hg149 hm
                   refine sr (bk [0] F H rfl trivial ?_); clear F; intro a F
                   refine nl (wr (br (tr (tr ?_)))); cases hm; refine ⟨_, rfl, ?_⟩; rintro rfl
                   refine br (tr ?_)
                   replace hm := elimR hm109
                   refine tr ?_
                   cases hm
                   refine x_ret1 F rfl rfl ?_
                   exact ⟨_, rfl, rfl, (H.pm 7 [] rfl:)⟩
                 · replace hm := ifF hg149 hm
                   refine sk (bn (ct (rl (bk [0, 0] F H rfl trivial ?_)))); clear F; intro a F
                   refine lz (ct ?_); cases hm
                   exact ⟨_, rfl, ⟨F.sl rfl, (H.pm 7 [4, 1, 2, 5, 6] rfl:)⟩⟩
               · replace hm := ifF hg148 hm
                 refine qr H (by kernel_rfl) (by kernel_rfl) ?_
                 refine qbk [0, 0, 0] F rfl trivial ?_; clear F; intro a F
                 replace F := F.nT 69 hg145 rfl
                 refine qbk [0] F rfl trivial ?_; clear F; intro a F
                 refine qg_on F rfl rfl rfl rfl ?_
                 refine q_call F rfl rfl rfl (fun u hu => y_call F rfl rfl ent12) (fun u hu => (w_rSum ex146 (hu.pm 7 [0, 0, 1, 2, 3, 4, 5, 6] rfl:)).mono fun e u2 he => by obtain ⟨v, rfl, rfl, _, H⟩ := he; exact ⟨rfl, H⟩) ?_; clear F; intro a F
                 refine qbk [3999] F rfl ⟨rfl, (aggn agg35 ((bcells_length _).trans hl141)), trivial⟩ ?_; clear F; intro a F
                 refine qg_on F rfl rfl rfl rfl ?_
                 refine q_val F rfl rfl rfl (fun u hu => y_neqA F key35 rfl rfl rfl hl147 hl141) ?_; clear F; intro a F
                 refine qbk [0, 0] F rfl trivial ?_; clear F; intro a F
                 replace F := F.nF 75 hg148 rfl
                 refine qbk [0, 0, 0, 0] F rfl trivial ?_; clear F; intro a F
                 refine q_nil ?_; clear H; intro w H
                 refine ct (cT F rfl ?_)
                 refine sr (bk [0] F H rfl trivial ?_); clear F; intro a F
                 refine nl (wr (br (tr (tr ?_)))); cases hm; refine ⟨_, rfl, ?_⟩; rintro rfl
                 refine br (tr ?_)
                 replace hm := elimR hm109
                 refine tr ?_
                 cases hm
                 refine x_ret1 F rfl rfl ?_
                 exact ⟨_, rfl, rfl, (H.pm 7 [] rfl:)⟩
             · replace hm := ifF hg145 hm
               refine qr H (by kernel_rfl) (by kernel_rfl) ?_
               refine qbk [0, 0, 0] F rfl trivial ?_; clear F; intro a F
               replace F := F.nF 69 hg145 rfl
               refine qbk (List.replicate 10 0) F rfl trivial ?_; clear F; intro a F
               refine q_nil ?_; clear H; intro w H
               refine ct (cT F rfl ?_)
               refine sr (bk [0] F H rfl trivial ?_); clear F; intro a F
               refine nl (wr (br (tr (tr ?_)))); cases hm; refine ⟨_, rfl, ?_⟩; rintro rfl
               refine br (tr ?_)
               replace hm := elimR hm109
               refine tr ?_
               cases hm
               refine x_ret1 F rfl rfl ?_
               exact ⟨_, rfl, rfl, (H.pm 7 [] rfl:)⟩
           · replace hm := ifF hg137 hm
             refine ex (cx (cx ?_)); cases hm; refine ⟨_, rfl, ?_⟩; rintro rfl
             refine ch (ct ?_)
             exact ⟨_, rfl, F.sl rfl, H⟩
         · skip
           clear F H hm
           rintro a w ⟨r109, rfl, F, H⟩; have hm := elimL hm109; clear hm109
           refine ct (sr (bk [0] F H rfl trivial ?_)); clear F; intro a F
           obtain ⟨x150, ex150, hm⟩ := ob hm
           refine sc wkP F rfl ent17 (w_stFree ex150 (H.pm 5 [1, 2, 0, 3, 4] rfl:):) ?_; clear F H; rintro _ w a ⟨rfl, H⟩ F
           refine bk [0, 0] F H rfl trivial ?_; clear F; intro a F
           by_cases hg151 : x150 = 14
           · replace hm := ifT hg151 hm
             replace F := F.bT 84 hg151 rfl
             refine bk (List.replicate 5 0) F H rfl ⟨⟨_, Tryd.underlying32⟩, trivial⟩ ?_; clear F; intro a F
             replace H := H.nf 5 rfl
             refine nl (wr ?_)
             cases hm
             refine x_ret1 F rfl rfl ?_
             exact ⟨_, rfl, rfl, (H.pm 5 [] rfl:)⟩
           · replace hm := ifF hg151 hm
             replace F := F.bF 84 hg151 rfl
             refine bk (List.replicate 5 0) F H rfl trivial ?_; clear F; intro a F
             replace H := H.nf 5 rfl
             refine nl (wr ?_)
             cases hm
             refine x_ret1 F rfl rfl ?_
             exact ⟨_, rfl, rfl, (H.pm 5 [] rfl:)⟩
end Go.Proofs.YtfepdfjhejkemaaDoor
