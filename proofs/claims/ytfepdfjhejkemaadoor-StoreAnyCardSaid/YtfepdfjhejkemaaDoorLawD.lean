/- the statement -/
import Derived.Test.YtfepdfjhejkemaaDoorLawC
set_option linter.unusedSimpArgs false
set_option linter.unusedVariables false
namespace Go.Proofs.YtfepdfjhejkemaaDoor
open Go.RowKit Go.Tri
set_option maxRecDepth 100000 in
set_option maxHeartbeats 4000000 in
theorem w_m_triremelaw05_StoreFull {x0_ : Int}  {w0 w : World} {l : List HP}  {r : Bool} (hm : m_triremelaw05_StoreFull x0_ = some r) (H : St w0 w (HP.row 0 (0) (icells .u32 shaStart) :: HP.row 2 (0) (icells .u32 shaRounds) :: l)) :
  Calls Tryd.prog 4 [.int .i64 (x0_)].toArray w (fun e w' => ∃ v, e = .returned v ∧ v = .bool (r) ∧ St w0 w' (l)) := by
 unfold m_triremelaw05_StoreFull at hm
 refine x_enter Tryd.func4 rfl rfl rfl ?_
 intro a F
 refine sr (bk [0] F H rfl trivial ?_); clear F; intro a F
 refine nl (sq (sr ?_))
 obtain ⟨x1, ex1, hm⟩ := ob hm
 refine sc wkP F rfl ent8 (w_m_triremelaw05_speaks ex1 (H.pm 2 [0, 1, 0, 1] rfl:):) ?_; clear F H; rintro _ w a ⟨rfl, H⟩ F
 refine bk [0] F H rfl trivial ?_; clear F; intro a F
 replace H := H.nf 2 rfl
 refine nl (cB F rfl (fun hg2 => ?_) (fun hg2 => ?_))
 · replace hm := ifT hg2 hm
   refine sr (bk [0] F H rfl trivial ?_); clear F; intro a F
   refine nl (wr (tr ?_))
   cases hm
   refine x_ret1 F rfl rfl ?_
   exact ⟨_, rfl, rfl, (H.pm 2 [] rfl:)⟩
 · replace hm := ifF (nT hg2) hm
   refine sk (ct (sr (bk [0, 0, 0, 0] F H rfl trivial ?_))); clear F; intro a F
   refine nl (sr (bk [0] F H rfl trivial ?_)); clear F; intro a F
   obtain ⟨x3, ex3, hm⟩ := ob hm
   refine sc wkP F rfl ent9 (w_diskNew ex3 H:) ?_; clear F H; rintro _ w a ⟨b4, rfl, H⟩ F
   refine bk (List.replicate 5 0) F H rfl trivial ?_; clear F; intro a F
   replace H := H.nf 3 rfl
   refine nl (sq (sr (bk [0] F H rfl trivial ?_))); clear F; intro a F
   refine s_val wkP F rfl rfl rfl rfl (y_eqlPN F rfl rfl rfl Tryd.underlying25) ?_; clear F; intro a F
   refine nl (cF F rfl ?_)
   refine sk (ct (sr (bk [0] F H rfl trivial ?_))); clear F; intro a F
   obtain ⟨x5, ex5, hm⟩ := ob hm
   refine sc wkP F rfl ent10 (w_stOpen ex5 (H.pm 3 [1, 2, 0, 1, 2] rfl:):) ?_; clear F H; rintro _ w a ⟨b6, rfl, H⟩ F
   refine bk (List.replicate 5 0) F H rfl trivial ?_; clear F; intro a F
   replace H := H.nf 4 rfl
   refine nl (sq (sr (bk [0] F H rfl trivial ?_))); clear F; intro a F
   refine s_val wkP F rfl rfl rfl rfl (y_eqlPN F rfl rfl rfl Tryd.underlying29) ?_; clear F; intro a F
   refine nl (cF F rfl ?_)
   refine sk (ct (sq (sr (bk [0] F H rfl trivial ?_)))); clear F; intro a F
   refine nl ?_
   obtain ⟨o35, eo35, hm35⟩ := ob hm; clear hm; revert eo35; intro hm
   refine x_mid (fun aa ww => ∃ r35, o35 = Sum.inl r35 ∧ Fr ⟨103, []⟩ aa [(3, .int .i64 (IntKind.i64.wrap (2 + (andI .i64 x0_ 15)))), (6, .pointer (some ⟨b6, 0, none⟩))] ∧ St w0 ww (O_store_Store b6 b4 r35.1 :: O_disk_Disk b4 r35.2 :: HP.row 0 (0) (icells .u32 shaStart) :: HP.row 2 (0) (icells .u32 shaRounds) :: l)) ?_ ?_
   · skip
     refine bl (x_loopO _ (fun (s54 : T_store_Store_o × T_disk_Disk_o × Int) aa ww => Fr ⟨103, []⟩ aa [(3, .int .i64 (IntKind.i64.wrap (2 + (andI .i64 x0_ 15)))), (6, .pointer (some ⟨b6, 0, none⟩)), (8, .int .i64 (s54.2.2))] ∧ St w0 ww (O_store_Store b6 b4 s54.1 :: O_disk_Disk b4 s54.2.1 :: HP.row 0 (0) (icells .u32 shaStart) :: HP.row 2 (0) (icells .u32 shaRounds) :: l)) hm ⟨F.sl rfl, H⟩ ?_)
     clear F H hm
     rintro s54 a w o ⟨F, H⟩ hm
     refine sq (sr (bk [0, 0, 0, 0] F H rfl trivial ?_)); clear F; intro a F
     refine nl (cP F rfl (fun hg55 => ?_) (fun hg55 => ?_))
     · replace hm := ifT hg55 hm
       refine sk (ct (sq (bl (sr (bk [0, 0, 1] F H rfl ⟨Tryd.underlying3, Tryd.underlying5, trivial⟩ ?_))))); clear F; intro a F
       obtain ⟨x57, ex57, hm⟩ := ob hm
       refine s_buildC wkP F rfl rfl rfl elem33 zero5 rfl rfl rfl rfl (by simp [Value.cells]) (by decide) H ?_; clear F H; intro b56 w a H F
       replace H : St w0 w (HP.ow rByte 5 (some ⟨b56, 0, none⟩) (([x57]).length) ([x57]) :: O_store_Store b6 b4 s54.1 :: O_disk_Disk b4 s54.2.1 :: HP.row 0 (0) (icells .u32 shaStart) :: HP.row 2 (0) (icells .u32 shaRounds) :: l) := H.blkOw (R := rByte) 0 rfl (fun gg => ⟨[[.int .u8 (IntKind.u8.wrap (s54.2.2))]], rfl, (congrArg (fun z => [Value.int .u8 z]) (u8O_some ex57).symm), trivial⟩) (by simp)
       replace H := H.frz 0 rfl
       obtain ⟨x58, ex58, hm⟩ := ob hm
       refine sc wkP F rfl ent11 (w_stPut ex58 (H.pm 5 [3, 4, 1, 2, 0, 0, 3, 4] rfl:):) ?_; clear F H; rintro _ w a ⟨rfl, hl59, H⟩ F
       refine bk [0, 0, 0] F H rfl trivial ?_; clear F; intro a F
       refine s_allocA wkP F rfl rfl rfl agz35 rfl H ?_; clear F H; intro b60 w a H F
       refine s_storeA wkP F rfl rfl agg35 rfl rfl rfl H 0 rfl ((bcells_length _).trans hl59) ((bcells_length _).trans (List.length_replicate (n := 32))) (bcells_flat _) ?_; clear H; intro w H
       refine bk [0] F H rfl trivial ?_; clear F; intro a F
       replace H := H.nf 6 rfl
       refine nl (sr (bk [0, 0, 0] F H rfl trivial ?_)); clear F; intro a F
       by_cases hg61 : x58.2.1 = 0
       · replace hm := ifT hg61 hm
         replace F := F.nT 50 hg61 rfl
         refine bk [0] F H rfl trivial ?_; clear F; intro a F
         refine g_onP F rfl rfl rfl rfl ?_
         obtain ⟨x62, ex62, hm⟩ := ob hm
         refine sc wkP F rfl ent17 (w_stFree ex62 (H.pm 6 [1, 2, 0, 3, 4, 5] rfl:):) ?_; clear F H; rintro _ w a ⟨rfl, H⟩ F
         refine bk (List.replicate 6 0) F H rfl trivial ?_; clear F; intro a F
         replace H := H.nf 6 rfl
         refine nl (cN F rfl (fun hg63 => ?_) (fun hg63 => ?_))
         · replace hm := ifF hg63 hm
           refine sr (bk [0] F H rfl trivial ?_); clear F; intro a F
           refine nl (wr (br (tr (tr ?_)))); cases hm; refine ⟨_, rfl, ?_⟩; rintro rfl
           refine br (tr ?_)
           replace hm := elimR hm35
           refine tr ?_
           cases hm
           refine x_ret1 F rfl rfl ?_
           exact ⟨_, rfl, rfl, (H.pm 6 [] rfl:)⟩
         · replace hm := ifT hg63 hm
           refine sk (bn (ct (rl (bk [0, 0, 0] F H rfl trivial ?_)))); clear F; intro a F
           refine lz (ct ?_); cases hm
           exact ⟨_, rfl, ⟨F.sl rfl, (H.pm 6 [0, 1, 4, 5] rfl:)⟩⟩
       · replace hm := ifF hg61 hm
         replace F := F.nF 50 hg61 rfl
         refine bk (List.replicate 8 0) F H rfl trivial ?_; clear F; intro a F
         refine nl (cT F rfl ?_)
         refine sr (bk [0] F H rfl trivial ?_); clear F; intro a F
         refine nl (wr (br (tr (tr ?_)))); cases hm; refine ⟨_, rfl, ?_⟩; rintro rfl
         refine br (tr ?_)
         replace hm := elimR hm35
         refine tr ?_
         cases hm
         refine x_ret1 F rfl rfl ?_
         exact ⟨_, rfl, rfl, (H.pm 6 [] rfl:)⟩
     · replace hm := ifF hg55 hm
       refine ex (cx (cx ?_)); cases hm; refine ⟨_, rfl, ?_⟩; rintro rfl
       refine ch (ct ?_)
       exact ⟨_, rfl, F.sl rfl, H⟩
   · skip
     clear F H hm
     rintro a w ⟨r35, rfl, F, H⟩; have hm := elimL hm35; clear hm35
     refine ct (sr (bk [0] F H rfl trivial ?_)); clear F; intro a F
     obtain ⟨x65, ex65, hm⟩ := ob hm
     obtain ⟨x66, ex66, hm⟩ := ob hm
     obtain ⟨x67, ex67, hm⟩ := ob hm
     obtain ⟨x68, ex68, hm⟩ := ob hm
     refine s_buildC wkP F rfl rfl rfl elem33 zero5 rfl rfl rfl rfl (by simp [Value.cells]) (by decide) H ?_; clear F H; intro b64 w a H F
     replace H : St w0 w (HP.ow rByte 5 (some ⟨b64, 0, none⟩) (([x65, x66, x67, x68]).length) ([x65, x66, x67, x68]) :: O_store_Store b6 b4 r35.1 :: O_disk_Disk b4 r35.2 :: HP.row 0 (0) (icells .u32 shaStart) :: HP.row 2 (0) (icells .u32 shaRounds) :: l) := H.blkOw (R := rByte) 0 rfl (fun gg => ⟨[[.int .u8 (109)], [.int .u8 (111)], [.int .u8 (114)], [.int .u8 (101)]], rfl, (congrArg (fun z => [Value.int .u8 z]) (u8O_some ex65).symm), (congrArg (fun z => [Value.int .u8 z]) (u8O_some ex66).symm), (congrArg (fun z => [Value.int .u8 z]) (u8O_some ex67).symm), (congrArg (fun z => [Value.int .u8 z]) (u8O_some ex68).symm), trivial⟩) (by simp)
     refine s_convSl wkP F rfl rfl rfl Tryd.underlying33 Tryd.underlying5 rfl rfl H 0 rfl ?_; clear F H; intro w a H F
     obtain ⟨x69, ex69, hm⟩ := ob hm
     refine sc wkP F rfl ent11 (w_stPut ex69 (H.pm 5 [3, 4, 1, 2, 0, 0, 3, 4] rfl:):) ?_; clear F H; rintro _ w a ⟨rfl, hl70, H⟩ F
     refine bk [0, 0, 0] F H rfl trivial ?_; clear F; intro a F
     refine s_allocA wkP F rfl rfl rfl agz35 rfl H ?_; clear F H; intro b71 w a H F
     refine s_storeA wkP F rfl rfl agg35 rfl rfl rfl H 0 rfl ((bcells_length _).trans hl70) ((bcells_length _).trans (List.length_replicate (n := 32))) (bcells_flat _) ?_; clear H; intro w H
     refine bk [0] F H rfl trivial ?_; clear F; intro a F
     replace H := H.nf 6 rfl
     refine nl (sr (bk [0] F H rfl trivial ?_)); clear F; intro a F
     replace H := H.owNil (rBytesN 32) 35
     replace H := H.frz 0 rfl
     obtain ⟨x72, ex72, hm⟩ := ob hm
     refine sc wkP F rfl ent14 (w_stHold ex72 (H.pm 7 [2, 3, 0, 0, 1, 4, 5, 6] rfl:):) ?_; clear F H; rintro _ w a ⟨rfl, H⟩ F
     replace H := H.nf 7 rfl
     refine nl (sr (bk [0] F H rfl trivial ?_)); clear F; intro a F
     obtain ⟨x74, ex74, hm⟩ := ob hm
     obtain ⟨x75, ex75, hm⟩ := ob hm
     obtain ⟨x76, ex76, hm⟩ := ob hm
     obtain ⟨x77, ex77, hm⟩ := ob hm
     refine s_buildC wkP F rfl rfl rfl elem33 zero5 rfl rfl rfl rfl (by simp [Value.cells]) (by decide) H ?_; clear F H; intro b73 w a H F
     replace H : St w0 w (HP.ow rByte 5 (some ⟨b73, 0, none⟩) (([x74, x75, x76, x77]).length) ([x74, x75, x76, x77]) :: O_store_Store b6 b4 x72.2 :: O_disk_Disk b4 x72.1 :: HP.sl (rBytesN 32) none 0 ([] : List (List UInt8)) :: HP.blk b71 (bcells x69.1) 35 :: HP.sl rByte (some ⟨b64, 0, none⟩) (([x65, x66, x67, x68]).length) ([x65, x66, x67, x68]) :: HP.row 0 (0) (icells .u32 shaStart) :: HP.row 2 (0) (icells .u32 shaRounds) :: l) := H.blkOw (R := rByte) 0 rfl (fun gg => ⟨[[.int .u8 (109)], [.int .u8 (111)], [.int .u8 (114)], [.int .u8 (101)]], rfl, (congrArg (fun z => [Value.int .u8 z]) (u8O_some ex74).symm), (congrArg (fun z => [Value.int .u8 z]) (u8O_some ex75).symm), (congrArg (fun z => [Value.int .u8 z]) (u8O_some ex76).symm), (congrArg (fun z => [Value.int .u8 z]) (u8O_some ex77).symm), trivial⟩) (by simp)
     refine s_convSl wkP F rfl rfl rfl Tryd.underlying33 Tryd.underlying5 rfl rfl H 0 rfl ?_; clear F H; intro w a H F
     obtain ⟨x78, ex78, hm⟩ := ob hm
     refine sc wkP F rfl ent11 (w_stPut ex78 (H.pm 8 [6, 7, 1, 2, 0, 0, 3, 4, 5, 6, 7] rfl:):) ?_; clear F H; rintro _ w a ⟨rfl, hl79, H⟩ F
     refine bk [0, 0, 0] F H rfl trivial ?_; clear F; intro a F
     refine s_allocA wkP F rfl rfl rfl agz35 rfl H ?_; clear F H; intro b80 w a H F
     refine s_storeA wkP F rfl rfl agg35 rfl rfl rfl H 0 rfl ((bcells_length _).trans hl79) ((bcells_length _).trans (List.length_replicate (n := 32))) (bcells_flat _) ?_; clear H; intro w H
     refine bk [0] F H rfl trivial ?_; clear F; intro a F
     replace H := H.nf 9 rfl
     refine nl (sr (bk [0, 0, 0] F H rfl trivial ?_)); clear F; intro a F
     by_cases hg81 : x69.2.1 = 50
     · replace hm := ifT hg81 hm
       replace F := F.bT 77 hg81 rfl
       refine bk [0, 0, 0, 0] F H rfl trivial ?_; clear F; intro a F
       refine g_onP F rfl rfl rfl rfl ?_
       refine s_val wkP F rfl rfl rfl rfl (y_eqlBool (p := decide (x78.2.1 = 0)) (q := decide (2 < (IntKind.i64.wrap (2 + (andI .i64 x0_ 15))))) F rfl Tryd.underlying4 rfl rfl) ?_; clear F; intro a F
       refine bk [0, 0] F H rfl trivial ?_; clear F; intro a F
       by_cases hg82 : (decide (x78.2.1 = 0)) = (decide (2 < (IntKind.i64.wrap (2 + (andI .i64 x0_ 15)))))
       · replace hm := ifT hg82 hm
         replace F := F.bT 84 hg82 rfl
         refine bk [0, 0, 0] F H rfl trivial ?_; clear F; intro a F
         by_cases hg83 : (IntKind.i64.wrap (2 + (andI .i64 x0_ 15))) = 2
         · replace hm := ifT hg83 hm
           replace F := F.bT 87 hg83 rfl
           refine bk (List.replicate 16 0) F H rfl trivial ?_; clear F; intro a F
           refine nl (wr ?_)
           cases hm
           refine x_ret1 F rfl rfl ?_
           exact ⟨_, rfl, rfl, (H.pm 9 [] rfl:)⟩
         · replace hm := ifF hg83 hm
           replace F := F.bF 87 hg83 rfl
           refine bk [0] F H rfl trivial ?_; clear F; intro a F
           refine g_onP F rfl rfl rfl rfl ?_
           obtain ⟨x84, ex84, hm⟩ := ob hm
           refine sc wkP F rfl ent17 (w_stFree ex84 (H.pm 9 [1, 2, 0, 3, 4, 5, 6, 7, 8] rfl:):) ?_; clear F H; rintro _ w a ⟨rfl, H⟩ F
           refine bk [0, 0, 0, 0] F H rfl trivial ?_; clear F; intro a F
           by_cases hg85 : x84 = (IntKind.i64.wrap ((IntKind.i64.wrap (2 + (andI .i64 x0_ 15))) - 3))
           · replace hm := ifT hg85 hm
             replace F := F.bT 93 hg85 rfl
             refine bk [0] F H rfl trivial ?_; clear F; intro a F
             refine g_onP F rfl rfl rfl rfl ?_
             obtain ⟨x86, ex86, hm⟩ := ob hm
             refine sc wkP F rfl ent18 (w_stHashes ex86 H:) ?_; clear F H; rintro _ w a ⟨p87, c87, rfl, H⟩ F
             refine bk (List.replicate 8 0) F H rfl ⟨⟨_, Tryd.underlying32⟩, trivial⟩ ?_; clear F; intro a F
             replace H := H.nf 10 rfl
             refine nl (wr ?_)
             cases hm
             refine x_ret1 F rfl rfl ?_
             exact ⟨_, rfl, rfl, (H.pm 10 [] rfl:)⟩
           · replace hm := ifF hg85 hm
             replace F := F.bF 93 hg85 rfl
             refine bk (List.replicate 10 0) F H rfl trivial ?_; clear F; intro a F
             replace H := H.nf 9 rfl
             refine nl (wr ?_)
             cases hm
             refine x_ret1 F rfl rfl ?_
             exact ⟨_, rfl, rfl, (H.pm 9 [] rfl:)⟩
       · replace hm := ifF hg82 hm
         replace F := F.bF 84 hg82 rfl
         refine bk (List.replicate 19 0) F H rfl trivial ?_; clear F; intro a F
         refine nl (wr ?_)
         cases hm
         refine x_ret1 F rfl rfl ?_
         exact ⟨_, rfl, rfl, (H.pm 9 [] rfl:)⟩
     · replace hm := ifF hg81 hm
       replace F := F.bF 77 hg81 rfl
       refine bk (List.replicate 26 0) F H rfl trivial ?_; clear F; intro a F
       refine nl (wr ?_)
       cases hm
       refine x_ret1 F rfl rfl ?_
       exact ⟨_, rfl, rfl, (H.pm 9 [] rfl:)⟩
end Go.Proofs.YtfepdfjhejkemaaDoor
