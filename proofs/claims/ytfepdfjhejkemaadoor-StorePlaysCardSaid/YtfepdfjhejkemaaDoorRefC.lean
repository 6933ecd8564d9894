/- ref05 -/
import Derived.Test.YtfepdfjhejkemaaDoorRefB
set_option linter.unusedSimpArgs false
set_option linter.unusedVariables false
namespace Go.Proofs.YtfepdfjhejkemaaDoor
open Go.RowKit Go.Tri
theorem fld97_1 : FieldT Tryd.prog 97 1 1 := by unfold FieldT; rw [Tryd.underlying97]; kernel_rfl
theorem plain95 : Plain Tryd.prog 95 := by unfold Plain; rw [Tryd.underlying95]; rfl
theorem elem95 : ElemT Tryd.prog 95 4 1 1 (.bool false) := ⟨Tryd.underlying95, by kernel_rfl, by kernel_rfl, by decide⟩
theorem fld97_2 : FieldT Tryd.prog 97 2 2 := by unfold FieldT; rw [Tryd.underlying97]; kernel_rfl
set_option maxRecDepth 100000 in
set_option maxHeartbeats 4000000 in
theorem w_rsAt {s : T_triremeref01_Disk_o × (List Bool) × (List (List UInt8)) × (List (List UInt8))} {h : List UInt8} {bo0 : Nat} {bo0_0 : Nat} {w0 w : World} {l : List HP} (hl1 : (h).length = 32) {r : Int} (hm : rsAt s h = some r) (H : St w0 w (O_triremeref05_Store bo0 bo0_0 s.2 :: O_triremeref01_Disk bo0_0 s.1 :: l)) :
  Calls Tryd.prog 31 [.pointer (some ⟨bo0, 0, none⟩), .agg (bcells h).toArray].toArray w (fun e w' => ∃ v, e = .returned v ∧ v = .int .i64 (r) ∧ St w0 w' (O_triremeref05_Store bo0 bo0_0 s.2 :: O_triremeref01_Disk bo0_0 s.1 :: l)) := by
 unfold rsAt at hm
 refine x_enter Tryd.func31 rfl rfl rfl ?_
 intro a F
 refine sr (s_boxA wkP F rfl rfl rfl rfl rfl H ?_); clear F H; intro b2 w a H F
 refine bk [0] F H rfl trivial ?_; clear F; intro a F
 replace H := H.nf 3 rfl
 refine nl (sq (sr (bk [0] F H rfl trivial ?_))); clear F; intro a F
 refine nl ?_
 obtain ⟨o52, eo52, hm52⟩ := ob hm; clear hm; revert eo52; intro hm
 refine x_mid (fun aa ww => ∃ r52, o52 = Sum.inl r52 ∧ Fr ⟨34, []⟩ aa [] ∧ St w0 ww (HP.blk b2 (bcells h) 35 :: O_triremeref05_Store bo0 bo0_0 s.2 :: O_triremeref01_Disk bo0_0 s.1 :: l)) ?_ ?_
 · skip
   refine bl (x_loopO _ (fun (s85 : Int) aa ww => Fr ⟨34, []⟩ aa [(0, .pointer (some ⟨bo0, 0, none⟩)), (3, .pointer (some ⟨b2, 0, none⟩)), (5, .int .i64 (s85))] ∧ St w0 ww (HP.blk b2 (bcells h) 35 :: O_triremeref05_Store bo0 bo0_0 s.2 :: O_triremeref01_Disk bo0_0 s.1 :: l)) hm ⟨F.sl rfl, H⟩ ?_)
   clear F H hm
   rintro s85 a w o ⟨F, H⟩ hm
   refine sq (sr (bk [0, 0, 0, 1] F H rfl ⟨fld97_1, trivial⟩ ?_)); clear F; intro a F
   obtain ⟨p86, c87, p88, c89, p90, c91, H⟩ := O_triremeref05_Store_o (H.pk 1 rfl)
   refine bk [1, 0, 0] F H rfl ⟨rfl, plain95, ⟨_, Tryd.underlying95⟩, trivial⟩ ?_; clear F; intro a F
   refine nl (cP F rfl (fun hg92 => ?_) (fun hg92 => ?_))
   · replace hm := ifT hg92 hm
     refine sk (ct (sq (bl (sq ?_))))
     obtain ⟨x93, ex93, hm⟩ := ob hm
     obtain ⟨b94, hp94⟩ := H.owP 1 rfl (idxO_some ex93).2
     by_cases hg96 : x93 = true
     · replace hm := ifT hg96 hm
       obtain ⟨x97, ex97, hm⟩ := ob hm
       obtain ⟨b98, hp98⟩ := H.owP 2 rfl (idxO_some ex97).2
       obtain ⟨css99, H⟩ := H.oxOpen 2 rfl
       obtain ⟨cs99, hcs99, hcl99, H⟩ := H.oxEl 2 rfl (idxO_some ex97).2
       obtain ⟨rfl, hl100⟩ := H.rcBN 0 rfl
       replace H := H.dp 0 rfl
       refine qr H (by kernel_rfl) (by kernel_rfl) ?_
       refine qbk [0, 0, 1, 1, 0] F rfl ⟨fld97_1, rfl, plain95, trivial⟩ ?_; clear F; intro a F
       refine q_val F rfl rfl rfl (fun u hu => y_idxS F elem95 rfl rfl rfl hp94 ex93) ?_; clear F; intro a F
       refine q_val F rfl rfl rfl (fun u hu => y_load1 F plain4 rfl rfl (hu.owBool 1 rfl hp94 ex93)) ?_; clear F; intro a F
       refine qbk [0] F rfl trivial ?_; clear F; intro a F
       replace F := F.vT 22 hg96 rfl
       refine qbk [0, 0, 2, 2, 0] F rfl ⟨fld97_2, rfl, plain32, trivial⟩ ?_; clear F; intro a F
       refine qg_on F rfl rfl rfl rfl ?_
       refine q_val F rfl rfl rfl (fun u hu => y_idxS F elem32 rfl rfl rfl hp98 ex97) ?_; clear F; intro a F
       refine qg_on F rfl rfl rfl rfl ?_
       refine q_val F rfl rfl rfl (fun u hu => y_loadA F agg35 rfl rfl (hu.oxRow 2 rfl hp98 hcs99 hcl99) ((bcells_length _).trans hl100)) ?_; clear F; intro a F
       refine qbk [4999] F rfl ⟨rfl, (aggn agg35 ((bcells_length _).trans hl1)), trivial⟩ ?_; clear F; intro a F
       refine qg_on F rfl rfl rfl rfl ?_
       refine q_val F rfl rfl rfl (fun u hu => y_eqlA F key35 rfl rfl rfl hl100 hl1) ?_; clear F; intro a F
       refine qbk [0] F rfl trivial ?_; clear F; intro a F
       refine q_nil ?_; clear H; intro w H
       replace H := H.oxShut 2 rfl
       refine ct (cP F rfl (fun hg101 => ?_) (fun hg101 => ?_))
       · replace hm := ifT hg101 hm
         refine sr (bk [0, 0] F H rfl trivial ?_); clear F; intro a F
         replace H := H.nf 6 rfl
         refine nl (wr (br (tr (tr ?_)))); cases hm; refine ⟨_, rfl, ?_⟩; rintro rfl
         refine br (tr ?_)
         replace hm := elimR hm52
         refine tr ?_
         replace H := O_triremeref05_Store_s H
         cases hm
         refine x_ret1 F rfl rfl ?_
         exact ⟨_, rfl, rfl, (H.pm 3 [0, 2] rfl:)⟩
       · replace hm := ifF hg101 hm
         refine sk (bn (ct (rl (bk [0, 0, 0] F H rfl trivial ?_)))); clear F; intro a F
         replace H := H.nf 6 rfl
         refine lz ?_
         replace H := O_triremeref05_Store_s H
         refine ct ?_; cases hm
         exact ⟨_, rfl, ⟨F.sl rfl, (H.pm 3 [1, 0, 2] rfl:)⟩⟩
     · replace hm := ifF hg96 hm
       refine qr H (by kernel_rfl) (by kernel_rfl) ?_
       refine qbk [0, 0, 1, 1, 0] F rfl ⟨fld97_1, rfl, plain95, trivial⟩ ?_; clear F; intro a F
       refine q_val F rfl rfl rfl (fun u hu => y_idxS F elem95 rfl rfl rfl hp94 ex93) ?_; clear F; intro a F
       refine q_val F rfl rfl rfl (fun u hu => y_load1 F plain4 rfl rfl (hu.owBool 1 rfl hp94 ex93)) ?_; clear F; intro a F
       refine qbk [0] F rfl trivial ?_; clear F; intro a F
       replace F := F.vF 22 hg96 rfl
       refine qbk (List.replicate 10 0) F rfl trivial ?_; clear F; intro a F
       refine q_nil ?_; clear H; intro w H
       refine ct (cF F rfl ?_)
       refine sk (bn (ct (rl (bk [0, 0, 0] F H rfl trivial ?_)))); clear F; intro a F
       refine lz ?_
       replace H := O_triremeref05_Store_s H
       refine ct ?_; cases hm
       exact ⟨_, rfl, ⟨F.sl rfl, (H.pm 3 [1, 0, 2] rfl:)⟩⟩
   · replace hm := ifF hg92 hm
     refine ex (cx (cx ?_)); cases hm; refine ⟨_, rfl, ?_⟩; rintro rfl
     refine ch ?_
     replace H := O_triremeref05_Store_s H
     refine ct ?_
     exact ⟨_, rfl, F.cut _ trivial, (H.pm 3 [1, 0, 2] rfl:)⟩
 · skip
   clear F H hm
   rintro a w ⟨r52, rfl, F, H⟩; have hm := elimL hm52; clear hm52
   refine ct (sr (bk [0] F H rfl trivial ?_)); clear F; intro a F
   refine nl (wr ?_)
   cases hm
   refine x_ret1 F rfl rfl ?_
   exact ⟨_, rfl, rfl, (H.pm 3 [1, 2] rfl:)⟩
theorem fld97_3 : FieldT Tryd.prog 97 3 3 := by unfold FieldT; rw [Tryd.underlying97]; kernel_rfl
set_option maxRecDepth 100000 in
set_option maxHeartbeats 4000000 in
theorem w_rsHolds {s : T_triremeref01_Disk_o × (List Bool) × (List (List UInt8)) × (List (List UInt8))} {h : List UInt8} {bo0 : Nat} {bo0_0 : Nat} {w0 w : World} {l : List HP} (hl1 : (h).length = 32) {r : Bool} (hm : rsHolds s h = some r) (H : St w0 w (O_triremeref05_Store bo0 bo0_0 s.2 :: O_triremeref01_Disk bo0_0 s.1 :: l)) :
  Calls Tryd.prog 73 [.pointer (some ⟨bo0, 0, none⟩), .agg (bcells h).toArray].toArray w (fun e w' => ∃ v, e = .returned v ∧ v = .bool (r) ∧ St w0 w' (O_triremeref05_Store bo0 bo0_0 s.2 :: O_triremeref01_Disk bo0_0 s.1 :: l)) := by
 unfold rsHolds at hm
 refine x_enter Tryd.func73 rfl rfl rfl ?_
 intro a F
 refine sr (s_boxA wkP F rfl rfl rfl rfl rfl H ?_); clear F H; intro b2 w a H F
 refine bk [0] F H rfl trivial ?_; clear F; intro a F
 replace H := H.nf 3 rfl
 refine nl (sq (sr (bk [0] F H rfl trivial ?_))); clear F; intro a F
 refine nl ?_
 obtain ⟨o40, eo40, hm40⟩ := ob hm; clear hm; revert eo40; intro hm
 refine x_mid (fun aa ww => ∃ r40, o40 = Sum.inl r40 ∧ Fr ⟨24, []⟩ aa [] ∧ St w0 ww (HP.blk b2 (bcells h) 35 :: O_triremeref05_Store bo0 bo0_0 s.2 :: O_triremeref01_Disk bo0_0 s.1 :: l)) ?_ ?_
 · skip
   refine bl (x_loopO _ (fun (s65 : Int) aa ww => Fr ⟨24, []⟩ aa [(0, .pointer (some ⟨bo0, 0, none⟩)), (3, .pointer (some ⟨b2, 0, none⟩)), (5, .int .i64 (s65))] ∧ St w0 ww (HP.blk b2 (bcells h) 35 :: O_triremeref05_Store bo0 bo0_0 s.2 :: O_triremeref01_Disk bo0_0 s.1 :: l)) hm ⟨F.sl rfl, H⟩ ?_)
   clear F H hm
   rintro s65 a w o ⟨F, H⟩ hm
   refine sq (sr (bk [0, 0, 0, 3] F H rfl ⟨fld97_3, trivial⟩ ?_)); clear F; intro a F
   obtain ⟨p66, c67, p68, c69, p70, c71, H⟩ := O_triremeref05_Store_o (H.pk 1 rfl)
   refine bk [3, 0, 0] F H rfl ⟨rfl, plain32, ⟨_, Tryd.underlying32⟩, trivial⟩ ?_; clear F; intro a F
   refine nl (cP F rfl (fun hg72 => ?_) (fun hg72 => ?_))
   · replace hm := ifT hg72 hm
     refine sk (ct (sq (bl (sq ?_))))
     obtain ⟨x73, ex73, hm⟩ := ob hm
     obtain ⟨b74, hp74⟩ := H.owP 3 rfl (idxO_some ex73).2
     obtain ⟨css75, H⟩ := H.oxOpen 3 rfl
     obtain ⟨cs75, hcs75, hcl75, H⟩ := H.oxEl 3 rfl (idxO_some ex73).2
     obtain ⟨rfl, hl76⟩ := H.rcBN 0 rfl
     replace H := H.dp 0 rfl
     refine qr H (by kernel_rfl) (by kernel_rfl) ?_
     refine qbk [0, 0, 3, 3, 0] F rfl ⟨fld97_3, rfl, plain32, trivial⟩ ?_; clear F; intro a F
     refine q_val F rfl rfl rfl (fun u hu => y_idxS F elem32 rfl rfl rfl hp74 ex73) ?_; clear F; intro a F
     refine q_val F rfl rfl rfl (fun u hu => y_loadA F agg35 rfl rfl (hu.oxRow 3 rfl hp74 hcs75 hcl75) ((bcells_length _).trans hl76)) ?_; clear F; intro a F
     refine qbk [4999] F rfl ⟨rfl, (aggn agg35 ((bcells_length _).trans hl1)), trivial⟩ ?_; clear F; intro a F
     refine q_val F rfl rfl rfl (fun u hu => y_eqlA F key35 rfl rfl rfl hl76 hl1) ?_; clear F; intro a F
     refine q_nil ?_; clear H; intro w H
     replace H := H.oxShut 3 rfl
     refine ct (cP F rfl (fun hg77 => ?_) (fun hg77 => ?_))
     · replace hm := ifT hg77 hm
       refine sr (bk [0] F H rfl trivial ?_); clear F; intro a F
       replace H := H.nf 6 rfl
       refine nl (wr (br (tr (tr ?_)))); cases hm; refine ⟨_, rfl, ?_⟩; rintro rfl
       refine br (tr ?_)
       replace hm := elimR hm40
       refine tr ?_
       replace H := O_triremeref05_Store_s H
       cases hm
       refine x_ret1 F rfl rfl ?_
       exact ⟨_, rfl, rfl, (H.pm 3 [0, 2] rfl:)⟩
     · replace hm := ifF hg77 hm
       refine sk (bn (ct (rl (bk [0, 0, 0] F H rfl trivial ?_)))); clear F; intro a F
       replace H := H.nf 6 rfl
       refine lz ?_
       replace H := O_triremeref05_Store_s H
       refine ct ?_; cases hm
       exact ⟨_, rfl, ⟨F.sl rfl, (H.pm 3 [1, 0, 2] rfl:)⟩⟩
   · replace hm := ifF hg72 hm
     refine ex (cx (cx ?_)); cases hm; refine ⟨_, rfl, ?_⟩; rintro rfl
     refine ch ?_
     replace H := O_triremeref05_Store_s H
     refine ct ?_
     exact ⟨_, rfl, F.cut _ trivial, (H.pm 3 [1, 0, 2] rfl:)⟩
 · skip
   clear F H hm
   rintro a w ⟨r40, rfl, F, H⟩; have hm := elimL hm40; clear hm40
   refine ct (sr (bk [0] F H rfl trivial ?_)); clear F; intro a F
   refine nl (wr ?_)
   cases hm
   refine x_ret1 F rfl rfl ?_
   exact ⟨_, rfl, rfl, (H.pm 3 [1, 2] rfl:)⟩
theorem ent73 : ∀ args w, (callFunc 73 args).run Tryd.prog w = .ok (.enter 73 args) w := enters Tryd.func73 (by kernel_rfl) rfl
set_option maxRecDepth 100000 in
set_option maxHeartbeats 4000000 in
theorem w_rsSpare {s : T_triremeref01_Disk_o × (List Bool) × (List (List UInt8)) × (List (List UInt8))} {i : Int} {bo0 : Nat} {bo0_0 : Nat} {w0 w : World} {l : List HP}  {r : Bool} (hm : rsSpare s i = some r) (H : St w0 w (O_triremeref05_Store bo0 bo0_0 s.2 :: O_triremeref01_Disk bo0_0 s.1 :: l)) :
  Calls Tryd.prog 54 [.pointer (some ⟨bo0, 0, none⟩), .int .i64 (i)].toArray w (fun e w' => ∃ v, e = .returned v ∧ v = .bool (r) ∧ St w0 w' (O_triremeref05_Store bo0 bo0_0 s.2 :: O_triremeref01_Disk bo0_0 s.1 :: l)) := by
 unfold rsSpare at hm
 refine x_enter Tryd.func54 rfl rfl rfl ?_
 intro a F
 refine sr (bk [0] F H rfl trivial ?_); clear F; intro a F
 refine nl (sr (bk [0, 0, 0] F H rfl trivial ?_)); clear F; intro a F
 by_cases hg1 : 1 < i
 · replace hm := ifT hg1 hm
   replace F := F.bT 7 hg1 rfl
   refine bk [0, 0, 1] F H rfl ⟨fld97_1, trivial⟩ ?_; clear F; intro a F
   refine g_onP F rfl rfl rfl rfl ?_
   obtain ⟨p2, c3, p4, c5, p6, c7, H⟩ := O_triremeref05_Store_o (H.pk 0 rfl)
   refine bk [1, 0] F H rfl ⟨rfl, plain95, trivial⟩ ?_; clear F; intro a F
   refine g_onP F rfl rfl rfl rfl ?_
   obtain ⟨x8, ex8, hm⟩ := ob hm
   obtain ⟨b9, hp9⟩ := H.owP 1 rfl (idxO_some ex8).2
   refine s_val wkP F rfl rfl rfl rfl (y_idxS F elem95 rfl rfl rfl hp9 ex8) ?_; clear F; intro a F
   refine g_onP F rfl rfl rfl rfl ?_
   refine s_val wkP F rfl rfl rfl rfl (y_load1 F plain4 rfl rfl (H.owBool 1 rfl hp9 ex8)) ?_; clear F; intro a F
   refine bk [0] F H rfl trivial ?_; clear F; intro a F
   by_cases hg11 : x8 = true
   · replace hm := ifT hg11 hm
     replace F := F.vT 15 hg11 rfl
     refine bk [0, 0, 0, 2, 2, 0] F H rfl ⟨fld97_2, rfl, plain32, trivial⟩ ?_; clear F; intro a F
     refine g_onP F rfl rfl rfl rfl ?_
     obtain ⟨x12, ex12, hm⟩ := ob hm
     obtain ⟨b13, hp13⟩ := H.owP 2 rfl (idxO_some ex12).2
     obtain ⟨css14, H⟩ := H.oxOpen 2 rfl
     obtain ⟨cs14, hcs14, hcl14, H⟩ := H.oxEl 2 rfl (idxO_some ex12).2
     obtain ⟨rfl, hl15⟩ := H.rcBN 0 rfl
     replace H := H.dp 0 rfl
     refine s_val wkP F rfl rfl rfl rfl (y_idxS F elem32 rfl rfl rfl hp13 ex12) ?_; clear F; intro a F
     refine g_onP F rfl rfl rfl rfl ?_
     refine s_val wkP F rfl rfl rfl rfl (y_loadA F agg35 rfl rfl (H.oxRow 2 rfl hp13 hcs14 hcl14) ((bcells_length _).trans hl15)) ?_; clear F; intro a F
     refine g_onP F rfl rfl rfl rfl ?_
     replace H := H.oxShut 2 rfl
     replace H := O_triremeref05_Store_s H
     obtain ⟨x16, ex16, hm⟩ := ob hm
     refine sc wkP F rfl ent73 (w_rsHolds hl15 ex16 H:) ?_; clear F H; rintro _ w a ⟨rfl, H⟩ F
     refine bk [0, 0, 0, 0] F H rfl trivial ?_; clear F; intro a F
     replace H := H.nf 2 rfl
     refine nl (wr ?_)
     cases hm
     refine x_ret1 F rfl rfl ?_
     exact ⟨_, rfl, rfl, H⟩
   · replace hm := ifF hg11 hm
     replace F := F.vF 15 hg11 rfl
     refine bk (List.replicate 13 0) F H rfl trivial ?_; clear F; intro a F
     refine nl (wr ?_)
     replace H := O_triremeref05_Store_s H
     cases hm
     refine x_ret1 F rfl rfl ?_
     exact ⟨_, rfl, rfl, H⟩
 · replace hm := ifF hg1 hm
   replace F := F.bF 7 hg1 rfl
   refine bk (List.replicate 21 0) F H rfl trivial ?_; clear F; intro a F
   refine nl (wr ?_)
   cases hm
   refine x_ret1 F rfl rfl ?_
   exact ⟨_, rfl, rfl, H⟩
theorem ent54 : ∀ args w, (callFunc 54 args).run Tryd.prog w = .ok (.enter 54 args) w := enters Tryd.func54 (by kernel_rfl) rfl
set_option maxRecDepth 100000 in
set_option maxHeartbeats 4000000 in
theorem w_rsFree {s : T_triremeref01_Disk_o × (List Bool) × (List (List UInt8)) × (List (List UInt8))} {bo0 : Nat} {bo0_0 : Nat} {w0 w : World} {l : List HP}  {r : Int} (hm : rsFree s = some r) (H : St w0 w (O_triremeref05_Store bo0 bo0_0 s.2 :: O_triremeref01_Disk bo0_0 s.1 :: l)) :
  Calls Tryd.prog 27 [.pointer (some ⟨bo0, 0, none⟩)].toArray w (fun e w' => ∃ v, e = .returned v ∧ v = .int .i64 (r) ∧ St w0 w' (O_triremeref05_Store bo0 bo0_0 s.2 :: O_triremeref01_Disk bo0_0 s.1 :: l)) := by
 unfold rsFree at hm
 refine x_enter Tryd.func27 rfl rfl rfl ?_
 intro a F
 refine sr (bk [0] F H rfl trivial ?_); clear F; intro a F
 refine nl (sr (bk [0] F H rfl trivial ?_)); clear F; intro a F
 refine nl (sq (sr (bk [0] F H rfl trivial ?_))); clear F; intro a F
 refine nl ?_
 obtain ⟨r50, er50, hm50⟩ := ob hm; clear hm; revert er50; intro hm
 refine x_mid (fun aa ww => Fr ⟨20, []⟩ aa [(3, .int .i64 (r50))] ∧ St w0 ww (O_triremeref05_Store bo0 bo0_0 s.2 :: O_triremeref01_Disk bo0_0 s.1 :: l)) ?_ ?_
 · skip
   refine bl (x_loopO _ (fun (s83 : Int × Int) aa ww => Fr ⟨20, []⟩ aa [(0, .pointer (some ⟨bo0, 0, none⟩)), (3, .int .i64 (s83.1)), (4, .int .i64 (s83.2))] ∧ St w0 ww (O_triremeref05_Store bo0 bo0_0 s.2 :: O_triremeref01_Disk bo0_0 s.1 :: l)) hm ⟨F.sl rfl, H⟩ ?_)
   clear F H hm
   rintro s83 a w o ⟨F, H⟩ hm
   refine sq (sr (bk [0, 0, 0, 1] F H rfl ⟨fld97_1, trivial⟩ ?_)); clear F; intro a F
   obtain ⟨p84, c85, p86, c87, p88, c89, H⟩ := O_triremeref05_Store_o (H.pk 0 rfl)
   refine bk [1, 0, 0] F H rfl ⟨rfl, plain95, ⟨_, Tryd.underlying95⟩, trivial⟩ ?_; clear F; intro a F
   refine nl (cP F rfl (fun hg90 => ?_) (fun hg90 => ?_))
   · replace hm := ifT hg90 hm
     refine sk (ct (sq ?_))
     replace H := O_triremeref05_Store_s H
     obtain ⟨r95, er95, hm95⟩ := ob hm; clear hm; revert er95; intro hm
     refine x_mid (fun aa ww => Fr ⟨20, []⟩ aa [(0, .pointer (some ⟨bo0, 0, none⟩)), (3, .int .i64 (r95)), (4, .int .i64 (s83.2))] ∧ St w0 ww (O_triremeref05_Store bo0 bo0_0 s.2 :: O_triremeref01_Disk bo0_0 s.1 :: l)) ?_ ?_
     · skip
       refine bl (sr (bk [0, 0] F H rfl trivial ?_)); clear F; intro a F
       obtain ⟨x96, ex96, hm⟩ := ob hm
       refine sc wkP F rfl ent54 (w_rsSpare ex96 H:) ?_; clear F H; rintro _ w a ⟨rfl, H⟩ F
       replace H := H.nf 2 rfl
       refine nl ?_
       obtain ⟨r98, er98, hm98⟩ := ob hm; clear hm; revert er98; intro hm
       refine x_mid (fun aa ww => Fr ⟨20, []⟩ aa [(0, .pointer (some ⟨bo0, 0, none⟩)), (3, .int .i64 (r98)), (4, .int .i64 (s83.2))] ∧ St w0 ww (O_triremeref05_Store bo0 bo0_0 s.2 :: O_triremeref01_Disk bo0_0 s.1 :: l)) ?_ ?_
       · skip
         refine cB F rfl (fun hg99 => ?_) (fun hg99 => ?_)
         · replace hm := ifT hg99 hm
           refine rl (bk [0, 0, 0] F H rfl trivial ?_); clear F; intro a F
           refine lz ?_
           cases hm
           refine ct ?_
           exact ⟨F.sl rfl, H⟩
         · replace hm := ifF (nT hg99) hm
           refine sk ?_
           cases hm
           refine ct ?_
           exact ⟨F.sl rfl, H⟩
       · skip
         clear F H hm
         rintro a w ⟨F, H⟩; have hm := hm98; clear hm98
         refine bn ?_
         cases hm
         refine ct ?_
         exact ⟨F.sl rfl, H⟩
     · skip
       clear F H hm
       rintro a w ⟨F, H⟩; have hm := hm95; clear hm95
       refine ct (rl (bk [0, 0, 0] F H rfl trivial ?_)); clear F; intro a F
       replace H := H.nf 2 rfl
       refine lz (ct ?_); cases hm
       exact ⟨_, rfl, ⟨F.sl rfl, H⟩⟩
   · replace hm := ifF hg90 hm
     refine ex (cx (cx ?_)); cases hm; refine ⟨_, rfl, ?_⟩; rintro rfl
     refine ch ?_
     replace H := O_triremeref05_Store_s H
     refine ct ?_
     exact ⟨F.sl rfl, H⟩
 · skip
   clear F H hm
   rintro a w ⟨F, H⟩; have hm := hm50; clear hm50
   refine ct (sr (bk [0, 0] F H rfl trivial ?_)); clear F; intro a F
   refine nl (wr ?_)
   cases hm
   refine x_ret1 F rfl rfl ?_
   exact ⟨_, rfl, rfl, H⟩
theorem ent31 : ∀ args w, (callFunc 31 args).run Tryd.prog w = .ok (.enter 31 args) w := enters Tryd.func31 (by kernel_rfl) rfl
theorem fld97_0 : FieldT Tryd.prog 97 0 0 := by unfold FieldT; rw [Tryd.underlying97]; kernel_rfl
theorem plain52 : Plain Tryd.prog 52 := by unfold Plain; rw [Tryd.underlying52]; rfl
theorem ent47 : ∀ args w, (callFunc 47 args).run Tryd.prog w = .ok (.enter 47 args) w := enters Tryd.func47 (by kernel_rfl) rfl
theorem ent48 : ∀ args w, (callFunc 48 args).run Tryd.prog w = .ok (.enter 48 args) w := enters Tryd.func48 (by kernel_rfl) rfl
set_option maxRecDepth 100000 in
set_option maxHeartbeats 4000000 in
theorem w_rsGet {s : T_triremeref01_Disk_o × (List Bool) × (List (List UInt8)) × (List (List UInt8))} {h : List UInt8} {bo0 : Nat} {bo0_0 : Nat} {w0 w : World} {l : List HP} (hl1 : (h).length = 32) {r : (List UInt8) × Int} (hm : rsGet s h = some r) (H : St w0 w (O_triremeref05_Store bo0 bo0_0 s.2 :: O_triremeref01_Disk bo0_0 s.1 :: l)) :
  Calls Tryd.prog 52 [.pointer (some ⟨bo0, 0, none⟩), .agg (bcells h).toArray].toArray w (fun e w' => ∃ v, e = .returned v ∧ ∃ (p2 : Option Addr) (c2 : Nat), v = .tuple [.slice p2 (r.1).length c2, .int .i64 (r.2)].toArray ∧ St w0 w' (HP.sl rByte p2 c2 r.1 :: O_triremeref05_Store bo0 bo0_0 s.2 :: O_triremeref01_Disk bo0_0 s.1 :: l)) := by
 unfold rsGet at hm
 refine x_enter Tryd.func52 rfl rfl rfl ?_
 intro a F
 refine sr (s_boxA wkP F rfl rfl rfl rfl rfl H ?_); clear F H; intro b3 w a H F
 refine bk [0, 0] F H rfl trivial ?_; clear F; intro a F
 replace H := H.nf 3 rfl
 refine nl (sr (bk [0, 999] F H rfl ⟨rfl, (aggn agg35 ((bcells_length _).trans hl1)), trivial⟩ ?_)); clear F; intro a F
 obtain ⟨x4, ex4, hm⟩ := ob hm
 refine sc wkP F rfl ent31 (w_rsAt hl1 ex4 (H.pm 3 [1, 2, 0] rfl:):) ?_; clear F H; rintro _ w a ⟨rfl, H⟩ F
 refine bk [0] F H rfl trivial ?_; clear F; intro a F
 replace H := H.nf 3 rfl
 refine nl (sq (sr (bk [0, 0] F H rfl trivial ?_))); clear F; intro a F
 refine nl (cP F rfl (fun hg5 => ?_) (fun hg5 => ?_))
 · replace hm := ifT hg5 hm
   refine sr (s_build0O (R := rByte) wkP F rfl rfl rfl elem33 rfl H ?_); clear F H; intro b6 w a H F
   refine bk [0, 0] F H rfl trivial ?_; clear F; intro a F
   replace H := H.nf 4 rfl
   refine nl (wr (tr ?_))
   replace H := H.frz 0 rfl
   cases hm
   refine x_ret2 F rfl rfl rfl ?_
   exact ⟨_, rfl, (some ⟨b6, 0, none⟩), 0, rfl, (H.pm 4 [0, 1, 2] rfl:)⟩
 · replace hm := ifF hg5 hm
   refine sk (ct (sr (bk [0, 0, 0] F H rfl ⟨fld97_0, trivial⟩ ?_))); clear F; intro a F
   obtain ⟨p7, c8, p9, c10, p11, c12, H⟩ := O_triremeref05_Store_o (H.pk 0 rfl)
   refine bk [0, 0] F H rfl ⟨rfl, plain52, trivial⟩ ?_; clear F; intro a F
   obtain ⟨x13, ex13, hm⟩ := ob hm
   refine sc wkP F rfl ent47 (w_rdRead ex13 (H.pm 6 [4, 0, 1, 2, 3, 5] rfl:):) ?_; clear F H; rintro _ w a ⟨p14, c14, rfl, H⟩ F
   refine bk (List.replicate 5 0) F H rfl trivial ?_; clear F; intro a F
   replace H := H.nf 7 rfl
   refine nl (sq (sr (bk [0, 0] F H rfl trivial ?_))); clear F; intro a F
   refine nl (cN F rfl (fun hg15 => ?_) (fun hg15 => ?_))
   · replace hm := ifF hg15 hm
     refine sr (s_build0O (R := rByte) wkP F rfl rfl rfl elem33 rfl H ?_); clear F H; intro b16 w a H F
     refine bk [0, 0, 0] F H rfl trivial ?_; clear F; intro a F
     replace H := H.nf 8 rfl
     refine nl (wr (tr ?_))
     replace H := H.frz 0 rfl
     replace H := O_triremeref05_Store_s (H.pm 8 [3, 4, 5, 6, 0, 1, 2, 7] rfl:)
     cases hm
     refine x_ret2 F rfl rfl rfl ?_
     exact ⟨_, rfl, (some ⟨b16, 0, none⟩), 0, rfl, (H.pm 5 [1, 0, 3] rfl:)⟩
   · replace hm := ifT hg15 hm
     refine sk (ct (sr (bk [0] F H rfl trivial ?_))); clear F; intro a F
     replace H := H.frz 0 rfl
     obtain ⟨x17, ex17, hm⟩ := ob hm
     refine sc wkP F rfl ent48 (w_m_triremeref04_Unwrap ex17 (H.pm 7 [0, 0, 1, 2, 3, 4, 5, 6] rfl:):) ?_; clear F H; rintro _ w a ⟨p18, c18, rfl, H⟩ F
     refine bk (List.replicate 5 0) F H rfl trivial ?_; clear F; intro a F
     replace H := H.nf 8 rfl
     refine nl (sq (sq ?_))
     by_cases hg19 : x17.2 = 0
     · replace hm := ifT hg19 hm
       obtain ⟨x20, ex20, hm⟩ := ob hm
       have hl21 : (x20).length = 32 := by obtain ⟨_, _, _, _, _, hx, _⟩ := calls_ex (w_rSum ex20 (H.pm 8 [0, 0, 1, 2, 3, 4, 5, 6, 7] rfl:)); exact hx
       refine qr H (by kernel_rfl) (by kernel_rfl) ?_
       refine qbk [0, 0, 0] F rfl trivial ?_; clear F; intro a F
       replace F := F.nT 36 hg19 rfl
       refine qbk [0] F rfl trivial ?_; clear F; intro a F
       refine qg_on F rfl rfl rfl rfl ?_
       refine q_call F rfl rfl rfl (fun u hu => y_call F rfl rfl ent12) (fun u hu => (w_rSum ex20 (hu.pm 8 [0, 0, 1, 2, 3, 4, 5, 6, 7] rfl:)).mono fun e u2 he => by obtain ⟨v, rfl, rfl, _, H⟩ := he; exact ⟨rfl, H⟩) ?_; clear F; intro a F
       refine qbk [7999] F rfl ⟨rfl, (aggn agg35 ((bcells_length _).trans hl1)), trivial⟩ ?_; clear F; intro a F
       refine qg_on F rfl rfl rfl rfl ?_
       refine q_val F rfl rfl rfl (fun u hu => y_neqA F key35 rfl rfl rfl hl21 hl1) ?_; clear F; intro a F
       refine qbk [0] F rfl trivial ?_; clear F; intro a F
       refine q_nil ?_; clear H; intro w H
       refine ct (cN F rfl (fun hg22 => ?_) (fun hg22 => ?_))
       · replace hm := ifF hg22 hm
         refine sr (s_build0O (R := rByte) wkP F rfl rfl rfl elem33 rfl H ?_); clear F H; intro b23 w a H F
         refine bk [0, 0] F H rfl trivial ?_; clear F; intro a F
         replace H := H.nf 9 rfl
         refine nl (wr (tr ?_))
         replace H := H.frz 0 rfl
         replace H := O_triremeref05_Store_s (H.pm 9 [4, 5, 6, 7, 0, 1, 2, 3, 8] rfl:)
         cases hm
         refine x_ret2 F rfl rfl rfl ?_
         exact ⟨_, rfl, (some ⟨b23, 0, none⟩), 0, rfl, (H.pm 6 [1, 0, 4] rfl:)⟩
       · replace hm := ifT hg22 hm
         refine sk (ct (sr (bk [0, 0, 0] F H rfl trivial ?_))); clear F; intro a F
         refine nl (wr ?_)
         replace H := O_triremeref05_Store_s (H.pm 8 [3, 4, 5, 6, 0, 1, 2, 7] rfl:)
         cases hm
         refine x_ret2 F rfl rfl rfl ?_
         exact ⟨_, rfl, p18, c18, rfl, (H.pm 5 [1, 0, 3] rfl:)⟩
     · replace hm := ifF hg19 hm
       refine qr H (by kernel_rfl) (by kernel_rfl) ?_
       refine qbk [0, 0, 0] F rfl trivial ?_; clear F; intro a F
       replace F := F.nF 36 hg19 rfl
       refine qbk (List.replicate 5 0) F rfl trivial ?_; clear F; intro a F
       refine q_nil ?_; clear H; intro w H
       refine ct (cT F rfl ?_)
       refine sr (s_build0O (R := rByte) wkP F rfl rfl rfl elem33 rfl H ?_); clear F H; intro b24 w a H F
       refine bk [0, 0] F H rfl trivial ?_; clear F; intro a F
       replace H := H.nf 9 rfl
       refine nl (wr (tr ?_))
       replace H := H.frz 0 rfl
       replace H := O_triremeref05_Store_s (H.pm 9 [4, 5, 6, 7, 0, 1, 2, 3, 8] rfl:)
       cases hm
       refine x_ret2 F rfl rfl rfl ?_
       exact ⟨_, rfl, (some ⟨b24, 0, none⟩), 0, rfl, (H.pm 6 [1, 0, 4] rfl:)⟩
theorem ent71 : ∀ args w, (callFunc 71 args).run Tryd.prog w = .ok (.enter 71 args) w := enters Tryd.func71 (by kernel_rfl) rfl
theorem ent72 : ∀ args w, (callFunc 72 args).run Tryd.prog w = .ok (.enter 72 args) w := enters Tryd.func72 (by kernel_rfl) rfl
set_option maxRecDepth 100000 in
set_option maxHeartbeats 4000000 in
theorem w_rsPut {s : T_triremeref01_Disk_o × (List Bool) × (List (List UInt8)) × (List (List UInt8))} {block : List UInt8} {bo0 : Nat} {bo0_0 : Nat} {p1 : Option Addr} {c1 : Nat} {w0 w : World} {l : List HP}  {r : (List UInt8) × Int × (T_triremeref01_Disk_o × (List Bool) × (List (List UInt8)) × (List (List UInt8)))} (hm : rsPut s block = some r) (H : St w0 w (O_triremeref05_Store bo0 bo0_0 s.2 :: O_triremeref01_Disk bo0_0 s.1 :: HP.sl rByte p1 c1 block :: l)) :
  Calls Tryd.prog 53 [.pointer (some ⟨bo0, 0, none⟩), .slice p1 (block).length c1].toArray w (fun e w' => ∃ v, e = .returned v ∧ v = .tuple [.agg (bcells r.1).toArray, .int .i64 (r.2.1)].toArray ∧ ((r.1).length = 32) ∧ St w0 w' (O_triremeref05_Store bo0 bo0_0 r.2.2.2 :: O_triremeref01_Disk bo0_0 r.2.2.1 :: l)) := by
 unfold rsPut at hm
 refine x_enter Tryd.func53 rfl rfl rfl ?_
 intro a F
 refine sr (s_allocA wkP F rfl rfl rfl agz35 rfl H ?_); clear F H; intro b3 w a H F
 refine bk [0] F H rfl trivial ?_; clear F; intro a F
 replace H := H.nf 4 rfl
 refine nl (sr (bk [0] F H rfl trivial ?_)); clear F; intro a F
 obtain ⟨x4, ex4, hm⟩ := ob hm
 refine sc wkP F rfl ent71 (w_m_triremeref04_Wrap ex4 (H.pm 4 [3, 0, 1, 2, 3] rfl:):) ?_; clear F H; rintro _ w a ⟨p5, c5, rfl, H⟩ F
 refine bk (List.replicate 5 0) F H rfl trivial ?_; clear F; intro a F
 replace H := H.nf 5 rfl
 refine nl (sq (sr (bk [0, 0] F H rfl trivial ?_))); clear F; intro a F
 refine nl (cN F rfl (fun hg6 => ?_) (fun hg6 => ?_))
 · replace hm := ifF hg6 hm
   refine sr (s_val wkP F rfl rfl rfl rfl (y_build F rfl rfl (cs := bcells ((List.replicate 32 0) : List UInt8)) (by kernel_rfl)) ?_); clear F; intro a F
   refine bk [0] F H rfl trivial ?_; clear F; intro a F
   refine s_storeA wkP F rfl rfl agg35 rfl rfl rfl H 1 rfl ((bcells_length _).trans rfl) ((bcells_length _).trans (List.length_replicate (n := 32))) (bcells_flat _) ?_; clear H; intro w H
   refine bk [0] F H rfl trivial ?_; clear F; intro a F
   replace H := H.nf 5 rfl
   refine nl (wr (tr ?_))
   cases hm
   refine x_resC2 F rfl (⟨_, rfl, agg35.run_load (H.blk 1 rfl).row ((bcells_length _).trans rfl)⟩) rfl ?_
   exact ⟨_, rfl, rfl, rfl, (H.pm 5 [2, 3] rfl:)⟩
 · replace hm := ifT hg6 hm
   refine sk (ct (sr (bk [0] F H rfl trivial ?_))); clear F; intro a F
   obtain ⟨x7, ex7, hm⟩ := ob hm
   refine sc wkP F rfl ent12 (w_rSum ex7 (H.pm 5 [4, 0, 1, 2, 3, 4] rfl:):) ?_; clear F H; rintro _ w a ⟨rfl, hl8, H⟩ F
   refine s_allocA wkP F rfl rfl rfl agz35 rfl H ?_; clear F H; intro b9 w a H F
   refine s_storeA wkP F rfl rfl agg35 rfl rfl rfl H 0 rfl ((bcells_length _).trans hl8) ((bcells_length _).trans (List.length_replicate (n := 32))) (bcells_flat _) ?_; clear H; intro w H
   replace H := H.nf 6 rfl
   refine nl (sq (sr (bk [0, 999] F H rfl ⟨rfl, (aggn agg35 ((bcells_length _).trans hl8)), trivial⟩ ?_))); clear F; intro a F
   obtain ⟨x10, ex10, hm⟩ := ob hm
   refine sc wkP F rfl ent31 (w_rsAt hl8 ex10 (H.pm 6 [3, 4, 0, 1, 2, 5] rfl:):) ?_; clear F H; rintro _ w a ⟨rfl, H⟩ F
   refine bk [0] F H rfl trivial ?_; clear F; intro a F
   replace H := H.nf 6 rfl
   refine nl ?_
   obtain ⟨o89, eo89, hm89⟩ := ob hm; clear hm; revert eo89; intro hm
   refine x_mid (fun aa ww => ∃ r89, o89 = Sum.inl r89 ∧ Fr ⟨85, []⟩ aa [(0, .pointer (some ⟨bo0, 0, none⟩)), (4, .pointer (some ⟨b3, 0, none⟩)), (8, .pointer (some ⟨b9, 0, none⟩))] ∧ St w0 ww (O_triremeref05_Store bo0 bo0_0 r89.1 :: O_triremeref01_Disk bo0_0 r89.2 :: HP.blk b9 (bcells x7) 35 :: HP.blk b3 (bcells (List.replicate 32 0)) 35 :: l)) ?_ ?_
   · skip
     refine cP F rfl (fun hg90 => ?_) (fun hg90 => ?_)
     · replace hm := ifT hg90 hm
       refine sr (bk [0] F H rfl trivial ?_); clear F; intro a F
       refine nl (sq ?_)
       obtain ⟨r119, er119, hm119⟩ := ob hm; clear hm; revert er119; intro hm
       refine x_mid (fun aa ww => Fr ⟨85, []⟩ aa [(0, .pointer (some ⟨bo0, 0, none⟩)), (4, .pointer (some ⟨b3, 0, none⟩)), (6, .slice p5 (x4.1).length c5), (8, .pointer (some ⟨b9, 0, none⟩)), (9, .int .i64 (r119))] ∧ St w0 ww (O_triremeref05_Store bo0 bo0_0 s.2 :: O_triremeref01_Disk bo0_0 s.1 :: HP.blk b9 (bcells x7) 35 :: HP.sl rByte p5 c5 x4.1 :: HP.blk b3 (bcells (List.replicate 32 0)) 35 :: l)) ?_ ?_
       · skip
         refine bl ?_
         refine x_loopO _ (fun (s138 : Int) aa ww => Fr ⟨85, []⟩ aa [(0, .pointer (some ⟨bo0, 0, none⟩)), (4, .pointer (some ⟨b3, 0, none⟩)), (6, .slice p5 (x4.1).length c5), (8, .pointer (some ⟨b9, 0, none⟩)), (9, .int .i64 (s138))] ∧ St w0 ww (O_triremeref05_Store bo0 bo0_0 s.2 :: O_triremeref01_Disk bo0_0 s.1 :: HP.blk b9 (bcells x7) 35 :: HP.sl rByte p5 c5 x4.1 :: HP.blk b3 (bcells (List.replicate 32 0)) 35 :: l)) hm ⟨F.sl rfl, (H.pm 6 [0, 1, 2, 3, 4] rfl:)⟩ ?_
         clear F H hm
         rintro s138 a w o ⟨F, H⟩ hm
         refine sq (sr (bk [0, 0, 0, 1] F H rfl ⟨fld97_1, trivial⟩ ?_)); clear F; intro a F
         obtain ⟨p139, c140, p141, c142, p143, c144, H⟩ := O_triremeref05_Store_o (H.pk 0 rfl)
         refine bk [1, 0, 0, 0] F H rfl ⟨rfl, plain95, ⟨_, Tryd.underlying95⟩, trivial⟩ ?_; clear F; intro a F
         by_cases hg145 : s138 < ((s.2.1).length : Int)
         · replace hm := ifT hg145 hm
           replace F := F.bT 32 hg145 rfl
           refine bk [0, 0] F H rfl trivial ?_; clear F; intro a F
           refine g_onP F rfl rfl rfl rfl ?_
           replace H := O_triremeref05_Store_s H
           obtain ⟨x146, ex146, hm⟩ := ob hm
           refine sc wkP F rfl ent54 (w_rsSpare ex146 H:) ?_; clear F H; rintro _ w a ⟨rfl, H⟩ F
           refine bk [0, 0] F H rfl trivial ?_; clear F; intro a F
           replace H := H.nf 5 rfl
           refine nl (cB F rfl (fun hg147 => ?_) (fun hg147 => ?_))
           · replace hm := ifT hg147 hm
             refine sk (ct (bl (rl (bk [0, 0, 0] F H rfl trivial ?_)))); clear F; intro a F
             refine lz (bn (ct ?_)); cases hm
             exact ⟨_, rfl, ⟨F.sl rfl, H⟩⟩
           · replace hm := ifF (nT hg147) hm
             refine ex (cx (cx ?_)); cases hm; refine ⟨_, rfl, ?_⟩; rintro rfl
             refine ch (ct ?_)
             exact ⟨F.sl rfl, H⟩
         · replace hm := ifF hg145 hm
           replace F := F.bF 32 hg145 rfl
           refine bk (List.replicate 5 0) F H rfl trivial ?_; clear F; intro a F
           refine nl (cF F rfl ?_)
           refine ex (cx (cx ?_)); cases hm; refine ⟨_, rfl, ?_⟩; rintro rfl
           refine ch ?_
           replace H := O_triremeref05_Store_s H
           refine ct ?_
           exact ⟨F.sl rfl, H⟩
       · skip
         clear F H hm
         rintro a w ⟨F, H⟩; have hm := hm119; clear hm119
         refine ct (sq (sr (bk [0, 0, 0, 1] F H rfl ⟨fld97_1, trivial⟩ ?_))); clear F; intro a F
         obtain ⟨p148, c149, p150, c151, p152, c153, H⟩ := O_triremeref05_Store_o (H.pk 0 rfl)
         refine bk [1, 0, 0] F H rfl ⟨rfl, plain95, ⟨_, Tryd.underlying95⟩, trivial⟩ ?_; clear F; intro a F
         refine nl (cP F rfl (fun hg154 => ?_) (fun hg154 => ?_))
         · replace hm := ifT hg154 hm
           refine sr (s_val wkP F rfl rfl rfl rfl (y_build F rfl rfl (cs := bcells ((List.replicate 32 0) : List UInt8)) (by kernel_rfl)) ?_); clear F; intro a F
           refine s_storeA wkP F rfl rfl agg35 rfl rfl rfl H 7 rfl ((bcells_length _).trans rfl) ((bcells_length _).trans (List.length_replicate (n := 32))) (bcells_flat _) ?_; clear H; intro w H
           refine bk [0] F H rfl trivial ?_; clear F; intro a F
           replace H := H.nf 8 rfl
           refine nl (wr (tr (tr ?_)))
           cases hm
           replace hm := elimR hm89
           refine tr ?_
           replace H := O_triremeref05_Store_s H
           cases hm
           refine x_resC2 F rfl (⟨_, rfl, agg35.run_load (H.blk 4 rfl).row ((bcells_length _).trans rfl)⟩) rfl ?_
           exact ⟨_, rfl, rfl, rfl, (H.pm 5 [0, 1] rfl:)⟩
         · replace hm := ifF hg154 hm
           refine sk (ct (sr (bk (List.replicate 6 0) F H rfl ⟨fld97_0, rfl, plain52, trivial⟩ ?_))); clear F; intro a F
           obtain ⟨x155, ex155, hm⟩ := ob hm
           refine sc wkP F rfl ent72 (w_rdWrite ex155 (H.pm 8 [4, 6, 0, 1, 2, 3, 5, 6, 7] rfl:):) ?_; clear F H; rintro _ w a ⟨rfl, H⟩ F
           refine bk [0] F H rfl trivial ?_; clear F; intro a F
           replace H := H.nf 8 rfl
           refine nl (sq (sr (bk [0, 0] F H rfl trivial ?_))); clear F; intro a F
           refine nl (cN F rfl (fun hg156 => ?_) (fun hg156 => ?_))
           · replace hm := ifF hg156 hm
             refine sr (s_val wkP F rfl rfl rfl rfl (y_build F rfl rfl (cs := bcells ((List.replicate 32 0) : List UInt8)) (by kernel_rfl)) ?_); clear F; intro a F
             refine bk [0] F H rfl trivial ?_; clear F; intro a F
             refine s_storeA wkP F rfl rfl agg35 rfl rfl rfl H 7 rfl ((bcells_length _).trans rfl) ((bcells_length _).trans (List.length_replicate (n := 32))) (bcells_flat _) ?_; clear H; intro w H
             refine bk [0] F H rfl trivial ?_; clear F; intro a F
             replace H := H.nf 8 rfl
             refine nl (wr (tr (tr ?_)))
             cases hm
             replace hm := elimR hm89
             refine tr ?_
             replace H := O_triremeref05_Store_s (H.pm 8 [1, 2, 3, 4, 0, 5, 6, 7] rfl:)
             cases hm
             refine x_resC2 F rfl (⟨_, rfl, agg35.run_load (H.blk 4 rfl).row ((bcells_length _).trans rfl)⟩) rfl ?_
             exact ⟨_, rfl, rfl, rfl, (H.pm 5 [0, 1] rfl:)⟩
           · replace hm := ifT hg156 hm
             refine sk (ct (sr (bk [0, 0, 1, 1001, 0] F H rfl ⟨fld97_1, rfl, plain95, trivial⟩ ?_))); clear F; intro a F
             obtain ⟨x157, ex157, hm⟩ := ob hm
             obtain ⟨b158, hp158⟩ := H.owP 2 rfl (idxO_some ex157).2
             refine s_val wkP F rfl rfl rfl rfl (y_idxS F elem95 rfl rfl rfl hp158 ex157) ?_; clear F; intro a F
             refine s_owSet1 wkP F rfl rfl zero4 rfl rfl rfl rfl rfl rfl H 2 rfl hp158 ex157 (zz := true) (fun gg => rfl) ?_; clear H; intro w H
             replace H : St w0 w (O_triremeref01_Disk bo0_0 x155.2 :: HP.blk bo0 ([.pointer (some ⟨bo0_0, 0, none⟩), .slice p148 ((s.2.1).set (r119 : Int).toNat true).length c149, .slice p150 (s.2.2.1).length c151, .slice p152 (s.2.2.2).length c153]) 97 :: HP.ow rBool 4 p148 c149 ((s.2.1).set (r119 : Int).toNat true) :: HP.ow (rBytesN 32) 35 p150 c151 s.2.2.1 :: HP.ow (rBytesN 32) 35 p152 c153 s.2.2.2 :: HP.blk b9 (bcells x7) 35 :: HP.sl rByte p5 c5 x4.1 :: HP.blk b3 (bcells (List.replicate 32 0)) 35 :: l) := (by have h := H; first | exact h | (simp only [List.length_set] at h ⊢; exact h))
             replace F := F.bool (k := 44) (u := .slice p148 ((s.2.1).set (r119 : Int).toNat true).length c149) rfl (by simp only [List.length_set])
             replace F := F.bool (k := 62) (u := .slice p148 ((s.2.1).set (r119 : Int).toNat true).length c149) rfl (by simp only [List.length_set])
             refine nl ?_
             obtain ⟨x164, ex164, hm⟩ := ob hm
             obtain ⟨b165, hp165⟩ := H.owP 3 rfl (idxO_some ex164).2
             obtain ⟨css166, H⟩ := H.oxOpen 3 rfl
             obtain ⟨cs166, hcs166, hcl166, H⟩ := H.oxEl 3 rfl (idxO_some ex164).2
             obtain ⟨rfl, hl167⟩ := H.rcBN 0 rfl
             replace H := H.dp 0 rfl
             refine mix_region [7] [7] (.step 0 0 (.step 0 1 (.step 0 2 (.step 1 3 (.step 0 4 (.step 1 5 (.step 0 6 (.step 3 7 .done)))))))) (fun u => ∃ ls, St w0 u (ls)) (by kernel_rfl) (by kernel_rfl) ⟨_, H.drew⟩ ?_
             replace H := H.drew
             generalize w.drew = w at H ⊢
             refine mbk [0, 0, 2, 1002, 0, 5999] F H rfl ⟨fld97_2, rfl, plain32, rfl, (aggn agg35 ((bcells_length _).trans hl8)), trivial⟩ ?_; clear F; intro a F
             refine m_pure F rfl rfl rfl rfl (fun u hu => y_idxS F elem32 rfl rfl rfl hp165 ex164) ?_; clear F; intro a F
             refine m_last rfl rfl ?_
             replace H := H.oxShut 3 rfl
             refine s_owSetA wkP F rfl rfl agg35 rfl rfl rfl rfl H 3 rfl hp165 ex164 (zz := x7) (fun gg => ⟨rfl, hl8⟩) (bcells_flat _) ((bcells_length _).trans hl8) ?_; clear H; intro w H
             replace H : St w0 w (O_triremeref01_Disk bo0_0 x155.2 :: HP.blk bo0 ([.pointer (some ⟨bo0_0, 0, none⟩), .slice p148 ((s.2.1).set (r119 : Int).toNat true).length c149, .slice p150 ((s.2.2.1).set (r119 : Int).toNat x7).length c151, .slice p152 (s.2.2.2).length c153]) 97 :: HP.ow rBool 4 p148 c149 ((s.2.1).set (r119 : Int).toNat true) :: HP.ow (rBytesN 32) 35 p150 c151 ((s.2.2.1).set (r119 : Int).toNat x7) :: HP.ow (rBytesN 32) 35 p152 c153 s.2.2.2 :: HP.blk b9 (bcells x7) 35 :: HP.sl rByte p5 c5 x4.1 :: HP.blk b3 (bcells (List.replicate 32 0)) 35 :: l) := (by have h := H; first | exact h | (simp only [List.length_set] at h ⊢; exact h))
             replace F := F.bool (k := 68) (u := .slice p150 ((s.2.2.1).set (r119 : Int).toNat x7).length c151) rfl (by simp only [List.length_set])
             refine lz ?_; refine ct ?_
             refine m_nil ?_
             replace H := O_triremeref05_Store_s (x1 := (s.2.1).set (r119 : Int).toNat true) (x2 := (s.2.2.1).set (r119 : Int).toNat x7) (H.pm 8 [1, 2, 3, 4, 0, 5, 6, 7] rfl:)
             cases hm
             refine ct ?_
             exact ⟨_, rfl, F.sl rfl, (H.pm 5 [0, 1, 2, 4] rfl:)⟩
     · replace hm := ifF hg90 hm
       refine sk ?_
       cases hm
       refine ct ?_
       exact ⟨_, rfl, F.sl rfl, (H.pm 6 [0, 1, 2, 4] rfl:)⟩
   · skip
     clear F H hm
     rintro a w ⟨r89, rfl, F, H⟩; have hm := elimL hm89; clear hm89
     refine ct (sq ?_)
     obtain ⟨r214, er214, hm214⟩ := ob hm; clear hm; revert er214; intro hm
     refine x_mid (fun aa ww => Fr ⟨85, []⟩ aa [(4, .pointer (some ⟨b3, 0, none⟩)), (8, .pointer (some ⟨b9, 0, none⟩))] ∧ St w0 ww (O_triremeref05_Store bo0 bo0_0 r214 :: O_triremeref01_Disk bo0_0 r89.2 :: HP.blk b9 (bcells x7) 35 :: HP.blk b3 (bcells (List.replicate 32 0)) 35 :: l)) ?_ ?_
     · skip
       obtain ⟨p238, c239, p240, c241, p242, c243, H⟩ := O_triremeref05_Store_o (H.pk 0 rfl)
       refine mix_region [1, 6, 8, 9, 12] [12] (.step 0 0 (.step 0 2 (.step 0 3 (.step 0 4 (.step 0 5 (.step 0 7 (.fork 1 (.fork 6 (.step 2 8 (.step 2 9 (.step 0 10 (.step 0 11 (.step 3 12 .done))))) 8 (.step 2 6 (.step 2 9 (.step 0 10 (.step 0 11 (.step 3 12 .done)))))) 8 (.step 2 1 (.step 2 6 (.step 2 9 (.step 0 10 (.step 0 11 (.step 3 12 .done))))))))))))) (fun u => ∃ ls, St w0 u (HP.blk bo0 ([.pointer (some ⟨bo0_0, 0, none⟩), .slice p238 (r89.1.1).length c239, .slice p240 (r89.1.2.1).length c241, .slice p242 (r89.1.2.2).length c243]) 97 :: HP.blk b9 (bcells x7) 35 :: ls)) (by kernel_rfl) (by kernel_rfl) ⟨_, (H.drew.pm 7 [0, 5, 1, 2, 3, 4, 6] rfl:)⟩ ?_
       replace H := H.drew
       generalize w.drew = w at H ⊢
       refine mbk [0, 0, 0, 3] F H rfl ⟨fld97_3, trivial⟩ ?_; clear F; intro a F
       refine m_pure F rfl rfl rfl rfl (fun u hu => y_load1 F plain32 rfl rfl (row_at (v := .slice p242 (r89.1.2.2).length c243) ((hu.choose_spec.blk 0 rfl).row) rfl)) ?_; clear F; intro a F
       refine m_pure F rfl rfl rfl rfl (fun u hu => y_loadA F agg35 rfl rfl ((hu.choose_spec.blk 1 rfl).row) ((bcells_length _).trans hl8)) ?_; clear F; intro a F
       refine m_fork rfl rfl rfl rfl ?_ ?_
       · skip
         refine m_heavy rfl rfl ?_
         refine s_build0O (R := (rBytesN 32)) wkP F rfl rfl rfl elem32 rfl H ?_; clear F H; intro b244 w a H F
         refine lz ?_; refine ct ⟨⟨_, (H.pm 8 [1, 6, 0, 2, 3, 4, 5, 7] rfl:)⟩, ?_⟩
         refine m_fork rfl rfl rfl rfl ?_ ?_
         · skip
           refine m_heavy rfl rfl ?_
           replace H := H.frz 4 rfl
           obtain ⟨x246, ex246, hm⟩ := ob hm
           refine s_app wkP F rfl rfl rfl rfl rfl rfl elem32 rfl ex246 H 1 0 rfl rfl ?_; clear F H; intro p245 c245 w a H F
           refine lz ?_; refine ct ⟨⟨_, (H.pm 8 [2, 6, 0, 1, 3, 4, 5, 7] rfl:)⟩, ?_⟩
           refine m_heavy rfl rfl ?_
           refine s_build1 wkP F rfl rfl rfl agg35 elem32 rfl rfl ((bcells_length _).trans hl8) (by decide) H ?_; clear F H; intro b247 w a H F
           replace H : St w0 w (HP.ow (rBytesN 32) 35 (some ⟨b247, 0, none⟩) (([x7]).length) ([x7]) :: HP.sl (rBytesN 32) p242 c243 r89.1.2.2 :: HP.ow (rBytesN 32) 35 p245 c245 x246 :: HP.blk bo0 ([.pointer (some ⟨bo0_0, 0, none⟩), .slice p238 (r89.1.1).length c239, .slice p240 (r89.1.2.1).length c241, .slice p242 (r89.1.2.2).length c243]) 97 :: HP.ow rBool 4 p238 c239 r89.1.1 :: HP.ow (rBytesN 32) 35 p240 c241 r89.1.2.1 :: O_triremeref01_Disk bo0_0 r89.2 :: HP.blk b9 (bcells x7) 35 :: HP.blk b3 (bcells (List.replicate 32 0)) 35 :: l) := H.blkOw (R := (rBytesN 32)) 0 rfl (fun gg => ⟨[bcells x7], by simp, ⟨rfl, hl8⟩, trivial⟩) (by simp)
           refine lz ?_; refine ct ⟨⟨_, (H.pm 9 [3, 7, 0, 1, 2, 4, 5, 6, 8] rfl:)⟩, ?_⟩
           refine m_heavy rfl rfl ?_
           replace H := H.frz 0 rfl
           obtain ⟨x249, ex249, hm⟩ := ob hm
           refine s_app wkP F rfl rfl rfl rfl rfl rfl elem32 rfl ex249 H 2 0 rfl rfl ?_; clear F H; intro p248 c248 w a H F
           refine lz ?_; refine ct ⟨⟨_, (H.pm 9 [3, 7, 0, 1, 2, 4, 5, 6, 8] rfl:)⟩, ?_⟩
           refine mbk [0, 3] F H rfl ⟨fld97_3, trivial⟩ ?_; clear F; intro a F
           refine m_last rfl rfl ?_
           refine s_st1 wkP F rfl rfl zero32 rfl rfl rfl rfl rfl H 3 rfl rfl ?_; clear H; intro w H
           refine lz ?_; refine ct ?_
           refine m_nil ?_
           replace H := O_triremeref05_Store_s (H.pm 9 [3, 4, 5, 2, 0, 1, 6, 7, 8] rfl:)
           cases hm
           refine ct ?_
           exact ⟨F.sl rfl, (H.pm 6 [0, 3, 4, 5] rfl:)⟩
         · skip
           refine m_heavy rfl rfl ?_
           refine s_build1 wkP F rfl rfl rfl agg35 elem32 rfl rfl ((bcells_length _).trans hl8) (by decide) H ?_; clear F H; intro b250 w a H F
           replace H : St w0 w (HP.ow (rBytesN 32) 35 (some ⟨b250, 0, none⟩) (([x7]).length) ([x7]) :: HP.ow (rBytesN 32) 35 (some ⟨b244, 0, none⟩) 0 ([] : List (List UInt8)) :: HP.blk bo0 ([.pointer (some ⟨bo0_0, 0, none⟩), .slice p238 (r89.1.1).length c239, .slice p240 (r89.1.2.1).length c241, .slice p242 (r89.1.2.2).length c243]) 97 :: HP.ow rBool 4 p238 c239 r89.1.1 :: HP.ow (rBytesN 32) 35 p240 c241 r89.1.2.1 :: HP.ow (rBytesN 32) 35 p242 c243 r89.1.2.2 :: O_triremeref01_Disk bo0_0 r89.2 :: HP.blk b9 (bcells x7) 35 :: HP.blk b3 (bcells (List.replicate 32 0)) 35 :: l) := H.blkOw (R := (rBytesN 32)) 0 rfl (fun gg => ⟨[bcells x7], by simp, ⟨rfl, hl8⟩, trivial⟩) (by simp)
           refine lz ?_; refine ct ⟨⟨_, (H.pm 9 [2, 7, 0, 1, 3, 4, 5, 6, 8] rfl:)⟩, ?_⟩
           refine m_heavy rfl rfl ?_
           replace H := H.frz 5 rfl
           obtain ⟨x252, ex252, hm⟩ := ob hm
           refine s_app wkP F rfl rfl rfl rfl rfl rfl elem32 rfl ex252 H 2 0 rfl rfl ?_; clear F H; intro p251 c251 w a H F
           refine lz ?_; refine ct ⟨⟨_, (H.pm 9 [3, 7, 0, 1, 2, 4, 5, 6, 8] rfl:)⟩, ?_⟩
           refine m_heavy rfl rfl ?_
           replace H := H.frz 1 rfl
           obtain ⟨x254, ex254, hm⟩ := ob hm
           refine s_app wkP F rfl rfl rfl rfl rfl rfl elem32 rfl ex254 H 2 0 rfl rfl ?_; clear F H; intro p253 c253 w a H F
           refine lz ?_; refine ct ⟨⟨_, (H.pm 9 [3, 7, 0, 1, 2, 4, 5, 6, 8] rfl:)⟩, ?_⟩
           refine mbk [0, 3] F H rfl ⟨fld97_3, trivial⟩ ?_; clear F; intro a F
           refine m_last rfl rfl ?_
           refine s_st1 wkP F rfl rfl zero32 rfl rfl rfl rfl rfl H 3 rfl rfl ?_; clear H; intro w H
           refine lz ?_; refine ct ?_
           refine m_nil ?_
           replace H := O_triremeref05_Store_s (H.pm 9 [3, 4, 5, 2, 0, 1, 6, 7, 8] rfl:)
           cases hm
           refine ct ?_
           exact ⟨F.sl rfl, (H.pm 6 [0, 3, 4, 5] rfl:)⟩
       · skip
         refine m_heavy rfl rfl ?_
         refine s_build1 wkP F rfl rfl rfl agg35 elem32 rfl rfl ((bcells_length _).trans hl8) (by decide) H ?_; clear F H; intro b255 w a H F
         replace H : St w0 w (HP.ow (rBytesN 32) 35 (some ⟨b255, 0, none⟩) (([x7]).length) ([x7]) :: HP.blk bo0 ([.pointer (some ⟨bo0_0, 0, none⟩), .slice p238 (r89.1.1).length c239, .slice p240 (r89.1.2.1).length c241, .slice p242 (r89.1.2.2).length c243]) 97 :: HP.ow rBool 4 p238 c239 r89.1.1 :: HP.ow (rBytesN 32) 35 p240 c241 r89.1.2.1 :: HP.ow (rBytesN 32) 35 p242 c243 r89.1.2.2 :: O_triremeref01_Disk bo0_0 r89.2 :: HP.blk b9 (bcells x7) 35 :: HP.blk b3 (bcells (List.replicate 32 0)) 35 :: l) := H.blkOw (R := (rBytesN 32)) 0 rfl (fun gg => ⟨[bcells x7], by simp, ⟨rfl, hl8⟩, trivial⟩) (by simp)
         refine lz ?_; refine ct ⟨⟨_, (H.pm 8 [1, 6, 0, 2, 3, 4, 5, 7] rfl:)⟩, ?_⟩
         refine m_heavy rfl rfl ?_
         refine s_build0O (R := (rBytesN 32)) wkP F rfl rfl rfl elem32 rfl H ?_; clear F H; intro b256 w a H F
         refine lz ?_; refine ct ⟨⟨_, (H.pm 9 [2, 7, 0, 1, 3, 4, 5, 6, 8] rfl:)⟩, ?_⟩
         refine m_heavy rfl rfl ?_
         replace H := H.frz 5 rfl
         obtain ⟨x258, ex258, hm⟩ := ob hm
         refine s_app wkP F rfl rfl rfl rfl rfl rfl elem32 rfl ex258 H 1 0 rfl rfl ?_; clear F H; intro p257 c257 w a H F
         refine lz ?_; refine ct ⟨⟨_, (H.pm 9 [3, 7, 0, 1, 2, 4, 5, 6, 8] rfl:)⟩, ?_⟩
         refine m_heavy rfl rfl ?_
         replace H := H.frz 2 rfl
         obtain ⟨x260, ex260, hm⟩ := ob hm
         refine s_app wkP F rfl rfl rfl rfl rfl rfl elem32 rfl ex260 H 2 0 rfl rfl ?_; clear F H; intro p259 c259 w a H F
         refine lz ?_; refine ct ⟨⟨_, (H.pm 9 [3, 7, 0, 1, 2, 4, 5, 6, 8] rfl:)⟩, ?_⟩
         refine mbk [0, 3] F H rfl ⟨fld97_3, trivial⟩ ?_; clear F; intro a F
         refine m_last rfl rfl ?_
         refine s_st1 wkP F rfl rfl zero32 rfl rfl rfl rfl rfl H 3 rfl rfl ?_; clear H; intro w H
         refine lz ?_; refine ct ?_
         refine m_nil ?_
         replace H := O_triremeref05_Store_s (H.pm 9 [3, 4, 5, 2, 0, 1, 6, 7, 8] rfl:)
         cases hm
         refine ct ?_
         exact ⟨F.sl rfl, (H.pm 6 [0, 3, 4, 5] rfl:)⟩
     · skip
       clear F H hm
       rintro a w ⟨F, H⟩; have hm := hm214; clear hm214
       refine ct (sr (bk [2999] F H rfl ⟨rfl, (aggn agg35 ((bcells_length _).trans hl8)), trivial⟩ ?_)); clear F; intro a F
       refine s_storeA wkP F rfl rfl agg35 rfl rfl rfl H 3 rfl ((bcells_length _).trans hl8) ((bcells_length _).trans (List.length_replicate (n := 32))) (bcells_flat _) ?_; clear H; intro w H
       refine bk [0] F H rfl trivial ?_; clear F; intro a F
       replace H := H.nf 4 rfl
       refine nl (wr ?_)
       cases hm
       refine x_resC2 F rfl (⟨_, rfl, agg35.run_load (H.blk 3 rfl).row ((bcells_length _).trans hl8)⟩) rfl ?_
       exact ⟨_, rfl, rfl, hl8, (H.pm 4 [0, 1] rfl:)⟩
theorem ent55 : ∀ args w, (callFunc 55 args).run Tryd.prog w = .ok (.enter 55 args) w := enters Tryd.func55 (by kernel_rfl) rfl
set_option maxRecDepth 100000 in
set_option maxHeartbeats 4000000 in
theorem w_rsHashes {s : T_triremeref01_Disk_o × (List Bool) × (List (List UInt8)) × (List (List UInt8))} {bo0 : Nat} {bo0_0 : Nat} {w0 w : World} {l : List HP}  {r : (List (List UInt8))} (hm : rsHashes s = some r) (H : St w0 w (O_triremeref05_Store bo0 bo0_0 s.2 :: O_triremeref01_Disk bo0_0 s.1 :: l)) :
  Calls Tryd.prog 29 [.pointer (some ⟨bo0, 0, none⟩)].toArray w (fun e w' => ∃ v, e = .returned v ∧ ∃ (p1 : Option Addr) (c1 : Nat), v = .slice p1 (r).length c1 ∧ St w0 w' (HP.sl (rBytesN 32) p1 c1 r :: O_triremeref05_Store bo0 bo0_0 s.2 :: O_triremeref01_Disk bo0_0 s.1 :: l)) := by
 unfold rsHashes at hm
 refine x_enter Tryd.func29 rfl rfl rfl ?_
 intro a F
 refine sr (bk [0] F H rfl trivial ?_); clear F; intro a F
 refine nl (sr (s_build0O (R := (rBytesN 32)) wkP F rfl rfl rfl elem32 rfl H ?_)); clear F H; intro b2 w a H F
 refine bk [0] F H rfl trivial ?_; clear F; intro a F
 replace H := H.nf 3 rfl
 refine nl (sq (sr (bk [0] F H rfl trivial ?_))); clear F; intro a F
 refine nl ?_
 obtain ⟨r268, er268, hm268⟩ := ob hm; clear hm; revert er268; intro hm
 refine x_mid (fun aa ww => ∃ (p269 : Option Addr) (c269 : Nat), Fr ⟨34, []⟩ aa [(3, .slice p269 (r268).length c269)] ∧ St w0 ww (O_triremeref05_Store bo0 bo0_0 s.2 :: O_triremeref01_Disk bo0_0 s.1 :: HP.ow (rBytesN 32) 35 p269 c269 r268 :: l)) ?_ ?_
 · skip
   refine bl ?_
   refine x_loopO _ (fun (s446 : (List (List UInt8)) × Int) aa ww => ∃ (p447 : Option Addr) (c447 : Nat), Fr ⟨34, []⟩ aa [(0, .pointer (some ⟨bo0, 0, none⟩)), (3, .slice p447 (s446.1).length c447), (4, .int .i64 (s446.2))] ∧ St w0 ww (O_triremeref05_Store bo0 bo0_0 s.2 :: O_triremeref01_Disk bo0_0 s.1 :: HP.ow (rBytesN 32) 35 p447 c447 s446.1 :: l)) hm ⟨(some ⟨b2, 0, none⟩), 0, F.sl rfl, (H.pm 3 [1, 2, 0] rfl:)⟩ ?_
   clear F H hm
   rintro s446 a w o ⟨p447, c447, F, H⟩ hm
   refine sq (sr (bk [0, 0, 0, 1] F H rfl ⟨fld97_1, trivial⟩ ?_)); clear F; intro a F
   obtain ⟨p448, c449, p450, c451, p452, c453, H⟩ := O_triremeref05_Store_o (H.pk 0 rfl)
   refine bk [1, 0, 0] F H rfl ⟨rfl, plain95, ⟨_, Tryd.underlying95⟩, trivial⟩ ?_; clear F; intro a F
   refine nl (cP F rfl (fun hg454 => ?_) (fun hg454 => ?_))
   · replace hm := ifT hg454 hm
     refine sk (ct (sq ?_))
     replace H := O_triremeref05_Store_s H
     obtain ⟨r494, er494, hm494⟩ := ob hm; clear hm; revert er494; intro hm
     refine x_mid (fun aa ww => ∃ (p495 : Option Addr) (c495 : Nat), Fr ⟨34, []⟩ aa [(0, .pointer (some ⟨bo0, 0, none⟩)), (3, .slice p495 (r494).length c495), (4, .int .i64 (s446.2))] ∧ St w0 ww (O_triremeref05_Store bo0 bo0_0 s.2 :: O_triremeref01_Disk bo0_0 s.1 :: HP.ow (rBytesN 32) 35 p495 c495 r494 :: l)) ?_ ?_
     · skip
       refine bl (sr (bk [0, 0, 1] F H rfl ⟨fld97_1, trivial⟩ ?_)); clear F; intro a F
       obtain ⟨p496, c497, p498, c499, p500, c501, H⟩ := O_triremeref05_Store_o (H.pk 0 rfl)
       refine bk [1, 0] F H rfl ⟨rfl, plain95, trivial⟩ ?_; clear F; intro a F
       obtain ⟨x502, ex502, hm⟩ := ob hm
       obtain ⟨b503, hp503⟩ := H.owP 1 rfl (idxO_some ex502).2
       refine s_val wkP F rfl rfl rfl rfl (y_idxS F elem95 rfl rfl rfl hp503 ex502) ?_; clear F; intro a F
       refine s_val wkP F rfl rfl rfl rfl (y_load1 F plain4 rfl rfl (H.owBool 1 rfl hp503 ex502)) ?_; clear F; intro a F
       replace H := H.nf 6 rfl
       refine nl ?_
       replace H := O_triremeref05_Store_s H
       obtain ⟨r519, er519, hm519⟩ := ob hm; clear hm; revert er519; intro hm
       refine x_mid (fun aa ww => ∃ (p520 : Option Addr) (c520 : Nat), Fr ⟨34, []⟩ aa [(0, .pointer (some ⟨bo0, 0, none⟩)), (3, .slice p520 (r519).length c520), (4, .int .i64 (s446.2))] ∧ St w0 ww (O_triremeref05_Store bo0 bo0_0 s.2 :: O_triremeref01_Disk bo0_0 s.1 :: HP.ow (rBytesN 32) 35 p520 c520 r519 :: l)) ?_ ?_
       · skip
         refine cB F rfl (fun hg521 => ?_) (fun hg521 => ?_)
         · replace hm := ifT hg521 hm
           refine rl (bk [0, 0, 0, 2] F H rfl ⟨fld97_2, trivial⟩ ?_); clear F; intro a F
           obtain ⟨p522, c523, p524, c525, p526, c527, H⟩ := O_triremeref05_Store_o (H.pk 0 rfl)
           refine bk [2, 0] F H rfl ⟨rfl, plain32, trivial⟩ ?_; clear F; intro a F
           obtain ⟨x528, ex528, hm⟩ := ob hm
           obtain ⟨b529, hp529⟩ := H.owP 2 rfl (idxO_some ex528).2
           obtain ⟨css530, H⟩ := H.oxOpen 2 rfl
           obtain ⟨cs530, hcs530, hcl530, H⟩ := H.oxEl 2 rfl (idxO_some ex528).2
           obtain ⟨rfl, hl531⟩ := H.rcBN 0 rfl
           replace H := H.dp 0 rfl
           refine s_val wkP F rfl rfl rfl rfl (y_idxS F elem32 rfl rfl rfl hp529 ex528) ?_; clear F; intro a F
           refine s_val wkP F rfl rfl rfl rfl (y_loadA F agg35 rfl rfl (H.oxRow 2 rfl hp529 hcs530 hcl530) ((bcells_length _).trans hl531)) ?_; clear F; intro a F
           refine s_build1 wkP F rfl rfl rfl agg35 elem32 rfl rfl ((bcells_length _).trans hl531) (by decide) H ?_; clear F H; intro b532 w a H F
           replace H : St w0 w (HP.ow (rBytesN 32) 35 (some ⟨b532, 0, none⟩) (([x528]).length) ([x528]) :: HP.blk bo0 ([.pointer (some ⟨bo0_0, 0, none⟩), .slice p522 (s.2.1).length c523, .slice p524 (s.2.2.1).length c525, .slice p526 (s.2.2.2).length c527]) 97 :: HP.ow rBool 4 p522 c523 s.2.1 :: HP.ox (rBytesN 32) 35 p524 c525 css530 s.2.2.1 :: HP.ow (rBytesN 32) 35 p526 c527 s.2.2.2 :: O_triremeref01_Disk bo0_0 s.1 :: HP.ow (rBytesN 32) 35 p447 c447 s446.1 :: l) := H.blkOw (R := (rBytesN 32)) 0 rfl (fun gg => ⟨[bcells x528], by simp, ⟨rfl, hl531⟩, trivial⟩) (by simp)
           replace H := H.frz 0 rfl
           obtain ⟨x534, ex534, hm⟩ := ob hm
           refine s_app wkP F rfl rfl rfl rfl rfl rfl elem32 rfl ex534 H 6 0 rfl rfl ?_; clear F H; intro p533 c533 w a H F
           refine bk [0] F H rfl trivial ?_; clear F; intro a F
           replace H := H.nf 7 rfl
           refine lz ?_
           replace H := H.oxShut 3 rfl
           replace H := O_triremeref05_Store_s (H.pm 7 [1, 2, 3, 4, 0, 5, 6] rfl:)
           cases hm
           refine ct ?_
           exact ⟨p533, c533, F.sl rfl, (H.pm 4 [0, 2, 3] rfl:)⟩
         · replace hm := ifF (nT hg521) hm
           refine sk ?_
           cases hm
           refine ct ?_
           exact ⟨p447, c447, F.sl rfl, H⟩
       · skip
         clear F H hm
         rintro a w ⟨p520, c520, F, H⟩; have hm := hm519; clear hm519
         refine bn ?_
         cases hm
         refine ct ?_
         exact ⟨p520, c520, F.sl rfl, H⟩
     · skip
       clear F H hm
       rintro a w ⟨p495, c495, F, H⟩; have hm := hm494; clear hm494
       refine ct (rl (bk [0, 0, 0] F H rfl trivial ?_)); clear F; intro a F
       replace H := H.nf 3 rfl
       refine lz (ct ?_); cases hm
       exact ⟨_, rfl, ⟨p495, c495, F.sl rfl, H⟩⟩
   · replace hm := ifF hg454 hm
     refine ex (cx (cx ?_)); cases hm; refine ⟨_, rfl, ?_⟩; rintro rfl
     refine ch ?_
     replace H := O_triremeref05_Store_s H
     refine ct ?_
     exact ⟨p447, c447, F.sl rfl, H⟩
 · skip
   clear F H hm
   rintro a w ⟨p269, c269, F, H⟩; have hm := hm268; clear hm268
   refine ct (sr (bk [0] F H rfl trivial ?_)); clear F; intro a F
   replace H := H.frz 2 rfl
   obtain ⟨x535, ex535, hm⟩ := ob hm
   refine sc wkP F rfl ent55 (w_m_triremeref05_Sorted ex535 (H.pm 3 [0, 0, 1, 2] rfl:):) ?_; clear F H; rintro _ w a ⟨p536, c536, rfl, H⟩ F
   refine bk [0] F H rfl trivial ?_; clear F; intro a F
   replace H := H.nf 4 rfl
   refine nl (wr ?_)
   cases hm
   refine x_ret1 F rfl rfl ?_
   exact ⟨_, rfl, p536, c536, rfl, (H.pm 4 [0, 2, 3] rfl:)⟩
theorem zero95 : Zero1 Tryd.prog 95 (.slice none 0 0) := ⟨by kernel_rfl, rfl⟩
set_option maxRecDepth 100000 in
set_option maxHeartbeats 4000000 in
theorem w_rsOpen {d : T_triremeref01_Disk_o} {bo0 : Nat} {w0 w : World} {l : List HP}  {r : T_triremeref05_Store_o × Int} (hm : rsOpen d = some r) (H : St w0 w (O_triremeref01_Disk bo0 d :: l)) :
  Calls Tryd.prog 21 [.pointer (some ⟨bo0, 0, none⟩)].toArray w (fun e w' => ∃ v, e = .returned v ∧ ∃ (b1 : Nat), v = .tuple [.pointer (some ⟨b1, 0, none⟩), .int .i64 (r.2)].toArray ∧ St w0 w' (O_triremeref05_Store b1 bo0 r.1 :: O_triremeref01_Disk bo0 d :: l)) := by
 unfold rsOpen at hm
 refine x_enter Tryd.func21 rfl rfl rfl ?_
 intro a F
 refine sr (bk [0, 0] F H rfl trivial ?_); clear F; intro a F
 refine nl (sq (sr (bk [0, 0, 3] F H rfl ⟨fld67_3, trivial⟩ ?_))); clear F; intro a F
 obtain ⟨p2, c3, p4, c5, H⟩ := O_triremeref01_Disk_o (H.pk 0 rfl)
 refine bk [3] F H rfl ⟨rfl, plain4, trivial⟩ ?_; clear F; intro a F
 refine nl (cB F rfl (fun hg6 => ?_) (fun hg6 => ?_))
 · replace hm := ifT hg6 hm
   refine sr (bk [0, 0] F H rfl trivial ?_); clear F; intro a F
   refine nl (wr ?_)
   cases hm
 · replace hm := ifF (nT hg6) hm
   refine sk (ct (sr (bk [0] F H rfl trivial ?_))); clear F; intro a F
   replace H := H.owNil rBool 4
   replace H := H.owNil (rBytesN 32) 35
   replace H := H.owNil (rBytesN 32) 35
   refine s_val wkP F rfl rfl rfl rfl (y_build F rfl rfl (cs := [.pointer (some ⟨bo0, 0, none⟩), .slice none (([] : List Bool)).length 0, .slice none (([] : List (List UInt8))).length 0, .slice none (([] : List (List UInt8))).length 0]) (by kernel_rfl)) ?_; clear F; intro a F
   refine s_boxA wkP F rfl rfl rfl rfl rfl H ?_; clear F H; intro b7 w a H F
   refine bk [0] F H rfl trivial ?_; clear F; intro a F
   replace H := H.nf 7 rfl
   refine nl (sq (sr (bk [0] F H rfl trivial ?_))); clear F; intro a F
   refine nl ?_
   replace H := O_triremeref05_Store_s (x1 := ([] : List Bool)) (x2 := ([] : List (List UInt8))) (x3 := ([] : List (List UInt8))) (H.pm 7 [0, 3, 2, 1, 4, 5, 6] rfl:)
   replace H := O_triremeref01_Disk_s (H.pm 4 [1, 2, 3, 0] rfl:)
   obtain ⟨r189, er189, hm189⟩ := ob hm; clear hm; revert er189; intro hm
   refine x_mid (fun aa ww => Fr ⟨74, []⟩ aa [(4, .pointer (some ⟨b7, 0, none⟩))] ∧ St w0 ww (O_triremeref01_Disk bo0 d :: O_triremeref05_Store b7 bo0 r189 :: l)) ?_ ?_
   · skip
     refine bl (x_loopO _ (fun (s310 : T_triremeref05_Store_o × Int) aa ww => Fr ⟨74, []⟩ aa [(0, .pointer (some ⟨bo0, 0, none⟩)), (4, .pointer (some ⟨b7, 0, none⟩)), (5, .int .i64 (s310.2))] ∧ St w0 ww (O_triremeref01_Disk bo0 d :: O_triremeref05_Store b7 bo0 s310.1 :: l)) hm ⟨F.sl rfl, H⟩ ?_)
     clear F H hm
     rintro s310 a w o ⟨F, H⟩ hm
     refine sq (sr (bk [0, 0, 0, 0] F H rfl ⟨fld67_0, trivial⟩ ?_)); clear F; intro a F
     obtain ⟨p311, c312, p313, c314, H⟩ := O_triremeref01_Disk_o (H.pk 0 rfl)
     refine bk [0, 0, 0] F H rfl ⟨rfl, plain22, ⟨_, Tryd.underlying22⟩, trivial⟩ ?_; clear F; intro a F
     refine nl (cP F rfl (fun hg315 => ?_) (fun hg315 => ?_))
     · replace hm := ifT hg315 hm
       refine sk (ct (sq (bl (sr (bk [0, 0] F H rfl trivial ?_))))); clear F; intro a F
       replace H := O_triremeref01_Disk_s H
       obtain ⟨x316, ex316, hm⟩ := ob hm
       refine sc wkP F rfl ent47 (w_rdRead ex316 H:) ?_; clear F H; rintro _ w a ⟨p317, c317, rfl, H⟩ F
       refine bk (List.replicate 5 0) F H rfl trivial ?_; clear F; intro a F
       replace H := H.nf 3 rfl
       refine nl (sr (bk [0] F H rfl trivial ?_)); clear F; intro a F
       replace H := H.frz 0 rfl
       obtain ⟨x318, ex318, hm⟩ := ob hm
       refine sc wkP F rfl ent48 (w_m_triremeref04_Unwrap ex318 (H.pm 3 [0, 0, 1, 2] rfl:):) ?_; clear F H; rintro _ w a ⟨p319, c319, rfl, H⟩ F
       refine bk (List.replicate 5 0) F H rfl trivial ?_; clear F; intro a F
       replace H := H.nf 4 rfl
       refine nl (sr (bk [0] F H rfl trivial ?_)); clear F; intro a F
       obtain ⟨x320, ex320, hm⟩ := ob hm
       refine sc wkP F rfl ent12 (w_rSum ex320 (H.pm 4 [0, 0, 1, 2, 3] rfl:):) ?_; clear F H; rintro _ w a ⟨rfl, hl321, H⟩ F
       refine s_allocA wkP F rfl rfl rfl agz35 rfl H ?_; clear F H; intro b322 w a H F
       refine s_storeA wkP F rfl rfl agg35 rfl rfl rfl H 0 rfl ((bcells_length _).trans hl321) ((bcells_length _).trans (List.length_replicate (n := 32))) (bcells_flat _) ?_; clear H; intro w H
       replace H := H.nf 5 rfl
       refine nl (sr (bk [0, 0, 0] F H rfl trivial ?_)); clear F; intro a F
       by_cases hg323 : 1 < s310.2
       · replace hm := ifT hg323 hm
         replace F := F.bT 43 hg323 rfl
         refine bk [0, 0, 0, 0] F H rfl trivial ?_; clear F; intro a F
         by_cases hg324 : x318.2 = 0
         · replace hm := ifT hg324 hm
           replace F := F.bT 47 hg324 rfl
           refine bk [0, 999] F H rfl ⟨rfl, (aggn agg35 ((bcells_length _).trans hl321)), trivial⟩ ?_; clear F; intro a F
           refine g_onP F rfl rfl rfl rfl ?_
           obtain ⟨x325, ex325, hm⟩ := ob hm
           refine sc wkP F rfl ent31 (w_rsAt hl321 ex325 (H.pm 5 [4, 3, 0, 1, 2] rfl:):) ?_; clear F H; rintro _ w a ⟨rfl, H⟩ F
           refine bk [0, 0, 0] F H rfl trivial ?_; clear F; intro a F
           replace H := H.nf 5 rfl
           refine nl (sr (bk [0, 0, 0, 1] F H rfl ⟨fld97_1, trivial⟩ ?_)); clear F; intro a F
           obtain ⟨p326, c327, p328, c329, p330, c331, H⟩ := O_triremeref05_Store_o (H.pk 0 rfl)
           refine bk [1, 0] F H rfl ⟨rfl, plain95, trivial⟩ ?_; clear F; intro a F
           refine s_buildC wkP F rfl rfl rfl elem95 zero4 rfl rfl rfl rfl (by simp [Value.cells]) (by decide) H ?_; clear F H; intro b332 w a H F
           replace H : St w0 w (HP.ow rBool 4 (some ⟨b332, 0, none⟩) (([decide (x325 < 0)]).length) ([decide (x325 < 0)]) :: HP.blk b7 ([.pointer (some ⟨bo0, 0, none⟩), .slice p326 (s310.1.1).length c327, .slice p328 (s310.1.2.1).length c329, .slice p330 (s310.1.2.2).length c331]) 97 :: HP.ow rBool 4 p326 c327 s310.1.1 :: HP.ow (rBytesN 32) 35 p328 c329 s310.1.2.1 :: HP.ow (rBytesN 32) 35 p330 c331 s310.1.2.2 :: O_triremeref01_Disk bo0 d :: HP.blk b322 (bcells x320) 35 :: HP.sl rByte p319 c319 x318.1 :: HP.sl rByte p317 c317 x316.1 :: l) := H.blkOw (R := rBool) 0 rfl (fun gg => ⟨[[.bool (decide (x325 < 0))]], by simp, rfl, trivial⟩) (by simp)
           replace H := H.frz 0 rfl
           obtain ⟨x334, ex334, hm⟩ := ob hm
           refine s_app wkP F rfl rfl rfl rfl rfl rfl elem95 rfl ex334 H 2 0 rfl rfl ?_; clear F H; intro p333 c333 w a H F
           refine bk [0, 1] F H rfl ⟨fld97_1, trivial⟩ ?_; clear F; intro a F
           refine s_st1 wkP F rfl rfl zero95 rfl rfl rfl rfl rfl H 1 rfl rfl ?_; clear H; intro w H
           replace H := H.nf 9 rfl
           refine nl ?_
           refine mix_region [6, 7, 10] [10] (.step 0 0 (.step 0 1 (.step 0 2 (.step 0 3 (.step 0 4 (.step 1 5 (.step 2 6 (.step 2 7 (.step 0 8 (.step 0 9 (.step 3 10 .done))))))))))) (fun u => ∃ ls, St w0 u (HP.blk b7 ([.pointer (some ⟨bo0, 0, none⟩), .slice p333 (x334).length c333, .slice p328 (s310.1.2.1).length c329, .slice p330 (s310.1.2.2).length c331]) 97 :: ls)) (by kernel_rfl) (by kernel_rfl) ⟨_, (H.drew.pm 9 [1, 0, 2, 3, 4, 5, 6, 7, 8] rfl:)⟩ ?_
           replace H := H.drew
           generalize w.drew = w at H ⊢
           refine mbk [0, 0, 0, 2] F H rfl ⟨fld97_2, trivial⟩ ?_; clear F; intro a F
           refine m_pure F rfl rfl rfl rfl (fun u hu => y_load1 F plain32 rfl rfl (row_at (v := .slice p328 (s310.1.2.1).length c329) ((hu.choose_spec.blk 0 rfl).row) rfl)) ?_; clear F; intro a F
           refine mbk [6999] F H rfl ⟨rfl, (aggn agg35 ((bcells_length _).trans hl321)), trivial⟩ ?_; clear F; intro a F
           refine m_heavy rfl rfl ?_
           refine s_build1 wkP F rfl rfl rfl agg35 elem32 rfl rfl ((bcells_length _).trans hl321) (by decide) H ?_; clear F H; intro b338 w a H F
           replace H : St w0 w (HP.ow (rBytesN 32) 35 (some ⟨b338, 0, none⟩) (([x320]).length) ([x320]) :: HP.sl rBool (some ⟨b332, 0, none⟩) (([decide (x325 < 0)]).length) ([decide (x325 < 0)]) :: HP.blk b7 ([.pointer (some ⟨bo0, 0, none⟩), .slice p333 (x334).length c333, .slice p328 (s310.1.2.1).length c329, .slice p330 (s310.1.2.2).length c331]) 97 :: HP.ow rBool 4 p333 c333 x334 :: HP.ow (rBytesN 32) 35 p328 c329 s310.1.2.1 :: HP.ow (rBytesN 32) 35 p330 c331 s310.1.2.2 :: O_triremeref01_Disk bo0 d :: HP.blk b322 (bcells x320) 35 :: HP.sl rByte p319 c319 x318.1 :: HP.sl rByte p317 c317 x316.1 :: l) := H.blkOw (R := (rBytesN 32)) 0 rfl (fun gg => ⟨[bcells x320], by simp, ⟨rfl, hl321⟩, trivial⟩) (by simp)
           refine lz ?_; refine ct ⟨⟨_, (H.pm 10 [2, 0, 1, 3, 4, 5, 6, 7, 8, 9] rfl:)⟩, ?_⟩
           refine m_heavy rfl rfl ?_
           replace H := H.frz 0 rfl
           obtain ⟨x340, ex340, hm⟩ := ob hm
           refine s_app wkP F rfl rfl rfl rfl rfl rfl elem32 rfl ex340 H 4 0 rfl rfl ?_; clear F H; intro p339 c339 w a H F
           refine lz ?_; refine ct ⟨⟨_, (H.pm 10 [2, 0, 1, 3, 4, 5, 6, 7, 8, 9] rfl:)⟩, ?_⟩
           refine mbk [0, 2] F H rfl ⟨fld97_2, trivial⟩ ?_; clear F; intro a F
           refine m_last rfl rfl ?_
           refine s_st1 wkP F rfl rfl zero32 rfl rfl rfl rfl rfl H 2 rfl rfl ?_; clear H; intro w H
           refine lz ?_; refine ct ?_
           refine m_nil ?_
           refine bn (ct (rl (bk [0, 0, 0] F H rfl trivial ?_))); clear F; intro a F
           replace H := H.nf 10 rfl
           refine lz ?_
           replace H := O_triremeref05_Store_s (H.pm 10 [2, 3, 4, 5, 0, 1, 6, 7, 8, 9] rfl:)
           refine ct ?_; cases hm
           exact ⟨_, rfl, ⟨F.sl rfl, (H.pm 7 [3, 0] rfl:)⟩⟩
         · replace hm := ifF hg324 hm
           replace F := F.bF 47 hg324 rfl
           refine bk (List.replicate 6 0) F H rfl trivial ?_; clear F; intro a F
           refine nl (sr (bk [0, 0, 0, 1] F H rfl ⟨fld97_1, trivial⟩ ?_)); clear F; intro a F
           obtain ⟨p341, c342, p343, c344, p345, c346, H⟩ := O_triremeref05_Store_o (H.pk 4 rfl)
           refine bk [1, 0] F H rfl ⟨rfl, plain95, trivial⟩ ?_; clear F; intro a F
           refine s_buildC wkP F rfl rfl rfl elem95 zero4 rfl rfl rfl rfl (by simp [Value.cells]) (by decide) H ?_; clear F H; intro b347 w a H F
           replace H : St w0 w (HP.ow rBool 4 (some ⟨b347, 0, none⟩) (([false]).length) ([false]) :: HP.blk b7 ([.pointer (some ⟨bo0, 0, none⟩), .slice p341 (s310.1.1).length c342, .slice p343 (s310.1.2.1).length c344, .slice p345 (s310.1.2.2).length c346]) 97 :: HP.ow rBool 4 p341 c342 s310.1.1 :: HP.ow (rBytesN 32) 35 p343 c344 s310.1.2.1 :: HP.ow (rBytesN 32) 35 p345 c346 s310.1.2.2 :: HP.blk b322 (bcells x320) 35 :: HP.sl rByte p319 c319 x318.1 :: HP.sl rByte p317 c317 x316.1 :: O_triremeref01_Disk bo0 d :: l) := H.blkOw (R := rBool) 0 rfl (fun gg => ⟨[[.bool false]], by simp, rfl, trivial⟩) (by simp)
           replace H := H.frz 0 rfl
           obtain ⟨x349, ex349, hm⟩ := ob hm
           refine s_app wkP F rfl rfl rfl rfl rfl rfl elem95 rfl ex349 H 2 0 rfl rfl ?_; clear F H; intro p348 c348 w a H F
           refine bk [0, 1] F H rfl ⟨fld97_1, trivial⟩ ?_; clear F; intro a F
           refine s_st1 wkP F rfl rfl zero95 rfl rfl rfl rfl rfl H 1 rfl rfl ?_; clear H; intro w H
           replace H := H.nf 9 rfl
           refine nl ?_
           refine mix_region [6, 7, 10] [10] (.step 0 0 (.step 0 1 (.step 0 2 (.step 0 3 (.step 0 4 (.step 1 5 (.step 2 6 (.step 2 7 (.step 0 8 (.step 0 9 (.step 3 10 .done))))))))))) (fun u => ∃ ls, St w0 u (HP.blk b7 ([.pointer (some ⟨bo0, 0, none⟩), .slice p348 (x349).length c348, .slice p343 (s310.1.2.1).length c344, .slice p345 (s310.1.2.2).length c346]) 97 :: ls)) (by kernel_rfl) (by kernel_rfl) ⟨_, (H.drew.pm 9 [1, 0, 2, 3, 4, 5, 6, 7, 8] rfl:)⟩ ?_
           replace H := H.drew
           generalize w.drew = w at H ⊢
           refine mbk [0, 0, 0, 2] F H rfl ⟨fld97_2, trivial⟩ ?_; clear F; intro a F
           refine m_pure F rfl rfl rfl rfl (fun u hu => y_load1 F plain32 rfl rfl (row_at (v := .slice p343 (s310.1.2.1).length c344) ((hu.choose_spec.blk 0 rfl).row) rfl)) ?_; clear F; intro a F
           refine mbk [5999] F H rfl ⟨rfl, (aggn agg35 ((bcells_length _).trans hl321)), trivial⟩ ?_; clear F; intro a F
           refine m_heavy rfl rfl ?_
           refine s_build1 wkP F rfl rfl rfl agg35 elem32 rfl rfl ((bcells_length _).trans hl321) (by decide) H ?_; clear F H; intro b353 w a H F
           replace H : St w0 w (HP.ow (rBytesN 32) 35 (some ⟨b353, 0, none⟩) (([x320]).length) ([x320]) :: HP.sl rBool (some ⟨b347, 0, none⟩) (([false]).length) ([false]) :: HP.blk b7 ([.pointer (some ⟨bo0, 0, none⟩), .slice p348 (x349).length c348, .slice p343 (s310.1.2.1).length c344, .slice p345 (s310.1.2.2).length c346]) 97 :: HP.ow rBool 4 p348 c348 x349 :: HP.ow (rBytesN 32) 35 p343 c344 s310.1.2.1 :: HP.ow (rBytesN 32) 35 p345 c346 s310.1.2.2 :: HP.blk b322 (bcells x320) 35 :: HP.sl rByte p319 c319 x318.1 :: HP.sl rByte p317 c317 x316.1 :: O_triremeref01_Disk bo0 d :: l) := H.blkOw (R := (rBytesN 32)) 0 rfl (fun gg => ⟨[bcells x320], by simp, ⟨rfl, hl321⟩, trivial⟩) (by simp)
           refine lz ?_; refine ct ⟨⟨_, (H.pm 10 [2, 0, 1, 3, 4, 5, 6, 7, 8, 9] rfl:)⟩, ?_⟩
           refine m_heavy rfl rfl ?_
           replace H := H.frz 0 rfl
           obtain ⟨x355, ex355, hm⟩ := ob hm
           refine s_app wkP F rfl rfl rfl rfl rfl rfl elem32 rfl ex355 H 4 0 rfl rfl ?_; clear F H; intro p354 c354 w a H F
           refine lz ?_; refine ct ⟨⟨_, (H.pm 10 [2, 0, 1, 3, 4, 5, 6, 7, 8, 9] rfl:)⟩, ?_⟩
           refine mbk [0, 2] F H rfl ⟨fld97_2, trivial⟩ ?_; clear F; intro a F
           refine m_last rfl rfl ?_
           refine s_st1 wkP F rfl rfl zero32 rfl rfl rfl rfl rfl H 2 rfl rfl ?_; clear H; intro w H
           refine lz ?_; refine ct ?_
           refine m_nil ?_
           refine bn (ct (rl (bk [0, 0, 0] F H rfl trivial ?_))); clear F; intro a F
           replace H := H.nf 10 rfl
           refine lz ?_
           replace H := O_triremeref05_Store_s (H.pm 10 [2, 3, 4, 5, 0, 1, 6, 7, 8, 9] rfl:)
           refine ct ?_; cases hm
           exact ⟨_, rfl, ⟨F.sl rfl, (H.pm 7 [6, 0] rfl:)⟩⟩
       · replace hm := ifF hg323 hm
         replace F := F.bF 43 hg323 rfl
         refine bk (List.replicate 10 0) F H rfl trivial ?_; clear F; intro a F
         refine nl (sr (bk [0, 0, 0, 1] F H rfl ⟨fld97_1, trivial⟩ ?_)); clear F; intro a F
         obtain ⟨p356, c357, p358, c359, p360, c361, H⟩ := O_triremeref05_Store_o (H.pk 4 rfl)
         refine bk [1, 0] F H rfl ⟨rfl, plain95, trivial⟩ ?_; clear F; intro a F
         refine s_buildC wkP F rfl rfl rfl elem95 zero4 rfl rfl rfl rfl (by simp [Value.cells]) (by decide) H ?_; clear F H; intro b362 w a H F
         replace H : St w0 w (HP.ow rBool 4 (some ⟨b362, 0, none⟩) (([false]).length) ([false]) :: HP.blk b7 ([.pointer (some ⟨bo0, 0, none⟩), .slice p356 (s310.1.1).length c357, .slice p358 (s310.1.2.1).length c359, .slice p360 (s310.1.2.2).length c361]) 97 :: HP.ow rBool 4 p356 c357 s310.1.1 :: HP.ow (rBytesN 32) 35 p358 c359 s310.1.2.1 :: HP.ow (rBytesN 32) 35 p360 c361 s310.1.2.2 :: HP.blk b322 (bcells x320) 35 :: HP.sl rByte p319 c319 x318.1 :: HP.sl rByte p317 c317 x316.1 :: O_triremeref01_Disk bo0 d :: l) := H.blkOw (R := rBool) 0 rfl (fun gg => ⟨[[.bool false]], by simp, rfl, trivial⟩) (by simp)
         replace H := H.frz 0 rfl
         obtain ⟨x364, ex364, hm⟩ := ob hm
         refine s_app wkP F rfl rfl rfl rfl rfl rfl elem95 rfl ex364 H 2 0 rfl rfl ?_; clear F H; intro p363 c363 w a H F
         refine bk [0, 1] F H rfl ⟨fld97_1, trivial⟩ ?_; clear F; intro a F
         refine s_st1 wkP F rfl rfl zero95 rfl rfl rfl rfl rfl H 1 rfl rfl ?_; clear H; intro w H
         replace H := H.nf 9 rfl
         refine nl ?_
         refine mix_region [6, 7, 10] [10] (.step 0 0 (.step 0 1 (.step 0 2 (.step 0 3 (.step 0 4 (.step 1 5 (.step 2 6 (.step 2 7 (.step 0 8 (.step 0 9 (.step 3 10 .done))))))))))) (fun u => ∃ ls, St w0 u (HP.blk b7 ([.pointer (some ⟨bo0, 0, none⟩), .slice p363 (x364).length c363, .slice p358 (s310.1.2.1).length c359, .slice p360 (s310.1.2.2).length c361]) 97 :: ls)) (by kernel_rfl) (by kernel_rfl) ⟨_, (H.drew.pm 9 [1, 0, 2, 3, 4, 5, 6, 7, 8] rfl:)⟩ ?_
         replace H := H.drew
         generalize w.drew = w at H ⊢
         refine mbk [0, 0, 0, 2] F H rfl ⟨fld97_2, trivial⟩ ?_; clear F; intro a F
         refine m_pure F rfl rfl rfl rfl (fun u hu => y_load1 F plain32 rfl rfl (row_at (v := .slice p358 (s310.1.2.1).length c359) ((hu.choose_spec.blk 0 rfl).row) rfl)) ?_; clear F; intro a F
         refine mbk [5999] F H rfl ⟨rfl, (aggn agg35 ((bcells_length _).trans hl321)), trivial⟩ ?_; clear F; intro a F
         refine m_heavy rfl rfl ?_
         refine s_build1 wkP F rfl rfl rfl agg35 elem32 rfl rfl ((bcells_length _).trans hl321) (by decide) H ?_; clear F H; intro b368 w a H F
         replace H : St w0 w (HP.ow (rBytesN 32) 35 (some ⟨b368, 0, none⟩) (([x320]).length) ([x320]) :: HP.sl rBool (some ⟨b362, 0, none⟩) (([false]).length) ([false]) :: HP.blk b7 ([.pointer (some ⟨bo0, 0, none⟩), .slice p363 (x364).length c363, .slice p358 (s310.1.2.1).length c359, .slice p360 (s310.1.2.2).length c361]) 97 :: HP.ow rBool 4 p363 c363 x364 :: HP.ow (rBytesN 32) 35 p358 c359 s310.1.2.1 :: HP.ow (rBytesN 32) 35 p360 c361 s310.1.2.2 :: HP.blk b322 (bcells x320) 35 :: HP.sl rByte p319 c319 x318.1 :: HP.sl rByte p317 c317 x316.1 :: O_triremeref01_Disk bo0 d :: l) := H.blkOw (R := (rBytesN 32)) 0 rfl (fun gg => ⟨[bcells x320], by simp, ⟨rfl, hl321⟩, trivial⟩) (by simp)
         refine lz ?_; refine ct ⟨⟨_, (H.pm 10 [2, 0, 1, 3, 4, 5, 6, 7, 8, 9] rfl:)⟩, ?_⟩
         refine m_heavy rfl rfl ?_
         replace H := H.frz 0 rfl
         obtain ⟨x370, ex370, hm⟩ := ob hm
         refine s_app wkP F rfl rfl rfl rfl rfl rfl elem32 rfl ex370 H 4 0 rfl rfl ?_; clear F H; intro p369 c369 w a H F
         refine lz ?_; refine ct ⟨⟨_, (H.pm 10 [2, 0, 1, 3, 4, 5, 6, 7, 8, 9] rfl:)⟩, ?_⟩
         refine mbk [0, 2] F H rfl ⟨fld97_2, trivial⟩ ?_; clear F; intro a F
         refine m_last rfl rfl ?_
         refine s_st1 wkP F rfl rfl zero32 rfl rfl rfl rfl rfl H 2 rfl rfl ?_; clear H; intro w H
         refine lz ?_; refine ct ?_
         refine m_nil ?_
         refine bn (ct (rl (bk [0, 0, 0] F H rfl trivial ?_))); clear F; intro a F
         replace H := H.nf 10 rfl
         refine lz ?_
         replace H := O_triremeref05_Store_s (H.pm 10 [2, 3, 4, 5, 0, 1, 6, 7, 8, 9] rfl:)
         refine ct ?_; cases hm
         exact ⟨_, rfl, ⟨F.sl rfl, (H.pm 7 [6, 0] rfl:)⟩⟩
     · replace hm := ifF hg315 hm
       refine ex (cx (cx ?_)); cases hm; refine ⟨_, rfl, ?_⟩; rintro rfl
       refine ch ?_
       replace H := O_triremeref01_Disk_s H
       refine ct ?_
       exact ⟨F.sl rfl, H⟩
   · skip
     clear F H hm
     rintro a w ⟨F, H⟩; have hm := hm189; clear hm189
     refine ct (sr (bk [0, 0, 0] F H rfl trivial ?_)); clear F; intro a F
     refine nl (wr ?_)
     cases hm
     refine x_ret2 F rfl rfl rfl ?_
     exact ⟨_, rfl, b7, rfl, (H.pm 2 [1, 0] rfl:)⟩
end Go.Proofs.YtfepdfjhejkemaaDoor
