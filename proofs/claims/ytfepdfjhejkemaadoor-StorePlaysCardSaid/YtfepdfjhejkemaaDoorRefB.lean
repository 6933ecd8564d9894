/- ref01 -/
import Derived.Test.YtfepdfjhejkemaaDoorLawE
set_option linter.unusedSimpArgs false
set_option linter.unusedVariables false
namespace Go.Proofs.YtfepdfjhejkemaaDoor
open Go.RowKit Go.Tri
theorem fld67_3 : FieldT Tryd.prog 67 3 3 := by unfold FieldT; rw [Tryd.underlying67]; kernel_rfl
theorem fld67_0 : FieldT Tryd.prog 67 0 0 := by unfold FieldT; rw [Tryd.underlying67]; kernel_rfl
theorem fld67_1 : FieldT Tryd.prog 67 1 1 := by unfold FieldT; rw [Tryd.underlying67]; kernel_rfl
theorem plain65 : Plain Tryd.prog 65 := by unfold Plain; rw [Tryd.underlying65]; rfl
theorem elem65 : ElemT Tryd.prog 65 104 2 32 (.agg [.int .i64 0, .slice none 0 0].toArray) := ⟨Tryd.underlying65, by kernel_rfl, by kernel_rfl, by decide⟩
theorem fld104_0 : FieldT Tryd.prog 104 0 0 := by unfold FieldT; rw [Tryd.underlying104]; kernel_rfl
theorem fld104_1 : FieldT Tryd.prog 104 1 1 := by unfold FieldT; rw [Tryd.underlying104]; kernel_rfl
set_option maxRecDepth 100000 in
set_option maxHeartbeats 4000000 in
theorem w_rdRead {d : T_triremeref01_Disk_o} {i : Int} {bo0 : Nat} {w0 w : World} {l : List HP}  {r : (List UInt8) × Int} (hm : rdRead d i = some r) (H : St w0 w (O_triremeref01_Disk bo0 d :: l)) :
  Calls Tryd.prog 47 [.pointer (some ⟨bo0, 0, none⟩), .int .i64 (i)].toArray w (fun e w' => ∃ v, e = .returned v ∧ ∃ (p1 : Option Addr) (c1 : Nat), v = .tuple [.slice p1 (r.1).length c1, .int .i64 (r.2)].toArray ∧ St w0 w' (HP.ow rByte 5 p1 c1 r.1 :: O_triremeref01_Disk bo0 d :: l)) := by
 unfold rdRead at hm
 refine x_enter Tryd.func47 rfl rfl rfl ?_
 intro a F
 refine sr (bk [0, 0] F H rfl trivial ?_); clear F; intro a F
 refine nl (sq (sr (bk [0, 0, 3] F H rfl ⟨fld67_3, trivial⟩ ?_))); clear F; intro a F
 obtain ⟨p2, c3, p4, c5, H⟩ := O_triremeref01_Disk_o (H.pk 0 rfl)
 refine bk [3] F H rfl ⟨rfl, plain4, trivial⟩ ?_; clear F; intro a F
 refine nl (cB F rfl (fun hg6 => ?_) (fun hg6 => ?_))
 · replace hm := ifT hg6 hm
   refine sr (s_build0O (R := rByte) wkP F rfl rfl rfl elem33 rfl H ?_); clear F H; intro b7 w a H F
   refine bk [0, 0] F H rfl trivial ?_; clear F; intro a F
   replace H := H.nf 4 rfl
   refine nl (wr (tr ?_))
   replace H := O_triremeref01_Disk_s (H.pm 4 [1, 2, 3, 0] rfl:)
   cases hm
   refine x_ret2 F rfl rfl rfl ?_
   exact ⟨_, rfl, (some ⟨b7, 0, none⟩), 0, rfl, (H.pm 2 [1, 0] rfl:)⟩
 · replace hm := ifF (nT hg6) hm
   refine sk (ct (sq (sr (bk [0, 0, 0] F H rfl trivial ?_)))); clear F; intro a F
   by_cases hg8 : i < 0
   · replace hm := ifT hg8 hm
     replace F := F.bT 15 hg8 rfl
     refine bk (List.replicate 8 0) F H rfl trivial ?_; clear F; intro a F
     refine nl (cT F rfl ?_)
     refine sr (s_build0O (R := rByte) wkP F rfl rfl rfl elem33 rfl H ?_); clear F H; intro b9 w a H F
     refine bk [0, 0] F H rfl trivial ?_; clear F; intro a F
     replace H := H.nf 4 rfl
     refine nl (wr (tr ?_))
     replace H := O_triremeref01_Disk_s (H.pm 4 [1, 2, 3, 0] rfl:)
     cases hm
     refine x_ret2 F rfl rfl rfl ?_
     exact ⟨_, rfl, (some ⟨b9, 0, none⟩), 0, rfl, (H.pm 2 [1, 0] rfl:)⟩
   · replace hm := ifF hg8 hm
     replace F := F.bF 15 hg8 rfl
     refine bk (List.replicate 8 0) F H rfl ⟨fld67_0, rfl, plain22, ⟨_, Tryd.underlying22⟩, trivial⟩ ?_; clear F; intro a F
     refine nl (cP F rfl (fun hg10 => ?_) (fun hg10 => ?_))
     · replace hm := ifT hg10 hm
       refine sr (s_build0O (R := rByte) wkP F rfl rfl rfl elem33 rfl H ?_); clear F H; intro b11 w a H F
       refine bk [0, 0] F H rfl trivial ?_; clear F; intro a F
       replace H := H.nf 4 rfl
       refine nl (wr (tr ?_))
       replace H := O_triremeref01_Disk_s (H.pm 4 [1, 2, 3, 0] rfl:)
       cases hm
       refine x_ret2 F rfl rfl rfl ?_
       exact ⟨_, rfl, (some ⟨b11, 0, none⟩), 0, rfl, (H.pm 2 [1, 0] rfl:)⟩
     · replace hm := ifF hg10 hm
       refine sk (ct (sr (bk (List.replicate 5 0) F H rfl ⟨fld67_0, rfl, plain22, trivial⟩ ?_))); clear F; intro a F
       obtain ⟨x12, ex12, hm⟩ := ob hm
       obtain ⟨b13, hp13⟩ := H.owP 1 rfl (idxO_some ex12).2
       obtain ⟨css14, H⟩ := H.oxOpen 1 rfl
       obtain ⟨cs14, hcs14, hcl14, H⟩ := H.oxEl 1 rfl (idxO_some ex12).2
       obtain ⟨p15, c15, rfl, H⟩ := H.rcSl 0 rfl
       replace H := H.dp 1 rfl
       refine s_val wkP F rfl rfl rfl rfl (y_idxS F elem22 rfl rfl rfl hp13 ex12) ?_; clear F; intro a F
       refine s_val wkP F rfl rfl rfl rfl (y_load1 F plain33 rfl rfl ((H.oxRow 2 rfl hp13 hcs14 hcl14) 0 _ rfl)) ?_; clear F; intro a F
       refine bk [0] F H rfl trivial ?_; clear F; intro a F
       refine nl ?_
       replace H := H.oxShut 2 rfl
       refine sq (sr (bk [0] F H rfl trivial ?_)); clear F; intro a F
       replace H := H.nf 4 rfl
       refine nl ?_
       replace H := O_triremeref01_Disk_s (H.pm 4 [1, 2, 3, 0] rfl:)
       obtain ⟨r227, er227, hm227⟩ := ob hm; clear hm; revert er227; intro hm
       refine x_mid (fun aa ww => ∃ (p228 : Option Addr) (c228 : Nat), Fr ⟨62, []⟩ aa [(6, .slice p228 (r227).length c228)] ∧ St w0 ww (O_triremeref01_Disk bo0 d :: HP.sl rByte p228 c228 r227 :: l)) ?_ ?_
       · skip
         refine bl (x_loopO _ (fun (s369 : (List UInt8) × Int) aa ww => ∃ (p370 : Option Addr) (c370 : Nat), Fr ⟨62, []⟩ aa [(0, .pointer (some ⟨bo0, 0, none⟩)), (1, .int .i64 (i)), (6, .slice p370 (s369.1).length c370), (7, .int .i64 (s369.2))] ∧ St w0 ww (O_triremeref01_Disk bo0 d :: HP.sl rByte p370 c370 s369.1 :: l)) hm ⟨p15, c15, F.sl rfl, H⟩ ?_)
         clear F H hm
         rintro s369 a w o ⟨p370, c370, F, H⟩ hm
         refine sq (sr (bk [0, 0, 0, 1] F H rfl ⟨fld67_1, trivial⟩ ?_)); clear F; intro a F
         obtain ⟨p371, c372, p373, c374, H⟩ := O_triremeref01_Disk_o (H.pk 0 rfl)
         refine bk [1, 0, 0] F H rfl ⟨rfl, plain65, ⟨_, Tryd.underlying65⟩, trivial⟩ ?_; clear F; intro a F
         refine nl (cP F rfl (fun hg375 => ?_) (fun hg375 => ?_))
         · replace hm := ifT hg375 hm
           refine sk (ct (sq ?_))
           replace H := O_triremeref01_Disk_s H
           obtain ⟨r407, er407, hm407⟩ := ob hm; clear hm; revert er407; intro hm
           refine x_mid (fun aa ww => ∃ (p408 : Option Addr) (c408 : Nat), Fr ⟨62, []⟩ aa [(0, .pointer (some ⟨bo0, 0, none⟩)), (1, .int .i64 (i)), (6, .slice p408 (r407).length c408), (7, .int .i64 (s369.2))] ∧ St w0 ww (O_triremeref01_Disk bo0 d :: HP.sl rByte p408 c408 r407 :: l)) ?_ ?_
           · skip
             refine bl (sr (bk [0, 0, 1] F H rfl ⟨fld67_1, trivial⟩ ?_)); clear F; intro a F
             obtain ⟨p409, c410, p411, c412, H⟩ := O_triremeref01_Disk_o (H.pk 0 rfl)
             refine bk [1, 0] F H rfl ⟨rfl, plain65, trivial⟩ ?_; clear F; intro a F
             obtain ⟨x413, ex413, hm⟩ := ob hm
             obtain ⟨b414, hp414⟩ := H.owP 2 rfl (idxO_some ex413).2
             obtain ⟨css415, H⟩ := H.oxOpen 2 rfl
             obtain ⟨cs415, hcs415, hcl415, H⟩ := H.oxEl 2 rfl (idxO_some ex413).2
             refine s_val wkP F rfl rfl rfl rfl (y_idxS F elem65 rfl rfl rfl hp414 ex413) ?_; clear F; intro a F
             refine bk [0] F H rfl ⟨fld104_0, trivial⟩ ?_; clear F; intro a F
             replace H := rc_triremeref01_Write (H.pk 0 rfl); obtain ⟨p416, c417, rfl, H⟩ := H
             refine s_val wkP F rfl rfl rfl rfl (y_load1 F plain3 rfl rfl (row_at (v := .int .i64 (x413.1)) (H.oxRow 3 rfl hp414 hcs415 hcl415) rfl)) ?_; clear F; intro a F
             refine bk [0, 0] F H rfl trivial ?_; clear F; intro a F
             replace H := H.nf 5 rfl
             refine nl ?_
             replace H := H.oxShut 3 rfl
             replace H := O_triremeref01_Disk_s (H.pm 5 [1, 2, 3, 0, 4] rfl:)
             obtain ⟨r428, er428, hm428⟩ := ob hm; clear hm; revert er428; intro hm
             refine x_mid (fun aa ww => ∃ (p429 : Option Addr) (c429 : Nat), Fr ⟨62, []⟩ aa [(0, .pointer (some ⟨bo0, 0, none⟩)), (1, .int .i64 (i)), (6, .slice p429 (r428).length c429), (7, .int .i64 (s369.2))] ∧ St w0 ww (O_triremeref01_Disk bo0 d :: HP.sl rByte p429 c429 r428 :: l)) ?_ ?_
             · skip
               refine cP F rfl (fun hg430 => ?_) (fun hg430 => ?_)
               · replace hm := ifT hg430 hm
                 refine rl (bk [0, 0, 1] F H rfl ⟨fld67_1, trivial⟩ ?_); clear F; intro a F
                 obtain ⟨p431, c432, p433, c434, H⟩ := O_triremeref01_Disk_o (H.pk 0 rfl)
                 refine bk [1, 0] F H rfl ⟨rfl, plain65, trivial⟩ ?_; clear F; intro a F
                 obtain ⟨x435, ex435, hm⟩ := ob hm
                 obtain ⟨b436, hp436⟩ := H.owP 2 rfl (idxO_some ex435).2
                 obtain ⟨css437, H⟩ := H.oxOpen 2 rfl
                 obtain ⟨cs437, hcs437, hcl437, H⟩ := H.oxEl 2 rfl (idxO_some ex435).2
                 refine s_val wkP F rfl rfl rfl rfl (y_idxS F elem65 rfl rfl rfl hp436 ex435) ?_; clear F; intro a F
                 refine bk [1] F H rfl ⟨fld104_1, trivial⟩ ?_; clear F; intro a F
                 replace H := rc_triremeref01_Write (H.pk 0 rfl); obtain ⟨p438, c439, rfl, H⟩ := H
                 refine s_val wkP F rfl rfl rfl rfl (y_load1 F plain33 rfl rfl (row_at (v := .slice p438 (x435.2).length c439) (H.oxRow 3 rfl hp436 hcs437 hcl437) rfl)) ?_; clear F; intro a F
                 refine bk [0] F H rfl trivial ?_; clear F; intro a F
                 replace H := H.nf 6 rfl
                 refine lz ?_
                 replace H := H.oxShut 3 rfl
                 replace H := O_triremeref01_Disk_s (H.pm 6 [1, 2, 3, 0, 4, 5] rfl:)
                 cases hm
                 refine ct ?_
                 exact ⟨p438, c439, F.sl rfl, (H.pm 4 [0, 1] rfl:)⟩
               · replace hm := ifF hg430 hm
                 refine sk ?_
                 cases hm
                 refine ct ?_
                 exact ⟨p370, c370, F.sl rfl, (H.pm 3 [0, 2] rfl:)⟩
             · skip
               clear F H hm
               rintro a w ⟨p429, c429, F, H⟩; have hm := hm428; clear hm428
               refine bn ?_
               cases hm
               refine ct ?_
               exact ⟨p429, c429, F.sl rfl, H⟩
           · skip
             clear F H hm
             rintro a w ⟨p408, c408, F, H⟩; have hm := hm407; clear hm407
             refine ct (rl (bk [0, 0, 0] F H rfl trivial ?_)); clear F; intro a F
             replace H := H.nf 2 rfl
             refine lz (ct ?_); cases hm
             exact ⟨_, rfl, ⟨p408, c408, F.sl rfl, H⟩⟩
         · replace hm := ifF hg375 hm
           refine ex (cx (cx ?_)); cases hm; refine ⟨_, rfl, ?_⟩; rintro rfl
           refine ch ?_
           replace H := O_triremeref01_Disk_s H
           refine ct ?_
           exact ⟨p370, c370, F.sl rfl, H⟩
       · skip
         clear F H hm
         rintro a w ⟨p228, c228, F, H⟩; have hm := hm227; clear hm227
         refine ct (sr (s_build0O (R := rByte) wkP F rfl rfl rfl elem33 rfl H ?_)); clear F H; intro b440 w a H F
         refine bk [0] F H rfl trivial ?_; clear F; intro a F
         obtain ⟨x442, ex442, hm⟩ := ob hm
         refine s_app wkP F rfl rfl rfl rfl rfl rfl elem33 rfl ex442 H 0 2 rfl rfl ?_; clear F H; intro p441 c441 w a H F
         refine bk [0, 0] F H rfl trivial ?_; clear F; intro a F
         replace H := H.nf 3 rfl
         refine nl (wr ?_)
         cases hm
         refine x_ret2 F rfl rfl rfl ?_
         exact ⟨_, rfl, p441, c441, rfl, (H.pm 3 [0, 1] rfl:)⟩
theorem fld67_2 : FieldT Tryd.prog 67 2 2 := by unfold FieldT; rw [Tryd.underlying67]; kernel_rfl
set_option maxRecDepth 100000 in
set_option maxHeartbeats 4000000 in
theorem w_rdUse {d : T_triremeref01_Disk_o} {bo0 : Nat} {w0 w : World} {l : List HP}  {r : Bool × T_triremeref01_Disk_o} (hm : rdUse d = some r) (H : St w0 w (O_triremeref01_Disk bo0 d :: l)) :
  Calls Tryd.prog 50 [.pointer (some ⟨bo0, 0, none⟩)].toArray w (fun e w' => ∃ v, e = .returned v ∧ v = .bool (r.1) ∧ St w0 w' (O_triremeref01_Disk bo0 r.2 :: l)) := by
 unfold rdUse at hm
 refine x_enter Tryd.func50 rfl rfl rfl ?_
 intro a F
 refine sr (bk [0] F H rfl trivial ?_); clear F; intro a F
 refine nl (sq (sr (bk [0, 0, 2] F H rfl ⟨fld67_2, trivial⟩ ?_))); clear F; intro a F
 obtain ⟨p1, c2, p3, c4, H⟩ := O_triremeref01_Disk_o (H.pk 0 rfl)
 refine bk [2, 0] F H rfl ⟨rfl, plain3, trivial⟩ ?_; clear F; intro a F
 refine nl (cP F rfl (fun hg5 => ?_) (fun hg5 => ?_))
 · replace hm := ifT hg5 hm
   refine sr (bk [0, 0, 3] F H rfl ⟨fld67_3, trivial⟩ ?_); clear F; intro a F
   refine s_st1 wkP F rfl rfl zero4 rfl rfl rfl rfl rfl H 0 rfl rfl ?_; clear H; intro w H
   replace H := H.nf 3 rfl
   refine nl (sr (bk [0] F H rfl trivial ?_)); clear F; intro a F
   refine nl (wr (tr ?_))
   replace H := O_triremeref01_Disk_s H
   cases hm
   refine x_ret1 F rfl rfl ?_
   exact ⟨_, rfl, rfl, H⟩
 · replace hm := ifF hg5 hm
   refine sk (ct (sq (sr (bk [0, 0, 2, 2, 0] F H rfl ⟨fld67_2, rfl, plain3, trivial⟩ ?_)))); clear F; intro a F
   refine nl ?_
   replace H := O_triremeref01_Disk_s H
   obtain ⟨r11, er11, hm11⟩ := ob hm; clear hm; revert er11; intro hm
   refine x_mid (fun aa ww => Fr ⟨23, []⟩ aa [] ∧ St w0 ww (O_triremeref01_Disk bo0 r11 :: l)) ?_ ?_
   · skip
     refine cP F rfl (fun hg12 => ?_) (fun hg12 => ?_)
     · replace hm := ifT hg12 hm
       refine rl (bk [0, 0, 2] F H rfl ⟨fld67_2, trivial⟩ ?_); clear F; intro a F
       obtain ⟨p13, c14, p15, c16, H⟩ := O_triremeref01_Disk_o (H.pk 0 rfl)
       refine bk [2, 0, 0, 2] F H rfl ⟨rfl, plain3, fld67_2, trivial⟩ ?_; clear F; intro a F
       refine s_st1 wkP F rfl rfl zero3 rfl rfl rfl rfl rfl H 0 rfl rfl ?_; clear H; intro w H
       replace H := H.nf 3 rfl
       refine lz ?_
       replace H := O_triremeref01_Disk_s H
       cases hm
       refine ct ?_
       exact ⟨F.cut _ trivial, H⟩
     · replace hm := ifF hg12 hm
       refine sk ?_
       cases hm
       refine ct ?_
       exact ⟨F.cut _ trivial, H⟩
   · skip
     clear F H hm
     rintro a w ⟨F, H⟩; have hm := hm11; clear hm11
     refine ct (sr (bk [0] F H rfl trivial ?_)); clear F; intro a F
     replace H := H.nf 1 rfl
     refine nl (wr ?_)
     cases hm
     refine x_ret1 F rfl rfl ?_
     exact ⟨_, rfl, rfl, H⟩
theorem ent50 : ∀ args w, (callFunc 50 args).run Tryd.prog w = .ok (.enter 50 args) w := enters Tryd.func50 (by kernel_rfl) rfl
theorem agg104 : AggT Tryd.prog 104 2 [.int .i64 0, .slice none 0 0] := ⟨by rw [Tryd.underlying104]; rfl, by kernel_rfl, by kernel_rfl⟩
theorem zero65 : Zero1 Tryd.prog 65 (.slice none 0 0) := ⟨by kernel_rfl, rfl⟩
set_option maxRecDepth 100000 in
set_option maxHeartbeats 4000000 in
theorem w_rdWrite {d : T_triremeref01_Disk_o} {i : Int} {data : List UInt8} {bo0 : Nat} {p1 : Option Addr} {c1 : Nat} {w0 w : World} {l : List HP}  {r : Int × T_triremeref01_Disk_o} (hm : rdWrite d i data = some r) (H : St w0 w (O_triremeref01_Disk bo0 d :: HP.sl rByte p1 c1 data :: l)) :
  Calls Tryd.prog 72 [.pointer (some ⟨bo0, 0, none⟩), .int .i64 (i), .slice p1 (data).length c1].toArray w (fun e w' => ∃ v, e = .returned v ∧ v = .int .i64 (r.1) ∧ St w0 w' (O_triremeref01_Disk bo0 r.2 :: l)) := by
 unfold rdWrite at hm
 refine x_enter Tryd.func72 rfl rfl rfl ?_
 intro a F
 refine sr (bk [0] F H rfl trivial ?_); clear F; intro a F
 refine nl (sq (sr (bk [0, 0, 3] F H rfl ⟨fld67_3, trivial⟩ ?_))); clear F; intro a F
 obtain ⟨p2, c3, p4, c5, H⟩ := O_triremeref01_Disk_o (H.pk 0 rfl)
 refine bk [3] F H rfl ⟨rfl, plain4, trivial⟩ ?_; clear F; intro a F
 refine nl (cB F rfl (fun hg6 => ?_) (fun hg6 => ?_))
 · replace hm := ifT hg6 hm
   refine sr (bk [0] F H rfl trivial ?_); clear F; intro a F
   refine nl (wr (tr ?_))
   replace H := O_triremeref01_Disk_s H
   cases hm
   refine x_ret1 F rfl rfl ?_
   exact ⟨_, rfl, rfl, (H.pm 2 [0] rfl:)⟩
 · replace hm := ifF (nT hg6) hm
   refine sk (ct (sq (sr (bk [0, 0, 0] F H rfl trivial ?_)))); clear F; intro a F
   by_cases hg7 : i < 0
   · replace hm := ifT hg7 hm
     replace F := F.bT 14 hg7 rfl
     refine bk (List.replicate 8 0) F H rfl trivial ?_; clear F; intro a F
     refine nl (cT F rfl ?_)
     refine sr (bk [0] F H rfl trivial ?_); clear F; intro a F
     refine nl (wr (tr ?_))
     replace H := O_triremeref01_Disk_s H
     cases hm
     refine x_ret1 F rfl rfl ?_
     exact ⟨_, rfl, rfl, (H.pm 2 [0] rfl:)⟩
   · replace hm := ifF hg7 hm
     replace F := F.bF 14 hg7 rfl
     refine bk (List.replicate 8 0) F H rfl ⟨fld67_0, rfl, plain22, ⟨_, Tryd.underlying22⟩, trivial⟩ ?_; clear F; intro a F
     refine nl (cP F rfl (fun hg8 => ?_) (fun hg8 => ?_))
     · replace hm := ifT hg8 hm
       refine sr (bk [0] F H rfl trivial ?_); clear F; intro a F
       refine nl (wr (tr ?_))
       replace H := O_triremeref01_Disk_s H
       cases hm
       refine x_ret1 F rfl rfl ?_
       exact ⟨_, rfl, rfl, (H.pm 2 [0] rfl:)⟩
     · replace hm := ifF hg8 hm
       refine sk (ct (sq (sr (bk [0, 0, 0] F H rfl ⟨⟨_, Tryd.underlying33⟩, trivial⟩ ?_)))); clear F; intro a F
       refine nl (cN F rfl (fun hg9 => ?_) (fun hg9 => ?_))
       · replace hm := ifF hg9 hm
         refine sr (bk [0] F H rfl trivial ?_); clear F; intro a F
         refine nl (wr (tr ?_))
         replace H := O_triremeref01_Disk_s H
         cases hm
         refine x_ret1 F rfl rfl ?_
         exact ⟨_, rfl, rfl, (H.pm 2 [0] rfl:)⟩
       · replace hm := ifT hg9 hm
         refine sk (ct (sr (bk [0] F H rfl trivial ?_))); clear F; intro a F
         replace H := O_triremeref01_Disk_s H
         obtain ⟨x10, ex10, hm⟩ := ob hm
         refine sc wkP F rfl ent50 (w_rdUse ex10 H:) ?_; clear F H; rintro _ w a ⟨rfl, H⟩ F
         refine bk [0] F H rfl trivial ?_; clear F; intro a F
         replace H := H.nf 2 rfl
         refine nl (sq ?_)
         obtain ⟨p21, c22, p23, c24, H⟩ := O_triremeref01_Disk_o (H.pk 0 rfl)
         refine mix_region [6, 8, 10, 11, 14] [14] (.step 0 0 (.step 0 1 (.step 0 2 (.step 0 3 (.step 0 4 (.step 0 5 (.step 0 7 (.step 2 6 (.step 2 8 (.step 0 9 (.step 2 10 (.step 2 11 (.step 0 12 (.step 0 13 (.step 3 14 .done))))))))))))))) (fun u => ∃ ls, St w0 u (HP.blk bo0 ([.slice p21 (x10.2.1).length c22, .slice p23 (x10.2.2.1).length c24, .int .i64 (x10.2.2.2.1), .bool (x10.2.2.2.2)]) 67 :: ls)) (by kernel_rfl) (by kernel_rfl) ⟨_, H.drew⟩ ?_
         replace H := H.drew
         generalize w.drew = w at H ⊢
         refine mbk [0, 0, 0, 1] F H rfl ⟨fld67_1, trivial⟩ ?_; clear F; intro a F
         refine m_pure F rfl rfl rfl rfl (fun u hu => y_load1 F plain65 rfl rfl (row_at (v := .slice p23 (x10.2.2.1).length c24) ((hu.choose_spec.blk 0 rfl).row) rfl)) ?_; clear F; intro a F
         refine mbk [0, 0] F H rfl trivial ?_; clear F; intro a F
         refine m_heavy rfl rfl ?_
         refine s_build0O (R := rByte) wkP F rfl rfl rfl elem33 rfl H ?_; clear F H; intro b25 w a H F
         refine lz ?_; refine ct ⟨⟨_, (H.pm 5 [1, 0, 2, 3, 4] rfl:)⟩, ?_⟩
         refine m_heavy rfl rfl ?_
         obtain ⟨x27, ex27, hm⟩ := ob hm
         refine s_app wkP F rfl rfl rfl rfl rfl rfl elem33 rfl ex27 H 0 4 rfl rfl ?_; clear F H; intro p26 c26 w a H F
         refine lz ?_; refine ct ⟨⟨_, (H.pm 5 [1, 0, 2, 3, 4] rfl:)⟩, ?_⟩
         refine m_pure F rfl rfl rfl rfl (fun u hu => y_build F rfl rfl (cs := [.int .i64 (i), .slice p26 (x27).length c26]) (by kernel_rfl)) ?_; clear F; intro a F
         refine m_heavy rfl rfl ?_
         replace H := H.frz 0 rfl
         refine s_build1 wkP F rfl rfl rfl agg104 elem65 rfl rfl (by simp only [List.length_append, List.length_cons, List.length_nil, icells_length, bcells_length]) (by decide) H ?_; clear F H; intro b28 w a H F
         replace H : St w0 w (HP.ow R_triremeref01_Write 104 (some ⟨b28, 0, none⟩) (([(i, x27)]).length) ([(i, x27)]) :: HP.sl rByte p26 c26 x27 :: HP.blk bo0 ([.slice p21 (x10.2.1).length c22, .slice p23 (x10.2.2.1).length c24, .int .i64 (x10.2.2.2.1), .bool (x10.2.2.2.2)]) 67 :: HP.ow (rSl rByte) 33 p21 c22 x10.2.1 :: HP.ow R_triremeref01_Write 104 p23 c24 x10.2.2.1 :: HP.sl rByte p1 c1 data :: l) := H.blkOw (R := R_triremeref01_Write) 0 rfl (fun gg => ⟨[[.int .i64 (i), .slice p26 (x27).length c26]], by simp, ⟨_, _, rfl, rfl, ⟨_, _, rfl, (gg 1 _ rfl).choose_spec⟩⟩, trivial⟩) (by simp)
         refine lz ?_; refine ct ⟨⟨_, (H.pm 6 [2, 0, 1, 3, 4, 5] rfl:)⟩, ?_⟩
         refine m_heavy rfl rfl ?_
         replace H := H.frz 0 rfl
         obtain ⟨x30, ex30, hm⟩ := ob hm
         refine s_app wkP F rfl rfl rfl rfl rfl rfl elem65 rfl ex30 H 4 0 rfl rfl ?_; clear F H; intro p29 c29 w a H F
         refine lz ?_; refine ct ⟨⟨_, (H.pm 6 [2, 0, 1, 3, 4, 5] rfl:)⟩, ?_⟩
         refine mbk [0, 1] F H rfl ⟨fld67_1, trivial⟩ ?_; clear F; intro a F
         refine m_last rfl rfl ?_
         refine s_st1 wkP F rfl rfl zero65 rfl rfl rfl rfl rfl H 2 rfl rfl ?_; clear H; intro w H
         refine lz ?_; refine ct ?_
         refine m_nil ?_
         refine ct (sq (sr (bk [0, 0] F H rfl trivial ?_))); clear F; intro a F
         replace H := H.nf 6 rfl
         refine nl (cB F rfl (fun hg31 => ?_) (fun hg31 => ?_))
         · replace hm := ifT hg31 hm
           refine sr (bk [0] F H rfl trivial ?_); clear F; intro a F
           refine nl (wr (tr ?_))
           replace H := O_triremeref01_Disk_s (H.pm 6 [2, 3, 4, 0, 1, 5] rfl:)
           cases hm
           refine x_ret1 F rfl rfl ?_
           exact ⟨_, rfl, rfl, (H.pm 4 [0] rfl:)⟩
         · replace hm := ifF (nT hg31) hm
           refine sk (ct (sr (bk [0] F H rfl trivial ?_))); clear F; intro a F
           refine nl (wr ?_)
           replace H := O_triremeref01_Disk_s (H.pm 6 [2, 3, 4, 0, 1, 5] rfl:)
           cases hm
           refine x_ret1 F rfl rfl ?_
           exact ⟨_, rfl, rfl, (H.pm 4 [0] rfl:)⟩
set_option maxRecDepth 100000 in
set_option maxHeartbeats 4000000 in
theorem w_rdFlush {d : T_triremeref01_Disk_o} {bo0 : Nat} {w0 w : World} {l : List HP}  {r : Int × T_triremeref01_Disk_o} (hm : rdFlush d = some r) (H : St w0 w (O_triremeref01_Disk bo0 d :: l)) :
  Calls Tryd.prog 25 [.pointer (some ⟨bo0, 0, none⟩)].toArray w (fun e w' => ∃ v, e = .returned v ∧ v = .int .i64 (r.1) ∧ St w0 w' (O_triremeref01_Disk bo0 r.2 :: l)) := by
 unfold rdFlush at hm
 refine x_enter Tryd.func25 rfl rfl rfl ?_
 intro a F
 refine sr (bk [0] F H rfl trivial ?_); clear F; intro a F
 refine nl (sq (sr (bk [0, 0, 3] F H rfl ⟨fld67_3, trivial⟩ ?_))); clear F; intro a F
 obtain ⟨p1, c2, p3, c4, H⟩ := O_triremeref01_Disk_o (H.pk 0 rfl)
 refine bk [3] F H rfl ⟨rfl, plain4, trivial⟩ ?_; clear F; intro a F
 refine nl (cB F rfl (fun hg5 => ?_) (fun hg5 => ?_))
 · replace hm := ifT hg5 hm
   refine sr (bk [0] F H rfl trivial ?_); clear F; intro a F
   refine nl (wr (tr ?_))
   replace H := O_triremeref01_Disk_s H
   cases hm
   refine x_ret1 F rfl rfl ?_
   exact ⟨_, rfl, rfl, H⟩
 · replace hm := ifF (nT hg5) hm
   refine sk (ct (sq (sr (bk [0] F H rfl trivial ?_)))); clear F; intro a F
   replace H := O_triremeref01_Disk_s H
   obtain ⟨x6, ex6, hm⟩ := ob hm
   refine sc wkP F rfl ent50 (w_rdUse ex6 H:) ?_; clear F H; rintro _ w a ⟨rfl, H⟩ F
   refine bk [0] F H rfl trivial ?_; clear F; intro a F
   replace H := H.nf 1 rfl
   refine nl (cB F rfl (fun hg7 => ?_) (fun hg7 => ?_))
   · replace hm := ifT hg7 hm
     refine sr (bk [0] F H rfl trivial ?_); clear F; intro a F
     refine nl (wr (tr ?_))
     cases hm
     refine x_ret1 F rfl rfl ?_
     exact ⟨_, rfl, rfl, H⟩
   · replace hm := ifF (nT hg7) hm
     refine sk (ct (sq (sr (bk [0] F H rfl trivial ?_)))); clear F; intro a F
     refine nl ?_
     obtain ⟨r102, er102, hm102⟩ := ob hm; clear hm; revert er102; intro hm
     refine x_mid (fun aa ww => Fr ⟨44, []⟩ aa [(0, .pointer (some ⟨bo0, 0, none⟩))] ∧ St w0 ww (O_triremeref01_Disk bo0 r102 :: l)) ?_ ?_
     · skip
       refine bl (x_loopO _ (fun (s165 : T_triremeref01_Disk_o × Int) aa ww => Fr ⟨44, []⟩ aa [(0, .pointer (some ⟨bo0, 0, none⟩)), (3, .int .i64 (s165.2))] ∧ St w0 ww (O_triremeref01_Disk bo0 s165.1 :: l)) hm ⟨F.sl rfl, H⟩ ?_)
       clear F H hm
       rintro s165 a w o ⟨F, H⟩ hm
       refine sq (sr (bk [0, 0, 0, 1] F H rfl ⟨fld67_1, trivial⟩ ?_)); clear F; intro a F
       obtain ⟨p166, c167, p168, c169, H⟩ := O_triremeref01_Disk_o (H.pk 0 rfl)
       refine bk [1, 0, 0] F H rfl ⟨rfl, plain65, ⟨_, Tryd.underlying65⟩, trivial⟩ ?_; clear F; intro a F
       refine nl (cP F rfl (fun hg170 => ?_) (fun hg170 => ?_))
       · replace hm := ifT hg170 hm
         refine sk (ct (sq (bl ?_)))
         obtain ⟨x184, ex184, hm⟩ := ob hm
         obtain ⟨b185, hp185⟩ := H.owP 2 rfl (idxO_some ex184).2
         obtain ⟨css186, H⟩ := H.oxOpen 2 rfl
         obtain ⟨cs186, hcs186, hcl186, H⟩ := H.oxEl 2 rfl (idxO_some ex184).2
         replace H := rc_triremeref01_Write (H.pk 0 rfl); obtain ⟨p187, c188, rfl, H⟩ := H
         obtain ⟨x189, ex189, hm⟩ := ob hm
         obtain ⟨cs190, hcs190, hcl190, H⟩ := H.oxEl 3 rfl (idxO_some ex189).2
         replace H := rc_triremeref01_Write (H.pk 0 rfl); obtain ⟨p191, c192, rfl, H⟩ := H
         obtain ⟨x193, ex193, hm⟩ := ob hm
         obtain ⟨b194, hp194⟩ := H.owP 3 rfl (idxO_some ex193).2
         obtain ⟨css195, H⟩ := H.oxOpen 3 rfl
         obtain ⟨cs195, hcs195, hcl195, H⟩ := H.oxEl 3 rfl (idxO_some ex193).2
         obtain ⟨p196, c196, rfl, H⟩ := H.rcSl 0 rfl
         replace H := H.dp 1 rfl
         refine mix_region [21] [21] (.step 0 0 (.step 0 1 (.step 0 2 (.step 1 3 (.step 0 4 (.step 0 5 (.step 0 6 (.step 1 7 (.step 0 8 (.step 0 9 (.step 0 10 (.step 1 11 (.step 0 12 (.step 0 13 (.step 0 14 (.step 1 15 (.step 0 16 (.step 0 17 (.step 0 18 (.step 1 19 (.step 0 20 (.step 3 21 .done)))))))))))))))))))))) (fun u => ∃ ls, St w0 u (ls)) (by kernel_rfl) (by kernel_rfl) ⟨_, H.drew⟩ ?_
         replace H := H.drew
         generalize w.drew = w at H ⊢
         refine mbk [0, 0, 0, 3000, 0, 0, 1, 3001, 0] F H rfl ⟨fld67_0, rfl, plain22, fld67_1, rfl, plain65, trivial⟩ ?_; clear F; intro a F
         refine m_pure F rfl rfl rfl rfl (fun u hu => y_idxS F elem65 rfl rfl rfl hp185 ex184) ?_; clear F; intro a F
         refine mbk [0] F H rfl ⟨fld104_0, trivial⟩ ?_; clear F; intro a F
         refine m_read F rfl rfl rfl rfl (y_load1 F plain3 rfl rfl (row_at (v := .int .i64 (x184.1)) (H.oxRow 5 rfl hp185 hcs186 hcl186) rfl)) ?_; clear F; intro a F
         refine mbk [0, 0, 1, 3001, 0] F H rfl ⟨fld67_1, rfl, plain65, trivial⟩ ?_; clear F; intro a F
         refine m_pure F rfl rfl rfl rfl (fun u hu => y_idxS F elem65 rfl rfl rfl hp185 ex189) ?_; clear F; intro a F
         refine mbk [1] F H rfl ⟨fld104_1, trivial⟩ ?_; clear F; intro a F
         refine m_read F rfl rfl rfl rfl (y_load1 F plain33 rfl rfl (row_at (v := .slice p191 (x189.2).length c192) (H.oxRow 5 rfl hp185 hcs190 hcl190) rfl)) ?_; clear F; intro a F
         refine m_pure F rfl rfl rfl rfl (fun u hu => y_idxS F elem22 rfl rfl rfl hp194 ex193) ?_; clear F; intro a F
         refine m_last rfl rfl ?_
         replace H := H.oxShut 4 rfl
         refine s_owSet1 wkP F rfl rfl zero33 rfl rfl rfl rfl rfl rfl H 4 rfl hp194 ex193 (zz := x189.2) (fun gg => ⟨_, _, rfl, (gg 1 _ rfl).choose_spec⟩) ?_; clear H; intro w H
         replace H : St w0 w (HP.sl rByte p196 c196 x193 :: HP.sl rByte p191 c192 x189.2 :: HP.sl rByte p187 c188 x184.2 :: HP.blk bo0 ([.slice p166 ((s165.1.1).set (x184.1 : Int).toNat x189.2).length c167, .slice p168 (s165.1.2.1).length c169, .int .i64 (s165.1.2.2.1), .bool (s165.1.2.2.2)]) 67 :: HP.ow (rSl rByte) 33 p166 c167 ((s165.1.1).set (x184.1 : Int).toNat x189.2) :: HP.ox R_triremeref01_Write 104 p168 c169 css186 s165.1.2.1 :: l) := (by have h := H; first | exact h | (simp only [List.length_set] at h ⊢; exact h))
         replace F := F.bool (k := 23) (u := .slice p166 ((s165.1.1).set (x184.1 : Int).toNat x189.2).length c167) rfl (by simp only [List.length_set])
         refine lz ?_; refine ct ?_
         refine m_nil ?_
         replace H := H.oxShut 5 rfl
         refine bn (ct (rl (bk [0, 0, 0] F H rfl trivial ?_))); clear F; intro a F
         replace H := H.nf 6 rfl
         refine lz ?_
         replace H := O_triremeref01_Disk_s (x0 := (s165.1.1).set (x184.1 : Int).toNat x189.2) (H.pm 6 [3, 4, 5, 0, 1, 2] rfl:)
         refine ct ?_; cases hm
         exact ⟨_, rfl, ⟨F.sl rfl, (H.pm 4 [0] rfl:)⟩⟩
       · replace hm := ifF hg170 hm
         refine ex (cx (cx ?_)); cases hm; refine ⟨_, rfl, ?_⟩; rintro rfl
         refine ch ?_
         replace H := O_triremeref01_Disk_s H
         refine ct ?_
         exact ⟨F.sl rfl, H⟩
     · skip
       clear F H hm
       rintro a w ⟨F, H⟩; have hm := hm102; clear hm102
       refine ct (sr (bk [0, 0, 1] F H rfl ⟨fld67_1, trivial⟩ ?_)); clear F; intro a F
       obtain ⟨p197, c198, p199, c200, H⟩ := O_triremeref01_Disk_o (H.pk 0 rfl)
       replace H := H.owNil R_triremeref01_Write 104
       refine s_st1 wkP F rfl rfl zero65 rfl rfl rfl rfl rfl H 1 rfl rfl ?_; clear H; intro w H
       replace H := H.nf 4 rfl
       refine nl (sr (bk [0] F H rfl trivial ?_)); clear F; intro a F
       refine nl (wr ?_)
       replace H := O_triremeref01_Disk_s (x1 := ([] : List T_triremeref01_Write)) (H.pm 4 [1, 2, 0, 3] rfl:)
       cases hm
       refine x_ret1 F rfl rfl ?_
       exact ⟨_, rfl, rfl, (H.pm 2 [0] rfl:)⟩
set_option maxRecDepth 100000 in
set_option maxHeartbeats 4000000 in
theorem w_rdLimit {d : T_triremeref01_Disk_o} {n : Int} {bo0 : Nat} {w0 w : World} {l : List HP}  {r : T_triremeref01_Disk_o} (hm : rdLimit d n = some r) (H : St w0 w (O_triremeref01_Disk bo0 d :: l)) :
  Calls Tryd.prog 24 [.pointer (some ⟨bo0, 0, none⟩), .int .i64 (n)].toArray w (fun e w' => ∃ v, e = .returned v ∧ v = .tuple [].toArray ∧ St w0 w' (O_triremeref01_Disk bo0 r :: l)) := by
 unfold rdLimit at hm
 refine x_enter Tryd.func24 rfl rfl rfl ?_
 intro a F
 refine sr (bk [0, 0, 0, 2] F H rfl ⟨fld67_2, trivial⟩ ?_); clear F; intro a F
 obtain ⟨p1, c2, p3, c4, H⟩ := O_triremeref01_Disk_o (H.pk 0 rfl)
 refine s_st1 wkP F rfl rfl zero3 rfl rfl rfl rfl rfl H 0 rfl rfl ?_; clear H; intro w H
 replace H := H.nf 3 rfl
 refine nl (sr (bk [0, 0] F H rfl trivial ?_)); clear F; intro a F
 refine nl (cP F rfl (fun hg5 => ?_) (fun hg5 => ?_))
 · replace hm := ifT hg5 hm
   refine rl (bk [0, 0, 2] F H rfl ⟨fld67_2, trivial⟩ ?_); clear F; intro a F
   refine s_st1 wkP F rfl rfl zero3 rfl rfl rfl rfl rfl H 0 rfl rfl ?_; clear H; intro w H
   replace H := H.nf 3 rfl
   refine lz ?_
   replace H := O_triremeref01_Disk_s H
   cases hm
   refine x_end0 F rfl ?_
   exact ⟨_, rfl, rfl, H⟩
 · replace hm := ifF hg5 hm
   refine sk ?_
   replace H := O_triremeref01_Disk_s H
   cases hm
   refine x_end0 F rfl ?_
   exact ⟨_, rfl, rfl, H⟩
theorem ent49 : ∀ args w, (callFunc 49 args).run Tryd.prog w = .ok (.enter 49 args) w := enters Tryd.func49 (by kernel_rfl) rfl
theorem agz104 : AggT Tryd.prog 104 2 ([.int .i64 (0), .slice none (([] : List UInt8)).length 0]) := ⟨by rw [Tryd.underlying104]; rfl, by kernel_rfl, by kernel_rfl⟩
set_option maxRecDepth 100000 in
set_option maxHeartbeats 4000000 in
theorem w_rdCrash {d : T_triremeref01_Disk_o} {fates : List Int} {bo0 : Nat} {p1 : Option Addr} {c1 : Nat} {w0 w : World} {l : List HP}  {r : T_triremeref01_Disk_o} (hm : rdCrash d fates = some r) (H : St w0 w (O_triremeref01_Disk bo0 d :: HP.sl (rInt .i64) p1 c1 fates :: l)) :
  Calls Tryd.prog 22 [.pointer (some ⟨bo0, 0, none⟩), .slice p1 (fates).length c1].toArray w (fun e w' => ∃ v, e = .returned v ∧ ∃ (b2 : Nat), v = .pointer (some ⟨b2, 0, none⟩) ∧ St w0 w' (O_triremeref01_Disk b2 r :: O_triremeref01_Disk bo0 d :: l)) := by
 unfold rdCrash at hm
 refine x_enter Tryd.func22 rfl rfl rfl ?_
 intro a F
 refine sr (bk [0] F H rfl trivial ?_); clear F; intro a F
 refine nl (sr ?_)
 replace H := (H.ownNil 33 1).osNil 5
 replace H := H.owNil R_triremeref01_Write 104
 refine s_val wkP F rfl rfl rfl rfl (y_build F rfl rfl (cs := [.slice none (([] : List (List UInt8))).length 0, .slice none (([] : List T_triremeref01_Write)).length 0, .int .i64 (-1), .bool false]) (by kernel_rfl)) ?_; clear F; intro a F
 refine s_boxA wkP F rfl rfl rfl rfl rfl H ?_; clear F H; intro b3 w a H F
 refine bk [0] F H rfl trivial ?_; clear F; intro a F
 replace H := H.nf 6 rfl
 refine nl (sq (sr (bk [0] F H rfl trivial ?_))); clear F; intro a F
 refine nl ?_
 obtain ⟨r83, er83, hm83⟩ := ob hm; clear hm; revert er83; intro hm
 refine x_mid (fun aa ww => ∃ (p84 : Option Addr) (c84 : Nat) (css84 : List (List Value)), Fr ⟨118, []⟩ aa [(0, .pointer (some ⟨bo0, 0, none⟩)), (1, .slice p1 (fates).length c1), (5, .pointer (some ⟨b3, 0, none⟩))] ∧ St w0 ww (HP.blk b3 ([.slice p84 (r83).length c84, .slice none (([] : List T_triremeref01_Write)).length 0, .int .i64 (-1), .bool false]) 67 :: HP.ow R_triremeref01_Write 104 none 0 ([] : List T_triremeref01_Write) :: O_triremeref01_Disk bo0 d :: HP.sl (rInt .i64) p1 c1 fates :: HP.own 33 1 (.slice p84 (r83).length c84) (r83).length (css84).flatten :: HP.os 5 css84 r83 noh :: l)) ?_ ?_
 · skip
   refine bl ?_
   refine x_loopO _ (fun (s137 : (List (List UInt8)) × Int) aa ww => ∃ (p138 : Option Addr) (c138 : Nat) (css138 : List (List Value)), Fr ⟨118, []⟩ aa [(0, .pointer (some ⟨bo0, 0, none⟩)), (1, .slice p1 (fates).length c1), (5, .pointer (some ⟨b3, 0, none⟩)), (6, .int .i64 (s137.2))] ∧ St w0 ww (HP.blk b3 ([.slice p138 (s137.1).length c138, .slice none (([] : List T_triremeref01_Write)).length 0, .int .i64 (-1), .bool false]) 67 :: HP.ow R_triremeref01_Write 104 none 0 ([] : List T_triremeref01_Write) :: O_triremeref01_Disk bo0 d :: HP.sl (rInt .i64) p1 c1 fates :: HP.own 33 1 (.slice p138 (s137.1).length c138) (s137.1).length (css138).flatten :: HP.os 5 css138 s137.1 noh :: l)) hm ⟨none, 0, ([] : List (List Value)), F.sl rfl, (H.pm 6 [0, 1, 4, 5, 3, 2] rfl:)⟩ ?_
   clear F H hm
   rintro s137 a w o ⟨p138, c138, css138, F, H⟩ hm
   refine sq (sr (bk [0, 0, 0, 0] F H rfl ⟨fld67_0, trivial⟩ ?_)); clear F; intro a F
   obtain ⟨p139, c140, p141, c142, H⟩ := O_triremeref01_Disk_o (H.pk 2 rfl)
   refine bk [0, 0, 0] F H rfl ⟨rfl, plain22, ⟨_, Tryd.underlying22⟩, trivial⟩ ?_; clear F; intro a F
   refine nl (cP F rfl (fun hg143 => ?_) (fun hg143 => ?_))
   · replace hm := ifT hg143 hm
     refine sk (ct (sq (bl ?_)))
     obtain ⟨x154, ex154, hm⟩ := ob hm
     obtain ⟨b155, hp155⟩ := H.owP 1 rfl (idxO_some ex154).2
     obtain ⟨css156, H⟩ := H.oxOpen 1 rfl
     obtain ⟨cs156, hcs156, hcl156, H⟩ := H.oxEl 1 rfl (idxO_some ex154).2
     obtain ⟨p157, c157, rfl, H⟩ := H.rcSl 0 rfl
     replace H := H.dp 1 rfl
     refine mix_region [5, 13, 14, 15, 18] [18] (.step 0 0 (.step 0 1 (.step 0 2 (.step 0 3 (.step 0 4 (.step 0 6 (.step 0 7 (.step 0 8 (.step 0 9 (.step 0 10 (.step 0 11 (.step 0 12 (.step 2 5 (.step 2 13 (.step 2 14 (.step 2 15 (.step 0 16 (.step 0 17 (.step 3 18 .done))))))))))))))))))) (fun u => ∃ ls, St w0 u (HP.blk bo0 ([.slice p139 (d.1).length c140, .slice p141 (d.2.1).length c142, .int .i64 (d.2.2.1), .bool (d.2.2.2)]) 67 :: HP.ox (rSl rByte) 33 p139 c140 css156 d.1 :: HP.blk b3 ([.slice p138 (s137.1).length c138, .slice none (([] : List T_triremeref01_Write)).length 0, .int .i64 (-1), .bool false]) 67 :: ls)) (by kernel_rfl) (by kernel_rfl) ⟨_, (H.drew.pm 9 [1, 2, 4, 0, 3, 5, 6, 7, 8] rfl:)⟩ ?_
     replace H := H.drew
     generalize w.drew = w at H ⊢
     refine mbk [0, 0, 0, 0] F H rfl ⟨fld67_0, trivial⟩ ?_; clear F; intro a F
     refine m_pure F rfl rfl rfl rfl (fun u hu => y_load1 F plain22 rfl rfl (row_at (v := .slice p138 (s137.1).length c138) ((hu.choose_spec.blk 2 rfl).row) rfl)) ?_; clear F; intro a F
     refine mbk [0, 0, 0] F H rfl ⟨fld67_0, trivial⟩ ?_; clear F; intro a F
     refine m_pure F rfl rfl rfl rfl (fun u hu => y_load1 F plain22 rfl rfl (row_at (v := .slice p139 (d.1).length c140) ((hu.choose_spec.blk 0 rfl).row) rfl)) ?_; clear F; intro a F
     refine mbk [0] F H rfl trivial ?_; clear F; intro a F
     refine m_pure F rfl rfl rfl rfl (fun u hu => y_idxS F elem22 rfl rfl rfl hp155 ex154) ?_; clear F; intro a F
     refine m_pure F rfl rfl rfl rfl (fun u hu => y_load1 F plain33 rfl rfl ((hu.choose_spec.oxRow 1 rfl hp155 hcs156 hcl156) 0 _ rfl)) ?_; clear F; intro a F
     refine m_heavy rfl rfl ?_
     refine s_build0O (R := rByte) wkP F rfl rfl rfl elem33 rfl H ?_; clear F H; intro b158 w a H F
     refine lz ?_; refine ct ⟨⟨_, (H.pm 10 [2, 3, 5, 0, 1, 4, 6, 7, 8, 9] rfl:)⟩, ?_⟩
     refine m_heavy rfl rfl ?_
     obtain ⟨x160, ex160, hm⟩ := ob hm
     refine s_app wkP F rfl rfl rfl rfl rfl rfl elem33 rfl ex160 H 0 1 rfl rfl ?_; clear F H; intro p159 c159 w a H F
     refine lz ?_; refine ct ⟨⟨_, (H.pm 10 [2, 3, 5, 0, 1, 4, 6, 7, 8, 9] rfl:)⟩, ?_⟩
     refine m_heavy rfl rfl ?_
     refine s_buildC wkP F rfl rfl rfl elem22 zero33 rfl rfl rfl rfl (by simp [Value.cells]) (by decide) H ?_; clear F H; intro b161 w a H F
     refine lz ?_; refine ct ⟨⟨_, (H.pm 11 [3, 4, 6, 0, 1, 2, 5, 7, 8, 9, 10] rfl:)⟩, ?_⟩
     refine m_heavy rfl rfl ?_
     obtain ⟨x163, ex163, hm⟩ := ob hm
     refine s_appOO wkP F rfl rfl rfl rfl rfl rfl elem22 rfl ex163 ((H.pm 11 [9, 1, 10, 0, 2, 3, 4, 5, 6, 7, 8] rfl:)) ?_; clear F H; intro p162 c162 w a H F
     refine lz ?_; refine ct ⟨⟨_, (H.pm 9 [3, 4, 6, 0, 1, 2, 5, 7, 8] rfl:)⟩, ?_⟩
     refine mbk [0, 0] F H rfl ⟨fld67_0, trivial⟩ ?_; clear F; intro a F
     refine m_last rfl rfl ?_
     refine s_st1 wkP F rfl rfl zero22 rfl rfl rfl rfl rfl H 6 rfl rfl ?_; clear H; intro w H
     refine lz ?_; refine ct ?_
     refine m_nil ?_
     replace H := H.oxShut 4 rfl
     refine bn (ct (rl (bk [0, 0, 0] F H rfl trivial ?_))); clear F; intro a F
     replace H := H.nf 9 rfl
     refine lz ?_
     replace H := O_triremeref01_Disk_s (H.pm 9 [3, 4, 5, 0, 1, 2, 6, 7, 8] rfl:)
     refine ct ?_; cases hm
     exact ⟨_, rfl, ⟨p162, c162, (css138 ++ [[Value.slice p159 (x160).length c159]]), F.sl rfl, (H.pm 7 [4, 5, 0, 6, 2, 1] rfl:)⟩⟩
   · replace hm := ifF hg143 hm
     refine ex (cx (cx ?_)); cases hm; refine ⟨_, rfl, ?_⟩; rintro rfl
     refine ch ?_
     replace H := O_triremeref01_Disk_s H
     refine ct ?_
     exact ⟨p138, c138, css138, F.sl rfl, (H.pm 6 [1, 2, 0, 3, 4, 5] rfl:)⟩
 · skip
   clear F H hm
   rintro a w ⟨p84, c84, css84, F, H⟩; have hm := hm83; clear hm83
   refine ct (sq (sr (bk [0] F H rfl trivial ?_))); clear F; intro a F
   refine nl ?_
   obtain ⟨r12633, er12633, hm12633⟩ := ob hm; clear hm; revert er12633; intro hm
   refine x_mid (fun aa ww => Fr ⟨118, []⟩ aa [(5, .pointer (some ⟨b3, 0, none⟩))] ∧ St w0 ww (HP.blk b3 ([.slice p84 (r12633).length c84, .slice none (([] : List T_triremeref01_Write)).length 0, .int .i64 (-1), .bool false]) 67 :: HP.ow R_triremeref01_Write 104 none 0 ([] : List T_triremeref01_Write) :: O_triremeref01_Disk bo0 d :: HP.own 33 1 (.slice p84 (r12633).length c84) (r12633).length (css84).flatten :: HP.os 5 css84 r12633 noh :: l)) ?_ ?_
   · skip
     refine bl ?_
     refine x_loopO _ (fun (s20946 : (List (List UInt8)) × Int) aa ww => Fr ⟨118, []⟩ aa [(0, .pointer (some ⟨bo0, 0, none⟩)), (1, .slice p1 (fates).length c1), (5, .pointer (some ⟨b3, 0, none⟩)), (7, .int .i64 (s20946.2))] ∧ St w0 ww (HP.blk b3 ([.slice p84 (s20946.1).length c84, .slice none (([] : List T_triremeref01_Write)).length 0, .int .i64 (-1), .bool false]) 67 :: HP.ow R_triremeref01_Write 104 none 0 ([] : List T_triremeref01_Write) :: O_triremeref01_Disk bo0 d :: HP.sl (rInt .i64) p1 c1 fates :: HP.own 33 1 (.slice p84 (s20946.1).length c84) (s20946.1).length (css84).flatten :: HP.os 5 css84 s20946.1 noh :: l)) hm ⟨F.sl rfl, H⟩ ?_
     clear F H hm
     rintro s20946 a w o ⟨F, H⟩ hm
     refine sq (sr (bk [0, 0, 0, 1] F H rfl ⟨fld67_1, trivial⟩ ?_)); clear F; intro a F
     obtain ⟨p20947, c20948, p20949, c20950, H⟩ := O_triremeref01_Disk_o (H.pk 2 rfl)
     refine bk [1, 0, 0] F H rfl ⟨rfl, plain65, ⟨_, Tryd.underlying65⟩, trivial⟩ ?_; clear F; intro a F
     refine nl (cP F rfl (fun hg20951 => ?_) (fun hg20951 => ?_))
     · replace hm := ifT hg20951 hm
       refine sk (ct (sq ?_))
       replace H := O_triremeref01_Disk_s H
       obtain ⟨r23027, er23027, hm23027⟩ := ob hm; clear hm; revert er23027; intro hm
       refine x_mid (fun aa ww => Fr ⟨118, []⟩ aa [(0, .pointer (some ⟨bo0, 0, none⟩)), (1, .slice p1 (fates).length c1), (5, .pointer (some ⟨b3, 0, none⟩)), (7, .int .i64 (s20946.2))] ∧ St w0 ww (O_triremeref01_Disk bo0 d :: HP.blk b3 ([.slice p84 (r23027).length c84, .slice none (([] : List T_triremeref01_Write)).length 0, .int .i64 (-1), .bool false]) 67 :: HP.ow R_triremeref01_Write 104 none 0 ([] : List T_triremeref01_Write) :: HP.sl (rInt .i64) p1 c1 fates :: HP.own 33 1 (.slice p84 (r23027).length c84) (r23027).length (css84).flatten :: HP.os 5 css84 r23027 noh :: l)) ?_ ?_
       · skip
         refine bl (sr (bk [0] F H rfl trivial ?_)); clear F; intro a F
         replace H := H.nf 6 rfl
         refine nl (sq (sr (bk [0, 0, 0, 0] F H rfl ⟨⟨_, Tryd.underlying23⟩, trivial⟩ ?_))); clear F; intro a F
         refine nl ?_
         obtain ⟨r23032, er23032, hm23032⟩ := ob hm; clear hm; revert er23032; intro hm
         refine x_mid (fun aa ww => Fr ⟨118, []⟩ aa [(0, .pointer (some ⟨bo0, 0, none⟩)), (1, .slice p1 (fates).length c1), (5, .pointer (some ⟨b3, 0, none⟩)), (7, .int .i64 (s20946.2)), (8, .int .i64 (r23032))] ∧ St w0 ww (O_triremeref01_Disk bo0 d :: HP.blk b3 ([.slice p84 (s20946.1).length c84, .slice none (([] : List T_triremeref01_Write)).length 0, .int .i64 (-1), .bool false]) 67 :: HP.ow R_triremeref01_Write 104 none 0 ([] : List T_triremeref01_Write) :: HP.sl (rInt .i64) p1 c1 fates :: HP.own 33 1 (.slice p84 (s20946.1).length c84) (s20946.1).length (css84).flatten :: HP.os 5 css84 s20946.1 noh :: l)) ?_ ?_
         · skip
           refine cP F rfl (fun hg23033 => ?_) (fun hg23033 => ?_)
           · replace hm := ifT hg23033 hm
             refine rl (bk [0, 0] F H rfl trivial ?_); clear F; intro a F
             obtain ⟨x23034, ex23034, hm⟩ := ob hm
             obtain ⟨b23035, o23035, hp23035⟩ := H.slP 3 rfl (idxO_some ex23034).2
             obtain ⟨cs23036, hcl23036, H⟩ := H.slEl 3 rfl hp23035 (idxO_some ex23034).2
             obtain rfl := H.rcI 1 rfl
             replace H := H.dp 1 rfl
             clear hcl23036
             refine s_val wkP F rfl rfl rfl rfl (y_idxS F elem23 rfl rfl rfl hp23035 ex23034) ?_; clear F; intro a F
             refine bk [0, 0] F H rfl ⟨rfl, plain3, trivial⟩ ?_; clear F; intro a F
             refine lz ?_
             cases hm
             refine ct ?_
             exact ⟨F.sl rfl, (H.pm 7 [1, 2, 3, 4, 5, 6] rfl:)⟩
           · replace hm := ifF hg23033 hm
             refine sk ?_
             cases hm
             refine ct ?_
             exact ⟨F.sl rfl, H⟩
         · skip
           clear F H hm
           rintro a w ⟨F, H⟩; have hm := hm23032; clear hm23032
           refine ct (sr (bk [0] F H rfl trivial ?_)); clear F; intro a F
           obtain ⟨x23037, ex23037, hm⟩ := ob hm
           refine sc wkP F rfl ent49 (w_m_triremeref01_floor ex23037 H:) ?_; clear F H; rintro _ w a ⟨rfl, H⟩ F
           refine bk (List.replicate 5 0) F H rfl trivial ?_; clear F; intro a F
           replace H := H.nf 6 rfl
           refine nl (sr (bk [0] F H rfl trivial ?_)); clear F; intro a F
           obtain ⟨x23038, ex23038, hm⟩ := ob hm
           refine sc wkP F rfl ent49 (w_m_triremeref01_floor ex23038 H:) ?_; clear F H; rintro _ w a ⟨rfl, H⟩ F
           refine bk (List.replicate 5 0) F H rfl trivial ?_; clear F; intro a F
           replace H := H.nf 6 rfl
           refine nl (sr (bk [0, 0, 1] F H rfl ⟨fld67_1, trivial⟩ ?_)); clear F; intro a F
           obtain ⟨p23039, c23040, p23041, c23042, H⟩ := O_triremeref01_Disk_o (H.pk 0 rfl)
           refine bk [1, 0] F H rfl ⟨rfl, plain65, trivial⟩ ?_; clear F; intro a F
           obtain ⟨x23043, ex23043, hm⟩ := ob hm
           obtain ⟨b23044, hp23044⟩ := H.owP 2 rfl (idxO_some ex23043).2
           obtain ⟨css23045, H⟩ := H.oxOpen 2 rfl
           obtain ⟨cs23045, hcs23045, hcl23045, H⟩ := H.oxEl 2 rfl (idxO_some ex23043).2
           refine s_val wkP F rfl rfl rfl rfl (y_idxS F elem65 rfl rfl rfl hp23044 ex23043) ?_; clear F; intro a F
           refine s_val wkP F rfl rfl rfl rfl (y_loadA F agg104 rfl rfl (H.oxRow 3 rfl hp23044 hcs23045 hcl23045) (H.rcLen 0 rfl)) ?_; clear F; intro a F
           replace H := H.owNil rByte 5
           refine s_allocA wkP F rfl rfl rfl agz104 rfl H ?_; clear F H; intro b23046 w a H F
           refine s_storeA wkP F rfl rfl agg104 rfl rfl rfl H 0 rfl (H.rcLen 2 rfl) (by simp only [List.length_append, List.length_cons, List.length_nil, icells_length, bcells_length]) (H.rcFlat 2 rfl) ?_; clear H; intro w H
           replace H := H.nf 11 rfl
           refine nl ?_
           replace H := H.oxShut 5 rfl
           refine sr (bk [0] F H rfl trivial ?_); clear F; intro a F
           replace H := H.nf 11 rfl
           refine nl ?_
           replace H := O_triremeref01_Disk_s (H.pm 11 [3, 4, 5, 0, 1, 2, 6, 7, 8, 9, 10] rfl:)
           obtain ⟨r24074, er24074, hm24074⟩ := ob hm; clear hm; revert er24074; intro hm
           refine x_mid (fun aa ww => ∃ (cs24075 : List Value), Fr ⟨118, []⟩ aa [(0, .pointer (some ⟨bo0, 0, none⟩)), (1, .slice p1 (fates).length c1), (5, .pointer (some ⟨b3, 0, none⟩)), (7, .int .i64 (s20946.2))] ∧ St w0 ww (O_triremeref01_Disk bo0 d :: HP.blk b23046 (cs24075) 104 :: HP.ow rByte 5 none 0 ([] : List UInt8) :: HP.blk b3 ([.slice p84 (r24074.2).length c84, .slice none (([] : List T_triremeref01_Write)).length 0, .int .i64 (-1), .bool false]) 67 :: HP.ow R_triremeref01_Write 104 none 0 ([] : List T_triremeref01_Write) :: HP.sl (rInt .i64) p1 c1 fates :: HP.own 33 1 (.slice p84 (r24074.2).length c84) (r24074.2).length (css84).flatten :: HP.os 5 css84 r24074.2 noh :: HP.rc R_triremeref01_Write cs24075 r24074.1 :: l)) ?_ ?_
           · skip
             refine bl ?_
             refine x_loopO _ (fun (s24760 : T_triremeref01_Write × (List (List UInt8)) × Int) aa ww => ∃ (cs24761 : List Value), Fr ⟨118, []⟩ aa [(0, .pointer (some ⟨bo0, 0, none⟩)), (1, .slice p1 (fates).length c1), (5, .pointer (some ⟨b3, 0, none⟩)), (7, .int .i64 (s20946.2)), (10, .int .i64 (x23037.2)), (12, .int .i64 (x23038.2)), (13, .pointer (some ⟨b23046, 0, none⟩)), (14, .int .i64 (s24760.2.2))] ∧ St w0 ww (O_triremeref01_Disk bo0 d :: HP.blk b23046 (cs24761) 104 :: HP.ow rByte 5 none 0 ([] : List UInt8) :: HP.blk b3 ([.slice p84 (s24760.2.1).length c84, .slice none (([] : List T_triremeref01_Write)).length 0, .int .i64 (-1), .bool false]) 67 :: HP.ow R_triremeref01_Write 104 none 0 ([] : List T_triremeref01_Write) :: HP.sl (rInt .i64) p1 c1 fates :: HP.own 33 1 (.slice p84 (s24760.2.1).length c84) (s24760.2.1).length (css84).flatten :: HP.os 5 css84 s24760.2.1 noh :: HP.rc R_triremeref01_Write cs24761 s24760.1 :: l)) hm ⟨cs23045, F.sl rfl, (H.pm 9 [0, 1, 2, 4, 5, 6, 7, 8, 3] rfl:)⟩ ?_
             clear F H hm
             rintro s24760 a w o ⟨cs24761, F, H⟩ hm
             refine sq (sr (bk [0, 0] F H rfl trivial ?_)); clear F; intro a F
             refine nl (cP F rfl (fun hg24762 => ?_) (fun hg24762 => ?_))
             · replace hm := ifT hg24762 hm
               refine sk (ct (sq ?_))
               obtain ⟨r24932, er24932, hm24932⟩ := ob hm; clear hm; revert er24932; intro hm
               refine x_mid (fun aa ww => ∃ (cs24933 : List Value), Fr ⟨118, []⟩ aa [(0, .pointer (some ⟨bo0, 0, none⟩)), (1, .slice p1 (fates).length c1), (5, .pointer (some ⟨b3, 0, none⟩)), (7, .int .i64 (s20946.2)), (10, .int .i64 (x23037.2)), (12, .int .i64 (x23038.2)), (13, .pointer (some ⟨b23046, 0, none⟩)), (14, .int .i64 (s24760.2.2))] ∧ St w0 ww (O_triremeref01_Disk bo0 d :: HP.blk b23046 (cs24933) 104 :: HP.ow rByte 5 none 0 ([] : List UInt8) :: HP.blk b3 ([.slice p84 (r24932.2).length c84, .slice none (([] : List T_triremeref01_Write)).length 0, .int .i64 (-1), .bool false]) 67 :: HP.ow R_triremeref01_Write 104 none 0 ([] : List T_triremeref01_Write) :: HP.sl (rInt .i64) p1 c1 fates :: HP.own 33 1 (.slice p84 (r24932.2).length c84) (r24932.2).length (css84).flatten :: HP.os 5 css84 r24932.2 noh :: HP.rc R_triremeref01_Write cs24933 r24932.1 :: l)) ?_ ?_
               · skip
                 refine bl (sr (bk [0, 0, 0] F H rfl trivial ?_)); clear F; intro a F
                 by_cases hg24934 : x23037.2 = 1
                 · replace hm := ifT hg24934 hm
                   replace F := F.bT 84 hg24934 rfl
                   refine bk (List.replicate 17 0) F H rfl trivial ?_; clear F; intro a F
                   refine nl (cT F rfl ?_)
                   replace H := rc_triremeref01_Write (H.pk 8 rfl); obtain ⟨p24948, c24949, rfl, H⟩ := H
                   obtain ⟨x24950, ex24950, hm⟩ := ob hm
                   obtain ⟨b24951, hp24951⟩ := H.ooP 7 rfl (Nat.lt_of_le_of_lt (Nat.zero_le _) (List.getElem?_eq_some_iff.1 (idxO_some ex24950).2).1)
                   obtain ⟨p24953, c24953, hc24953, H⟩ := (H.mv 8 rfl).osTake (idxO_some ex24950).2
                   obtain ⟨x24954, ex24954, hm⟩ := ob hm
                   obtain ⟨b24955, o24955, hp24955⟩ := H.slP 2 rfl (idxO_some ex24954).2
                   obtain ⟨cs24956, hcl24956, H⟩ := H.slEl 2 rfl hp24955 (idxO_some ex24954).2
                   obtain rfl := H.rcB 1 rfl
                   replace H := H.dp 1 rfl
                   clear hcl24956
                   obtain ⟨x24957, ex24957, hm⟩ := ob hm
                   obtain ⟨b24958, hp24958⟩ := H.owP 1 rfl (idxO_some ex24957).2
                   refine mix_region [15] [15] (.step 0 0 (.step 0 1 (.step 0 2 (.step 1 3 (.step 0 4 (.step 1 5 (.step 0 6 (.step 1 7 (.step 0 8 (.step 0 9 (.step 1 10 (.step 0 11 (.step 0 12 (.step 1 13 (.step 0 14 (.step 3 15 .done)))))))))))))))) (fun u => ∃ ls, St w0 u (ls)) (by kernel_rfl) (by kernel_rfl) ⟨_, H.drew⟩ ?_
                   replace H := H.drew
                   generalize w.drew = w at H ⊢
                   refine mbk [0, 0, 0, 7000, 0, 5000] F H rfl ⟨fld67_0, rfl, plain22, fld104_0, rfl, plain3, trivial⟩ ?_; clear F; intro a F
                   refine m_pure F rfl rfl rfl rfl (fun u hu => y_idxS F elem22 rfl rfl rfl hp24951 ex24950) ?_; clear F; intro a F
                   refine m_read F rfl rfl rfl rfl (y_load1 F plain33 rfl rfl (H.ooCell 10 2 rfl rfl hp24951 hc24953)) ?_; clear F; intro a F
                   refine mbk [0, 1, 5001, 0] F H rfl ⟨fld104_1, rfl, plain33, trivial⟩ ?_; clear F; intro a F
                   refine m_pure F rfl rfl rfl rfl (fun u hu => y_idxS F elem33 rfl rfl rfl hp24955 ex24954) ?_; clear F; intro a F
                   refine mbk [0] F H rfl ⟨rfl, plain5, trivial⟩ ?_; clear F; intro a F
                   refine m_pure F rfl rfl rfl rfl (fun u hu => y_idxS F elem33 rfl rfl rfl hp24958 ex24957) ?_; clear F; intro a F
                   refine m_last rfl rfl ?_
                   obtain ⟨x24960, ex24960, hm⟩ := ob hm
                   refine s_owSet1 wkP F rfl rfl zero5 rfl rfl rfl rfl rfl rfl H 1 rfl hp24958 ex24957 (zz := x24960) (fun gg => (congrArg (fun z => [Value.int .u8 z]) (u8O_some ex24960).symm)) ?_; clear H; intro w H
                   replace H : St w0 w (HP.row b24955 (o24955 + (s24760.2.2 : Int).toNat * 1) ([.int .u8 (((x24954).toNat : Int))]) :: HP.ow rByte 5 p24953 c24953 ((x24950).set (s24760.2.2 : Int).toNat x24960) :: HP.os 5 css84 s24760.2.1 (ath (s24760.1.1 : Int).toNat) :: HP.sl rByte p24948 c24949 s24760.1.2 :: O_triremeref01_Disk bo0 d :: HP.blk b23046 ([.int .i64 (s24760.1.1), .slice p24948 (s24760.1.2).length c24949]) 104 :: HP.ow rByte 5 none 0 ([] : List UInt8) :: HP.blk b3 ([.slice p84 (s24760.2.1).length c84, .slice none (([] : List T_triremeref01_Write)).length 0, .int .i64 (-1), .bool false]) 67 :: HP.ow R_triremeref01_Write 104 none 0 ([] : List T_triremeref01_Write) :: HP.sl (rInt .i64) p1 c1 fates :: HP.own 33 1 (.slice p84 (s24760.2.1).length c84) (s24760.2.1).length (css84).flatten :: l) := (by have h := H; first | exact h | (simp only [List.length_set] at h ⊢; exact h))
                   replace F := F.bool (k := 109) (u := .slice p24953 ((x24950).set (s24760.2.2 : Int).toNat x24960).length c24953) rfl (by simp only [List.length_set])
                   refine lz ?_; refine ct ?_
                   refine m_nil ?_
                   refine bn ?_
                   replace H : St w0 w (HP.os 5 css84 ((s24760.2.1).set (s24760.1.1 : Int).toNat ((x24950).set (s24760.2.2 : Int).toNat x24960)) noh :: HP.row b24955 (o24955 + (s24760.2.2 : Int).toNat * 1) ([.int .u8 (((x24954).toNat : Int))]) :: HP.sl rByte p24948 c24949 s24760.1.2 :: O_triremeref01_Disk bo0 d :: HP.blk b23046 ([.int .i64 (s24760.1.1), .slice p24948 (s24760.1.2).length c24949]) 104 :: HP.ow rByte 5 none 0 ([] : List UInt8) :: HP.blk b3 ([.slice p84 ((s24760.2.1).set (s24760.1.1 : Int).toNat ((x24950).set (s24760.2.2 : Int).toNat x24960)).length c84, .slice none (([] : List T_triremeref01_Write)).length 0, .int .i64 (-1), .bool false]) 67 :: HP.ow R_triremeref01_Write 104 none 0 ([] : List T_triremeref01_Write) :: HP.sl (rInt .i64) p1 c1 fates :: HP.own 33 1 (.slice p84 ((s24760.2.1).set (s24760.1.1 : Int).toNat ((x24950).set (s24760.2.2 : Int).toNat x24960)).length c84) ((s24760.2.1).set (s24760.1.1 : Int).toNat ((x24950).set (s24760.2.2 : Int).toNat x24960)).length (css84).flatten :: l) := (by have h := ((H.pm 11 [1, 2, 0, 3, 4, 5, 6, 7, 8, 9, 10] rfl:)).osPut (by rw [((List.length_set ..).trans rfl)]; exact hc24953); simp only [List.length_set] at h ⊢; exact h)
                   replace F := F.bool (k := 105) (u := .slice p84 ((s24760.2.1).set (s24760.1.1 : Int).toNat ((x24950).set (s24760.2.2 : Int).toNat x24960)).length c84) rfl (by simp only [List.length_set])
                   cases hm
                   refine ct ?_
                   replace H := H.mkRc (R := R_triremeref01_Write) (cs := [.int .i64 (s24760.1.1), .slice p24948 (s24760.1.2).length c24949]) (x := (s24760.1.1, s24760.1.2)) (fun gg => ⟨_, _, rfl, rfl, ⟨_, _, rfl, (gg 2 _ rfl).choose_spec⟩⟩)
                   exact ⟨[.int .i64 (s24760.1.1), .slice p24948 (s24760.1.2).length c24949], F.sl rfl, (H.pm 11 [4, 5, 6, 7, 8, 9, 10, 1, 0] rfl:)⟩
                 · replace hm := ifF hg24934 hm
                   replace F := F.bF 84 hg24934 rfl
                   refine bk [0, 0, 0] F H rfl trivial ?_; clear F; intro a F
                   by_cases hg24961 : x23037.2 = 2
                   · replace hm := ifT hg24961 hm
                     replace F := F.bT 87 hg24961 rfl
                     refine bk (List.replicate 6 0) F H rfl trivial ?_; clear F; intro a F
                     by_cases hg24962 : s24760.2.2 < x23038.2
                     · replace hm := ifT hg24962 hm
                       replace F := F.bT 93 hg24962 rfl
                       refine bk (List.replicate 8 0) F H rfl trivial ?_; clear F; intro a F
                       refine nl (cT F rfl ?_)
                       replace H := rc_triremeref01_Write (H.pk 8 rfl); obtain ⟨p24976, c24977, rfl, H⟩ := H
                       obtain ⟨x24978, ex24978, hm⟩ := ob hm
                       obtain ⟨b24979, hp24979⟩ := H.ooP 7 rfl (Nat.lt_of_le_of_lt (Nat.zero_le _) (List.getElem?_eq_some_iff.1 (idxO_some ex24978).2).1)
                       obtain ⟨p24981, c24981, hc24981, H⟩ := (H.mv 8 rfl).osTake (idxO_some ex24978).2
                       obtain ⟨x24982, ex24982, hm⟩ := ob hm
                       obtain ⟨b24983, o24983, hp24983⟩ := H.slP 2 rfl (idxO_some ex24982).2
                       obtain ⟨cs24984, hcl24984, H⟩ := H.slEl 2 rfl hp24983 (idxO_some ex24982).2
                       obtain rfl := H.rcB 1 rfl
                       replace H := H.dp 1 rfl
                       clear hcl24984
                       obtain ⟨x24985, ex24985, hm⟩ := ob hm
                       obtain ⟨b24986, hp24986⟩ := H.owP 1 rfl (idxO_some ex24985).2
                       refine mix_region [15] [15] (.step 0 0 (.step 0 1 (.step 0 2 (.step 1 3 (.step 0 4 (.step 1 5 (.step 0 6 (.step 1 7 (.step 0 8 (.step 0 9 (.step 1 10 (.step 0 11 (.step 0 12 (.step 1 13 (.step 0 14 (.step 3 15 .done)))))))))))))))) (fun u => ∃ ls, St w0 u (ls)) (by kernel_rfl) (by kernel_rfl) ⟨_, H.drew⟩ ?_
                       replace H := H.drew
                       generalize w.drew = w at H ⊢
                       refine mbk [0, 0, 0, 7000, 0, 5000] F H rfl ⟨fld67_0, rfl, plain22, fld104_0, rfl, plain3, trivial⟩ ?_; clear F; intro a F
                       refine m_pure F rfl rfl rfl rfl (fun u hu => y_idxS F elem22 rfl rfl rfl hp24979 ex24978) ?_; clear F; intro a F
                       refine m_read F rfl rfl rfl rfl (y_load1 F plain33 rfl rfl (H.ooCell 10 2 rfl rfl hp24979 hc24981)) ?_; clear F; intro a F
                       refine mbk [0, 1, 5001, 0] F H rfl ⟨fld104_1, rfl, plain33, trivial⟩ ?_; clear F; intro a F
                       refine m_pure F rfl rfl rfl rfl (fun u hu => y_idxS F elem33 rfl rfl rfl hp24983 ex24982) ?_; clear F; intro a F
                       refine mbk [0] F H rfl ⟨rfl, plain5, trivial⟩ ?_; clear F; intro a F
                       refine m_pure F rfl rfl rfl rfl (fun u hu => y_idxS F elem33 rfl rfl rfl hp24986 ex24985) ?_; clear F; intro a F
                       refine m_last rfl rfl ?_
                       obtain ⟨x24988, ex24988, hm⟩ := ob hm
                       refine s_owSet1 wkP F rfl rfl zero5 rfl rfl rfl rfl rfl rfl H 1 rfl hp24986 ex24985 (zz := x24988) (fun gg => (congrArg (fun z => [Value.int .u8 z]) (u8O_some ex24988).symm)) ?_; clear H; intro w H
                       replace H : St w0 w (HP.row b24983 (o24983 + (s24760.2.2 : Int).toNat * 1) ([.int .u8 (((x24982).toNat : Int))]) :: HP.ow rByte 5 p24981 c24981 ((x24978).set (s24760.2.2 : Int).toNat x24988) :: HP.os 5 css84 s24760.2.1 (ath (s24760.1.1 : Int).toNat) :: HP.sl rByte p24976 c24977 s24760.1.2 :: O_triremeref01_Disk bo0 d :: HP.blk b23046 ([.int .i64 (s24760.1.1), .slice p24976 (s24760.1.2).length c24977]) 104 :: HP.ow rByte 5 none 0 ([] : List UInt8) :: HP.blk b3 ([.slice p84 (s24760.2.1).length c84, .slice none (([] : List T_triremeref01_Write)).length 0, .int .i64 (-1), .bool false]) 67 :: HP.ow R_triremeref01_Write 104 none 0 ([] : List T_triremeref01_Write) :: HP.sl (rInt .i64) p1 c1 fates :: HP.own 33 1 (.slice p84 (s24760.2.1).length c84) (s24760.2.1).length (css84).flatten :: l) := (by have h := H; first | exact h | (simp only [List.length_set] at h ⊢; exact h))
                       replace F := F.bool (k := 109) (u := .slice p24981 ((x24978).set (s24760.2.2 : Int).toNat x24988).length c24981) rfl (by simp only [List.length_set])
                       refine lz ?_; refine ct ?_
                       refine m_nil ?_
                       refine bn ?_
                       replace H : St w0 w (HP.os 5 css84 ((s24760.2.1).set (s24760.1.1 : Int).toNat ((x24978).set (s24760.2.2 : Int).toNat x24988)) noh :: HP.row b24983 (o24983 + (s24760.2.2 : Int).toNat * 1) ([.int .u8 (((x24982).toNat : Int))]) :: HP.sl rByte p24976 c24977 s24760.1.2 :: O_triremeref01_Disk bo0 d :: HP.blk b23046 ([.int .i64 (s24760.1.1), .slice p24976 (s24760.1.2).length c24977]) 104 :: HP.ow rByte 5 none 0 ([] : List UInt8) :: HP.blk b3 ([.slice p84 ((s24760.2.1).set (s24760.1.1 : Int).toNat ((x24978).set (s24760.2.2 : Int).toNat x24988)).length c84, .slice none (([] : List T_triremeref01_Write)).length 0, .int .i64 (-1), .bool false]) 67 :: HP.ow R_triremeref01_Write 104 none 0 ([] : List T_triremeref01_Write) :: HP.sl (rInt .i64) p1 c1 fates :: HP.own 33 1 (.slice p84 ((s24760.2.1).set (s24760.1.1 : Int).toNat ((x24978).set (s24760.2.2 : Int).toNat x24988)).length c84) ((s24760.2.1).set (s24760.1.1 : Int).toNat ((x24978).set (s24760.2.2 : Int).toNat x24988)).length (css84).flatten :: l) := (by have h := ((H.pm 11 [1, 2, 0, 3, 4, 5, 6, 7, 8, 9, 10] rfl:)).osPut (by rw [((List.length_set ..).trans rfl)]; exact hc24981); simp only [List.length_set] at h ⊢; exact h)
                       replace F := F.bool (k := 105) (u := .slice p84 ((s24760.2.1).set (s24760.1.1 : Int).toNat ((x24978).set (s24760.2.2 : Int).toNat x24988)).length c84) rfl (by simp only [List.length_set])
                       cases hm
                       refine ct ?_
                       replace H := H.mkRc (R := R_triremeref01_Write) (cs := [.int .i64 (s24760.1.1), .slice p24976 (s24760.1.2).length c24977]) (x := (s24760.1.1, s24760.1.2)) (fun gg => ⟨_, _, rfl, rfl, ⟨_, _, rfl, (gg 2 _ rfl).choose_spec⟩⟩)
                       exact ⟨[.int .i64 (s24760.1.1), .slice p24976 (s24760.1.2).length c24977], F.sl rfl, (H.pm 11 [4, 5, 6, 7, 8, 9, 10, 1, 0] rfl:)⟩
                     · replace hm := ifF hg24962 hm
                       replace F := F.bF 93 hg24962 rfl
                       refine bk [0, 0, 0] F H rfl trivial ?_; clear F; intro a F
                       by_cases hg24989 : x23037.2 = 3
                       · replace hm := ifT hg24989 hm
                         replace F := F.bT 96 hg24989 rfl
                         refine bk (List.replicate 5 0) F H rfl trivial ?_; clear F; intro a F
                         refine nl ?_
                         obtain ⟨r25017, er25017, hm25017⟩ := ob hm; clear hm; revert er25017; intro hm
                         refine x_mid (fun aa ww => ∃ (cs25018 : List Value), Fr ⟨118, []⟩ aa [(0, .pointer (some ⟨bo0, 0, none⟩)), (1, .slice p1 (fates).length c1), (5, .pointer (some ⟨b3, 0, none⟩)), (7, .int .i64 (s20946.2)), (10, .int .i64 (x23037.2)), (12, .int .i64 (x23038.2)), (13, .pointer (some ⟨b23046, 0, none⟩)), (14, .int .i64 (s24760.2.2))] ∧ St w0 ww (O_triremeref01_Disk bo0 d :: HP.blk b23046 (cs25018) 104 :: HP.ow rByte 5 none 0 ([] : List UInt8) :: HP.blk b3 ([.slice p84 (r25017.2).length c84, .slice none (([] : List T_triremeref01_Write)).length 0, .int .i64 (-1), .bool false]) 67 :: HP.ow R_triremeref01_Write 104 none 0 ([] : List T_triremeref01_Write) :: HP.sl (rInt .i64) p1 c1 fates :: HP.own 33 1 (.slice p84 (r25017.2).length c84) (r25017.2).length (css84).flatten :: HP.os 5 css84 r25017.2 noh :: HP.rc R_triremeref01_Write cs25018 r25017.1 :: l)) ?_ ?_
                         · skip
                           refine cP F rfl (fun hg25019 => ?_) (fun hg25019 => ?_)
                           · replace hm := ifT hg25019 hm
                             replace H := rc_triremeref01_Write (H.pk 8 rfl); obtain ⟨p25033, c25034, rfl, H⟩ := H
                             obtain ⟨x25035, ex25035, hm⟩ := ob hm
                             obtain ⟨b25036, hp25036⟩ := H.ooP 7 rfl (Nat.lt_of_le_of_lt (Nat.zero_le _) (List.getElem?_eq_some_iff.1 (idxO_some ex25035).2).1)
                             obtain ⟨p25038, c25038, hc25038, H⟩ := (H.mv 8 rfl).osTake (idxO_some ex25035).2
                             obtain ⟨x25039, ex25039, hm⟩ := ob hm
                             obtain ⟨b25040, o25040, hp25040⟩ := H.slP 2 rfl (idxO_some ex25039).2
                             obtain ⟨cs25041, hcl25041, H⟩ := H.slEl 2 rfl hp25040 (idxO_some ex25039).2
                             obtain rfl := H.rcB 1 rfl
                             replace H := H.dp 1 rfl
                             clear hcl25041
                             obtain ⟨x25042, ex25042, hm⟩ := ob hm
                             obtain ⟨b25043, hp25043⟩ := H.owP 1 rfl (idxO_some ex25042).2
                             refine mix_region [15] [15] (.step 0 0 (.step 0 1 (.step 0 2 (.step 1 3 (.step 0 4 (.step 1 5 (.step 0 6 (.step 1 7 (.step 0 8 (.step 0 9 (.step 1 10 (.step 0 11 (.step 0 12 (.step 1 13 (.step 0 14 (.step 3 15 .done)))))))))))))))) (fun u => ∃ ls, St w0 u (ls)) (by kernel_rfl) (by kernel_rfl) ⟨_, H.drew⟩ ?_
                             replace H := H.drew
                             generalize w.drew = w at H ⊢
                             refine mbk [0, 0, 0, 7000, 0, 5000] F H rfl ⟨fld67_0, rfl, plain22, fld104_0, rfl, plain3, trivial⟩ ?_; clear F; intro a F
                             refine m_pure F rfl rfl rfl rfl (fun u hu => y_idxS F elem22 rfl rfl rfl hp25036 ex25035) ?_; clear F; intro a F
                             refine m_read F rfl rfl rfl rfl (y_load1 F plain33 rfl rfl (H.ooCell 10 2 rfl rfl hp25036 hc25038)) ?_; clear F; intro a F
                             refine mbk [0, 1, 5001, 0] F H rfl ⟨fld104_1, rfl, plain33, trivial⟩ ?_; clear F; intro a F
                             refine m_pure F rfl rfl rfl rfl (fun u hu => y_idxS F elem33 rfl rfl rfl hp25040 ex25039) ?_; clear F; intro a F
                             refine mbk [0] F H rfl ⟨rfl, plain5, trivial⟩ ?_; clear F; intro a F
                             refine m_pure F rfl rfl rfl rfl (fun u hu => y_idxS F elem33 rfl rfl rfl hp25043 ex25042) ?_; clear F; intro a F
                             refine m_last rfl rfl ?_
                             obtain ⟨x25045, ex25045, hm⟩ := ob hm
                             refine s_owSet1 wkP F rfl rfl zero5 rfl rfl rfl rfl rfl rfl H 1 rfl hp25043 ex25042 (zz := x25045) (fun gg => (congrArg (fun z => [Value.int .u8 z]) (u8O_some ex25045).symm)) ?_; clear H; intro w H
                             replace H : St w0 w (HP.row b25040 (o25040 + (s24760.2.2 : Int).toNat * 1) ([.int .u8 (((x25039).toNat : Int))]) :: HP.ow rByte 5 p25038 c25038 ((x25035).set (s24760.2.2 : Int).toNat x25045) :: HP.os 5 css84 s24760.2.1 (ath (s24760.1.1 : Int).toNat) :: HP.sl rByte p25033 c25034 s24760.1.2 :: O_triremeref01_Disk bo0 d :: HP.blk b23046 ([.int .i64 (s24760.1.1), .slice p25033 (s24760.1.2).length c25034]) 104 :: HP.ow rByte 5 none 0 ([] : List UInt8) :: HP.blk b3 ([.slice p84 (s24760.2.1).length c84, .slice none (([] : List T_triremeref01_Write)).length 0, .int .i64 (-1), .bool false]) 67 :: HP.ow R_triremeref01_Write 104 none 0 ([] : List T_triremeref01_Write) :: HP.sl (rInt .i64) p1 c1 fates :: HP.own 33 1 (.slice p84 (s24760.2.1).length c84) (s24760.2.1).length (css84).flatten :: l) := (by have h := H; first | exact h | (simp only [List.length_set] at h ⊢; exact h))
                             replace F := F.bool (k := 109) (u := .slice p25038 ((x25035).set (s24760.2.2 : Int).toNat x25045).length c25038) rfl (by simp only [List.length_set])
                             refine lz ?_; refine ct ?_
                             refine m_nil ?_
                             replace H : St w0 w (HP.os 5 css84 ((s24760.2.1).set (s24760.1.1 : Int).toNat ((x25035).set (s24760.2.2 : Int).toNat x25045)) noh :: HP.row b25040 (o25040 + (s24760.2.2 : Int).toNat * 1) ([.int .u8 (((x25039).toNat : Int))]) :: HP.sl rByte p25033 c25034 s24760.1.2 :: O_triremeref01_Disk bo0 d :: HP.blk b23046 ([.int .i64 (s24760.1.1), .slice p25033 (s24760.1.2).length c25034]) 104 :: HP.ow rByte 5 none 0 ([] : List UInt8) :: HP.blk b3 ([.slice p84 ((s24760.2.1).set (s24760.1.1 : Int).toNat ((x25035).set (s24760.2.2 : Int).toNat x25045)).length c84, .slice none (([] : List T_triremeref01_Write)).length 0, .int .i64 (-1), .bool false]) 67 :: HP.ow R_triremeref01_Write 104 none 0 ([] : List T_triremeref01_Write) :: HP.sl (rInt .i64) p1 c1 fates :: HP.own 33 1 (.slice p84 ((s24760.2.1).set (s24760.1.1 : Int).toNat ((x25035).set (s24760.2.2 : Int).toNat x25045)).length c84) ((s24760.2.1).set (s24760.1.1 : Int).toNat ((x25035).set (s24760.2.2 : Int).toNat x25045)).length (css84).flatten :: l) := (by have h := ((H.pm 11 [1, 2, 0, 3, 4, 5, 6, 7, 8, 9, 10] rfl:)).osPut (by rw [((List.length_set ..).trans rfl)]; exact hc25038); simp only [List.length_set] at h ⊢; exact h)
                             replace F := F.bool (k := 105) (u := .slice p84 ((s24760.2.1).set (s24760.1.1 : Int).toNat ((x25035).set (s24760.2.2 : Int).toNat x25045)).length c84) rfl (by simp only [List.length_set])
                             cases hm
                             refine ct ?_
                             replace H := H.mkRc (R := R_triremeref01_Write) (cs := [.int .i64 (s24760.1.1), .slice p25033 (s24760.1.2).length c25034]) (x := (s24760.1.1, s24760.1.2)) (fun gg => ⟨_, _, rfl, rfl, ⟨_, _, rfl, (gg 2 _ rfl).choose_spec⟩⟩)
                             exact ⟨[.int .i64 (s24760.1.1), .slice p25033 (s24760.1.2).length c25034], F.sl rfl, (H.pm 11 [4, 5, 6, 7, 8, 9, 10, 1, 0] rfl:)⟩
                           · replace hm := ifF hg25019 hm
                             refine sk ?_
                             cases hm
                             refine ct ?_
                             exact ⟨cs24761, F.sl rfl, H⟩
                         · skip
                           clear F H hm
                           rintro a w ⟨cs25018, F, H⟩; have hm := hm25017; clear hm25017
                           refine bn ?_
                           cases hm
                           refine ct ?_
                           exact ⟨cs25018, F.sl rfl, H⟩
                       · replace hm := ifF hg24989 hm
                         replace F := F.bF 96 hg24989 rfl
                         refine bk (List.replicate 5 0) F H rfl trivial ?_; clear F; intro a F
                         refine nl (cF F rfl ?_)
                         refine sk (bn ?_)
                         cases hm
                         refine ct ?_
                         exact ⟨cs24761, F.sl rfl, H⟩
                   · replace hm := ifF hg24961 hm
                     replace F := F.bF 87 hg24961 rfl
                     refine bk (List.replicate 9 0) F H rfl trivial ?_; clear F; intro a F
                     by_cases hg25046 : x23037.2 = 3
                     · replace hm := ifT hg25046 hm
                       replace F := F.bT 96 hg25046 rfl
                       refine bk (List.replicate 5 0) F H rfl trivial ?_; clear F; intro a F
                       refine nl ?_
                       obtain ⟨r25074, er25074, hm25074⟩ := ob hm; clear hm; revert er25074; intro hm
                       refine x_mid (fun aa ww => ∃ (cs25075 : List Value), Fr ⟨118, []⟩ aa [(0, .pointer (some ⟨bo0, 0, none⟩)), (1, .slice p1 (fates).length c1), (5, .pointer (some ⟨b3, 0, none⟩)), (7, .int .i64 (s20946.2)), (10, .int .i64 (x23037.2)), (12, .int .i64 (x23038.2)), (13, .pointer (some ⟨b23046, 0, none⟩)), (14, .int .i64 (s24760.2.2))] ∧ St w0 ww (O_triremeref01_Disk bo0 d :: HP.blk b23046 (cs25075) 104 :: HP.ow rByte 5 none 0 ([] : List UInt8) :: HP.blk b3 ([.slice p84 (r25074.2).length c84, .slice none (([] : List T_triremeref01_Write)).length 0, .int .i64 (-1), .bool false]) 67 :: HP.ow R_triremeref01_Write 104 none 0 ([] : List T_triremeref01_Write) :: HP.sl (rInt .i64) p1 c1 fates :: HP.own 33 1 (.slice p84 (r25074.2).length c84) (r25074.2).length (css84).flatten :: HP.os 5 css84 r25074.2 noh :: HP.rc R_triremeref01_Write cs25075 r25074.1 :: l)) ?_ ?_
                       · skip
                         refine cP F rfl (fun hg25076 => ?_) (fun hg25076 => ?_)
                         · replace hm := ifT hg25076 hm
                           replace H := rc_triremeref01_Write (H.pk 8 rfl); obtain ⟨p25090, c25091, rfl, H⟩ := H
                           obtain ⟨x25092, ex25092, hm⟩ := ob hm
                           obtain ⟨b25093, hp25093⟩ := H.ooP 7 rfl (Nat.lt_of_le_of_lt (Nat.zero_le _) (List.getElem?_eq_some_iff.1 (idxO_some ex25092).2).1)
                           obtain ⟨p25095, c25095, hc25095, H⟩ := (H.mv 8 rfl).osTake (idxO_some ex25092).2
                           obtain ⟨x25096, ex25096, hm⟩ := ob hm
                           obtain ⟨b25097, o25097, hp25097⟩ := H.slP 2 rfl (idxO_some ex25096).2
                           obtain ⟨cs25098, hcl25098, H⟩ := H.slEl 2 rfl hp25097 (idxO_some ex25096).2
                           obtain rfl := H.rcB 1 rfl
                           replace H := H.dp 1 rfl
                           clear hcl25098
                           obtain ⟨x25099, ex25099, hm⟩ := ob hm
                           obtain ⟨b25100, hp25100⟩ := H.owP 1 rfl (idxO_some ex25099).2
                           refine mix_region [15] [15] (.step 0 0 (.step 0 1 (.step 0 2 (.step 1 3 (.step 0 4 (.step 1 5 (.step 0 6 (.step 1 7 (.step 0 8 (.step 0 9 (.step 1 10 (.step 0 11 (.step 0 12 (.step 1 13 (.step 0 14 (.step 3 15 .done)))))))))))))))) (fun u => ∃ ls, St w0 u (ls)) (by kernel_rfl) (by kernel_rfl) ⟨_, H.drew⟩ ?_
                           replace H := H.drew
                           generalize w.drew = w at H ⊢
                           refine mbk [0, 0, 0, 7000, 0, 5000] F H rfl ⟨fld67_0, rfl, plain22, fld104_0, rfl, plain3, trivial⟩ ?_; clear F; intro a F
                           refine m_pure F rfl rfl rfl rfl (fun u hu => y_idxS F elem22 rfl rfl rfl hp25093 ex25092) ?_; clear F; intro a F
                           refine m_read F rfl rfl rfl rfl (y_load1 F plain33 rfl rfl (H.ooCell 10 2 rfl rfl hp25093 hc25095)) ?_; clear F; intro a F
                           refine mbk [0, 1, 5001, 0] F H rfl ⟨fld104_1, rfl, plain33, trivial⟩ ?_; clear F; intro a F
                           refine m_pure F rfl rfl rfl rfl (fun u hu => y_idxS F elem33 rfl rfl rfl hp25097 ex25096) ?_; clear F; intro a F
                           refine mbk [0] F H rfl ⟨rfl, plain5, trivial⟩ ?_; clear F; intro a F
                           refine m_pure F rfl rfl rfl rfl (fun u hu => y_idxS F elem33 rfl rfl rfl hp25100 ex25099) ?_; clear F; intro a F
                           refine m_last rfl rfl ?_
                           obtain ⟨x25102, ex25102, hm⟩ := ob hm
                           refine s_owSet1 wkP F rfl rfl zero5 rfl rfl rfl rfl rfl rfl H 1 rfl hp25100 ex25099 (zz := x25102) (fun gg => (congrArg (fun z => [Value.int .u8 z]) (u8O_some ex25102).symm)) ?_; clear H; intro w H
                           replace H : St w0 w (HP.row b25097 (o25097 + (s24760.2.2 : Int).toNat * 1) ([.int .u8 (((x25096).toNat : Int))]) :: HP.ow rByte 5 p25095 c25095 ((x25092).set (s24760.2.2 : Int).toNat x25102) :: HP.os 5 css84 s24760.2.1 (ath (s24760.1.1 : Int).toNat) :: HP.sl rByte p25090 c25091 s24760.1.2 :: O_triremeref01_Disk bo0 d :: HP.blk b23046 ([.int .i64 (s24760.1.1), .slice p25090 (s24760.1.2).length c25091]) 104 :: HP.ow rByte 5 none 0 ([] : List UInt8) :: HP.blk b3 ([.slice p84 (s24760.2.1).length c84, .slice none (([] : List T_triremeref01_Write)).length 0, .int .i64 (-1), .bool false]) 67 :: HP.ow R_triremeref01_Write 104 none 0 ([] : List T_triremeref01_Write) :: HP.sl (rInt .i64) p1 c1 fates :: HP.own 33 1 (.slice p84 (s24760.2.1).length c84) (s24760.2.1).length (css84).flatten :: l) := (by have h := H; first | exact h | (simp only [List.length_set] at h ⊢; exact h))
                           replace F := F.bool (k := 109) (u := .slice p25095 ((x25092).set (s24760.2.2 : Int).toNat x25102).length c25095) rfl (by simp only [List.length_set])
                           refine lz ?_; refine ct ?_
                           refine m_nil ?_
                           replace H : St w0 w (HP.os 5 css84 ((s24760.2.1).set (s24760.1.1 : Int).toNat ((x25092).set (s24760.2.2 : Int).toNat x25102)) noh :: HP.row b25097 (o25097 + (s24760.2.2 : Int).toNat * 1) ([.int .u8 (((x25096).toNat : Int))]) :: HP.sl rByte p25090 c25091 s24760.1.2 :: O_triremeref01_Disk bo0 d :: HP.blk b23046 ([.int .i64 (s24760.1.1), .slice p25090 (s24760.1.2).length c25091]) 104 :: HP.ow rByte 5 none 0 ([] : List UInt8) :: HP.blk b3 ([.slice p84 ((s24760.2.1).set (s24760.1.1 : Int).toNat ((x25092).set (s24760.2.2 : Int).toNat x25102)).length c84, .slice none (([] : List T_triremeref01_Write)).length 0, .int .i64 (-1), .bool false]) 67 :: HP.ow R_triremeref01_Write 104 none 0 ([] : List T_triremeref01_Write) :: HP.sl (rInt .i64) p1 c1 fates :: HP.own 33 1 (.slice p84 ((s24760.2.1).set (s24760.1.1 : Int).toNat ((x25092).set (s24760.2.2 : Int).toNat x25102)).length c84) ((s24760.2.1).set (s24760.1.1 : Int).toNat ((x25092).set (s24760.2.2 : Int).toNat x25102)).length (css84).flatten :: l) := (by have h := ((H.pm 11 [1, 2, 0, 3, 4, 5, 6, 7, 8, 9, 10] rfl:)).osPut (by rw [((List.length_set ..).trans rfl)]; exact hc25095); simp only [List.length_set] at h ⊢; exact h)
                           replace F := F.bool (k := 105) (u := .slice p84 ((s24760.2.1).set (s24760.1.1 : Int).toNat ((x25092).set (s24760.2.2 : Int).toNat x25102)).length c84) rfl (by simp only [List.length_set])
                           cases hm
                           refine ct ?_
                           replace H := H.mkRc (R := R_triremeref01_Write) (cs := [.int .i64 (s24760.1.1), .slice p25090 (s24760.1.2).length c25091]) (x := (s24760.1.1, s24760.1.2)) (fun gg => ⟨_, _, rfl, rfl, ⟨_, _, rfl, (gg 2 _ rfl).choose_spec⟩⟩)
                           exact ⟨[.int .i64 (s24760.1.1), .slice p25090 (s24760.1.2).length c25091], F.sl rfl, (H.pm 11 [4, 5, 6, 7, 8, 9, 10, 1, 0] rfl:)⟩
                         · replace hm := ifF hg25076 hm
                           refine sk ?_
                           cases hm
                           refine ct ?_
                           exact ⟨cs24761, F.sl rfl, H⟩
                       · skip
                         clear F H hm
                         rintro a w ⟨cs25075, F, H⟩; have hm := hm25074; clear hm25074
                         refine bn ?_
                         cases hm
                         refine ct ?_
                         exact ⟨cs25075, F.sl rfl, H⟩
                     · replace hm := ifF hg25046 hm
                       replace F := F.bF 96 hg25046 rfl
                       refine bk (List.replicate 5 0) F H rfl trivial ?_; clear F; intro a F
                       refine nl (cF F rfl ?_)
                       refine sk (bn ?_)
                       cases hm
                       refine ct ?_
                       exact ⟨cs24761, F.sl rfl, H⟩
               · skip
                 clear F H hm
                 rintro a w ⟨cs24933, F, H⟩; have hm := hm24932; clear hm24932
                 refine ct (rl (bk [0, 0, 0] F H rfl trivial ?_)); clear F; intro a F
                 refine lz (ct ?_); cases hm
                 exact ⟨_, rfl, ⟨cs24933, F.sl rfl, H⟩⟩
             · replace hm := ifF hg24762 hm
               refine ex (cx (cx ?_)); cases hm; refine ⟨_, rfl, ?_⟩; rintro rfl
               refine ch (ct ?_)
               exact ⟨cs24761, F.sl rfl, H⟩
           · skip
             clear F H hm
             rintro a w ⟨cs24075, F, H⟩; have hm := hm24074; clear hm24074
             refine bn ?_
             cases hm
             refine ct ?_
             exact ⟨F.sl rfl, (H.pm 9 [0, 3, 4, 5, 6, 7] rfl:)⟩
       · skip
         clear F H hm
         rintro a w ⟨F, H⟩; have hm := hm23027; clear hm23027
         refine ct (rl (bk [0, 0, 0] F H rfl trivial ?_)); clear F; intro a F
         replace H := H.nf 6 rfl
         refine lz (ct ?_); cases hm
         exact ⟨_, rfl, ⟨F.sl rfl, (H.pm 6 [1, 2, 0, 3, 4, 5] rfl:)⟩⟩
     · replace hm := ifF hg20951 hm
       refine ex (cx (cx ?_)); cases hm; refine ⟨_, rfl, ?_⟩; rintro rfl
       refine ch ?_
       replace H := O_triremeref01_Disk_s H
       refine ct ?_
       exact ⟨F.sl rfl, (H.pm 6 [1, 2, 0, 4, 5] rfl:)⟩
   · skip
     clear F H hm
     rintro a w ⟨F, H⟩; have hm := hm12633; clear hm12633
     refine ct (sr (bk [0, 0] F H rfl trivial ?_)); clear F; intro a F
     refine nl (wr ?_)
     replace H := (H.mv 4 rfl).osFrz
     replace H := H.owShut 4 0 rfl rfl
     replace H := O_triremeref01_Disk_s (x1 := ([] : List T_triremeref01_Write)) (H.pm 5 [1, 4, 2, 0, 3] rfl:)
     cases hm
     refine x_ret1 F rfl rfl ?_
     exact ⟨_, rfl, b3, rfl, (H.pm 3 [0, 2] rfl:)⟩
set_option maxRecDepth 100000 in
set_option maxHeartbeats 4000000 in
theorem w_rdNew {n : Int}  {w0 w : World} {l : List HP}  {r : T_triremeref01_Disk_o} (hm : rdNew n = some r) (H : St w0 w (l)) :
  Calls Tryd.prog 20 [.int .i64 (n)].toArray w (fun e w' => ∃ v, e = .returned v ∧ ∃ (b1 : Nat), v = .pointer (some ⟨b1, 0, none⟩) ∧ St w0 w' (O_triremeref01_Disk b1 r :: l)) := by
 unfold rdNew at hm
 refine x_enter Tryd.func20 rfl rfl rfl ?_
 intro a F
 refine sr (bk [0] F H rfl trivial ?_); clear F; intro a F
 refine nl (sr ?_)
 replace H := H.owNil (rSl rByte) 33
 replace H := H.owNil R_triremeref01_Write 104
 refine s_val wkP F rfl rfl rfl rfl (y_build F rfl rfl (cs := [.slice none (([] : List (List UInt8))).length 0, .slice none (([] : List T_triremeref01_Write)).length 0, .int .i64 (-1), .bool false]) (by kernel_rfl)) ?_; clear F; intro a F
 refine s_boxA wkP F rfl rfl rfl rfl rfl H ?_; clear F H; intro b2 w a H F
 refine bk [0] F H rfl trivial ?_; clear F; intro a F
 replace H := H.nf 3 rfl
 refine nl (sq (sr (bk [0] F H rfl trivial ?_))); clear F; intro a F
 refine nl ?_
 replace H := O_triremeref01_Disk_s (x0 := ([] : List (List UInt8))) (x1 := ([] : List T_triremeref01_Write)) (H.pm 3 [0, 2, 1] rfl:)
 obtain ⟨r61, er61, hm61⟩ := ob hm; clear hm; revert er61; intro hm
 refine x_mid (fun aa ww => Fr ⟨23, []⟩ aa [(3, .pointer (some ⟨b2, 0, none⟩))] ∧ St w0 ww (O_triremeref01_Disk b2 r61 :: l)) ?_ ?_
 · skip
   refine bl (x_loopO _ (fun (s100 : T_triremeref01_Disk_o × Int) aa ww => Fr ⟨23, []⟩ aa [(0, .int .i64 (n)), (3, .pointer (some ⟨b2, 0, none⟩)), (4, .int .i64 (s100.2))] ∧ St w0 ww (O_triremeref01_Disk b2 s100.1 :: l)) hm ⟨F.sl rfl, H⟩ ?_)
   clear F H hm
   rintro s100 a w o ⟨F, H⟩ hm
   refine sq (sr (bk [0, 0, 0] F H rfl trivial ?_)); clear F; intro a F
   refine nl (cP F rfl (fun hg101 => ?_) (fun hg101 => ?_))
   · replace hm := ifT hg101 hm
     refine sk (ct (sq (bl ?_)))
     obtain ⟨p111, c112, p113, c114, H⟩ := O_triremeref01_Disk_o (H.pk 0 rfl)
     refine mix_region [5, 6, 7, 10] [10] (.step 0 0 (.step 0 1 (.step 0 2 (.step 0 3 (.step 0 4 (.step 2 5 (.step 2 6 (.step 2 7 (.step 0 8 (.step 0 9 (.step 3 10 .done))))))))))) (fun u => ∃ ls, St w0 u (HP.blk b2 ([.slice p111 (s100.1.1).length c112, .slice p113 (s100.1.2.1).length c114, .int .i64 (s100.1.2.2.1), .bool (s100.1.2.2.2)]) 67 :: ls)) (by kernel_rfl) (by kernel_rfl) ⟨_, H.drew⟩ ?_
     replace H := H.drew
     generalize w.drew = w at H ⊢
     refine mbk [0, 0, 0, 0] F H rfl ⟨fld67_0, trivial⟩ ?_; clear F; intro a F
     refine m_pure F rfl rfl rfl rfl (fun u hu => y_load1 F plain22 rfl rfl (row_at (v := .slice p111 (s100.1.1).length c112) ((hu.choose_spec.blk 0 rfl).row) rfl)) ?_; clear F; intro a F
     refine m_heavy rfl rfl ?_
     obtain ⟨x116, ex116, hm⟩ := ob hm
     refine s_mkO (R := rByte) wkP F rfl rfl rfl elem33 rfl rfl rfl rfl rfl rfl (z := (0 : UInt8)) (fun _ => rfl) ex116 H ?_; clear F H; intro b115 w a H F
     refine lz ?_; refine ct ⟨⟨_, (H.pm 4 [1, 0, 2, 3] rfl:)⟩, ?_⟩
     refine m_heavy rfl rfl ?_
     replace H := H.frz 0 rfl
     refine s_buildC wkP F rfl rfl rfl elem22 zero33 rfl rfl rfl rfl (by simp [Value.cells]) (by decide) H ?_; clear F H; intro b117 w a H F
     replace H : St w0 w (HP.ow (rSl rByte) 33 (some ⟨b117, 0, none⟩) (([x116]).length) ([x116]) :: HP.sl rByte (some ⟨b115, 0, none⟩) ((x116).length) x116 :: HP.blk b2 ([.slice p111 (s100.1.1).length c112, .slice p113 (s100.1.2.1).length c114, .int .i64 (s100.1.2.2.1), .bool (s100.1.2.2.2)]) 67 :: HP.ow (rSl rByte) 33 p111 c112 s100.1.1 :: HP.ow R_triremeref01_Write 104 p113 c114 s100.1.2.1 :: l) := H.blkOw (R := (rSl rByte)) 0 rfl (fun gg => ⟨[[.slice (some ⟨b115, 0, none⟩) (x116).length ((x116).length)]], by simp, ⟨_, _, rfl, (gg 1 _ rfl).choose_spec⟩, trivial⟩) (by simp)
     refine lz ?_; refine ct ⟨⟨_, (H.pm 5 [2, 0, 1, 3, 4] rfl:)⟩, ?_⟩
     refine m_heavy rfl rfl ?_
     replace H := H.frz 0 rfl
     obtain ⟨x119, ex119, hm⟩ := ob hm
     refine s_app wkP F rfl rfl rfl rfl rfl rfl elem22 rfl ex119 H 3 0 rfl rfl ?_; clear F H; intro p118 c118 w a H F
     refine lz ?_; refine ct ⟨⟨_, (H.pm 5 [2, 0, 1, 3, 4] rfl:)⟩, ?_⟩
     refine mbk [0, 0] F H rfl ⟨fld67_0, trivial⟩ ?_; clear F; intro a F
     refine m_last rfl rfl ?_
     refine s_st1 wkP F rfl rfl zero22 rfl rfl rfl rfl rfl H 2 rfl rfl ?_; clear H; intro w H
     refine lz ?_; refine ct ?_
     refine m_nil ?_
     refine bn (ct (rl (bk [0, 0, 0] F H rfl trivial ?_))); clear F; intro a F
     replace H := H.nf 5 rfl
     refine lz ?_
     replace H := O_triremeref01_Disk_s (H.pm 5 [2, 3, 4, 0, 1] rfl:)
     refine ct ?_; cases hm
     exact ⟨_, rfl, ⟨F.sl rfl, (H.pm 3 [0] rfl:)⟩⟩
   · replace hm := ifF hg101 hm
     refine ex (cx (cx ?_)); cases hm; refine ⟨_, rfl, ?_⟩; rintro rfl
     refine ch (ct ?_)
     exact ⟨F.sl rfl, H⟩
 · skip
   clear F H hm
   rintro a w ⟨F, H⟩; have hm := hm61; clear hm61
   refine ct (sr (bk [0, 0] F H rfl trivial ?_)); clear F; intro a F
   refine nl (wr ?_)
   cases hm
   refine x_ret1 F rfl rfl ?_
   exact ⟨_, rfl, b2, rfl, H⟩
end Go.Proofs.YtfepdfjhejkemaaDoor
