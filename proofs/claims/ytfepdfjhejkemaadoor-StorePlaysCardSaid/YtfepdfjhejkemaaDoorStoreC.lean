/- a list that comes back -/
import Derived.Test.YtfepdfjhejkemaaDoorRefC
set_option linter.unusedSimpArgs false
set_option linter.unusedVariables false
namespace Go.Proofs.YtfepdfjhejkemaaDoor
open Go.RowKit Go.Tri
set_option maxRecDepth 100000 in
set_option maxHeartbeats 4000000 in
theorem w_stHoldO {s : T_disk_Disk_o × ((List UInt8) → Option Int) × (Int → Option (List UInt8)) × ((List UInt8) → Option Int)} {list : List (List UInt8)} {bo0 : Nat} {bo0_0 : Nat} {p1 : Option Addr} {c1 : Nat} {w0 w : World} {l : List HP}  {r : (T_disk_Disk_o × ((List UInt8) → Option Int) × (Int → Option (List UInt8)) × ((List UInt8) → Option Int)) × (List (List UInt8))} (hm : stHoldO s list = some r) (H : St w0 w (O_store_Store bo0 bo0_0 s.2 :: O_disk_Disk bo0_0 s.1 :: HP.ow (rBytesN 32) 35 p1 c1 list :: l)) :
  Calls Tryd.prog 14 [.pointer (some ⟨bo0, 0, none⟩), .slice p1 (list).length c1].toArray w (fun e w' => ∃ v, e = .returned v ∧ v = .tuple [].toArray ∧ ((r.2).length = (list).length) ∧ St w0 w' (O_store_Store bo0 bo0_0 r.1.2 :: O_disk_Disk bo0_0 r.1.1 :: HP.ow (rBytesN 32) 35 p1 c1 r.2 :: l)) := by
 unfold stHoldO at hm
 refine x_enter Tryd.func14 rfl rfl rfl ?_
 intro a F
 refine sr (bk [0] F H rfl trivial ?_); clear F; intro a F
 refine s_mmNew hv false (rInt .i64) (fun l => l.length = 32) wkP F rfl rfl rfl rfl H ?_; clear F H; intro m3 w a H F
 refine bk [0, 3] F H rfl ⟨fld75_3, trivial⟩ ?_; clear F; intro a F
 obtain ⟨m4, m5, m6, H⟩ := O_store_Store_o (H.pk 1 rfl)
 refine s_st1 wkP F rfl rfl zero72 rfl rfl rfl rfl rfl H 0 rfl rfl ?_; clear H; intro w H
 replace H := H.nf 7 rfl
 refine nl (sr (bk [0, 0, 0] F H rfl ⟨⟨_, Tryd.underlying32⟩, trivial⟩ ?_)); clear F; intro a F
 refine nl ?_
 replace H := O_store_Store_s (H.pm 7 [0, 1, 2, 4, 3, 5, 6] rfl:)
 obtain ⟨r44, er44, hm44⟩ := ob hm; clear hm; revert er44; intro hm
 refine x_mid (fun aa ww => Fr ⟨22, []⟩ aa [] ∧ St w0 ww (O_store_Store bo0 bo0_0 r44 :: HP.mm (some m6) hv false (rInt .i64) (fun l => l.length = 32) s.2.2.2 :: O_disk_Disk bo0_0 s.1 :: HP.ow (rBytesN 32) 35 p1 c1 list :: l)) ?_ ?_
 · skip
   refine bl ?_
   refine x_loopO _ (fun (s69 : T_store_Store_o × Int) aa ww => Fr ⟨22, []⟩ aa [(0, .pointer (some ⟨bo0, 0, none⟩)), (10, .slice p1 (list).length c1), (11, .int .i64 (((list).length : Int))), (12, .int .i64 (s69.2))] ∧ St w0 ww (O_store_Store bo0 bo0_0 s69.1 :: HP.mm (some m6) hv false (rInt .i64) (fun l => l.length = 32) s.2.2.2 :: O_disk_Disk bo0_0 s.1 :: HP.ow (rBytesN 32) 35 p1 c1 list :: l)) hm ⟨F.sl rfl, H⟩ ?_
   clear F H hm
   rintro s69 a w o ⟨F, H⟩ hm
   refine sr (bk [0] F H rfl trivial ?_); clear F; intro a F
   refine nl (sq (cP F rfl (fun hg70 => ?_) (fun hg70 => ?_)))
   · replace hm := ifT hg70 hm
     refine sk (ct (sq (bl (sr ?_))))
     obtain ⟨x71, ex71, hm⟩ := ob hm
     obtain ⟨b72, hp72⟩ := H.owP 3 rfl (idxO_some ex71).2
     obtain ⟨css73, H⟩ := H.oxOpen 3 rfl
     obtain ⟨cs73, hcs73, hcl73, H⟩ := H.oxEl 3 rfl (idxO_some ex71).2
     obtain ⟨rfl, hl74⟩ := H.rcBN 0 rfl
     replace H := H.dp 0 rfl
     refine s_val wkP F rfl rfl rfl rfl (y_idxS F elem32 rfl rfl rfl hp72 ex71) ?_; clear F; intro a F
     refine s_val wkP F rfl rfl rfl rfl (y_loadA F agg35 rfl rfl (H.oxRow 3 rfl hp72 hcs73 hcl73) ((bcells_length _).trans hl74)) ?_; clear F; intro a F
     refine s_allocA wkP F rfl rfl rfl agz35 rfl H ?_; clear F H; intro b75 w a H F
     refine s_storeA wkP F rfl rfl agg35 rfl rfl rfl H 0 rfl ((bcells_length _).trans hl74) ((bcells_length _).trans (List.length_replicate (n := 32))) (bcells_flat _) ?_; clear H; intro w H
     replace H := H.nf 5 rfl
     refine nl ?_
     replace H := H.oxShut 4 rfl
     obtain ⟨m79, m80, m81, H⟩ := O_store_Store_o (H.pk 1 rfl)
     refine mix_region [5] [5] (.step 0 0 (.step 0 1 (.step 0 2 (.step 1 3 (.step 1 4 (.step 3 5 .done)))))) (fun u => ∃ ls, St w0 u (ls)) (by kernel_rfl) (by kernel_rfl) ⟨_, H.drew⟩ ?_
     replace H := H.drew
     generalize w.drew = w at H ⊢
     refine mbk [0, 0, 3, 3, 4999] F H rfl ⟨fld75_3, rfl, plain72, rfl, (aggn agg35 ((bcells_length _).trans hl74)), trivial⟩ ?_; clear F; intro a F
     refine m_last rfl rfl ?_
     refine s_mmSet wkP F rfl rfl Tryd.underlying72 (keyH key35) rfl H 3 rfl rfl (k := x71) rfl (cs := [.int .i64 (1)]) rfl hl74 (v := 1) (fun gg => rfl) ?_; clear H; intro w H
     refine lz ?_; refine ct ?_
     refine m_nil ?_
     refine bn (ct (rl (bk [0, 0] F H rfl trivial ?_))); clear F; intro a F
     replace H := H.nf 8 rfl
     refine lz ?_
     replace H := O_store_Store_s H
     refine ct ?_; cases hm
     exact ⟨_, rfl, ⟨F.sl rfl, (H.pm 5 [0, 2, 3, 4] rfl:)⟩⟩
   · replace hm := ifF hg70 hm
     refine ex (cx (cx ?_)); cases hm; refine ⟨_, rfl, ?_⟩; rintro rfl
     refine ch (ct ?_)
     exact ⟨F.cut _ trivial, H⟩
 · skip
   clear F H hm
   rintro a w ⟨F, H⟩; have hm := hm44; clear hm44
   cases hm
   refine x_end0 F rfl ?_
   exact ⟨_, rfl, rfl, rfl, (H.pm 4 [0, 2, 3] rfl:)⟩
theorem fld58_2 : FieldT Tryd.prog 58 2 2 := by unfold FieldT; rw [Tryd.underlying58]; kernel_rfl
theorem fld58_0 : FieldT Tryd.prog 58 0 0 := by unfold FieldT; rw [Tryd.underlying58]; kernel_rfl
theorem fld58_3 : FieldT Tryd.prog 58 3 3 := by unfold FieldT; rw [Tryd.underlying58]; kernel_rfl
theorem ent51 : ∀ args w, (callFunc 51 args).run Tryd.prog w = .ok (.enter 51 args) w := enters Tryd.func51 (by kernel_rfl) rfl
theorem ent52 : ∀ args w, (callFunc 52 args).run Tryd.prog w = .ok (.enter 52 args) w := enters Tryd.func52 (by kernel_rfl) rfl
theorem ent53 : ∀ args w, (callFunc 53 args).run Tryd.prog w = .ok (.enter 53 args) w := enters Tryd.func53 (by kernel_rfl) rfl
set_option maxRecDepth 100000 in
set_option maxHeartbeats 4000000 in
theorem w_lawStep {s : T_disk_Disk_o × ((List UInt8) → Option Int) × (Int → Option (List UInt8)) × ((List UInt8) → Option Int)} {m : T_triremeref01_Disk_o × (List Bool) × (List (List UInt8)) × (List (List UInt8))} {op : T_triremelaw05_Op} {bo0 : Nat} {bo0_0 : Nat} {bo1 : Nat} {bo1_0 : Nat} {cs1 : List Value} {w0 w : World} {l : List HP}  {r : Bool × (T_disk_Disk_o × ((List UInt8) → Option Int) × (Int → Option (List UInt8)) × ((List UInt8) → Option Int)) × (T_triremeref01_Disk_o × (List Bool) × (List (List UInt8)) × (List (List UInt8)))} (hm : lawStep s m op = some r) (H : St w0 w (HP.row 0 (0) (icells .u32 shaStart) :: HP.row 2 (0) (icells .u32 shaRounds) :: O_store_Store bo0 bo0_0 s.2 :: O_disk_Disk bo0_0 s.1 :: O_triremeref05_Store bo1 bo1_0 m.2 :: O_triremeref01_Disk bo1_0 m.1 :: HP.rc R_triremelaw05_Op cs1 op :: l)) :
  Calls Tryd.prog 26 [.pointer (some ⟨bo0, 0, none⟩), .pointer (some ⟨bo1, 0, none⟩), .agg cs1.toArray].toArray w (fun e w' => ∃ v, e = .returned v ∧ v = .bool (r.1) ∧ St w0 w' (O_store_Store bo0 bo0_0 r.2.1.2 :: O_disk_Disk bo0_0 r.2.1.1 :: O_triremeref05_Store bo1 bo1_0 r.2.2.2 :: O_triremeref01_Disk bo1_0 r.2.2.1 :: l)) := by
 unfold lawStep at hm
 refine x_enter Tryd.func26 rfl rfl rfl ?_
 intro a F
 refine sr (s_boxA wkP F rfl rfl rfl rfl rfl H ?_); clear F H; intro b2 w a H F
 refine bk [0] F H rfl trivial ?_; clear F; intro a F
 replace H := H.nf 8 rfl
 refine nl (sr (bk [2] F H rfl ⟨fld58_2, trivial⟩ ?_)); clear F; intro a F
 replace H := rc_triremelaw05_Op (H.pk 7 rfl); obtain ⟨p3, c4, p5, c6, p7, c8, rfl, H⟩ := H
 refine bk [3002] F H rfl ⟨rfl, plain33, trivial⟩ ?_; clear F; intro a F
 obtain ⟨x9, ex9, hm⟩ := ob hm
 refine sc wkP F rfl ent12 (w_rSum ex9 (H.pm 10 [0, 0, 1, 2, 3, 4, 5, 6, 7, 8, 9] rfl:):) ?_; clear F H; rintro _ w a ⟨rfl, hl10, H⟩ F
 refine s_allocA wkP F rfl rfl rfl agz35 rfl H ?_; clear F H; intro b11 w a H F
 refine s_storeA wkP F rfl rfl agg35 rfl rfl rfl H 0 rfl ((bcells_length _).trans hl10) ((bcells_length _).trans (List.length_replicate (n := 32))) (bcells_flat _) ?_; clear H; intro w H
 replace H := H.nf 11 rfl
 refine nl (sq (sr (bk [0, 4000, 0] F H rfl ⟨fld58_0, rfl, plain3, trivial⟩ ?_))); clear F; intro a F
 refine nl (bl (sr (bk [0, 0] F H rfl trivial ?_))); clear F; intro a F
 refine nl (cP F rfl (fun hg12 => ?_) (fun hg12 => ?_))
 · replace hm := ifT hg12 hm
   refine sr (bk [3, 4003] F H rfl ⟨fld58_3, rfl, plain22, trivial⟩ ?_); clear F; intro a F
   obtain ⟨x13, ex13, hm⟩ := ob hm
   refine sc wkP F rfl ent51 (w_lawDigests ex13 (H.pm 11 [2, 0, 1, 2, 3, 4, 5, 6, 7, 8, 9, 10] rfl:):) ?_; clear F H; rintro _ w a ⟨p14, c14, rfl, H⟩ F
   refine bk [0] F H rfl trivial ?_; clear F; intro a F
   replace H := H.nf 12 rfl
   refine nl (sr (bk [0, 0] F H rfl trivial ?_)); clear F; intro a F
   obtain ⟨x15, ex15, hm⟩ := ob hm
   refine sc wkP F rfl ent14 (w_stHoldO ex15 (H.pm 12 [8, 9, 0, 1, 2, 3, 4, 5, 6, 7, 10, 11] rfl:):) ?_; clear F H; rintro _ w a ⟨rfl, hl16, H⟩ F
   replace F := F.bool (k := 62) (u := .slice p14 (x15.2).length c14) rfl (by rw [hl16])
   replace F := F.bool (k := 8) (u := .slice p14 (x15.2).length c14) rfl (by rw [hl16])
   replace F := F.bool (k := 64) (u := .slice p14 (x15.2).length c14) rfl (by rw [hl16])
   replace H := H.nf 12 rfl
   refine nl (sr (bk [0, 3, 7003] F H rfl ⟨fld58_3, rfl, plain22, trivial⟩ ?_)); clear F; intro a F
   obtain ⟨x17, ex17, hm⟩ := ob hm
   refine sc wkP F rfl ent51 (w_lawDigests ex17 (H.pm 12 [5, 0, 1, 2, 3, 4, 5, 6, 7, 8, 9, 10, 11] rfl:):) ?_; clear F H; rintro _ w a ⟨p18, c18, rfl, H⟩ F
   refine bk [0, 3] F H rfl ⟨fld97_3, trivial⟩ ?_; clear F; intro a F
   obtain ⟨p19, c20, p21, c22, p23, c24, H⟩ := O_triremeref05_Store_o (H.pk 11 rfl)
   refine s_st1 wkP F rfl rfl zero32 rfl rfl rfl rfl rfl H 0 rfl rfl ?_; clear H; intro w H
   replace H := H.nf 16 rfl
   refine nl (sr (bk [0, 0, 0] F H rfl ⟨⟨_, Tryd.underlying32⟩, trivial⟩ ?_)); clear F; intro a F
   refine nl ?_
   replace H := O_triremeref05_Store_s (H.pm 16 [0, 1, 2, 4, 3, 5, 6, 7, 8, 9, 10, 11, 12, 13, 14, 15] rfl:)
   obtain ⟨r44, er44, hm44⟩ := ob hm; clear hm; revert er44; intro hm
   refine x_mid (fun aa ww => Fr ⟨106, []⟩ aa [] ∧ St w0 ww (O_triremeref05_Store bo1 bo1_0 (m.2.1, m.2.2.1, x17) :: HP.ow (rBytesN 32) 35 p23 c24 m.2.2.2 :: O_store_Store bo0 bo0_0 x15.1.2 :: O_disk_Disk bo0_0 x15.1.1 :: HP.blk b11 (bcells x9) 35 :: HP.sl rByte p3 c4 op.2.2.1 :: HP.sl (rSl rByte) p5 c6 op.2.2.2.1 :: HP.sl (rInt .i64) p7 c8 op.2.2.2.2 :: HP.blk b2 ([.int .i64 (op.1), .int .i64 (op.2.1), .slice p3 (op.2.2.1).length c4, .slice p5 (op.2.2.2.1).length c6, .slice p7 (op.2.2.2.2).length c8]) 58 :: HP.row 0 (0) (icells .u32 shaStart) :: HP.row 2 (0) (icells .u32 shaRounds) :: O_triremeref01_Disk bo1_0 m.1 :: l)) ?_ ?_
   · skip
     refine bl ?_
     refine x_loopO _ (fun (s57 : (List (List UInt8)) × Int) aa ww => ∃ (p58 : Option Addr) (c58 : Nat), Fr ⟨106, []⟩ aa [(8, .slice p58 (s57.1).length c58), (73, .int .i64 (((x15.2).length : Int))), (74, .int .i64 (s57.2))] ∧ St w0 ww (O_triremeref05_Store bo1 bo1_0 (m.2.1, m.2.2.1, x17) :: HP.ow (rBytesN 32) 35 p23 c24 m.2.2.2 :: O_store_Store bo0 bo0_0 x15.1.2 :: O_disk_Disk bo0_0 x15.1.1 :: HP.blk b11 (bcells x9) 35 :: HP.sl rByte p3 c4 op.2.2.1 :: HP.sl (rSl rByte) p5 c6 op.2.2.2.1 :: HP.sl (rInt .i64) p7 c8 op.2.2.2.2 :: HP.blk b2 ([.int .i64 (op.1), .int .i64 (op.2.1), .slice p3 (op.2.2.1).length c4, .slice p5 (op.2.2.2.1).length c6, .slice p7 (op.2.2.2.2).length c8]) 58 :: HP.row 0 (0) (icells .u32 shaStart) :: HP.row 2 (0) (icells .u32 shaRounds) :: O_triremeref01_Disk bo1_0 m.1 :: HP.ow (rBytesN 32) 35 p58 c58 s57.1 :: l)) hm ⟨p14, c14, F.sl rfl, (H.pm 13 [0, 1, 2, 3, 5, 6, 7, 8, 9, 10, 11, 12, 4] rfl:)⟩ ?_
     clear F H hm
     rintro s57 a w o ⟨p58, c58, F, H⟩ hm
     refine sr (bk [0] F H rfl trivial ?_); clear F; intro a F
     refine nl (sq (cP F rfl (fun hg59 => ?_) (fun hg59 => ?_)))
     · replace hm := ifT hg59 hm
       refine sk (ct (sq (bl (sr (bk [0, 0] F H rfl trivial ?_))))); clear F; intro a F
       refine nl (rl (bk [0, 0] F H rfl trivial ?_)); clear F; intro a F
       refine s_val wkP F rfl rfl rfl rfl (y_build F rfl rfl (cs := bcells ([9, 0, 0, 0, 0, 0, 0, 0, 0, 0, 0, 0, 0, 0, 0, 0, 0, 0, 0, 0, 0, 0, 0, 0, 0, 0, 0, 0, 0, 0, 0, 0] : List UInt8)) (by kernel_rfl)) ?_; clear F; intro a F
       obtain ⟨x60, ex60, hm⟩ := ob hm
       obtain ⟨b61, hp61⟩ := H.owP 12 rfl (idxO_some ex60).2
       obtain ⟨css62, H⟩ := H.oxOpen 12 rfl
       obtain ⟨cs62, hcs62, hcl62, H⟩ := H.oxEl 12 rfl (idxO_some ex60).2
       obtain ⟨rfl, hl63⟩ := H.rcBN 0 rfl
       replace H := H.dp 0 rfl
       refine s_val wkP F rfl rfl rfl rfl (y_idxS F elem32 rfl rfl rfl hp61 ex60) ?_; clear F; intro a F
       replace H := H.oxShut 12 rfl
       refine s_owSetA wkP F rfl rfl agg35 rfl rfl rfl rfl H 12 rfl hp61 ex60 (zz := ([9, 0, 0, 0, 0, 0, 0, 0, 0, 0, 0, 0, 0, 0, 0, 0, 0, 0, 0, 0, 0, 0, 0, 0, 0, 0, 0, 0, 0, 0, 0, 0] : List UInt8)) (fun gg => ⟨rfl, rfl⟩) (bcells_flat _) ((bcells_length _).trans rfl) ?_; clear H; intro w H
       replace H : St w0 w (O_triremeref05_Store bo1 bo1_0 (m.2.1, m.2.2.1, x17) :: HP.ow (rBytesN 32) 35 p23 c24 m.2.2.2 :: O_store_Store bo0 bo0_0 x15.1.2 :: O_disk_Disk bo0_0 x15.1.1 :: HP.blk b11 (bcells x9) 35 :: HP.sl rByte p3 c4 op.2.2.1 :: HP.sl (rSl rByte) p5 c6 op.2.2.2.1 :: HP.sl (rInt .i64) p7 c8 op.2.2.2.2 :: HP.blk b2 ([.int .i64 (op.1), .int .i64 (op.2.1), .slice p3 (op.2.2.1).length c4, .slice p5 (op.2.2.2.1).length c6, .slice p7 (op.2.2.2.2).length c8]) 58 :: HP.row 0 (0) (icells .u32 shaStart) :: HP.row 2 (0) (icells .u32 shaRounds) :: O_triremeref01_Disk bo1_0 m.1 :: HP.ow (rBytesN 32) 35 p58 c58 ((s57.1).set (s57.2 : Int).toNat ([9, 0, 0, 0, 0, 0, 0, 0, 0, 0, 0, 0, 0, 0, 0, 0, 0, 0, 0, 0, 0, 0, 0, 0, 0, 0, 0, 0, 0, 0, 0, 0] : List UInt8)) :: l) := (by have h := H; first | exact h | (simp only [List.length_set] at h ⊢; exact h))
       replace F := F.bool (k := 8) (u := .slice p58 ((s57.1).set (s57.2 : Int).toNat ([9, 0, 0, 0, 0, 0, 0, 0, 0, 0, 0, 0, 0, 0, 0, 0, 0, 0, 0, 0, 0, 0, 0, 0, 0, 0, 0, 0, 0, 0, 0, 0] : List UInt8)).length c58) rfl (by simp only [List.length_set])
       replace F := F.bool (k := 77) (u := .slice p58 ((s57.1).set (s57.2 : Int).toNat ([9, 0, 0, 0, 0, 0, 0, 0, 0, 0, 0, 0, 0, 0, 0, 0, 0, 0, 0, 0, 0, 0, 0, 0, 0, 0, 0, 0, 0, 0, 0, 0] : List UInt8)).length c58) rfl (by simp only [List.length_set])
       refine lz (bn (ct (rl (bk [0, 0] F H rfl trivial ?_)))); clear F; intro a F
       refine lz (ct ?_); cases hm
       exact ⟨_, rfl, ⟨p58, c58, F.sl rfl, H⟩⟩
     · replace hm := ifF hg59 hm
       refine ex (cx (cx ?_)); cases hm; refine ⟨_, rfl, ?_⟩; rintro rfl
       refine ch (ct ?_)
       exact ⟨F.cut _ trivial, (H.pm 13 [0, 1, 2, 3, 4, 5, 6, 7, 8, 9, 10, 11] rfl:)⟩
   · skip
     clear F H hm
     rintro a w ⟨F, H⟩; have hm := hm44; clear hm44
     refine bn (ct (sr (bk [0] F H rfl trivial ?_))); clear F; intro a F
     refine nl (wr ?_)
     cases hm
     refine x_ret1 F rfl rfl ?_
     exact ⟨_, rfl, rfl, (H.pm 12 [2, 3, 0, 11] rfl:)⟩
 · replace hm := ifF hg12 hm
   refine sr (bk [0, 0] F H rfl trivial ?_); clear F; intro a F
   refine nl (cP F rfl (fun hg64 => ?_) (fun hg64 => ?_))
   · replace hm := ifT hg64 hm
     refine sr (bk [0, 999] F H rfl ⟨rfl, (aggn agg35 ((bcells_length _).trans hl10)), trivial⟩ ?_); clear F; intro a F
     obtain ⟨x65, ex65, hm⟩ := ob hm
     refine sc wkP F rfl ent16 (w_stGet hl10 ex65 (H.pm 11 [5, 6, 7, 8, 0, 1, 2, 3, 4, 5, 6, 9, 10] rfl:):) ?_; clear F H; rintro _ w a ⟨p66, c66, rfl, H⟩ F
     refine bk (List.replicate 5 0) F H rfl trivial ?_; clear F; intro a F
     replace H := H.nf 12 rfl
     refine nl (sr (bk [0, 3999] F H rfl ⟨rfl, (aggn agg35 ((bcells_length _).trans hl10)), trivial⟩ ?_)); clear F; intro a F
     obtain ⟨x67, ex67, hm⟩ := ob hm
     refine sc wkP F rfl ent52 (w_rsGet hl10 ex67 (H.pm 12 [10, 11, 0, 1, 2, 3, 4, 5, 6, 7, 8, 9] rfl:):) ?_; clear F H; rintro _ w a ⟨p68, c68, rfl, H⟩ F
     refine bk (List.replicate 5 0) F H rfl trivial ?_; clear F; intro a F
     replace H := H.nf 13 rfl
     refine nl (sr (bk [0, 0, 0, 0] F H rfl trivial ?_)); clear F; intro a F
     by_cases hg69 : x65.2 = x67.2
     · replace hm := ifT hg69 hm
       replace F := F.bT 99 hg69 rfl
       refine bk [0] F H rfl trivial ?_; clear F; intro a F
       refine g_onP F rfl rfl rfl rfl ?_
       refine s_val wkP F rfl rfl rfl rfl (y_b2s F Tryd.underlying33 Tryd.underlying9 Tryd.underlying5 rfl rfl (H) 3 rfl) ?_; clear F; intro a F
       refine bk [0] F H rfl trivial ?_; clear F; intro a F
       refine g_onP F rfl rfl rfl rfl ?_
       refine s_val wkP F rfl rfl rfl rfl (y_b2s F Tryd.underlying33 Tryd.underlying9 Tryd.underlying5 rfl rfl (H) 0 rfl) ?_; clear F; intro a F
       refine g_onP F rfl rfl rfl rfl ?_
       refine s_val wkP F rfl rfl rfl rfl (y_eqT (l := x65.1) (m := x67.1) F rfl rfl rfl) ?_; clear F; intro a F
       refine bk [0, 0] F H rfl trivial ?_; clear F; intro a F
       refine nl (wr (br (tr ?_)))
       cases hm
       refine x_ret1 F rfl rfl ?_
       exact ⟨_, rfl, rfl, (H.pm 13 [4, 5, 1, 2] rfl:)⟩
     · replace hm := ifF hg69 hm
       replace F := F.bF 99 hg69 rfl
       refine bk (List.replicate 7 0) F H rfl trivial ?_; clear F; intro a F
       refine nl (wr (br (tr ?_)))
       cases hm
       refine x_ret1 F rfl rfl ?_
       exact ⟨_, rfl, rfl, (H.pm 13 [4, 5, 1, 2] rfl:)⟩
   · replace hm := ifF hg64 hm
     refine sr (s_build0O (R := rByte) wkP F rfl rfl rfl elem33 rfl H ?_); clear F H; intro b70 w a H F
     refine bk [2, 5002] F H rfl ⟨fld58_2, rfl, plain33, trivial⟩ ?_; clear F; intro a F
     obtain ⟨x72, ex72, hm⟩ := ob hm
     refine s_app wkP F rfl rfl rfl rfl rfl rfl elem33 rfl ex72 H 0 2 rfl rfl ?_; clear F H; intro p71 c71 w a H F
     refine bk [0] F H rfl trivial ?_; clear F; intro a F
     replace H := H.nf 12 rfl
     refine nl (sr (bk [0, 0] F H rfl trivial ?_)); clear F; intro a F
     replace H := H.frz 0 rfl
     obtain ⟨x73, ex73, hm⟩ := ob hm
     refine sc wkP F rfl ent11 (w_stPut ex73 (H.pm 12 [6, 7, 8, 9, 0, 0, 1, 2, 3, 4, 5, 6, 7, 10, 11] rfl:):) ?_; clear F H; rintro _ w a ⟨rfl, hl74, H⟩ F
     refine bk [0, 0, 0] F H rfl trivial ?_; clear F; intro a F
     refine s_allocA wkP F rfl rfl rfl agz35 rfl H ?_; clear F H; intro b75 w a H F
     refine s_storeA wkP F rfl rfl agg35 rfl rfl rfl H 0 rfl ((bcells_length _).trans hl74) ((bcells_length _).trans (List.length_replicate (n := 32))) (bcells_flat _) ?_; clear H; intro w H
     refine bk [0] F H rfl trivial ?_; clear F; intro a F
     replace H := H.nf 13 rfl
     refine nl (sr (bk [0, 2, 8002] F H rfl ⟨fld58_2, rfl, plain33, trivial⟩ ?_)); clear F; intro a F
     obtain ⟨x76, ex76, hm⟩ := ob hm
     refine sc wkP F rfl ent53 (w_rsPut ex76 (H.pm 13 [11, 12, 5, 0, 1, 2, 3, 4, 5, 6, 7, 8, 9, 10] rfl:):) ?_; clear F H; rintro _ w a ⟨rfl, hl77, H⟩ F
     refine bk [0, 0, 0] F H rfl trivial ?_; clear F; intro a F
     refine s_allocA wkP F rfl rfl rfl agz35 rfl H ?_; clear F H; intro b78 w a H F
     refine s_storeA wkP F rfl rfl agg35 rfl rfl rfl H 0 rfl ((bcells_length _).trans hl77) ((bcells_length _).trans (List.length_replicate (n := 32))) (bcells_flat _) ?_; clear H; intro w H
     refine bk [0] F H rfl trivial ?_; clear F; intro a F
     replace H := H.nf 14 rfl
     refine nl (sr (bk [3999, 999] F H rfl ⟨rfl, (aggn agg35 ((bcells_length _).trans hl74)), rfl, (aggn agg35 ((bcells_length _).trans hl77)), trivial⟩ ?_)); clear F; intro a F
     refine s_val wkP F rfl rfl rfl rfl (y_eqlA F key35 rfl rfl rfl hl74 hl77) ?_; clear F; intro a F
     refine bk [0] F H rfl trivial ?_; clear F; intro a F
     by_cases hg79 : x73.1 = x76.1
     · replace hm := ifT hg79 hm
       replace F := F.bT 45 hg79 rfl
       refine bk (List.replicate 5 0) F H rfl trivial ?_; clear F; intro a F
       by_cases hg80 : x73.2.1 = x76.2.1
       · replace hm := ifT hg80 hm
         replace F := F.bT 50 hg80 rfl
         refine bk [0] F H rfl trivial ?_; clear F; intro a F
         refine g_onP F rfl rfl rfl rfl ?_
         refine s_val wkP F rfl rfl rfl rfl (y_b2s F Tryd.underlying33 Tryd.underlying9 Tryd.underlying5 rfl rfl (H) 6 rfl) ?_; clear F; intro a F
         refine bk [2, 11002] F H rfl ⟨fld58_2, rfl, plain33, trivial⟩ ?_; clear F; intro a F
         refine g_onP F rfl rfl rfl rfl ?_
         refine s_val wkP F rfl rfl rfl rfl (y_b2s F Tryd.underlying33 Tryd.underlying9 Tryd.underlying5 rfl rfl (H) 8 rfl) ?_; clear F; intro a F
         refine g_onP F rfl rfl rfl rfl ?_
         refine s_val wkP F rfl rfl rfl rfl (y_eqT (l := x72) (m := op.2.2.1) F rfl rfl rfl) ?_; clear F; intro a F
         refine bk [0, 0] F H rfl trivial ?_; clear F; intro a F
         refine nl (wr (br (tr ?_)))
         cases hm
         refine x_ret1 F rfl rfl ?_
         exact ⟨_, rfl, rfl, (H.pm 14 [4, 5, 1, 2] rfl:)⟩
       · replace hm := ifF hg80 hm
         replace F := F.bF 50 hg80 rfl
         refine bk (List.replicate 8 0) F H rfl trivial ?_; clear F; intro a F
         refine nl (wr (br (tr ?_)))
         cases hm
         refine x_ret1 F rfl rfl ?_
         exact ⟨_, rfl, rfl, (H.pm 14 [4, 5, 1, 2] rfl:)⟩
     · replace hm := ifF hg79 hm
       replace F := F.bF 45 hg79 rfl
       refine bk (List.replicate 13 0) F H rfl trivial ?_; clear F; intro a F
       refine nl (wr (br (tr ?_)))
       cases hm
       refine x_ret1 F rfl rfl ?_
       exact ⟨_, rfl, rfl, (H.pm 14 [4, 5, 1, 2] rfl:)⟩
end Go.Proofs.YtfepdfjhejkemaaDoor
