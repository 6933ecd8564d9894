/- store -/
import Derived.Test.YtfepdfjhejkemaaDoorRefA
set_option linter.unusedSimpArgs false
set_option linter.unusedVariables false
namespace Go.Proofs.YtfepdfjhejkemaaDoor
open Go.RowKit Go.Tri
theorem aggz35 : AggT Tryd.prog 35 32 (bcells (List.replicate 32 0)) := ⟨by rw [Tryd.underlying35]; rfl, by kernel_rfl, by kernel_rfl⟩
theorem fld75_1 : FieldT Tryd.prog 75 1 1 := by unfold FieldT; rw [Tryd.underlying75]; kernel_rfl
theorem plain72 : Plain Tryd.prog 72 := by unfold Plain; rw [Tryd.underlying72]; rfl
set_option maxRecDepth 100000 in
set_option maxHeartbeats 4000000 in
theorem w_stHas {s : T_disk_Disk_o × ((List UInt8) → Option Int) × (Int → Option (List UInt8)) × ((List UInt8) → Option Int)} {h : List UInt8} {bo0 : Nat} {bo0_0 : Nat} {w0 w : World} {l : List HP} (hl1 : (h).length = 32) {r : Bool} (hm : stHas s h = some r) (H : St w0 w (O_store_Store bo0 bo0_0 s.2 :: O_disk_Disk bo0_0 s.1 :: l)) :
  Calls Tryd.prog 30 [.pointer (some ⟨bo0, 0, none⟩), .agg (bcells h).toArray].toArray w (fun e w' => ∃ v, e = .returned v ∧ v = .bool (r) ∧ St w0 w' (O_store_Store bo0 bo0_0 s.2 :: O_disk_Disk bo0_0 s.1 :: l)) := by
 unfold stHas at hm
 refine x_enter Tryd.func30 rfl rfl rfl ?_
 intro a F
 refine sr (s_boxA wkP F rfl rfl rfl rfl rfl H ?_); clear F H; intro b2 w a H F
 refine bk [0] F H rfl trivial ?_; clear F; intro a F
 replace H := H.nf 3 rfl
 refine nl (sq ?_)
 obtain ⟨m3, m4, m5, H⟩ := O_store_Store_o (H.pk 1 rfl)
 obtain ⟨es6, H⟩ := H.mmOpen 1 rfl
 obtain ⟨cs7, hcs7, H⟩ := H.mxGet 1 rfl h (zc := [Value.int .i64 0]) (z0 := 0) (fun _ => rfl)
 obtain rfl := H.rcI 0 rfl
 replace H := H.dp 0 rfl
 refine qr H (by kernel_rfl) (by kernel_rfl) ?_
 refine qbk [0, 0, 1, 1, 4999] F rfl ⟨fld75_1, rfl, plain72, rfl, (aggn agg35 ((bcells_length _).trans hl1)), trivial⟩ ?_; clear F; intro a F
 refine q_val F rfl rfl rfl (fun u hu => y_mxGet2 (agg := false) (zc := [Value.int .i64 0]) F Tryd.underlying72 (keyH key35) (fun w => zero3.run w) rfl hu 1 rfl rfl (k := h) rfl hl1 hcs7) ?_; clear F; intro a F
 refine qbk (List.replicate 5 0) F rfl trivial ?_; clear F; intro a F
 refine q_nil ?_; clear H; intro w H
 replace H := H.mxShut 1 rfl
 refine ct (sr (bk [0, 0] F H rfl trivial ?_)); clear F; intro a F
 replace H := H.nf 6 rfl
 refine nl (wr ?_)
 replace H := O_store_Store_s H
 cases hm
 refine x_ret1 F rfl rfl ?_
 exact ⟨_, rfl, rfl, (H.pm 3 [0, 2] rfl:)⟩
theorem fld75_3 : FieldT Tryd.prog 75 3 3 := by unfold FieldT; rw [Tryd.underlying75]; kernel_rfl
theorem zero72 : Zero1 Tryd.prog 72 (.map none) := ⟨by kernel_rfl, rfl⟩
set_option maxRecDepth 100000 in
set_option maxHeartbeats 4000000 in
theorem w_stHold {s : T_disk_Disk_o × ((List UInt8) → Option Int) × (Int → Option (List UInt8)) × ((List UInt8) → Option Int)} {list : List (List UInt8)} {bo0 : Nat} {bo0_0 : Nat} {p1 : Option Addr} {c1 : Nat} {w0 w : World} {l : List HP}  {r : (T_disk_Disk_o × ((List UInt8) → Option Int) × (Int → Option (List UInt8)) × ((List UInt8) → Option Int))} (hm : stHold s list = some r) (H : St w0 w (O_store_Store bo0 bo0_0 s.2 :: O_disk_Disk bo0_0 s.1 :: HP.sl (rBytesN 32) p1 c1 list :: l)) :
  Calls Tryd.prog 14 [.pointer (some ⟨bo0, 0, none⟩), .slice p1 (list).length c1].toArray w (fun e w' => ∃ v, e = .returned v ∧ v = .tuple [].toArray ∧ St w0 w' (O_store_Store bo0 bo0_0 r.2 :: O_disk_Disk bo0_0 r.1 :: l)) := by
 unfold stHold at hm
 refine x_enter Tryd.func14 rfl rfl rfl ?_
 intro a F
 refine sr (bk [0] F H rfl trivial ?_); clear F; intro a F
 refine s_mmNew hv false (rInt .i64) (fun l => l.length = 32) wkP F rfl rfl rfl rfl H ?_; clear F H; intro m2 w a H F
 refine bk [0, 3] F H rfl ⟨fld75_3, trivial⟩ ?_; clear F; intro a F
 obtain ⟨m3, m4, m5, H⟩ := O_store_Store_o (H.pk 1 rfl)
 refine s_st1 wkP F rfl rfl zero72 rfl rfl rfl rfl rfl H 0 rfl rfl ?_; clear H; intro w H
 replace H := H.nf 7 rfl
 refine nl (sr (bk [0, 0, 0] F H rfl ⟨⟨_, Tryd.underlying32⟩, trivial⟩ ?_)); clear F; intro a F
 refine nl ?_
 replace H := O_store_Store_s (H.pm 7 [0, 1, 2, 4, 3, 5, 6] rfl:)
 obtain ⟨r43, er43, hm43⟩ := ob hm; clear hm; revert er43; intro hm
 refine x_mid (fun aa ww => Fr ⟨22, []⟩ aa [] ∧ St w0 ww (O_store_Store bo0 bo0_0 r43 :: HP.mm (some m5) hv false (rInt .i64) (fun l => l.length = 32) s.2.2.2 :: O_disk_Disk bo0_0 s.1 :: l)) ?_ ?_
 · skip
   refine bl ?_
   refine x_loopO _ (fun (s68 : T_store_Store_o × Int) aa ww => Fr ⟨22, []⟩ aa [(0, .pointer (some ⟨bo0, 0, none⟩)), (10, .slice p1 (list).length c1), (11, .int .i64 (((list).length : Int))), (12, .int .i64 (s68.2))] ∧ St w0 ww (O_store_Store bo0 bo0_0 s68.1 :: HP.mm (some m5) hv false (rInt .i64) (fun l => l.length = 32) s.2.2.2 :: O_disk_Disk bo0_0 s.1 :: HP.sl (rBytesN 32) p1 c1 list :: l)) hm ⟨F.sl rfl, H⟩ ?_
   clear F H hm
   rintro s68 a w o ⟨F, H⟩ hm
   refine sr (bk [0] F H rfl trivial ?_); clear F; intro a F
   refine nl (sq (cP F rfl (fun hg69 => ?_) (fun hg69 => ?_)))
   · replace hm := ifT hg69 hm
     refine sk (ct (sq (bl (sr ?_))))
     obtain ⟨x70, ex70, hm⟩ := ob hm
     obtain ⟨b71, o71, hp71⟩ := H.slP 3 rfl (idxO_some ex70).2
     obtain ⟨cs72, hcl72, H⟩ := H.slEl 3 rfl hp71 (idxO_some ex70).2
     obtain ⟨rfl, hl73⟩ := H.rcBN 1 rfl
     replace H := H.dp 1 rfl
     clear hcl72
     refine s_val wkP F rfl rfl rfl rfl (y_idxS F elem32 rfl rfl rfl hp71 ex70) ?_; clear F; intro a F
     refine bk [999] F H rfl ⟨rfl, (aggn agg35 ((bcells_length _).trans hl73)), trivial⟩ ?_; clear F; intro a F
     refine s_allocA wkP F rfl rfl rfl agz35 rfl H ?_; clear F H; intro b74 w a H F
     refine s_storeA wkP F rfl rfl agg35 rfl rfl rfl H 0 rfl ((bcells_length _).trans hl73) ((bcells_length _).trans (List.length_replicate (n := 32))) (bcells_flat _) ?_; clear H; intro w H
     replace H := H.nf 6 rfl
     refine nl ?_
     obtain ⟨m78, m79, m80, H⟩ := O_store_Store_o (H.pk 2 rfl)
     refine mix_region [5] [5] (.step 0 0 (.step 0 1 (.step 0 2 (.step 1 3 (.step 1 4 (.step 3 5 .done)))))) (fun u => ∃ ls, St w0 u (ls)) (by kernel_rfl) (by kernel_rfl) ⟨_, H.drew⟩ ?_
     replace H := H.drew
     generalize w.drew = w at H ⊢
     refine mbk [0, 0, 3, 3, 4999] F H rfl ⟨fld75_3, rfl, plain72, rfl, (aggn agg35 ((bcells_length _).trans hl73)), trivial⟩ ?_; clear F; intro a F
     refine m_last rfl rfl ?_
     refine s_mmSet wkP F rfl rfl Tryd.underlying72 (keyH key35) rfl H 3 rfl rfl (k := x70) rfl (cs := [.int .i64 (1)]) rfl hl73 (v := 1) (fun gg => rfl) ?_; clear H; intro w H
     refine lz ?_; refine ct ?_
     refine m_nil ?_
     refine bn (ct (rl (bk [0, 0] F H rfl trivial ?_))); clear F; intro a F
     replace H := H.nf 9 rfl
     refine lz ?_
     replace H := O_store_Store_s H
     refine ct ?_; cases hm
     exact ⟨_, rfl, ⟨F.sl rfl, (H.pm 6 [0, 3, 4, 5] rfl:)⟩⟩
   · replace hm := ifF hg69 hm
     refine ex (cx (cx ?_)); cases hm; refine ⟨_, rfl, ?_⟩; rintro rfl
     refine ch (ct ?_)
     exact ⟨F.cut _ trivial, (H.pm 4 [0, 1, 2] rfl:)⟩
 · skip
   clear F H hm
   rintro a w ⟨F, H⟩; have hm := hm43; clear hm43
   cases hm
   refine x_end0 F rfl ?_
   exact ⟨_, rfl, rfl, (H.pm 3 [0, 2] rfl:)⟩
theorem fld75_2 : FieldT Tryd.prog 75 2 2 := by unfold FieldT; rw [Tryd.underlying75]; kernel_rfl
theorem plain73 : Plain Tryd.prog 73 := by unfold Plain; rw [Tryd.underlying73]; rfl
set_option maxRecDepth 100000 in
set_option maxHeartbeats 4000000 in
theorem w_stfree {s : T_disk_Disk_o × ((List UInt8) → Option Int) × (Int → Option (List UInt8)) × ((List UInt8) → Option Int)} {i : Int} {bo0 : Nat} {bo0_0 : Nat} {w0 w : World} {l : List HP}  {r : Bool} (hm : stfree s i = some r) (H : St w0 w (O_store_Store bo0 bo0_0 s.2 :: O_disk_Disk bo0_0 s.1 :: l)) :
  Calls Tryd.prog 37 [.pointer (some ⟨bo0, 0, none⟩), .int .i64 (i)].toArray w (fun e w' => ∃ v, e = .returned v ∧ v = .bool (r) ∧ St w0 w' (O_store_Store bo0 bo0_0 s.2 :: O_disk_Disk bo0_0 s.1 :: l)) := by
 unfold stfree at hm
 refine x_enter Tryd.func37 rfl rfl rfl ?_
 intro a F
 refine sr (bk [0] F H rfl trivial ?_); clear F; intro a F
 refine nl (sr (bk [0, 0, 2] F H rfl ⟨fld75_2, trivial⟩ ?_)); clear F; intro a F
 obtain ⟨m1, m2, m3, H⟩ := O_store_Store_o (H.pk 0 rfl)
 refine bk [2, 0] F H rfl ⟨rfl, plain73, trivial⟩ ?_; clear F; intro a F
 obtain ⟨es4, H⟩ := H.mmOpen 2 rfl
 obtain ⟨cs5, hcs5, H⟩ := H.mxGet 2 rfl i (zc := (bcells (List.replicate 32 0))) (z0 := (List.replicate 32 0)) (fun _ => ⟨rfl, List.length_replicate⟩)
 obtain ⟨rfl, hl6⟩ := H.rcBN 0 rfl
 replace H := H.dp 0 rfl
 refine s_val wkP F rfl rfl rfl rfl (y_mxGet2 (agg := true) (zc := (bcells (List.replicate 32 0))) F Tryd.underlying73 (keyInt Tryd.underlying3) (fun w => aggz35.run_zero w) rfl H 2 rfl rfl (k := i) rfl trivial hcs5) ?_; clear F; intro a F
 refine bk [0, 0, 0] F H rfl trivial ?_; clear F; intro a F
 refine s_allocA wkP F rfl rfl rfl agz35 rfl H ?_; clear F H; intro b7 w a H F
 refine s_storeA wkP F rfl rfl agg35 rfl rfl rfl H 0 rfl ((bcells_length _).trans hl6) ((bcells_length _).trans (List.length_replicate (n := 32))) (bcells_flat _) ?_; clear H; intro w H
 refine bk [0] F H rfl trivial ?_; clear F; intro a F
 replace H := H.nf 6 rfl
 refine nl ?_
 replace H := H.mxShut 3 rfl
 refine sq ?_
 by_cases hg8 : (!((s.2.2.1 i).isSome)) = true
 · replace hm := ifT hg8 hm
   refine qr H (by kernel_rfl) (by kernel_rfl) ?_
   refine qbk [0, 0, 0] F rfl trivial ?_; clear F; intro a F
   replace F := F.vT 18 hg8 rfl
   refine qbk (List.replicate 9 0) F rfl trivial ?_; clear F; intro a F
   refine q_nil ?_; clear H; intro w H
   refine ct (wr ?_)
   replace H := O_store_Store_s (H.pm 6 [1, 2, 3, 4, 0, 5] rfl:)
   cases hm
   refine x_ret1 F rfl rfl ?_
   exact ⟨_, rfl, rfl, (H.pm 3 [0, 2] rfl:)⟩
 · replace hm := ifF hg8 hm
   obtain ⟨es9, H⟩ := H.mmOpen 4 rfl
   obtain ⟨cs10, hcs10, H⟩ := H.mxGet 4 rfl ((s.2.2.1 i).getD (List.replicate 32 0)) (zc := [Value.int .i64 0]) (z0 := 0) (fun _ => rfl)
   obtain rfl := H.rcI 0 rfl
   replace H := H.dp 0 rfl
   refine qr H (by kernel_rfl) (by kernel_rfl) ?_
   refine qbk [0, 0, 0] F rfl trivial ?_; clear F; intro a F
   replace F := F.vF 18 hg8 rfl
   refine qbk [0, 0, 3, 1003, 999] F rfl ⟨fld75_3, rfl, plain72, rfl, (aggn agg35 ((bcells_length _).trans hl6)), trivial⟩ ?_; clear F; intro a F
   refine qg_on F rfl rfl rfl rfl ?_
   refine q_val F rfl rfl rfl (fun u hu => y_mxGet (agg := false) (zc := [Value.int .i64 0]) F Tryd.underlying72 (keyH key35) (fun w => zero3.run w) rfl hu 4 rfl rfl (k := ((s.2.2.1 i).getD (List.replicate 32 0))) rfl hl6 hcs10) ?_; clear F; intro a F
   refine qbk [0, 0, 0] F rfl trivial ?_; clear F; intro a F
   refine q_nil ?_; clear H; intro w H
   replace H := H.mxShut 4 rfl
   refine ct (wr ?_)
   replace H := O_store_Store_s (H.pm 6 [1, 2, 3, 4, 0, 5] rfl:)
   cases hm
   refine x_ret1 F rfl rfl ?_
   exact ⟨_, rfl, rfl, (H.pm 3 [0, 2] rfl:)⟩
theorem fld75_0 : FieldT Tryd.prog 75 0 0 := by unfold FieldT; rw [Tryd.underlying75]; kernel_rfl
theorem plain25 : Plain Tryd.prog 25 := by unfold Plain; rw [Tryd.underlying25]; rfl
theorem ent32 : ∀ args w, (callFunc 32 args).run Tryd.prog w = .ok (.enter 32 args) w := enters Tryd.func32 (by kernel_rfl) rfl
theorem ent37 : ∀ args w, (callFunc 37 args).run Tryd.prog w = .ok (.enter 37 args) w := enters Tryd.func37 (by kernel_rfl) rfl
set_option maxRecDepth 100000 in
set_option maxHeartbeats 4000000 in
theorem w_stFree {s : T_disk_Disk_o × ((List UInt8) → Option Int) × (Int → Option (List UInt8)) × ((List UInt8) → Option Int)} {bo0 : Nat} {bo0_0 : Nat} {w0 w : World} {l : List HP}  {r : Int} (hm : stFree s = some r) (H : St w0 w (O_store_Store bo0 bo0_0 s.2 :: O_disk_Disk bo0_0 s.1 :: l)) :
  Calls Tryd.prog 17 [.pointer (some ⟨bo0, 0, none⟩)].toArray w (fun e w' => ∃ v, e = .returned v ∧ v = .int .i64 (r) ∧ St w0 w' (O_store_Store bo0 bo0_0 s.2 :: O_disk_Disk bo0_0 s.1 :: l)) := by
 unfold stFree at hm
 refine x_enter Tryd.func17 rfl rfl rfl ?_
 intro a F
 refine sr (bk [0] F H rfl trivial ?_); clear F; intro a F
 refine nl (sq (sr (bk [0] F H rfl trivial ?_))); clear F; intro a F
 refine nl ?_
 obtain ⟨r44, er44, hm44⟩ := ob hm; clear hm; revert er44; intro hm
 refine x_mid (fun aa ww => Fr ⟨19, []⟩ aa [(2, .int .i64 (r44))] ∧ St w0 ww (O_store_Store bo0 bo0_0 s.2 :: O_disk_Disk bo0_0 s.1 :: l)) ?_ ?_
 · skip
   refine bl (x_loopO _ (fun (s73 : Int × Int) aa ww => Fr ⟨19, []⟩ aa [(0, .pointer (some ⟨bo0, 0, none⟩)), (2, .int .i64 (s73.1)), (3, .int .i64 (s73.2))] ∧ St w0 ww (O_store_Store bo0 bo0_0 s.2 :: O_disk_Disk bo0_0 s.1 :: l)) hm ⟨F.sl rfl, H⟩ ?_)
   clear F H hm
   rintro s73 a w o ⟨F, H⟩ hm
   refine sq (sr (bk [0, 0, 0, 0] F H rfl ⟨fld75_0, trivial⟩ ?_)); clear F; intro a F
   obtain ⟨m74, m75, m76, H⟩ := O_store_Store_o (H.pk 0 rfl)
   refine bk [0] F H rfl ⟨rfl, plain25, trivial⟩ ?_; clear F; intro a F
   obtain ⟨x77, ex77, hm⟩ := ob hm
   refine sc wkP F rfl ent32 (w_diskSectors ex77 (H.pm 5 [4, 0, 1, 2, 3] rfl:):) ?_; clear F H; rintro _ w a ⟨rfl, H⟩ F
   refine bk [0] F H rfl trivial ?_; clear F; intro a F
   replace H := H.nf 5 rfl
   refine nl (cP F rfl (fun hg78 => ?_) (fun hg78 => ?_))
   · replace hm := ifT hg78 hm
     refine sk (ct (sq ?_))
     replace H := O_store_Store_s (H.pm 5 [1, 2, 3, 4, 0] rfl:)
     obtain ⟨r83, er83, hm83⟩ := ob hm; clear hm; revert er83; intro hm
     refine x_mid (fun aa ww => Fr ⟨19, []⟩ aa [(0, .pointer (some ⟨bo0, 0, none⟩)), (2, .int .i64 (r83)), (3, .int .i64 (s73.2))] ∧ St w0 ww (O_store_Store bo0 bo0_0 s.2 :: O_disk_Disk bo0_0 s.1 :: l)) ?_ ?_
     · skip
       refine bl (sr (bk [0, 0] F H rfl trivial ?_)); clear F; intro a F
       obtain ⟨x84, ex84, hm⟩ := ob hm
       refine sc wkP F rfl ent37 (w_stfree ex84 H:) ?_; clear F H; rintro _ w a ⟨rfl, H⟩ F
       replace H := H.nf 2 rfl
       refine nl ?_
       obtain ⟨r86, er86, hm86⟩ := ob hm; clear hm; revert er86; intro hm
       refine x_mid (fun aa ww => Fr ⟨19, []⟩ aa [(0, .pointer (some ⟨bo0, 0, none⟩)), (2, .int .i64 (r86)), (3, .int .i64 (s73.2))] ∧ St w0 ww (O_store_Store bo0 bo0_0 s.2 :: O_disk_Disk bo0_0 s.1 :: l)) ?_ ?_
       · skip
         refine cB F rfl (fun hg87 => ?_) (fun hg87 => ?_)
         · replace hm := ifT hg87 hm
           refine rl (bk [0, 0, 0] F H rfl trivial ?_); clear F; intro a F
           refine lz ?_
           cases hm
           refine ct ?_
           exact ⟨F.sl rfl, H⟩
         · replace hm := ifF (nT hg87) hm
           refine sk ?_
           cases hm
           refine ct ?_
           exact ⟨F.sl rfl, H⟩
       · skip
         clear F H hm
         rintro a w ⟨F, H⟩; have hm := hm86; clear hm86
         refine bn ?_
         cases hm
         refine ct ?_
         exact ⟨F.sl rfl, H⟩
     · skip
       clear F H hm
       rintro a w ⟨F, H⟩; have hm := hm83; clear hm83
       refine ct (rl (bk [0, 0, 0] F H rfl trivial ?_)); clear F; intro a F
       refine lz (ct ?_); cases hm
       exact ⟨_, rfl, ⟨F.sl rfl, H⟩⟩
   · replace hm := ifF hg78 hm
     refine ex (cx (cx ?_)); cases hm; refine ⟨_, rfl, ?_⟩; rintro rfl
     refine ch ?_
     replace H := O_store_Store_s (H.pm 5 [1, 2, 3, 4, 0] rfl:)
     refine ct ?_
     exact ⟨F.sl rfl, H⟩
 · skip
   clear F H hm
   rintro a w ⟨F, H⟩; have hm := hm44; clear hm44
   refine ct (sr (bk [0, 0] F H rfl trivial ?_)); clear F; intro a F
   refine nl (wr ?_)
   cases hm
   refine x_ret1 F rfl rfl ?_
   exact ⟨_, rfl, rfl, H⟩
theorem ent35 : ∀ args w, (callFunc 35 args).run Tryd.prog w = .ok (.enter 35 args) w := enters Tryd.func35 (by kernel_rfl) rfl
theorem ent30 : ∀ args w, (callFunc 30 args).run Tryd.prog w = .ok (.enter 30 args) w := enters Tryd.func30 (by kernel_rfl) rfl
theorem ent19 : ∀ args w, (callFunc 19 args).run Tryd.prog w = .ok (.enter 19 args) w := enters Tryd.func19 (by kernel_rfl) rfl
set_option maxRecDepth 100000 in
set_option maxHeartbeats 4000000 in
theorem w_stPut {s : T_disk_Disk_o × ((List UInt8) → Option Int) × (Int → Option (List UInt8)) × ((List UInt8) → Option Int)} {block : List UInt8} {bo0 : Nat} {bo0_0 : Nat} {p1 : Option Addr} {c1 : Nat} {w0 w : World} {l : List HP}  {r : (List UInt8) × Int × (T_disk_Disk_o × ((List UInt8) → Option Int) × (Int → Option (List UInt8)) × ((List UInt8) → Option Int))} (hm : stPut s block = some r) (H : St w0 w (HP.row 0 (0) (icells .u32 shaStart) :: HP.row 2 (0) (icells .u32 shaRounds) :: O_store_Store bo0 bo0_0 s.2 :: O_disk_Disk bo0_0 s.1 :: HP.sl rByte p1 c1 block :: l)) :
  Calls Tryd.prog 11 [.pointer (some ⟨bo0, 0, none⟩), .slice p1 (block).length c1].toArray w (fun e w' => ∃ v, e = .returned v ∧ v = .tuple [.agg (bcells r.1).toArray, .int .i64 (r.2.1)].toArray ∧ ((r.1).length = 32) ∧ St w0 w' (O_store_Store bo0 bo0_0 r.2.2.2 :: O_disk_Disk bo0_0 r.2.2.1 :: l)) := by
 unfold stPut at hm
 refine x_enter Tryd.func11 rfl rfl rfl ?_
 intro a F
 refine sr (s_allocA wkP F rfl rfl rfl agz35 rfl H ?_); clear F H; intro b3 w a H F
 refine bk [0] F H rfl trivial ?_; clear F; intro a F
 replace H := H.nf 6 rfl
 refine nl (sr (bk [0] F H rfl trivial ?_)); clear F; intro a F
 obtain ⟨x4, ex4, hm⟩ := ob hm
 refine sc wkP F rfl ent36 (w_wrap ex4 (H.pm 6 [5, 0, 1, 2, 3, 4, 5] rfl:):) ?_; clear F H; rintro _ w a ⟨p5, c5, rfl, H⟩ F
 refine bk (List.replicate 5 0) F H rfl trivial ?_; clear F; intro a F
 replace H := H.nf 7 rfl
 refine nl (sq (sr (bk [0, 0] F H rfl trivial ?_))); clear F; intro a F
 refine nl (cN F rfl (fun hg6 => ?_) (fun hg6 => ?_))
 · replace hm := ifF hg6 hm
   refine sr (s_val wkP F rfl rfl rfl rfl (y_build F rfl rfl (cs := bcells ((List.replicate 32 0) : List UInt8)) (by kernel_rfl)) ?_); clear F; intro a F
   refine bk [0] F H rfl trivial ?_; clear F; intro a F
   refine s_storeA wkP F rfl rfl agg35 rfl rfl rfl H 1 rfl ((bcells_length _).trans rfl) ((bcells_length _).trans (List.length_replicate (n := 32))) (bcells_flat _) ?_; clear H; intro w H
   refine bk [0] F H rfl trivial ?_; clear F; intro a F
   replace H := H.nf 7 rfl
   refine nl (wr (tr ?_))
   cases hm
   refine x_resC2 F rfl (⟨_, rfl, agg35.run_load (H.blk 1 rfl).row ((bcells_length _).trans rfl)⟩) rfl ?_
   exact ⟨_, rfl, rfl, rfl, (H.pm 7 [4, 5] rfl:)⟩
 · replace hm := ifT hg6 hm
   refine sk (ct (sr (bk [0] F H rfl trivial ?_))); clear F; intro a F
   obtain ⟨x7, ex7, hm⟩ := ob hm
   refine sc wkP F rfl ent35 (w_shaSum ex7 (H.pm 7 [2, 3, 6, 0, 1, 2, 3, 4, 5, 6] rfl:):) ?_; clear F H; rintro _ w a ⟨rfl, hl8, H⟩ F
   refine s_allocA wkP F rfl rfl rfl agz35 rfl H ?_; clear F H; intro b9 w a H F
   refine s_storeA wkP F rfl rfl agg35 rfl rfl rfl H 0 rfl ((bcells_length _).trans hl8) ((bcells_length _).trans (List.length_replicate (n := 32))) (bcells_flat _) ?_; clear H; intro w H
   replace H := H.nf 8 rfl
   refine nl (sq (sr (bk [0, 999] F H rfl ⟨rfl, (aggn agg35 ((bcells_length _).trans hl8)), trivial⟩ ?_))); clear F; intro a F
   obtain ⟨x10, ex10, hm⟩ := ob hm
   refine sc wkP F rfl ent30 (w_stHas hl8 ex10 (H.pm 8 [5, 6, 0, 1, 2, 3, 4, 7] rfl:):) ?_; clear F H; rintro _ w a ⟨rfl, H⟩ F
   replace H := H.nf 8 rfl
   refine nl (cB F rfl (fun hg11 => ?_) (fun hg11 => ?_))
   · replace hm := ifT hg11 hm
     refine sq ?_
     obtain ⟨m15, m16, m17, H⟩ := O_store_Store_o (H.pk 0 rfl)
     refine mix_region [5] [5] (.step 0 0 (.step 0 1 (.step 0 2 (.step 1 3 (.step 1 4 (.step 3 5 .done)))))) (fun u => ∃ ls, St w0 u (ls)) (by kernel_rfl) (by kernel_rfl) ⟨_, H.drew⟩ ?_
     replace H := H.drew
     generalize w.drew = w at H ⊢
     refine mbk [0, 0, 3, 3, 5999] F H rfl ⟨fld75_3, rfl, plain72, rfl, (aggn agg35 ((bcells_length _).trans hl8)), trivial⟩ ?_; clear F; intro a F
     refine m_last rfl rfl ?_
     refine s_mmSet wkP F rfl rfl Tryd.underlying72 (keyH key35) rfl H 3 rfl rfl (k := x7) rfl (cs := [.int .i64 (1)]) rfl hl8 (v := 1) (fun gg => rfl) ?_; clear H; intro w H
     refine lz ?_; refine ct ?_
     refine m_nil ?_
     refine ct (sr (bk [5999] F H rfl ⟨rfl, (aggn agg35 ((bcells_length _).trans hl8)), trivial⟩ ?_)); clear F; intro a F
     refine s_storeA wkP F rfl rfl agg35 rfl rfl rfl H 7 rfl ((bcells_length _).trans hl8) ((bcells_length _).trans (List.length_replicate (n := 32))) (bcells_flat _) ?_; clear H; intro w H
     refine bk [0] F H rfl trivial ?_; clear F; intro a F
     replace H := H.nf 11 rfl
     refine nl (wr (tr ?_))
     replace H := O_store_Store_s H
     cases hm
     refine x_resC2 F rfl (⟨_, rfl, agg35.run_load (H.blk 4 rfl).row ((bcells_length _).trans hl8)⟩) rfl ?_
     exact ⟨_, rfl, rfl, hl8, (H.pm 8 [0, 1] rfl:)⟩
   · replace hm := ifF (nT hg11) hm
     refine sk (ct (sq (sr (bk [0] F H rfl trivial ?_)))); clear F; intro a F
     refine nl ?_
     obtain ⟨o148, eo148, hm148⟩ := ob hm; clear hm; revert eo148; intro hm
     refine x_mid (fun aa ww => ∃ r148, o148 = Sum.inl r148 ∧ Fr ⟨97, []⟩ aa [(4, .pointer (some ⟨b3, 0, none⟩))] ∧ St w0 ww (O_store_Store bo0 bo0_0 s.2 :: O_disk_Disk bo0_0 s.1 :: HP.blk b9 (bcells x7) 35 :: HP.ow rByte 5 p5 c5 x4.1 :: HP.blk b3 (bcells (List.replicate 32 0)) 35 :: HP.row 0 (0) (icells .u32 shaStart) :: HP.row 2 (0) (icells .u32 shaRounds) :: l)) ?_ ?_
     · skip
       refine bl ?_
       refine x_loopO _ (fun (s235 : Int) aa ww => Fr ⟨97, []⟩ aa [(0, .pointer (some ⟨bo0, 0, none⟩)), (4, .pointer (some ⟨b3, 0, none⟩)), (6, .slice p5 (x4.1).length c5), (8, .pointer (some ⟨b9, 0, none⟩)), (9, .int .i64 (s235))] ∧ St w0 ww (O_store_Store bo0 bo0_0 s.2 :: O_disk_Disk bo0_0 s.1 :: HP.blk b9 (bcells x7) 35 :: HP.ow rByte 5 p5 c5 x4.1 :: HP.blk b3 (bcells (List.replicate 32 0)) 35 :: HP.row 0 (0) (icells .u32 shaStart) :: HP.row 2 (0) (icells .u32 shaRounds) :: l)) hm ⟨F.sl rfl, (H.pm 8 [0, 1, 2, 3, 4, 5, 6] rfl:)⟩ ?_
       clear F H hm
       rintro s235 a w o ⟨F, H⟩ hm
       refine sq (sr (bk [0, 0, 0, 0] F H rfl ⟨fld75_0, trivial⟩ ?_)); clear F; intro a F
       obtain ⟨m236, m237, m238, H⟩ := O_store_Store_o (H.pk 0 rfl)
       refine bk [0] F H rfl ⟨rfl, plain25, trivial⟩ ?_; clear F; intro a F
       obtain ⟨x239, ex239, hm⟩ := ob hm
       refine sc wkP F rfl ent32 (w_diskSectors ex239 (H.pm 10 [4, 0, 1, 2, 3, 5, 6, 7, 8, 9] rfl:):) ?_; clear F H; rintro _ w a ⟨rfl, H⟩ F
       refine bk [0] F H rfl trivial ?_; clear F; intro a F
       replace H := H.nf 10 rfl
       refine nl (cP F rfl (fun hg240 => ?_) (fun hg240 => ?_))
       · replace hm := ifT hg240 hm
         refine sk (ct (sq (bl (sq (sr (bk [0, 0] F H rfl trivial ?_)))))); clear F; intro a F
         replace H := O_store_Store_s (H.pm 10 [1, 2, 3, 4, 0, 5, 6, 7, 8, 9] rfl:)
         obtain ⟨x241, ex241, hm⟩ := ob hm
         refine sc wkP F rfl ent37 (w_stfree ex241 H:) ?_; clear F H; rintro _ w a ⟨rfl, H⟩ F
         refine bk [0] F H rfl trivial ?_; clear F; intro a F
         replace H := H.nf 7 rfl
         refine nl (cB F rfl (fun hg242 => ?_) (fun hg242 => ?_))
         · replace hm := ifT hg242 hm
           refine ex (cx (ch (ct (rl (bk [0, 0, 0] F H rfl trivial ?_))))); clear F; intro a F
           refine lz (ct ?_); cases hm
           exact ⟨_, rfl, ⟨F.sl rfl, H⟩⟩
         · replace hm := ifF (nT hg242) hm
           refine sk (ct (sq (sr (bk [0, 0, 0] F H rfl ⟨fld75_0, trivial⟩ ?_)))); clear F; intro a F
           obtain ⟨m243, m244, m245, H⟩ := O_store_Store_o (H.pk 0 rfl)
           refine bk [0, 0, 0] F H rfl ⟨rfl, plain25, trivial⟩ ?_; clear F; intro a F
           replace H := H.frz 6 rfl
           obtain ⟨x246, ex246, hm⟩ := ob hm
           refine sc wkP F rfl ent19 (w_diskWrite ex246 (H.pm 10 [5, 0, 0, 1, 2, 3, 4, 6, 7, 8, 9] rfl:):) ?_; clear F H; rintro _ w a ⟨rfl, H⟩ F
           refine bk [0] F H rfl trivial ?_; clear F; intro a F
           replace H := H.nf 10 rfl
           refine nl (sr (bk [0, 0] F H rfl trivial ?_)); clear F; intro a F
           refine nl (cN F rfl (fun hg247 => ?_) (fun hg247 => ?_))
           · replace hm := ifF hg247 hm
             refine sr (s_val wkP F rfl rfl rfl rfl (y_build F rfl rfl (cs := bcells ((List.replicate 32 0) : List UInt8)) (by kernel_rfl)) ?_); clear F; intro a F
             refine bk [0] F H rfl trivial ?_; clear F; intro a F
             refine s_storeA wkP F rfl rfl agg35 rfl rfl rfl H 7 rfl ((bcells_length _).trans rfl) ((bcells_length _).trans (List.length_replicate (n := 32))) (bcells_flat _) ?_; clear H; intro w H
             refine bk [0] F H rfl trivial ?_; clear F; intro a F
             replace H := H.nf 10 rfl
             refine nl (wr (tr (br (tr (tr ?_))))); cases hm; refine ⟨_, rfl, ?_⟩; rintro rfl
             refine br (tr ?_)
             replace hm := elimR hm148
             refine tr ?_
             replace H := O_store_Store_s (H.pm 10 [2, 3, 4, 5, 0, 1, 6, 7, 8, 9] rfl:)
             cases hm
             refine x_resC2 F rfl (⟨_, rfl, agg35.run_load (H.blk 4 rfl).row ((bcells_length _).trans rfl)⟩) rfl ?_
             exact ⟨_, rfl, rfl, rfl, (H.pm 7 [0, 1] rfl:)⟩
           · replace hm := ifT hg247 hm
             refine sk (ct (sq (sr (bk [0, 0, 2, 2002, 0] F H rfl ⟨fld75_2, rfl, plain73, trivial⟩ ?_)))); clear F; intro a F
             obtain ⟨es248, H⟩ := H.mmOpen 4 rfl
             obtain ⟨cs249, hcs249, H⟩ := H.mxGet 4 rfl s235 (zc := (bcells (List.replicate 32 0))) (z0 := (List.replicate 32 0)) (fun _ => ⟨rfl, List.length_replicate⟩)
             obtain ⟨rfl, hl250⟩ := H.rcBN 0 rfl
             replace H := H.dp 0 rfl
             refine s_val wkP F rfl rfl rfl rfl (y_mxGet2 (agg := true) (zc := (bcells (List.replicate 32 0))) F Tryd.underlying73 (keyInt Tryd.underlying3) (fun w => aggz35.run_zero w) rfl H 4 rfl rfl (k := s235) rfl trivial hcs249) ?_; clear F; intro a F
             refine bk [0, 0, 0] F H rfl trivial ?_; clear F; intro a F
             refine s_allocA wkP F rfl rfl rfl agz35 rfl H ?_; clear F H; intro b251 w a H F
             refine s_storeA wkP F rfl rfl agg35 rfl rfl rfl H 0 rfl ((bcells_length _).trans hl250) ((bcells_length _).trans (List.length_replicate (n := 32))) (bcells_flat _) ?_; clear H; intro w H
             refine bk [0] F H rfl trivial ?_; clear F; intro a F
             replace H := H.nf 11 rfl
             refine nl ?_
             replace H := H.mxShut 5 rfl
             refine sr (bk [0] F H rfl trivial ?_); clear F; intro a F
             replace H := H.nf 11 rfl
             refine nl ?_
             replace H := O_store_Store_s (H.pm 11 [3, 4, 5, 6, 0, 1, 2, 7, 8, 9, 10] rfl:)
             obtain ⟨r259, er259, hm259⟩ := ob hm; clear hm; revert er259; intro hm
             refine x_mid (fun aa ww => Fr ⟨97, []⟩ aa [(0, .pointer (some ⟨bo0, 0, none⟩)), (4, .pointer (some ⟨b3, 0, none⟩)), (8, .pointer (some ⟨b9, 0, none⟩)), (9, .int .i64 (s235))] ∧ St w0 ww (O_store_Store bo0 bo0_0 r259 :: HP.blk b251 (bcells ((s.2.2.1 s235).getD (List.replicate 32 0))) 35 :: O_disk_Disk bo0_0 x246.2 :: HP.blk b9 (bcells x7) 35 :: HP.blk b3 (bcells (List.replicate 32 0)) 35 :: HP.row 0 (0) (icells .u32 shaStart) :: HP.row 2 (0) (icells .u32 shaRounds) :: l)) ?_ ?_
             · skip
               refine cB F rfl (fun hg260 => ?_) (fun hg260 => ?_)
               · replace hm := ifT hg260 hm
                 obtain ⟨m264, m265, m266, H⟩ := O_store_Store_o (H.pk 0 rfl)
                 refine mix_region [5] [5] (.step 0 0 (.step 0 1 (.step 0 2 (.step 1 3 (.step 1 4 (.step 3 5 .done)))))) (fun u => ∃ ls, St w0 u (ls)) (by kernel_rfl) (by kernel_rfl) ⟨_, H.drew⟩ ?_
                 replace H := H.drew
                 generalize w.drew = w at H ⊢
                 refine mbk [0, 0, 1, 1, 4999] F H rfl ⟨fld75_1, rfl, plain72, rfl, (aggn agg35 ((bcells_length _).trans hl250)), trivial⟩ ?_; clear F; intro a F
                 refine m_last rfl rfl ?_
                 refine s_mmDelN wkP F rfl rfl Tryd.underlying72 (keyH key35) rfl H 1 rfl rfl (k := ((s.2.2.1 s235).getD (List.replicate 32 0))) rfl hl250 ?_; clear H; intro w H
                 refine lz ?_; refine ct ?_
                 refine m_nil ?_
                 replace H := O_store_Store_s H
                 cases hm
                 refine ct ?_
                 exact ⟨F.sl rfl, (H.pm 8 [0, 1, 2, 4, 5, 6, 7] rfl:)⟩
               · replace hm := ifF (nT hg260) hm
                 refine sk ?_
                 cases hm
                 refine ct ?_
                 exact ⟨F.sl rfl, (H.pm 8 [0, 1, 2, 4, 5, 6, 7] rfl:)⟩
             · skip
               clear F H hm
               rintro a w ⟨F, H⟩; have hm := hm259; clear hm259
               refine ct (sq ?_)
               obtain ⟨m273, m274, m275, H⟩ := O_store_Store_o (H.pk 0 rfl)
               refine mix_region [17, 19, 20, 22, 23, 25] [25] (.step 0 0 (.step 0 1 (.step 0 2 (.step 1 3 (.step 1 4 (.step 0 5 (.step 0 6 (.step 0 7 (.step 1 8 (.step 0 9 (.step 0 10 (.step 0 11 (.step 0 12 (.step 1 13 (.step 0 14 (.step 0 15 (.step 0 16 (.step 2 17 (.step 0 18 (.step 2 19 (.step 2 20 (.step 0 21 (.step 2 22 (.step 2 23 (.step 0 24 (.step 3 25 .done)))))))))))))))))))))))))) (fun u => ∃ ls, St w0 u (HP.blk b9 (bcells x7) 35 :: ls)) (by kernel_rfl) (by kernel_rfl) ⟨_, (H.drew.pm 10 [6, 0, 1, 2, 3, 4, 5, 7, 8, 9] rfl:)⟩ ?_
               replace H := H.drew
               generalize w.drew = w at H ⊢
               refine mbk [0, 0, 1, 1, 6999, 0, 0, 2, 2, 0, 0, 0, 3, 3] F H rfl ⟨fld75_1, rfl, plain72, rfl, (aggn agg35 ((bcells_length _).trans hl8)), fld75_2, rfl, plain73, fld75_3, rfl, plain72, trivial⟩ ?_; clear F; intro a F
               refine m_pure F rfl rfl rfl rfl (fun u hu => y_loadA F agg35 rfl rfl ((hu.choose_spec.blk 0 rfl).row) ((bcells_length _).trans hl8)) ?_; clear F; intro a F
               refine mbk [0] F H rfl trivial ?_; clear F; intro a F
               refine m_pure F rfl rfl rfl rfl (fun u hu => y_loadA F agg35 rfl rfl ((hu.choose_spec.blk 0 rfl).row) ((bcells_length _).trans hl8)) ?_; clear F; intro a F
               refine m_heavy rfl rfl ?_
               refine s_mmEntry (agg := false) (R := (rInt .i64)) (ek := hv) (ok := (fun l => l.length = 32)) wkP F rfl rfl rfl Tryd.underlying72 (keyH key35) (zc := [Value.int .i64 0]) (z0 := 0) (fun w => zero3.run w) (fun _ => rfl) rfl H 1 rfl rfl (k := x7) rfl hl8 ?_; clear F H; intro v276 q276 w a H F
               refine lz ?_; refine ct ⟨⟨_, (H.pm 10 [6, 0, 1, 2, 3, 4, 5, 7, 8, 9] rfl:)⟩, ?_⟩
               refine mbk [0] F H rfl trivial ?_; clear F; intro a F
               refine m_heavy rfl rfl ?_
               refine s_entStore wkP F rfl rfl rfl H 1 rfl inj_hv hl8 rfl rfl (cs := [.int .i64 (s235)]) rfl (v := s235) (fun gg => rfl) ?_; clear H; intro w H
               refine lz ?_; refine ct ⟨⟨_, (H.pm 10 [6, 0, 1, 2, 3, 4, 5, 7, 8, 9] rfl:)⟩, ?_⟩
               refine m_heavy rfl rfl ?_
               refine s_mmEntry (agg := true) (R := (rBytesN 32)) (ek := (Value.int .i64)) (ok := (fun _ => True)) wkP F rfl rfl rfl Tryd.underlying73 (keyInt Tryd.underlying3) (zc := (bcells (List.replicate 32 0))) (z0 := (List.replicate 32 0)) (fun w => aggz35.run_zero w) (fun _ => ⟨rfl, List.length_replicate⟩) rfl H 2 rfl rfl (k := s235) rfl trivial ?_; clear F H; intro v277 q277 w a H F
               refine lz ?_; refine ct ⟨⟨_, (H.pm 10 [6, 0, 1, 2, 3, 4, 5, 7, 8, 9] rfl:)⟩, ?_⟩
               refine mbk [0] F H rfl trivial ?_; clear F; intro a F
               refine m_heavy rfl rfl ?_
               refine s_entStore wkP F rfl rfl rfl H 2 rfl inj_int trivial rfl rfl (cs := bcells x7) rfl (v := x7) (fun gg => ⟨rfl, hl8⟩) ?_; clear H; intro w H
               refine lz ?_; refine ct ⟨⟨_, (H.pm 10 [6, 0, 1, 2, 3, 4, 5, 7, 8, 9] rfl:)⟩, ?_⟩
               refine m_heavy rfl rfl ?_
               refine s_mmEntry (agg := false) (R := (rInt .i64)) (ek := hv) (ok := (fun l => l.length = 32)) wkP F rfl rfl rfl Tryd.underlying72 (keyH key35) (zc := [Value.int .i64 0]) (z0 := 0) (fun w => zero3.run w) (fun _ => rfl) rfl H 3 rfl rfl (k := x7) rfl hl8 ?_; clear F H; intro v278 q278 w a H F
               refine lz ?_; refine ct ⟨⟨_, (H.pm 10 [6, 0, 1, 2, 3, 4, 5, 7, 8, 9] rfl:)⟩, ?_⟩
               refine mbk [0] F H rfl trivial ?_; clear F; intro a F
               refine m_last rfl rfl ?_
               refine s_entStore wkP F rfl rfl rfl H 3 rfl inj_hv hl8 rfl rfl (cs := [.int .i64 (1)]) rfl (v := 1) (fun gg => rfl) ?_; clear H; intro w H
               refine lz ?_; refine ct ?_
               refine m_nil ?_
               refine ct (sr (bk [6999] F H rfl ⟨rfl, (aggn agg35 ((bcells_length _).trans hl8)), trivial⟩ ?_)); clear F; intro a F
               refine s_storeA wkP F rfl rfl agg35 rfl rfl rfl H 7 rfl ((bcells_length _).trans hl8) ((bcells_length _).trans (List.length_replicate (n := 32))) (bcells_flat _) ?_; clear H; intro w H
               refine bk [0] F H rfl trivial ?_; clear F; intro a F
               replace H := H.nf 10 rfl
               refine nl (wr (br (tr (tr ?_)))); cases hm; refine ⟨_, rfl, ?_⟩; rintro rfl
               refine br (tr ?_)
               replace hm := elimR hm148
               refine tr ?_
               replace H := O_store_Store_s H
               cases hm
               refine x_resC2 F rfl (⟨_, rfl, agg35.run_load (H.blk 4 rfl).row ((bcells_length _).trans hl8)⟩) rfl ?_
               exact ⟨_, rfl, rfl, hl8, (H.pm 7 [0, 2] rfl:)⟩
       · replace hm := ifF hg240 hm
         refine ex (cx (cx ?_)); cases hm; refine ⟨_, rfl, ?_⟩; rintro rfl
         refine ch ?_
         replace H := O_store_Store_s (H.pm 10 [1, 2, 3, 4, 0, 5, 6, 7, 8, 9] rfl:)
         refine ct ?_
         exact ⟨_, rfl, F.sl rfl, H⟩
     · skip
       clear F H hm
       rintro a w ⟨r148, rfl, F, H⟩; have hm := elimL hm148; clear hm148
       refine ct (sr (s_val wkP F rfl rfl rfl rfl (y_build F rfl rfl (cs := bcells ((List.replicate 32 0) : List UInt8)) (by kernel_rfl)) ?_)); clear F; intro a F
       refine s_storeA wkP F rfl rfl agg35 rfl rfl rfl H 4 rfl ((bcells_length _).trans rfl) ((bcells_length _).trans (List.length_replicate (n := 32))) (bcells_flat _) ?_; clear H; intro w H
       refine bk [0] F H rfl trivial ?_; clear F; intro a F
       replace H := H.nf 7 rfl
       refine nl (wr ?_)
       cases hm
       refine x_resC2 F rfl (⟨_, rfl, agg35.run_load (H.blk 4 rfl).row ((bcells_length _).trans rfl)⟩) rfl ?_
       exact ⟨_, rfl, rfl, rfl, (H.pm 7 [0, 1] rfl:)⟩
theorem ent33 : ∀ args w, (callFunc 33 args).run Tryd.prog w = .ok (.enter 33 args) w := enters Tryd.func33 (by kernel_rfl) rfl
theorem ent34 : ∀ args w, (callFunc 34 args).run Tryd.prog w = .ok (.enter 34 args) w := enters Tryd.func34 (by kernel_rfl) rfl
set_option maxRecDepth 100000 in
set_option maxHeartbeats 4000000 in
theorem w_stGet {s : T_disk_Disk_o × ((List UInt8) → Option Int) × (Int → Option (List UInt8)) × ((List UInt8) → Option Int)} {h : List UInt8} {bo0 : Nat} {bo0_0 : Nat} {w0 w : World} {l : List HP} (hl1 : (h).length = 32) {r : (List UInt8) × Int} (hm : stGet s h = some r) (H : St w0 w (HP.row 0 (0) (icells .u32 shaStart) :: HP.row 2 (0) (icells .u32 shaRounds) :: O_store_Store bo0 bo0_0 s.2 :: O_disk_Disk bo0_0 s.1 :: l)) :
  Calls Tryd.prog 16 [.pointer (some ⟨bo0, 0, none⟩), .agg (bcells h).toArray].toArray w (fun e w' => ∃ v, e = .returned v ∧ ∃ (p2 : Option Addr) (c2 : Nat), v = .tuple [.slice p2 (r.1).length c2, .int .i64 (r.2)].toArray ∧ St w0 w' (HP.sl rByte p2 c2 r.1 :: O_store_Store bo0 bo0_0 s.2 :: O_disk_Disk bo0_0 s.1 :: l)) := by
 unfold stGet at hm
 refine x_enter Tryd.func16 rfl rfl rfl ?_
 intro a F
 refine sr (s_boxA wkP F rfl rfl rfl rfl rfl H ?_); clear F H; intro b3 w a H F
 refine bk [0, 0] F H rfl trivial ?_; clear F; intro a F
 replace H := H.nf 5 rfl
 refine nl (sq ?_)
 obtain ⟨m4, m5, m6, H⟩ := O_store_Store_o (H.pk 3 rfl)
 obtain ⟨es7, H⟩ := H.mmOpen 1 rfl
 obtain ⟨cs8, hcs8, H⟩ := H.mxGet 1 rfl h (zc := [Value.int .i64 0]) (z0 := 0) (fun _ => rfl)
 obtain rfl := H.rcI 0 rfl
 replace H := H.dp 0 rfl
 refine qr H (by kernel_rfl) (by kernel_rfl) ?_
 refine qbk [0, 0, 1, 1, 4999] F rfl ⟨fld75_1, rfl, plain72, rfl, (aggn agg35 ((bcells_length _).trans hl1)), trivial⟩ ?_; clear F; intro a F
 refine q_val F rfl rfl rfl (fun u hu => y_mxGet2 (agg := false) (zc := [Value.int .i64 0]) F Tryd.underlying72 (keyH key35) (fun w => zero3.run w) rfl hu 1 rfl rfl (k := h) rfl hl1 hcs8) ?_; clear F; intro a F
 refine qbk (List.replicate 5 0) F rfl trivial ?_; clear F; intro a F
 refine q_nil ?_; clear H; intro w H
 replace H := H.mxShut 1 rfl
 refine ct (sq (sr (bk [0, 0] F H rfl trivial ?_))); clear F; intro a F
 replace H := H.nf 8 rfl
 refine nl (cB F rfl (fun hg9 => ?_) (fun hg9 => ?_))
 · replace hm := ifT hg9 hm
   refine sr (bk [0, 0] F H rfl trivial ?_); clear F; intro a F
   refine nl (wr (tr ?_))
   replace H := H.slNil rByte
   replace H := O_store_Store_s (H.pm 9 [1, 2, 3, 4, 0, 5, 6, 7, 8] rfl:)
   cases hm
   refine x_ret2 F rfl rfl rfl ?_
   exact ⟨_, rfl, none, 0, rfl, (H.pm 6 [1, 0, 5] rfl:)⟩
 · replace hm := ifF (nT hg9) hm
   refine sk (ct (sr (bk (List.replicate 5 0) F H rfl ⟨fld75_0, rfl, plain25, trivial⟩ ?_))); clear F; intro a F
   obtain ⟨x10, ex10, hm⟩ := ob hm
   refine sc wkP F rfl ent33 (w_diskRead ex10 (H.pm 8 [7, 0, 1, 2, 3, 4, 5, 6] rfl:):) ?_; clear F H; rintro _ w a ⟨p11, c11, rfl, H⟩ F
   refine bk (List.replicate 5 0) F H rfl trivial ?_; clear F; intro a F
   replace H := H.nf 9 rfl
   refine nl (sq (sr (bk [0, 0] F H rfl trivial ?_))); clear F; intro a F
   refine nl (cN F rfl (fun hg12 => ?_) (fun hg12 => ?_))
   · replace hm := ifF hg12 hm
     refine sr (bk [0, 0, 0] F H rfl trivial ?_); clear F; intro a F
     refine nl (wr (tr ?_))
     replace H := H.slNil rByte
     replace H := O_store_Store_s (H.pm 10 [3, 4, 5, 6, 0, 1, 2, 7, 8, 9] rfl:)
     cases hm
     refine x_ret2 F rfl rfl rfl ?_
     exact ⟨_, rfl, none, 0, rfl, (H.pm 7 [1, 0, 3] rfl:)⟩
   · replace hm := ifT hg12 hm
     refine sk (ct (sr (bk [0] F H rfl trivial ?_))); clear F; intro a F
     obtain ⟨x13, ex13, hm⟩ := ob hm
     refine sc wkP F rfl ent34 (w_unwrap ex13 (H.pm 9 [0, 0, 1, 2, 3, 4, 5, 6, 7, 8] rfl:):) ?_; clear F H; rintro _ w a ⟨p14, c14, rfl, H⟩ F
     refine bk (List.replicate 5 0) F H rfl trivial ?_; clear F; intro a F
     replace H := H.nf 10 rfl
     refine nl (sq (sq ?_))
     by_cases hg15 : x13.2 = 0
     · replace hm := ifT hg15 hm
       obtain ⟨x16, ex16, hm⟩ := ob hm
       have hl17 : (x16).length = 32 := by obtain ⟨_, _, _, _, _, hx, _⟩ := calls_ex (w_shaSum ex16 (H.pm 10 [8, 9, 0, 0, 1, 2, 3, 4, 5, 6, 7, 8, 9] rfl:)); exact hx
       refine qr H (by kernel_rfl) (by kernel_rfl) ?_
       refine qbk [0, 0, 0] F rfl trivial ?_; clear F; intro a F
       replace F := F.nT 41 hg15 rfl
       refine qbk [0] F rfl trivial ?_; clear F; intro a F
       refine qg_on F rfl rfl rfl rfl ?_
       refine q_call F rfl rfl rfl (fun u hu => y_call F rfl rfl ent35) (fun u hu => (w_shaSum ex16 (hu.pm 10 [8, 9, 0, 0, 1, 2, 3, 4, 5, 6, 7, 8, 9] rfl:)).mono fun e u2 he => by obtain ⟨v, rfl, rfl, _, H⟩ := he; exact ⟨rfl, H⟩) ?_; clear F; intro a F
       refine qbk [7999] F rfl ⟨rfl, (aggn agg35 ((bcells_length _).trans hl1)), trivial⟩ ?_; clear F; intro a F
       refine qg_on F rfl rfl rfl rfl ?_
       refine q_val F rfl rfl rfl (fun u hu => y_neqA F key35 rfl rfl rfl hl17 hl1) ?_; clear F; intro a F
       refine qbk [0] F rfl trivial ?_; clear F; intro a F
       refine q_nil ?_; clear H; intro w H
       refine ct (cN F rfl (fun hg18 => ?_) (fun hg18 => ?_))
       · replace hm := ifF hg18 hm
         refine sr (bk [0, 0] F H rfl trivial ?_); clear F; intro a F
         refine nl (wr (tr ?_))
         replace H := H.slNil rByte
         replace H := O_store_Store_s (H.pm 11 [4, 5, 6, 7, 0, 1, 2, 3, 8, 9, 10] rfl:)
         cases hm
         refine x_ret2 F rfl rfl rfl ?_
         exact ⟨_, rfl, none, 0, rfl, (H.pm 8 [1, 0, 4] rfl:)⟩
       · replace hm := ifT hg18 hm
         refine sk (ct (sr (bk [0, 0, 0] F H rfl trivial ?_))); clear F; intro a F
         refine nl (wr ?_)
         replace H := O_store_Store_s (H.pm 10 [3, 4, 5, 6, 0, 1, 2, 7, 8, 9] rfl:)
         cases hm
         refine x_ret2 F rfl rfl rfl ?_
         exact ⟨_, rfl, p14, c14, rfl, (H.pm 7 [1, 0, 3] rfl:)⟩
     · replace hm := ifF hg15 hm
       refine qr H (by kernel_rfl) (by kernel_rfl) ?_
       refine qbk [0, 0, 0] F rfl trivial ?_; clear F; intro a F
       replace F := F.nF 41 hg15 rfl
       refine qbk (List.replicate 5 0) F rfl trivial ?_; clear F; intro a F
       refine q_nil ?_; clear H; intro w H
       refine ct (cT F rfl ?_)
       refine sr (bk [0, 0] F H rfl trivial ?_); clear F; intro a F
       refine nl (wr (tr ?_))
       replace H := H.slNil rByte
       replace H := O_store_Store_s (H.pm 11 [4, 5, 6, 7, 0, 1, 2, 3, 8, 9, 10] rfl:)
       cases hm
       refine x_ret2 F rfl rfl rfl ?_
       exact ⟨_, rfl, none, 0, rfl, (H.pm 8 [1, 0, 4] rfl:)⟩
end Go.Proofs.YtfepdfjhejkemaaDoor
