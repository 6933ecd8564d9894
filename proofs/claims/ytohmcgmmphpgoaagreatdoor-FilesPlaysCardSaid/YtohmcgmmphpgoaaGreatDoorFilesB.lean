/- files -/
import Derived.Test.YtohmcgmmphpgoaaGreatDoorFilesA
set_option linter.unusedSimpArgs false
set_option linter.unusedVariables false
namespace Go.Proofs.YtohmcgmmphpgoaaGreatDoor
open Go.RowKit Go.Tri
theorem ent107 : ∀ args w, (callFunc 107 args).run Tryz.prog w = .ok (.enter 107 args) w := enters Tryz.func107 (by kernel_rfl) rfl
theorem ent106 : ∀ args w, (callFunc 106 args).run Tryz.prog w = .ok (.enter 106 args) w := enters Tryz.func106 (by kernel_rfl) rfl
set_option maxRecDepth 100000 in
set_option maxHeartbeats 4000000 in
theorem w_sBelow {s : (List UInt8) → Option T_files_file} {p : List UInt8} {q1 : Option Nat} {w0 w : World} {l : List HP}  {r : (List (List UInt8))} (hm : sBelow s p = some r) (H : St w0 w (HP.mm q1 ekStr true R_files_file (fun _ => True) s :: l)) :
  Calls Tryz.prog 83 [.map q1, .string (txb (p))].toArray w (fun e w' => ∃ v, e = .returned v ∧ ∃ (p2 : Option Addr) (c2 : Nat), v = .slice p2 (r).length c2 ∧ St w0 w' (HP.ow rStr 9 p2 c2 r :: HP.mm q1 ekStr true R_files_file (fun _ => True) s :: l)) := by
 unfold sBelow at hm
 refine x_enter Tryz.func83 rfl rfl rfl ?_
 intro a F
 refine sr (bk [0] F H rfl trivial ?_); clear F; intro a F
 refine nl (sq (sr (bk [0] F H rfl trivial ?_))); clear F; intro a F
 obtain ⟨raw3, cl3, es3, hM3, hE3, H⟩ := H.moOpen 0 rfl
 refine s_rngM wkP F rfl rfl rfl Tryz.underlying65 rfl H 1 rfl rfl ?_; clear F H; intro r3 w a H F
 replace H := H.nf 3 rfl
 refine nl (bl ?_)
 replace H := H.owNil rStr 9
 have hmM76 := hm; clear hm
 refine x_loopM es3 hmM76 (fun (s76 : (List (List UInt8))) vis76 aa ww => ∃ (p77 : Option Addr) (c77 : Nat), Fr ⟨28, []⟩ aa [(1, .string (txb (p))), (4, .slice p77 (s76).length c77), (7, .pointer (some ⟨r3, 0, none⟩))] ∧ St w0 ww (HP.obj r3 (mit q1 cl3 (bornsOf raw3 (vis76))) :: HP.es R_files_file (fun _ => True) es3 s :: HP.mo q1 raw3 cl3 :: HP.ow rStr 9 p77 c77 s76 :: l)) ⟨none, 0, F.sl rfl, (H.pm 4 [1, 2, 3, 0] rfl:)⟩ ?_
 clear F H
 rintro s76 vis76 a w hr76 ⟨p77, c77, F, H⟩
 refine sr (s_nxtM wkP F rfl rfl rfl rfl rfl hM3 hr76.ok H 2 0 rfl rfl rfl (fun hall78 w a H F => ?_) (fun q78 k78 cs78 v78 hq78 hn78 w a H F => ?_))
 have hm := elimL (hr76.done hE3 hall78 hmM76)
 refine bk [0] F H rfl trivial ?_; clear F; intro a F
 refine nl (sq (cF F rfl ?_))
 refine ex (cx (cx ?_))
 replace H := H.moMm 2 1 hM3 rfl rfl
 refine ch (ct (sr (bk [0] F H rfl trivial ?_))); clear F; intro a F
 obtain ⟨x79, ex79, hm⟩ := ob hm
 refine sc wkP F rfl ent107 (w_sortT ex79 (H.pm 4 [3, 0, 1, 2] rfl:):) ?_; clear F H; rintro _ w a ⟨rfl, hl80, H⟩ F
 replace F := F.bool (k := 4) (u := .slice p77 (x79).length c77) rfl (by rw [hl80])
 replace F := F.bool (k := 25) (u := .slice p77 (x79).length c77) rfl (by rw [hl80])
 replace H := H.nf 4 rfl
 refine nl (sr (bk [0, 0] F H rfl trivial ?_)); clear F; intro a F
 refine nl (wr ?_)
 cases hm
 refine x_ret1 F rfl rfl ?_
 exact ⟨_, rfl, p77, c77, rfl, (H.pm 4 [0, 3] rfl:)⟩
 obtain ⟨o78, hm, hs78, hx78⟩ := hr76.step hE3 hq78 hn78 hmM76
 refine bk [0] F H rfl trivial ?_; clear F; intro a F
 refine nl (sq (cT F rfl ?_))
 refine sk (ct ?_)
 obtain ⟨r96, er96, hm96⟩ := ob hm; clear hm; revert er96; intro hm
 refine x_mid (fun aa ww => ∃ (p97 : Option Addr) (c97 : Nat), Fr ⟨28, []⟩ aa [(1, .string (txb (p))), (4, .slice p97 (r96).length c97), (7, .pointer (some ⟨r3, 0, none⟩))] ∧ St w0 ww (HP.obj r3 (mit q1 cl3 (bornsOf raw3 (vis76 ++ [q78]))) :: HP.es R_files_file (fun _ => True) es3 s :: HP.mo q1 raw3 cl3 :: HP.ow rStr 9 p97 c97 r96 :: l)) ?_ ?_
 refine bl (sr ?_)
 obtain ⟨hk98, H⟩ := H.esEl 1 rfl hq78
 refine s_val wkP F rfl rfl rfl rfl (y_entM (agg := true) (ek := ekStr) F rfl rfl hM3 hq78 H 3 1 rfl rfl rfl) ?_; clear F; intro a F
 refine bk [0, 0] F H rfl trivial ?_; clear F; intro a F
 refine nl (sr (bk [0] F H rfl trivial ?_)); clear F; intro a F
 refine s_val wkP F rfl rfl rfl rfl (y_neT (l := k78) (m := [47]) F rfl rfl rfl) ?_; clear F; intro a F
 refine bk [0] F H rfl trivial ?_; clear F; intro a F
 by_cases hg99 : k78 = ([47])
 replace hm := ifT hg99 hm
 replace F := F.nT 14 hg99 rfl
 refine bk (List.replicate 5 0) F H rfl trivial ?_; clear F; intro a F
 refine nl (cF F rfl ?_)
 refine sk (bn ?_)
 cases hm
 refine ct ?_
 exact ⟨p77, c77, F.sl rfl, (H.pm 5 [1, 2, 3, 4] rfl:)⟩
 replace hm := ifF hg99 hm
 replace F := F.nF 14 hg99 rfl
 refine bk [0] F H rfl trivial ?_; clear F; intro a F
 refine g_onP F rfl rfl rfl rfl ?_
 obtain ⟨x100, ex100, hm⟩ := ob hm
 refine sc wkP F rfl ent50 (w_m_path_Parent ex100 H:) ?_; clear F H; rintro _ w a ⟨rfl, H⟩ F
 refine bk [0] F H rfl trivial ?_; clear F; intro a F
 refine g_onP F rfl rfl rfl rfl ?_
 refine s_val wkP F rfl rfl rfl rfl (y_eqT (l := x100) (m := p) F rfl rfl rfl) ?_; clear F; intro a F
 refine bk [0] F H rfl trivial ?_; clear F; intro a F
 replace H := H.nf 5 rfl
 refine nl ?_
 obtain ⟨r106, er106, hm106⟩ := ob hm; clear hm; revert er106; intro hm
 refine x_mid (fun aa ww => ∃ (p107 : Option Addr) (c107 : Nat), Fr ⟨28, []⟩ aa [(1, .string (txb (p))), (4, .slice p107 (r106).length c107), (7, .pointer (some ⟨r3, 0, none⟩))] ∧ St w0 ww (HP.obj r3 (mit q1 cl3 (bornsOf raw3 (vis76 ++ [q78]))) :: HP.es R_files_file (fun _ => True) es3 s :: HP.mo q1 raw3 cl3 :: HP.ow rStr 9 p107 c107 r106 :: l)) ?_ ?_
 refine cP F rfl (fun hg108 => ?_) (fun hg108 => ?_)
 replace hm := ifT hg108 hm
 refine rl (bk [0, 0] F H rfl trivial ?_); clear F; intro a F
 obtain ⟨x109, ex109, hm⟩ := ob hm
 refine sc wkP F rfl ent106 (w_m_path_Base ex109 H:) ?_; clear F H; rintro _ w a ⟨rfl, H⟩ F
 refine s_buildC wkP F rfl rfl rfl elem35 zero9 rfl rfl rfl rfl (by simp [Value.cells]) (by decide) H ?_; clear F H; intro b110 w a H F
 replace H := H.blkOw1 (R := rStr) (x := x109) (fun gg => rfl)
 replace H := H.frz 0 rfl
 obtain ⟨x112, ex112, hm⟩ := ob hm
 refine s_app wkP F rfl rfl rfl rfl rfl rfl elem35 rfl ex112 H 5 0 rfl rfl ?_; clear F H; intro p111 c111 w a H F
 refine bk [0] F H rfl trivial ?_; clear F; intro a F
 replace H := H.nf 6 rfl
 refine lz ?_
 cases hm
 refine ct ?_
 exact ⟨p111, c111, F.sl rfl, (H.pm 6 [2, 3, 4, 5] rfl:)⟩
 replace hm := ifF hg108 hm
 refine sk ?_
 cases hm
 refine ct ?_
 exact ⟨p77, c77, F.sl rfl, (H.pm 5 [1, 2, 3, 4] rfl:)⟩
 clear F H hm
 rintro a w ⟨p107, c107, F, H⟩; have hm := hm106; clear hm106
 refine bn ?_
 cases hm
 refine ct ?_
 exact ⟨p107, c107, F.sl rfl, H⟩
 clear F H hm
 rintro a w ⟨p97, c97, F, H⟩; have hm := hm96; clear hm96
 refine ct ?_; cases hm
 exact ⟨_, q78, hs78 _ rfl, ⟨p97, c97, F.sl rfl, H⟩⟩
theorem ent82 : ∀ args w, (callFunc 82 args).run Tryz.prog w = .ok (.enter 82 args) w := enters Tryz.func82 (by kernel_rfl) rfl
theorem ent61 : ∀ args w, (callFunc 61 args).run Tryz.prog w = .ok (.enter 61 args) w := enters Tryz.func61 (by kernel_rfl) rfl
set_option maxRecDepth 100000 in
set_option maxHeartbeats 4000000 in
theorem w_sRename {s : (List UInt8) → Option T_files_file} {o : T_api_Op} {m1 : Nat} {cs2 : List Value} {w0 w : World} {l : List HP}  {r : Int × ((List UInt8) → Option T_files_file)} (hm : sRename s o = some r) (H : St w0 w (HP.mm (some m1) ekStr true R_files_file (fun _ => True) s :: HP.rc R_api_Op cs2 o :: l)) :
  Calls Tryz.prog 64 [.map (some m1), .agg cs2.toArray].toArray w (fun e w' => ∃ v, e = .returned v ∧ v = .int .i64 (r.1) ∧ St w0 w' (HP.mm (some m1) ekStr true R_files_file (fun _ => True) r.2 :: l)) := by
 unfold sRename at hm
 refine x_enter Tryz.func64 rfl rfl rfl ?_
 intro a F
 refine sr (s_boxA wkP F rfl rfl rfl rfl rfl H ?_); clear F H; intro b3 w a H F
 refine bk [0] F H rfl trivial ?_; clear F; intro a F
 replace H := H.nf 3 rfl
 refine nl (sq (sr (bk [1] F H rfl ⟨fld25_1, trivial⟩ ?_))); clear F; intro a F
 replace H := rc_api_Op (H.pk 2 rfl); obtain ⟨p4, c5, rfl, H⟩ := H
 refine bk [1001] F H rfl ⟨rfl, plain9, trivial⟩ ?_; clear F; intro a F
 obtain ⟨x6, ex6, hm⟩ := ob hm
 refine sc wkP F rfl ent49 (w_m_path_Check ex6 H:) ?_; clear F H; rintro _ w a ⟨rfl, H⟩ F
 refine bk [0, 0] F H rfl trivial ?_; clear F; intro a F
 by_cases hg7 : x6 = 0
 replace hm := ifT hg7 hm
 replace F := F.nT 16 hg7 rfl
 refine bk [2, 1002] F H rfl ⟨fld25_2, rfl, plain9, trivial⟩ ?_; clear F; intro a F
 refine g_onP F rfl rfl rfl rfl ?_
 obtain ⟨x8, ex8, hm⟩ := ob hm
 refine sc wkP F rfl ent49 (w_m_path_Check ex8 H:) ?_; clear F H; rintro _ w a ⟨rfl, H⟩ F
 refine bk [0, 0] F H rfl trivial ?_; clear F; intro a F
 replace H := H.nf 3 rfl
 refine nl (cN F rfl (fun hg9 => ?_) (fun hg9 => ?_))
 replace hm := ifF hg9 hm
 refine sr (bk [0] F H rfl trivial ?_); clear F; intro a F
 refine nl (wr (tr ?_))
 cases hm
 refine x_ret1 F rfl rfl ?_
 exact ⟨_, rfl, rfl, (H.pm 3 [2] rfl:)⟩
 replace hm := ifT hg9 hm
 refine sk (ct (sq (sr (bk [0, 1, 1001] F H rfl ⟨fld25_1, rfl, plain9, trivial⟩ ?_)))); clear F; intro a F
 obtain ⟨x10, ex10, hm⟩ := ob hm
 refine sc wkP F rfl ent79 (w_sLook ex10 (H.pm 3 [2, 0, 1] rfl:):) ?_; clear F H; rintro _ w a ⟨cs11, rfl, H⟩ F
 refine bk [0, 0, 0] F H rfl trivial ?_; clear F; intro a F
 replace H := H.owNil rByte 5
 refine s_allocA wkP F rfl rfl rfl agz71 rfl H ?_; clear F H; intro b12 w a H F
 refine s_storeA wkP F rfl rfl agg71 rfl rfl rfl H 0 rfl (H.rcLen 2 rfl) (by simp only [List.length_append, List.length_cons, List.length_nil, icells_length, bcells_length]) (H.rcFlat 2 rfl) ?_; clear H; intro w H
 refine bk [0] F H rfl trivial ?_; clear F; intro a F
 replace H := H.nf 6 rfl
 refine nl (sr (bk [0, 0] F H rfl trivial ?_)); clear F; intro a F
 refine nl (cN F rfl (fun hg13 => ?_) (fun hg13 => ?_))
 replace hm := ifF hg13 hm
 refine sr (bk [0, 0] F H rfl trivial ?_); clear F; intro a F
 refine nl (wr (tr ?_))
 cases hm
 refine x_ret1 F rfl rfl ?_
 exact ⟨_, rfl, rfl, (H.pm 6 [3] rfl:)⟩
 replace hm := ifT hg13 hm
 refine sk (ct (sq (sr (bk [1, 5001] F H rfl ⟨fld25_1, rfl, plain9, trivial⟩ ?_)))); clear F; intro a F
 refine s_val wkP F rfl rfl rfl rfl (y_eqT (l := o.2.1) (m := [47]) F rfl rfl rfl) ?_; clear F; intro a F
 refine bk [0] F H rfl trivial ?_; clear F; intro a F
 by_cases hg14 : o.2.1 = ([47])
 replace hm := ifT hg14 hm
 replace F := F.bT 35 hg14 rfl
 refine bk (List.replicate 6 0) F H rfl trivial ?_; clear F; intro a F
 refine nl (cT F rfl ?_)
 refine sr (bk [0] F H rfl trivial ?_); clear F; intro a F
 refine nl (wr (tr ?_))
 cases hm
 refine x_ret1 F rfl rfl ?_
 exact ⟨_, rfl, rfl, (H.pm 6 [3] rfl:)⟩
 replace hm := ifF hg14 hm
 replace F := F.bF 35 hg14 rfl
 refine bk [1, 5001, 2, 5002] F H rfl ⟨fld25_1, rfl, plain9, fld25_2, rfl, plain9, trivial⟩ ?_; clear F; intro a F
 refine g_onP F rfl rfl rfl rfl ?_
 obtain ⟨x15, ex15, hm⟩ := ob hm
 refine sc wkP F rfl ent82 (w_m_path_Within ex15 H:) ?_; clear F H; rintro _ w a ⟨rfl, H⟩ F
 refine bk [0] F H rfl trivial ?_; clear F; intro a F
 replace H := H.nf 6 rfl
 refine nl (cB F rfl (fun hg16 => ?_) (fun hg16 => ?_))
 replace hm := ifT hg16 hm
 refine sr (bk [0] F H rfl trivial ?_); clear F; intro a F
 refine nl (wr (tr ?_))
 cases hm
 refine x_ret1 F rfl rfl ?_
 exact ⟨_, rfl, rfl, (H.pm 6 [3] rfl:)⟩
 replace hm := ifF (nT hg16) hm
 refine sk (ct (sq (sr (bk [0, 2, 5002] F H rfl ⟨fld25_2, rfl, plain9, trivial⟩ ?_)))); clear F; intro a F
 obtain ⟨x17, ex17, hm⟩ := ob hm
 refine sc wkP F rfl ent61 (w_sRoom ex17 (H.pm 6 [3, 0, 1, 2, 4, 5] rfl:):) ?_; clear F H; rintro _ w a ⟨rfl, H⟩ F
 refine bk [0] F H rfl trivial ?_; clear F; intro a F
 replace H := H.nf 6 rfl
 refine nl (sr (bk [0, 0] F H rfl trivial ?_)); clear F; intro a F
 refine nl (cN F rfl (fun hg18 => ?_) (fun hg18 => ?_))
 replace hm := ifF hg18 hm
 refine sr (bk [0, 0] F H rfl trivial ?_); clear F; intro a F
 refine nl (wr (tr ?_))
 cases hm
 refine x_ret1 F rfl rfl ?_
 exact ⟨_, rfl, rfl, (H.pm 6 [0] rfl:)⟩
 replace hm := ifT hg18 hm
 refine sk (ct (sr (s_mmNew ekStr false rStr (fun _ => True) wkP F rfl rfl rfl rfl H ?_))); clear F H; intro m19 w a H F
 refine bk [0] F H rfl trivial ?_; clear F; intro a F
 replace H := H.nf 7 rfl
 refine nl (sq (sr (bk [0] F H rfl trivial ?_))); clear F; intro a F
 obtain ⟨raw20, cl20, es20, hM20, hE20, H⟩ := H.moOpen 1 rfl
 refine s_rngM wkP F rfl rfl rfl Tryz.underlying65 rfl H 2 rfl rfl ?_; clear F H; intro r20 w a H F
 replace H := H.nf 9 rfl
 refine nl (bl ?_)
 have hmM141 := hm; clear hm
 refine x_loopM es20 hmM141 (fun (s141 : ((List UInt8) → Option (List UInt8))) vis141 aa ww => Fr ⟨89, []⟩ aa [(0, .map (some m1)), (3, .pointer (some ⟨b3, 0, none⟩)), (8, .map (some m19)), (51, .pointer (some ⟨r20, 0, none⟩))] ∧ St w0 ww (HP.obj r20 (mit (some m1) cl20 (bornsOf raw20 (vis141))) :: HP.es R_files_file (fun _ => True) es20 s :: HP.mm (some m19) ekStr false rStr (fun _ => True) s141 :: HP.mo (some m1) raw20 cl20 :: HP.blk b12 (cs11) 71 :: HP.ow rByte 5 none 0 ([] : List UInt8) :: HP.rc R_files_file cs11 x10.1 :: HP.sl rByte p4 c5 o.2.2.2.2.2 :: HP.blk b3 ([.int .i64 (o.1), .string (txb (o.2.1)), .string (txb (o.2.2.1)), .int .i64 (o.2.2.2.1), .int .i64 (o.2.2.2.2.1), .slice p4 (o.2.2.2.2.2).length c5]) 25 :: l)) ⟨F.sl rfl, H⟩ ?_
 clear F H
 rintro s141 vis141 a w hr141 ⟨F, H⟩
 refine sr (s_nxtM wkP F rfl rfl rfl rfl rfl hM20 hr141.ok H 3 0 rfl rfl rfl (fun hall142 w a H F => ?_) (fun q142 k142 cs142 v142 hq142 hn142 w a H F => ?_))
 have hm := elimL (hr141.done hE20 hall142 hmM141)
 refine bk [0] F H rfl trivial ?_; clear F; intro a F
 refine nl (sq (cF F rfl ?_))
 refine ex (cx (cx ?_))
 replace H := H.moMm 3 1 hM20 rfl rfl
 refine ch (ct (sq (sr (bk [0] F H rfl trivial ?_)))); clear F; intro a F
 obtain ⟨raw143, cl143, es143, hM143, hE143, H⟩ := H.moOpen 2 rfl
 refine s_rngM wkP F rfl rfl rfl Tryz.underlying113 rfl H 3 rfl rfl ?_; clear F H; intro r143 w a H F
 replace H := H.nf 11 rfl
 refine nl ?_
 obtain ⟨r157, er157, hm157⟩ := ob hm; clear hm; revert er157; intro hm
 refine x_mid (fun aa ww => Fr ⟨89, []⟩ aa [] ∧ St w0 ww (HP.obj r20 (mit (some m1) cl20 (bornsOf raw20 (vis141))) :: HP.es R_files_file (fun _ => True) es20 s :: HP.mm (some m19) ekStr false rStr (fun _ => True) s141 :: HP.mm (some m1) ekStr true R_files_file (fun _ => True) r157 :: HP.blk b12 (cs11) 71 :: HP.ow rByte 5 none 0 ([] : List UInt8) :: HP.rc R_files_file cs11 x10.1 :: HP.sl rByte p4 c5 o.2.2.2.2.2 :: HP.blk b3 ([.int .i64 (o.1), .string (txb (o.2.1)), .string (txb (o.2.2.1)), .int .i64 (o.2.2.2.1), .int .i64 (o.2.2.2.2.1), .slice p4 (o.2.2.2.2.2).length c5]) 25 :: l)) ?_ ?_
 refine bl ?_
 have hmM166 := hm; clear hm
 refine x_loopM es143 hmM166 (fun (s166 : ((List UInt8) → Option T_files_file)) vis166 aa ww => Fr ⟨89, []⟩ aa [(0, .map (some m1)), (76, .pointer (some ⟨r143, 0, none⟩))] ∧ St w0 ww (HP.obj r143 (mit (some m19) cl143 (bornsOf raw143 (vis166))) :: HP.es rStr (fun _ => True) es143 s141 :: HP.obj r20 (mit (some m1) cl20 (bornsOf raw20 (vis141))) :: HP.es R_files_file (fun _ => True) es20 s :: HP.mo (some m19) raw143 cl143 :: HP.mm (some m1) ekStr true R_files_file (fun _ => True) s166 :: HP.blk b12 (cs11) 71 :: HP.ow rByte 5 none 0 ([] : List UInt8) :: HP.rc R_files_file cs11 x10.1 :: HP.sl rByte p4 c5 o.2.2.2.2.2 :: HP.blk b3 ([.int .i64 (o.1), .string (txb (o.2.1)), .string (txb (o.2.2.1)), .int .i64 (o.2.2.2.1), .int .i64 (o.2.2.2.2.1), .slice p4 (o.2.2.2.2.2).length c5]) 25 :: l)) ⟨F.sl rfl, H⟩ ?_
 clear F H
 rintro s166 vis166 a w hr166 ⟨F, H⟩
 refine sr (s_nxtM wkP F rfl rfl rfl rfl rfl hM143 hr166.ok H 4 0 rfl rfl rfl (fun hall167 w a H F => ?_) (fun q167 k167 cs167 v167 hq167 hn167 w a H F => ?_))
 have hm := elimL (hr166.done hE143 hall167 hmM166)
 refine bk [0] F H rfl trivial ?_; clear F; intro a F
 refine nl (sq (cF F rfl ?_))
 refine ex (cx (cx ?_))
 replace H := H.moMm 4 1 hM143 rfl rfl
 refine ch ?_
 cases hm
 refine ct ?_
 exact ⟨F.cut _ trivial, (H.pm 11 [2, 3, 4, 5, 6, 7, 8, 9, 10] rfl:)⟩
 obtain ⟨o167, hm, hs167, hx167⟩ := hr166.step hE143 hq167 hn167 hmM166
 refine bk [0] F H rfl trivial ?_; clear F; intro a F
 refine nl (sq (cT F rfl ?_))
 refine sk (ct (bl (sr ?_)))
 obtain ⟨hk168, H⟩ := H.esEl 1 rfl hq167
 obtain rfl := H.rcStr 0 rfl
 replace H := H.dp 0 rfl
 refine s_val wkP F rfl rfl rfl rfl (y_entM (agg := false) (ek := ekStr) F rfl rfl hM143 hq167 H 4 0 rfl rfl rfl) ?_; clear F; intro a F
 refine bk [0, 0, 0, 0] F H rfl trivial ?_; clear F; intro a F
 refine nl (sr (bk [0, 0, 0, 0] F H rfl trivial ?_)); clear F; intro a F
 obtain ⟨es169, H⟩ := H.mmOpen 5 rfl
 obtain ⟨cs170, hcs170, H⟩ := H.mxGet 5 rfl k167 (zc := ([Value.bool false] ++ [Value.slice none 0 0])) (z0 := (false, [])) (fun B => ⟨_, _, rfl, (fun _ => rfl) B, ((fun _ => rSl_nil _ _) B)⟩)
 refine s_val wkP F rfl rfl rfl rfl (y_mxGet (agg := true) (zc := ([Value.bool false] ++ [Value.slice none 0 0])) F Tryz.underlying65 (keyStr Tryz.underlying9) (fun w => aggz71.run_zero w) rfl H 6 rfl rfl (k := k167) rfl trivial hcs170) ?_; clear F; intro a F
 replace H := H.mxShut 6 rfl
 refine s_mmSet wkP F rfl rfl Tryz.underlying65 (keyStr Tryz.underlying9) rfl H 6 rfl rfl (k := v167) rfl (cs := cs170) rfl trivial (v := ((s166 k167).getD (false, []))) (fun gg => (gg 0 _ rfl).choose_spec) ?_; clear H; intro w H
 replace H := H.nf 12 rfl
 refine nl (rl (bk [0, 0] F H rfl trivial ?_)); clear F; intro a F
 refine s_mmDelN wkP F rfl rfl Tryz.underlying65 (keyStr Tryz.underlying9) rfl H 6 rfl rfl (k := k167) rfl trivial ?_; clear H; intro w H
 replace H := H.nf 12 rfl
 refine lz (bn (ct ?_)); cases hm
 exact ⟨_, q167, hs167 _ rfl, ⟨F.sl rfl, (H.pm 12 [1, 2, 3, 4, 5, 6, 7, 8, 9, 10, 11] rfl:)⟩⟩
 clear F H hm
 rintro a w ⟨F, H⟩; have hm := hm157; clear hm157
 refine ct (sr (bk [0] F H rfl trivial ?_)); clear F; intro a F
 refine nl (wr ?_)
 cases hm
 refine x_ret1 F rfl rfl ?_
 exact ⟨_, rfl, rfl, (H.pm 9 [3] rfl:)⟩
 obtain ⟨o142, hm, hs142, hx142⟩ := hr141.step hE20 hq142 hn142 hmM141
 refine bk [0] F H rfl trivial ?_; clear F; intro a F
 refine nl (sq (cT F rfl ?_))
 refine sk (ct ?_)
 obtain ⟨o186, eo186, hm186⟩ := ob hm; clear hm; revert eo186; intro hm
 refine x_mid (fun aa ww => ∃ r186, o186 = Sum.inl r186 ∧ Fr ⟨89, []⟩ aa [(0, .map (some m1)), (3, .pointer (some ⟨b3, 0, none⟩)), (8, .map (some m19)), (51, .pointer (some ⟨r20, 0, none⟩))] ∧ St w0 ww (HP.obj r20 (mit (some m1) cl20 (bornsOf raw20 (vis141 ++ [q142]))) :: HP.es R_files_file (fun _ => True) es20 s :: HP.mm (some m19) ekStr false rStr (fun _ => True) r186 :: HP.mo (some m1) raw20 cl20 :: HP.blk b12 (cs11) 71 :: HP.ow rByte 5 none 0 ([] : List UInt8) :: HP.rc R_files_file cs11 x10.1 :: HP.sl rByte p4 c5 o.2.2.2.2.2 :: HP.blk b3 ([.int .i64 (o.1), .string (txb (o.2.1)), .string (txb (o.2.2.1)), .int .i64 (o.2.2.2.1), .int .i64 (o.2.2.2.2.1), .slice p4 (o.2.2.2.2.2).length c5]) 25 :: l)) ?_ ?_
 refine bl (sr ?_)
 obtain ⟨hk187, H⟩ := H.esEl 1 rfl hq142
 refine s_val wkP F rfl rfl rfl rfl (y_entM (agg := true) (ek := ekStr) F rfl rfl hM20 hq142 H 4 1 rfl rfl rfl) ?_; clear F; intro a F
 refine bk [0, 0] F H rfl trivial ?_; clear F; intro a F
 refine nl (sr (bk [1, 9001, 0] F H rfl ⟨fld25_1, rfl, plain9, trivial⟩ ?_)); clear F; intro a F
 obtain ⟨x188, ex188, hm⟩ := ob hm
 refine sc wkP F rfl ent82 (w_m_path_Within ex188 H:) ?_; clear F H; rintro _ w a ⟨rfl, H⟩ F
 replace H := H.nf 10 rfl
 refine nl ?_
 obtain ⟨o195, eo195, hm195⟩ := ob hm; clear hm; revert eo195; intro hm
 refine x_mid (fun aa ww => ∃ r195, o195 = Sum.inl r195 ∧ Fr ⟨89, []⟩ aa [(0, .map (some m1)), (3, .pointer (some ⟨b3, 0, none⟩)), (8, .map (some m19)), (51, .pointer (some ⟨r20, 0, none⟩))] ∧ St w0 ww (HP.obj r20 (mit (some m1) cl20 (bornsOf raw20 (vis141 ++ [q142]))) :: HP.es R_files_file (fun _ => True) es20 s :: HP.mm (some m19) ekStr false rStr (fun _ => True) r195 :: HP.mo (some m1) raw20 cl20 :: HP.blk b12 (cs11) 71 :: HP.ow rByte 5 none 0 ([] : List UInt8) :: HP.rc R_files_file cs11 x10.1 :: HP.sl rByte p4 c5 o.2.2.2.2.2 :: HP.blk b3 ([.int .i64 (o.1), .string (txb (o.2.1)), .string (txb (o.2.2.1)), .int .i64 (o.2.2.2.1), .int .i64 (o.2.2.2.2.1), .slice p4 (o.2.2.2.2.2).length c5]) 25 :: l)) ?_ ?_
 refine cB F rfl (fun hg196 => ?_) (fun hg196 => ?_)
 replace hm := ifT hg196 hm
 refine sq ?_
 obtain ⟨x197, ex197, hm⟩ := ob hm
 obtain ⟨x198, ex198, hm⟩ := ob hm
 refine mix_region [10] [10] (.step 0 0 (.step 0 1 (.step 0 2 (.step 1 3 (.step 0 4 (.step 0 5 (.step 1 6 (.step 0 7 (.step 0 8 (.step 0 9 (.step 3 10 .done))))))))))) (fun u => ∃ ls, St w0 u (ls)) (by kernel_rfl) (by kernel_rfl) ⟨_, H.drew⟩ ?_
 replace H := H.drew
 generalize w.drew = w at H ⊢
 refine mbk [0, 0, 2, 9002, 0, 1, 9001] F H rfl ⟨fld25_2, rfl, plain9, fld25_1, rfl, plain9, trivial⟩ ?_; clear F; intro a F
 refine m_pure F rfl rfl rfl rfl (fun u hu => y_lenT (l := o.2.1) F rfl Tryz.underlying9 rfl) ?_; clear F; intro a F
 refine m_pure F rfl rfl rfl rfl (fun u hu => y_slTL F rfl Tryz.underlying9 rfl rfl ex197) ?_; clear F; intro a F
 refine m_pure F rfl rfl rfl rfl (fun u hu => y_addO F rfl rfl rfl ex198) ?_; clear F; intro a F
 refine m_last rfl rfl ?_
 refine s_mmSet wkP F rfl rfl Tryz.underlying113 (keyStr Tryz.underlying9) rfl H 3 rfl rfl (k := k142) rfl (cs := [.string (txb (x198))]) rfl trivial (v := x198) (fun gg => rfl) ?_; clear H; intro w H
 refine lz ?_; refine ct ?_
 refine m_nil ?_
 refine ct (sr (bk [0, 0] F H rfl trivial ?_)); clear F; intro a F
 obtain ⟨es199, H⟩ := H.mmOpen 3 rfl
 obtain ⟨cs200, hcs200, H⟩ := H.mxGet 3 rfl k142 (zc := [Value.string ByteArray.empty]) (z0 := []) (fun _ => rfl)
 obtain rfl := H.rcStr 0 rfl
 replace H := H.dp 0 rfl
 refine s_val wkP F rfl rfl rfl rfl (y_mxGet (agg := false) (zc := [Value.string ByteArray.empty]) F Tryz.underlying113 (keyStr Tryz.underlying9) (fun w => zero9.run w) rfl H 3 rfl rfl (k := k142) rfl trivial hcs200) ?_; clear F; intro a F
 refine s_val wkP F rfl rfl rfl rfl (y_lenT (l := (((fset k142 x198 s141) k142).getD [])) F rfl Tryz.underlying9 rfl) ?_; clear F; intro a F
 refine bk [0] F H rfl trivial ?_; clear F; intro a F
 replace H := H.nf 10 rfl
 refine nl ?_
 replace H := H.mxShut 3 rfl
 refine cP F rfl (fun hg201 => ?_) (fun hg201 => ?_)
 replace hm := ifT hg201 hm
 refine sr (bk [0] F H rfl trivial ?_); clear F; intro a F
 replace H := H.nf 10 rfl
 refine nl (wr (tr ?_))
 cases hm
 replace hm := elimR hm195
 refine br (tr ?_)
 cases hm
 replace hm := elimR hm186
 refine tr ?_; cases hm; obtain rfl := elimS (hx142 _ rfl)
 replace H := H.moMm 4 2 hM20 rfl rfl
 refine br (tr (x_ret1 F rfl rfl ?_))
 exact ⟨_, rfl, rfl, (H.pm 10 [4] rfl:)⟩
 replace hm := ifF hg201 hm
 refine sk ?_
 cases hm
 refine ct ?_
 exact ⟨_, rfl, F.sl rfl, (H.pm 10 [1, 2, 3, 4, 5, 6, 7, 8, 9] rfl:)⟩
 replace hm := ifF (nT hg196) hm
 refine sk ?_
 cases hm
 refine ct ?_
 exact ⟨_, rfl, F.sl rfl, (H.pm 10 [1, 2, 3, 4, 5, 6, 7, 8, 9] rfl:)⟩
 clear F H hm
 rintro a w ⟨r195, rfl, F, H⟩; have hm := elimL hm195; clear hm195
 refine bn ?_
 cases hm
 refine ct ?_
 exact ⟨_, rfl, F.sl rfl, H⟩
 clear F H hm
 rintro a w ⟨r186, rfl, F, H⟩; have hm := elimL hm186; clear hm186
 refine ct ?_; cases hm
 exact ⟨_, q142, hs142 _ rfl, ⟨F.sl rfl, H⟩⟩
 replace hm := ifF hg7 hm
 replace F := F.nF 16 hg7 rfl
 refine bk (List.replicate 5 0) F H rfl trivial ?_; clear F; intro a F
 replace H := H.nf 3 rfl
 refine nl (cT F rfl ?_)
 refine sr (bk [0] F H rfl trivial ?_); clear F; intro a F
 refine nl (wr (tr ?_))
 cases hm
 refine x_ret1 F rfl rfl ?_
 exact ⟨_, rfl, rfl, (H.pm 3 [2] rfl:)⟩
theorem ent83 : ∀ args w, (callFunc 83 args).run Tryz.prog w = .ok (.enter 83 args) w := enters Tryz.func83 (by kernel_rfl) rfl
set_option maxRecDepth 100000 in
set_option maxHeartbeats 4000000 in
theorem w_sRemove {s : (List UInt8) → Option T_files_file} {p : List UInt8} {m1 : Nat} {w0 w : World} {l : List HP}  {r : Int × ((List UInt8) → Option T_files_file)} (hm : sRemove s p = some r) (H : St w0 w (HP.mm (some m1) ekStr true R_files_file (fun _ => True) s :: l)) :
  Calls Tryz.prog 65 [.map (some m1), .string (txb (p))].toArray w (fun e w' => ∃ v, e = .returned v ∧ v = .int .i64 (r.1) ∧ St w0 w' (HP.mm (some m1) ekStr true R_files_file (fun _ => True) r.2 :: l)) := by
 unfold sRemove at hm
 refine x_enter Tryz.func65 rfl rfl rfl ?_
 intro a F
 refine sr (bk [0] F H rfl trivial ?_); clear F; intro a F
 refine nl (sr (bk [0, 0] F H rfl trivial ?_)); clear F; intro a F
 obtain ⟨x2, ex2, hm⟩ := ob hm
 refine sc wkP F rfl ent79 (w_sLook ex2 H:) ?_; clear F H; rintro _ w a ⟨cs3, rfl, H⟩ F
 refine bk [0, 0, 0] F H rfl trivial ?_; clear F; intro a F
 replace H := H.owNil rByte 5
 refine s_allocA wkP F rfl rfl rfl agz71 rfl H ?_; clear F H; intro b4 w a H F
 refine s_storeA wkP F rfl rfl agg71 rfl rfl rfl H 0 rfl (H.rcLen 2 rfl) (by simp only [List.length_append, List.length_cons, List.length_nil, icells_length, bcells_length]) (H.rcFlat 2 rfl) ?_; clear H; intro w H
 refine bk [0] F H rfl trivial ?_; clear F; intro a F
 replace H := H.nf 4 rfl
 refine nl (sq (bl (sr (bk [0, 0, 0] F H rfl trivial ?_)))); clear F; intro a F
 refine nl (cN F rfl (fun hg5 => ?_) (fun hg5 => ?_))
 replace hm := ifF hg5 hm
 refine sr (bk [0, 0] F H rfl trivial ?_); clear F; intro a F
 refine nl (wr (br (tr ?_)))
 cases hm
 refine x_ret1 F rfl rfl ?_
 exact ⟨_, rfl, rfl, (H.pm 4 [3] rfl:)⟩
 replace hm := ifT hg5 hm
 refine sr (bk [0] F H rfl trivial ?_); clear F; intro a F
 refine s_val wkP F rfl rfl rfl rfl (y_eqT (l := p) (m := [47]) F rfl rfl rfl) ?_; clear F; intro a F
 refine bk [0] F H rfl trivial ?_; clear F; intro a F
 refine nl (cP F rfl (fun hg6 => ?_) (fun hg6 => ?_))
 replace hm := ifT hg6 hm
 refine sr (bk [0] F H rfl trivial ?_); clear F; intro a F
 refine nl (wr (br (tr ?_)))
 cases hm
 refine x_ret1 F rfl rfl ?_
 exact ⟨_, rfl, rfl, (H.pm 4 [3] rfl:)⟩
 replace hm := ifF hg6 hm
 refine sr (bk [0, 0] F H rfl trivial ?_); clear F; intro a F
 obtain ⟨x7, ex7, hm⟩ := ob hm
 refine sc wkP F rfl ent83 (w_sBelow ex7 (H.pm 4 [3, 0, 1, 2] rfl:):) ?_; clear F H; rintro _ w a ⟨p8, c8, rfl, H⟩ F
 refine bk [0, 0, 0] F H rfl ⟨⟨_, Tryz.underlying35⟩, trivial⟩ ?_; clear F; intro a F
 replace H := H.nf 5 rfl
 refine nl (cP F rfl (fun hg9 => ?_) (fun hg9 => ?_))
 replace hm := ifT hg9 hm
 refine sr (bk [0] F H rfl trivial ?_); clear F; intro a F
 refine nl (wr (br (tr ?_)))
 cases hm
 refine x_ret1 F rfl rfl ?_
 exact ⟨_, rfl, rfl, (H.pm 5 [1] rfl:)⟩
 replace hm := ifF hg9 hm
 refine sk (bn (ct (sr (bk [0, 0] F H rfl trivial ?_)))); clear F; intro a F
 refine s_mmDelN wkP F rfl rfl Tryz.underlying65 (keyStr Tryz.underlying9) rfl H 1 rfl rfl (k := p) rfl trivial ?_; clear H; intro w H
 replace H := H.nf 5 rfl
 refine nl (sr (bk [0] F H rfl trivial ?_)); clear F; intro a F
 refine nl (wr ?_)
 cases hm
 refine x_ret1 F rfl rfl ?_
 exact ⟨_, rfl, rfl, (H.pm 5 [1] rfl:)⟩
set_option maxRecDepth 100000 in
set_option maxHeartbeats 4000000 in
theorem w_cloneT {s : List (List UInt8)} {p1 : Option Addr} {c1 : Nat} {w0 w : World} {l : List HP}  {r : (List (List UInt8))} (hm : cloneT s = some r) (H : St w0 w (HP.sl rStr p1 c1 s :: l)) :
  Calls Tryz.prog 86 [.slice p1 (s).length c1].toArray w (fun e w' => ∃ v, e = .returned v ∧ ∃ (p2 : Option Addr) (c2 : Nat), v = .slice p2 (r).length c2 ∧ St w0 w' (HP.ow rStr 9 p2 c2 r :: l)) := by
 unfold cloneT at hm
 refine x_enter Tryz.func86 rfl rfl rfl ?_
 intro a F
 refine sr (bk [0] F H rfl trivial ?_); clear F; intro a F
 refine nl (sq (sr (bk [0] F H rfl trivial ?_))); clear F; intro a F
 obtain _ | ad := p1
 obtain ⟨hx0, hc0⟩ := H.slNone 0 rfl; subst hc0; try subst hx0
 replace H := H.dp 0 rfl
 refine s_val wkP F rfl rfl rfl rfl (y_eqNil F rfl Tryz.underlying35 rfl rfl (by simp)) ?_; clear F; intro a F
 refine nl (cT F rfl ?_)
 refine sr (bk [0] F H rfl trivial ?_); clear F; intro a F
 refine nl (wr (tr ?_))
 replace H := H.owNil rStr 9
 cases hm
 refine x_ret1 F rfl rfl ?_
 exact ⟨_, rfl, none, 0, rfl, H⟩
 refine s_val wkP F rfl rfl rfl rfl (y_eqSome F rfl Tryz.underlying35 rfl rfl (by simp)) ?_; clear F; intro a F
 refine nl (cF F rfl ?_)
 refine sk (ct (sr (s_build0O (R := rStr) wkP F rfl rfl rfl elem35 rfl H ?_))); clear F H; intro b3 w a H F
 refine bk [0] F H rfl trivial ?_; clear F; intro a F
 obtain ⟨x5, ex5, hm⟩ := ob hm
 refine s_app wkP F rfl rfl rfl rfl rfl rfl elem35 rfl ex5 H 0 1 rfl rfl ?_; clear F H; intro p4 c4 w a H F
 refine bk [0] F H rfl trivial ?_; clear F; intro a F
 replace H := H.nf 2 rfl
 refine nl (wr ?_)
 cases hm
 refine x_ret1 F rfl rfl ?_
 exact ⟨_, rfl, p4, c4, rfl, (H.pm 2 [0] rfl:)⟩
theorem ent86 : ∀ args w, (callFunc 86 args).run Tryz.prog w = .ok (.enter 86 args) w := enters Tryz.func86 (by kernel_rfl) rfl
theorem fld37_3 : FieldT Tryz.prog 37 3 3 := by unfold FieldT; rw [Tryz.underlying37]; kernel_rfl
theorem zero35 : Zero1 Tryz.prog 35 (.slice none 0 0) := ⟨by kernel_rfl, rfl⟩
set_option maxRecDepth 100000 in
set_option maxHeartbeats 4000000 in
theorem w_sList {s : (List UInt8) → Option T_files_file} {o : T_api_Op} {q1 : Option Nat} {cs2 : List Value} {w0 w : World} {l : List HP}  {r : T_api_Answer} (hm : sList s o = some r) (H : St w0 w (HP.mm q1 ekStr true R_files_file (fun _ => True) s :: HP.rc R_api_Op cs2 o :: l)) :
  Calls Tryz.prog 66 [.map q1, .agg cs2.toArray].toArray w (fun e w' => ∃ v, e = .returned v ∧ ∃ (cs3 : List Value), v = .agg cs3.toArray ∧ St w0 w' (HP.rc R_api_Answer cs3 r :: HP.mm q1 ekStr true R_files_file (fun _ => True) s :: l)) := by
 unfold sList at hm
 refine x_enter Tryz.func66 rfl rfl rfl ?_
 intro a F
 refine sr (s_boxA wkP F rfl rfl rfl rfl rfl H ?_); clear F H; intro b4 w a H F
 replace H := H.owNil rByte 5
 replace H := H.owNil rStr 9
 refine s_allocA wkP F rfl rfl rfl agz37 rfl H ?_; clear F H; intro b5 w a H F
 replace H := H.nf 6 rfl
 refine nl (sr (bk [0, 1] F H rfl ⟨fld25_1, trivial⟩ ?_)); clear F; intro a F
 replace H := rc_api_Op (H.pk 5 rfl); obtain ⟨p6, c7, rfl, H⟩ := H
 refine bk [4001] F H rfl ⟨rfl, plain9, trivial⟩ ?_; clear F; intro a F
 obtain ⟨x8, ex8, hm⟩ := ob hm
 refine sc wkP F rfl ent79 (w_sLook ex8 (H.pm 6 [5, 0, 1, 2, 3, 4] rfl:):) ?_; clear F H; rintro _ w a ⟨cs9, rfl, H⟩ F
 refine bk [0, 0, 0] F H rfl trivial ?_; clear F; intro a F
 replace H := H.owNil rByte 5
 refine s_allocA wkP F rfl rfl rfl agz71 rfl H ?_; clear F H; intro b10 w a H F
 refine s_storeA wkP F rfl rfl agg71 rfl rfl rfl H 0 rfl (H.rcLen 2 rfl) (by simp only [List.length_append, List.length_cons, List.length_nil, icells_length, bcells_length]) (H.rcFlat 2 rfl) ?_; clear H; intro w H
 refine bk [0] F H rfl trivial ?_; clear F; intro a F
 replace H := H.nf 9 rfl
 refine nl (sq ?_)
 obtain ⟨r60, er60, hm60⟩ := ob hm; clear hm; revert er60; intro hm
 refine x_mid (fun aa ww => ∃ (cs61 : List Value) (p62 : Option Addr) (c62 : Nat), Fr ⟨43, []⟩ aa [(4, .pointer (some ⟨b5, 0, none⟩))] ∧ St w0 ww (HP.blk b10 (cs61) 71 :: HP.ow rByte 5 none 0 ([] : List UInt8) :: HP.mm q1 ekStr true R_files_file (fun _ => True) s :: HP.sl rByte p6 c7 o.2.2.2.2.2 :: HP.blk b5 ([.int .i64 (r60.2.1), .int .i64 (r60.2.2.1), .slice none (([] : List UInt8)).length 0, .slice p62 (r60.2.2.2).length c62]) 37 :: HP.ow rByte 5 none 0 ([] : List UInt8) :: HP.blk b4 ([.int .i64 (o.1), .string (txb (o.2.1)), .string (txb (o.2.2.1)), .int .i64 (o.2.2.2.1), .int .i64 (o.2.2.2.2.1), .slice p6 (o.2.2.2.2.2).length c7]) 25 :: HP.rc R_files_file cs61 r60.1 :: HP.ow rStr 9 p62 c62 r60.2.2.2 :: l)) ?_ ?_
 refine bl (sr (bk [0, 0, 0] F H rfl trivial ?_)); clear F; intro a F
 refine nl ?_
 obtain ⟨r86, er86, hm86⟩ := ob hm; clear hm; revert er86; intro hm
 refine x_mid (fun aa ww => ∃ (cs87 : List Value) (p88 : Option Addr) (c88 : Nat), Fr ⟨43, []⟩ aa [(4, .pointer (some ⟨b5, 0, none⟩))] ∧ St w0 ww (HP.blk b10 (cs87) 71 :: HP.ow rByte 5 none 0 ([] : List UInt8) :: HP.mm q1 ekStr true R_files_file (fun _ => True) s :: HP.sl rByte p6 c7 o.2.2.2.2.2 :: HP.blk b5 ([.int .i64 (r86.2.1), .int .i64 (r86.2.2.1), .slice none (([] : List UInt8)).length 0, .slice p88 (r86.2.2.2).length c88]) 37 :: HP.ow rByte 5 none 0 ([] : List UInt8) :: HP.blk b4 ([.int .i64 (o.1), .string (txb (o.2.1)), .string (txb (o.2.2.1)), .int .i64 (o.2.2.2.1), .int .i64 (o.2.2.2.2.1), .slice p6 (o.2.2.2.2.2).length c7]) 25 :: HP.rc R_files_file cs87 r86.1 :: HP.ow rStr 9 p88 c88 r86.2.2.2 :: l)) ?_ ?_
 refine cN F rfl (fun hg89 => ?_) (fun hg89 => ?_)
 replace hm := ifF hg89 hm
 refine rl (bk [0, 0] F H rfl ⟨fld37_0, trivial⟩ ?_); clear F; intro a F
 refine s_st1 wkP F rfl rfl zero33 rfl rfl rfl rfl rfl H 5 rfl rfl ?_; clear H; intro w H
 replace H := H.nf 9 rfl
 refine lz ?_
 cases hm
 refine ct ?_
 exact ⟨cs9, none, 0, F.sl rfl, (H.pm 9 [0, 1, 3, 4, 5, 7, 8, 2, 6] rfl:)⟩
 replace hm := ifT hg89 hm
 refine sr (bk [0] F H rfl ⟨fld71_0, trivial⟩ ?_); clear F; intro a F
 replace H := rc_files_file (H.pk 2 rfl); obtain ⟨p90, c91, rfl, H⟩ := H
 refine bk [1000, 0, 0] F H rfl ⟨rfl, plain4, trivial⟩ ?_; clear F; intro a F
 refine nl ?_
 obtain ⟨r101, er101, hm101⟩ := ob hm; clear hm; revert er101; intro hm
 refine x_mid (fun aa ww => ∃ (p102 : Option Addr) (c102 : Nat), Fr ⟨43, []⟩ aa [(4, .pointer (some ⟨b5, 0, none⟩))] ∧ St w0 ww (HP.sl rByte p90 c91 x8.1.2 :: HP.blk b10 ([.bool (x8.1.1), .slice p90 (x8.1.2).length c91]) 71 :: HP.ow rByte 5 none 0 ([] : List UInt8) :: HP.mm q1 ekStr true R_files_file (fun _ => True) s :: HP.sl rByte p6 c7 o.2.2.2.2.2 :: HP.blk b5 ([.int .i64 (r101.1), .int .i64 (r101.2.1), .slice none (([] : List UInt8)).length 0, .slice p102 (r101.2.2).length c102]) 37 :: HP.ow rByte 5 none 0 ([] : List UInt8) :: HP.blk b4 ([.int .i64 (o.1), .string (txb (o.2.1)), .string (txb (o.2.2.1)), .int .i64 (o.2.2.2.1), .int .i64 (o.2.2.2.2.1), .slice p6 (o.2.2.2.2.2).length c7]) 25 :: HP.ow rStr 9 p102 c102 r101.2.2 :: l)) ?_ ?_
 refine cB F rfl (fun hg103 => ?_) (fun hg103 => ?_)
 replace hm := ifT hg103 hm
 refine rl (bk [0] F H rfl ⟨fld37_0, trivial⟩ ?_); clear F; intro a F
 refine s_st1 wkP F rfl rfl zero33 rfl rfl rfl rfl rfl H 5 rfl rfl ?_; clear H; intro w H
 replace H := H.nf 9 rfl
 refine lz ?_
 cases hm
 refine ct ?_
 exact ⟨none, 0, F.sl rfl, (H.pm 9 [0, 1, 2, 3, 4, 5, 7, 8, 6] rfl:)⟩
 replace hm := ifF (nT hg103) hm
 refine sr (bk [0, 1, 8001] F H rfl ⟨fld25_1, rfl, plain9, trivial⟩ ?_); clear F; intro a F
 obtain ⟨x104, ex104, hm⟩ := ob hm
 refine sc wkP F rfl ent83 (w_sBelow ex104 (H.pm 9 [3, 0, 1, 2, 4, 5, 6, 7, 8] rfl:):) ?_; clear F H; rintro _ w a ⟨p105, c105, rfl, H⟩ F
 refine bk [0] F H rfl trivial ?_; clear F; intro a F
 replace H := H.nf 10 rfl
 refine nl (sr (bk [0, 0, 1] F H rfl ⟨⟨_, Tryz.underlying35⟩, fld37_1, trivial⟩ ?_)); clear F; intro a F
 refine s_st1 wkP F rfl rfl zero3 rfl rfl rfl rfl rfl H 6 rfl rfl ?_; clear H; intro w H
 replace H := H.nf 10 rfl
 refine nl (sr (bk [0] F H rfl trivial ?_)); clear F; intro a F
 refine s_val wkP F rfl rfl rfl rfl (y_makeFunc F rfl rfl) ?_; clear F; intro a F
 obtain ⟨x106, ex106, hm⟩ := ob hm
 refine s_call wkP F rfl rfl rfl rfl (y_call F rfl rfl ent84) (w_del84 (tx := o.2.2.1) (cs := [.int .i64 (o.1), .string (txb (o.2.1)), .string (txb (o.2.2.1)), .int .i64 (o.2.2.2.1), .int .i64 (o.2.2.2.2.1), .slice p6 (o.2.2.2.2.2).length c7]) ex106 rfl (H.pm 10 [0, 9, 1, 2, 3, 4, 5, 6, 7, 8] rfl:)) ?_; clear F H; rintro _ w a ⟨rfl, H⟩ F
 refine bk [0] F H rfl trivial ?_; clear F; intro a F
 replace H := H.nf 10 rfl
 refine nl (rl (bk [0, 0, 0] F H rfl ⟨⟨_, Tryz.underlying35⟩, trivial⟩ ?_)); clear F; intro a F
 refine s_val wkP F rfl rfl rfl rfl (y_min F rfl rfl rfl rfl) ?_; clear F; intro a F
 replace H := H.frz 0 rfl
 obtain ⟨x109, ex109, hm⟩ := ob hm
 have hc108 := H.slCap 0 rfl
 replace H := H.slSubN 1 rfl 0 rfl ex109
 refine s_val wkP F rfl rfl rfl rfl (y_slH F elem35 rfl rfl rfl ex109 hc108) ?_; clear F; intro a F
 obtain ⟨x110, ex110, hm⟩ := ob hm
 refine sc wkP F rfl ent86 (w_cloneT ex110 (H.pm 11 [0, 0, 1, 2, 3, 4, 5, 6, 7, 8, 9, 10] rfl:):) ?_; clear F H; rintro _ w a ⟨p111, c111, rfl, H⟩ F
 refine bk [3] F H rfl ⟨fld37_3, trivial⟩ ?_; clear F; intro a F
 refine s_st1 wkP F rfl rfl zero35 rfl rfl rfl rfl rfl H 9 rfl rfl ?_; clear H; intro w H
 replace H := H.nf 12 rfl
 refine lz ?_
 cases hm
 refine ct ?_
 exact ⟨p111, c111, F.sl rfl, (H.pm 12 [5, 6, 7, 4, 8, 9, 11, 3, 0] rfl:)⟩
 clear F H hm
 rintro a w ⟨p102, c102, F, H⟩; have hm := hm101; clear hm101
 cases hm
 refine ct ?_
 replace H := H.mkRc (R := R_files_file) (cs := [.bool (x8.1.1), .slice p90 (x8.1.2).length c91]) (x := (x8.1.1, x8.1.2)) (fun gg => ⟨_, _, rfl, rfl, ⟨_, _, rfl, (gg 0 _ rfl).choose_spec⟩⟩)
 exact ⟨[.bool (x8.1.1), .slice p90 (x8.1.2).length c91], p102, c102, F.sl rfl, (H.pm 10 [2, 3, 4, 5, 6, 7, 8, 0, 9] rfl:)⟩
 clear F H hm
 rintro a w ⟨cs87, p88, c88, F, H⟩; have hm := hm86; clear hm86
 refine bn ?_
 cases hm
 refine ct ?_
 exact ⟨cs87, p88, c88, F.sl rfl, H⟩
 clear F H hm
 rintro a w ⟨cs61, p62, c62, F, H⟩; have hm := hm60; clear hm60
 refine ct (sr (bk [4999] F H rfl ⟨rfl, (aggn agg37 (by simp only [List.length_append, List.length_cons, List.length_nil, icells_length, bcells_length])), trivial⟩ ?_)); clear F; intro a F
 refine s_storeA wkP F rfl rfl agg37 rfl rfl rfl H 4 rfl (by simp only [List.length_append, List.length_cons, List.length_nil, icells_length, bcells_length]) (by simp only [List.length_append, List.length_cons, List.length_nil, icells_length, bcells_length]) (by intro v hv; simp only [List.mem_append, List.mem_cons, List.not_mem_nil, or_false] at hv; first | (rcases hv with h | h <;> first | (subst h; rfl) | exact bcells_flat _ _ h | exact icells_flat _ _ _ h | (rcases h with h | h <;> first | (subst h; rfl) | exact bcells_flat _ _ h | exact icells_flat _ _ _ h | (rcases h with h | h <;> first | (subst h; rfl) | exact bcells_flat _ _ h | (rcases h with h | h <;> first | (subst h; rfl) | (rcases h with h | h <;> (subst h; rfl)))))) | (subst hv; rfl)) ?_; clear H; intro w H
 replace H := H.nf 9 rfl
 refine nl (wr ?_)
 replace H := H.frz 5 rfl
 replace H := H.frz 8 rfl
 replace H := H.mkRc (R := R_api_Answer) (cs := [.int .i64 (r60.2.1), .int .i64 (r60.2.2.1), .slice none (([] : List UInt8)).length 0, .slice p62 (r60.2.2.2).length c62]) (x := (r60.2.1, r60.2.2.1, ([] : List UInt8), r60.2.2.2)) (fun gg => ⟨_, _, rfl, rfl, ⟨_, _, rfl, rfl, ⟨_, _, rfl, ⟨_, _, rfl, (gg 1 _ rfl).choose_spec⟩, ⟨_, _, rfl, (gg 0 _ rfl).choose_spec⟩⟩⟩⟩)
 cases hm
 refine x_resC1 F rfl (⟨_, rfl, agg37.run_load (H.blk 7 rfl).row (by simp only [List.length_append, List.length_cons, List.length_nil, icells_length, bcells_length])⟩) ?_
 exact ⟨_, rfl, [.int .i64 (r60.2.1), .int .i64 (r60.2.2.1), .slice none (([] : List UInt8)).length 0, .slice p62 (r60.2.2.2).length c62], rfl, (H.pm 10 [0, 5] rfl:)⟩
set_option maxRecDepth 100000 in
set_option maxHeartbeats 4000000 in
theorem w_sStat {s : (List UInt8) → Option T_files_file} {p : List UInt8} {q1 : Option Nat} {w0 w : World} {l : List HP}  {r : T_api_Answer} (hm : sStat s p = some r) (H : St w0 w (HP.mm q1 ekStr true R_files_file (fun _ => True) s :: l)) :
  Calls Tryz.prog 67 [.map q1, .string (txb (p))].toArray w (fun e w' => ∃ v, e = .returned v ∧ ∃ (cs2 : List Value), v = .agg cs2.toArray ∧ St w0 w' (HP.rc R_api_Answer cs2 r :: HP.mm q1 ekStr true R_files_file (fun _ => True) s :: l)) := by
 unfold sStat at hm
 refine x_enter Tryz.func67 rfl rfl rfl ?_
 intro a F
 refine sr ?_
 replace H := H.owNil rByte 5
 replace H := H.owNil rStr 9
 refine s_allocA wkP F rfl rfl rfl agz37 rfl H ?_; clear F H; intro b3 w a H F
 replace H := H.nf 4 rfl
 refine nl (sr (bk [0, 0] F H rfl trivial ?_)); clear F; intro a F
 obtain ⟨x4, ex4, hm⟩ := ob hm
 refine sc wkP F rfl ent79 (w_sLook ex4 (H.pm 4 [3, 0, 1, 2] rfl:):) ?_; clear F H; rintro _ w a ⟨cs5, rfl, H⟩ F
 refine bk [0, 0, 0] F H rfl trivial ?_; clear F; intro a F
 replace H := H.owNil rByte 5
 refine s_allocA wkP F rfl rfl rfl agz71 rfl H ?_; clear F H; intro b6 w a H F
 refine s_storeA wkP F rfl rfl agg71 rfl rfl rfl H 0 rfl (H.rcLen 2 rfl) (by simp only [List.length_append, List.length_cons, List.length_nil, icells_length, bcells_length]) (H.rcFlat 2 rfl) ?_; clear H; intro w H
 refine bk [0] F H rfl trivial ?_; clear F; intro a F
 replace H := H.nf 7 rfl
 refine nl (sq ?_)
 obtain ⟨r48, er48, hm48⟩ := ob hm; clear hm; revert er48; intro hm
 refine x_mid (fun aa ww => ∃ (cs49 : List Value) (p50 : Option Addr) (c50 : Nat), Fr ⟨35, []⟩ aa [(4, .pointer (some ⟨b3, 0, none⟩))] ∧ St w0 ww (HP.blk b6 (cs49) 71 :: HP.ow rByte 5 none 0 ([] : List UInt8) :: HP.mm q1 ekStr true R_files_file (fun _ => True) s :: HP.blk b3 ([.int .i64 (r48.2.1), .int .i64 (r48.2.2.1), .slice p50 (r48.2.2.2).length c50, .slice none (([] : List (List UInt8))).length 0]) 37 :: HP.ow rStr 9 none 0 ([] : List (List UInt8)) :: HP.rc R_files_file cs49 r48.1 :: HP.ow rByte 5 p50 c50 r48.2.2.2 :: l)) ?_ ?_
 refine bl (sr (bk [0, 0, 0] F H rfl trivial ?_)); clear F; intro a F
 refine nl ?_
 obtain ⟨r70, er70, hm70⟩ := ob hm; clear hm; revert er70; intro hm
 refine x_mid (fun aa ww => ∃ (cs71 : List Value) (p72 : Option Addr) (c72 : Nat), Fr ⟨35, []⟩ aa [(4, .pointer (some ⟨b3, 0, none⟩))] ∧ St w0 ww (HP.blk b6 (cs71) 71 :: HP.ow rByte 5 none 0 ([] : List UInt8) :: HP.mm q1 ekStr true R_files_file (fun _ => True) s :: HP.blk b3 ([.int .i64 (r70.2.1), .int .i64 (r70.2.2.1), .slice p72 (r70.2.2.2).length c72, .slice none (([] : List (List UInt8))).length 0]) 37 :: HP.ow rStr 9 none 0 ([] : List (List UInt8)) :: HP.rc R_files_file cs71 r70.1 :: HP.ow rByte 5 p72 c72 r70.2.2.2 :: l)) ?_ ?_
 refine cN F rfl (fun hg73 => ?_) (fun hg73 => ?_)
 replace hm := ifF hg73 hm
 refine rl (bk [0, 0] F H rfl ⟨fld37_0, trivial⟩ ?_); clear F; intro a F
 refine s_st1 wkP F rfl rfl zero33 rfl rfl rfl rfl rfl H 4 rfl rfl ?_; clear H; intro w H
 replace H := H.nf 7 rfl
 refine lz ?_
 cases hm
 refine ct ?_
 exact ⟨cs5, none, 0, F.sl rfl, (H.pm 7 [0, 1, 3, 4, 5, 2, 6] rfl:)⟩
 replace hm := ifT hg73 hm
 refine sr (bk [0] F H rfl ⟨fld71_0, trivial⟩ ?_); clear F; intro a F
 replace H := rc_files_file (H.pk 2 rfl); obtain ⟨p74, c75, rfl, H⟩ := H
 refine bk [1000, 0] F H rfl ⟨rfl, plain4, trivial⟩ ?_; clear F; intro a F
 refine nl ?_
 obtain ⟨r83, er83, hm83⟩ := ob hm; clear hm; revert er83; intro hm
 refine x_mid (fun aa ww => ∃ (p84 : Option Addr) (c84 : Nat), Fr ⟨35, []⟩ aa [(4, .pointer (some ⟨b3, 0, none⟩))] ∧ St w0 ww (HP.sl rByte p74 c75 x4.1.2 :: HP.blk b6 ([.bool (x4.1.1), .slice p74 (x4.1.2).length c75]) 71 :: HP.ow rByte 5 none 0 ([] : List UInt8) :: HP.mm q1 ekStr true R_files_file (fun _ => True) s :: HP.blk b3 ([.int .i64 (0), .int .i64 (r83.1), .slice p84 (r83.2).length c84, .slice none (([] : List (List UInt8))).length 0]) 37 :: HP.ow rStr 9 none 0 ([] : List (List UInt8)) :: HP.ow rByte 5 p84 c84 r83.2 :: l)) ?_ ?_
 refine cB F rfl (fun hg85 => ?_) (fun hg85 => ?_)
 replace hm := ifT hg85 hm
 refine rl ?_
 obtain ⟨x87, ex87, hm⟩ := ob hm
 refine s_buildC wkP F rfl rfl rfl elem23 zero5 rfl rfl rfl rfl (by simp [Value.cells]) (by decide) H ?_; clear F H; intro b86 w a H F
 replace H := H.blkOw1 (R := rByte) (x := x87) (fun gg => (congrArg (fun z => [Value.int .u8 z]) (u8O_some ex87).symm))
 refine bk [0, 0] F H rfl trivial ?_; clear F; intro a F
 obtain ⟨x88, ex88, hm⟩ := ob hm
 refine sc wkP F rfl ent83 (w_sBelow ex88 (H.pm 8 [4, 0, 1, 2, 3, 5, 6, 7] rfl:):) ?_; clear F H; rintro _ w a ⟨p89, c89, rfl, H⟩ F
 refine bk [0, 2] F H rfl ⟨⟨_, Tryz.underlying35⟩, fld37_2, trivial⟩ ?_; clear F; intro a F
 refine s_st1 wkP F rfl rfl zero23 rfl rfl rfl rfl rfl H 6 rfl rfl ?_; clear H; intro w H
 refine bk [1] F H rfl ⟨fld37_1, trivial⟩ ?_; clear F; intro a F
 refine s_st1 wkP F rfl rfl zero3 rfl rfl rfl rfl rfl H 6 rfl rfl ?_; clear H; intro w H
 replace H := H.nf 9 rfl
 refine lz ?_
 cases hm
 refine ct ?_
 exact ⟨(some ⟨b86, 0, none⟩), ([x87]).length, F.sl rfl, (H.pm 9 [3, 4, 5, 1, 6, 7, 2] rfl:)⟩
 replace hm := ifF (nT hg85) hm
 refine mix_region [0, 5, 7] [7] (.step 0 1 (.step 0 2 (.step 0 3 (.step 2 0 (.step 0 4 (.step 2 5 (.step 0 6 (.step 3 7 .done)))))))) (fun u => ∃ ls, St w0 u (HP.blk b6 ([.bool (x4.1.1), .slice p74 (x4.1.2).length c75]) 71 :: ls)) (by kernel_rfl) (by kernel_rfl) ⟨_, (H.drew.pm 7 [1, 0, 2, 3, 4, 5, 6] rfl:)⟩ ?_
 replace H := H.drew
 generalize w.drew = w at H ⊢
 refine mbk [1] F H rfl ⟨fld71_1, trivial⟩ ?_; clear F; intro a F
 refine m_pure F rfl rfl rfl rfl (fun u hu => y_load1 F plain23 rfl rfl (row_at (v := .slice p74 (x4.1.2).length c75) ((hu.choose_spec.blk 0 rfl).row) rfl)) ?_; clear F; intro a F
 refine mbk [0] F H rfl ⟨⟨_, Tryz.underlying23⟩, trivial⟩ ?_; clear F; intro a F
 refine m_heavy rfl rfl ?_
 obtain ⟨x91, ex91, hm⟩ := ob hm
 refine s_buildC wkP F rfl rfl rfl elem23 zero5 rfl rfl rfl rfl (by simp [Value.cells]) (by decide) H ?_; clear F H; intro b90 w a H F
 replace H := H.blkOw1 (R := rByte) (x := x91) (fun gg => (congrArg (fun z => [Value.int .u8 z]) (u8O_some ex91).symm))
 refine lz ?_; refine ct ⟨⟨_, (H.pm 8 [2, 0, 1, 3, 4, 5, 6, 7] rfl:)⟩, ?_⟩
 refine mbk [2] F H rfl ⟨fld37_2, trivial⟩ ?_; clear F; intro a F
 refine m_heavy rfl rfl ?_
 refine s_st1 wkP F rfl rfl zero23 rfl rfl rfl rfl rfl H 5 rfl rfl ?_; clear H; intro w H
 refine lz ?_; refine ct ⟨⟨_, (H.pm 8 [2, 0, 1, 3, 4, 5, 6, 7] rfl:)⟩, ?_⟩
 refine mbk [1] F H rfl ⟨fld37_1, trivial⟩ ?_; clear F; intro a F
 refine m_last rfl rfl ?_
 refine s_st1 wkP F rfl rfl zero3 rfl rfl rfl rfl rfl H 5 rfl rfl ?_; clear H; intro w H
 refine lz ?_; refine ct ?_
 refine m_nil ?_
 cases hm
 refine ct ?_
 exact ⟨(some ⟨b90, 0, none⟩), ([x91]).length, F.sl rfl, (H.pm 8 [1, 2, 3, 4, 5, 6, 0] rfl:)⟩
 clear F H hm
 rintro a w ⟨p84, c84, F, H⟩; have hm := hm83; clear hm83
 cases hm
 refine ct ?_
 replace H := H.mkRc (R := R_files_file) (cs := [.bool (x4.1.1), .slice p74 (x4.1.2).length c75]) (x := (x4.1.1, x4.1.2)) (fun gg => ⟨_, _, rfl, rfl, ⟨_, _, rfl, (gg 0 _ rfl).choose_spec⟩⟩)
 exact ⟨[.bool (x4.1.1), .slice p74 (x4.1.2).length c75], p84, c84, F.sl rfl, (H.pm 8 [2, 3, 4, 5, 6, 0, 7] rfl:)⟩
 clear F H hm
 rintro a w ⟨cs71, p72, c72, F, H⟩; have hm := hm70; clear hm70
 refine bn ?_
 cases hm
 refine ct ?_
 exact ⟨cs71, p72, c72, F.sl rfl, H⟩
 clear F H hm
 rintro a w ⟨cs49, p50, c50, F, H⟩; have hm := hm48; clear hm48
 refine ct (sr (bk [3999] F H rfl ⟨rfl, (aggn agg37 (by simp only [List.length_append, List.length_cons, List.length_nil, icells_length, bcells_length])), trivial⟩ ?_)); clear F; intro a F
 refine s_storeA wkP F rfl rfl agg37 rfl rfl rfl H 3 rfl (by simp only [List.length_append, List.length_cons, List.length_nil, icells_length, bcells_length]) (by simp only [List.length_append, List.length_cons, List.length_nil, icells_length, bcells_length]) (by intro v hv; simp only [List.mem_append, List.mem_cons, List.not_mem_nil, or_false] at hv; first | (rcases hv with h | h <;> first | (subst h; rfl) | exact bcells_flat _ _ h | exact icells_flat _ _ _ h | (rcases h with h | h <;> first | (subst h; rfl) | exact bcells_flat _ _ h | exact icells_flat _ _ _ h | (rcases h with h | h <;> first | (subst h; rfl) | exact bcells_flat _ _ h | (rcases h with h | h <;> first | (subst h; rfl) | (rcases h with h | h <;> (subst h; rfl)))))) | (subst hv; rfl)) ?_; clear H; intro w H
 replace H := H.nf 7 rfl
 refine nl (wr ?_)
 replace H := H.frz 6 rfl
 replace H := H.frz 5 rfl
 replace H := H.mkRc (R := R_api_Answer) (cs := [.int .i64 (r48.2.1), .int .i64 (r48.2.2.1), .slice p50 (r48.2.2.2).length c50, .slice none (([] : List (List UInt8))).length 0]) (x := (r48.2.1, r48.2.2.1, r48.2.2.2, ([] : List (List UInt8)))) (fun gg => ⟨_, _, rfl, rfl, ⟨_, _, rfl, rfl, ⟨_, _, rfl, ⟨_, _, rfl, (gg 1 _ rfl).choose_spec⟩, ⟨_, _, rfl, (gg 0 _ rfl).choose_spec⟩⟩⟩⟩)
 cases hm
 refine x_resC1 F rfl (⟨_, rfl, agg37.run_load (H.blk 6 rfl).row (by simp only [List.length_append, List.length_cons, List.length_nil, icells_length, bcells_length])⟩) ?_
 exact ⟨_, rfl, [.int .i64 (r48.2.1), .int .i64 (r48.2.2.1), .slice p50 (r48.2.2.2).length c50, .slice none (([] : List (List UInt8))).length 0], rfl, (H.pm 8 [0, 5] rfl:)⟩
theorem plain33 : Plain Tryz.prog 33 := by unfold Plain; rw [Tryz.underlying33]; rfl
theorem agg25 : AggT Tryz.prog 25 6 [.int .i64 0, .string ByteArray.empty, .string ByteArray.empty, .int .i64 0, .int .i64 0, .slice none 0 0] := ⟨by rw [Tryz.underlying25]; rfl, by kernel_rfl, by kernel_rfl⟩
theorem ent62 : ∀ args w, (callFunc 62 args).run Tryz.prog w = .ok (.enter 62 args) w := enters Tryz.func62 (by kernel_rfl) rfl
theorem ent63 : ∀ args w, (callFunc 63 args).run Tryz.prog w = .ok (.enter 63 args) w := enters Tryz.func63 (by kernel_rfl) rfl
theorem ent64 : ∀ args w, (callFunc 64 args).run Tryz.prog w = .ok (.enter 64 args) w := enters Tryz.func64 (by kernel_rfl) rfl
theorem ent65 : ∀ args w, (callFunc 65 args).run Tryz.prog w = .ok (.enter 65 args) w := enters Tryz.func65 (by kernel_rfl) rfl
theorem ent66 : ∀ args w, (callFunc 66 args).run Tryz.prog w = .ok (.enter 66 args) w := enters Tryz.func66 (by kernel_rfl) rfl
theorem ent67 : ∀ args w, (callFunc 67 args).run Tryz.prog w = .ok (.enter 67 args) w := enters Tryz.func67 (by kernel_rfl) rfl
set_option maxRecDepth 100000 in
set_option maxHeartbeats 4000000 in
theorem w_sDo {s : (List UInt8) → Option T_files_file} {o : T_api_Op} {m1 : Nat} {cs2 : List Value} {w0 w : World} {l : List HP}  {r : T_api_Answer × ((List UInt8) → Option T_files_file)} (hm : sDo s o = some r) (H : St w0 w (HP.mm (some m1) ekStr true R_files_file (fun _ => True) s :: HP.rc R_api_Op cs2 o :: l)) :
  Calls Tryz.prog 37 [.map (some m1), .agg cs2.toArray].toArray w (fun e w' => ∃ v, e = .returned v ∧ ∃ (cs3 : List Value), v = .agg cs3.toArray ∧ St w0 w' (HP.rc R_api_Answer cs3 r.1 :: HP.mm (some m1) ekStr true R_files_file (fun _ => True) r.2 :: l)) := by
 unfold sDo at hm
 refine x_enter Tryz.func37 rfl rfl rfl ?_
 intro a F
 refine sr (s_boxA wkP F rfl rfl rfl rfl rfl H ?_); clear F H; intro b4 w a H F
 replace H := H.owNil rByte 5
 replace H := H.owNil rStr 9
 refine s_allocA wkP F rfl rfl rfl agz37 rfl H ?_; clear F H; intro b5 w a H F
 replace H := H.nf 6 rfl
 refine nl (sq (sr (bk [0] F H rfl ⟨fld25_0, trivial⟩ ?_))); clear F; intro a F
 replace H := rc_api_Op (H.pk 5 rfl); obtain ⟨p6, c7, rfl, H⟩ := H
 refine bk [4000] F H rfl ⟨rfl, plain3, trivial⟩ ?_; clear F; intro a F
 refine nl ?_
 obtain ⟨o382, eo382, hm382⟩ := ob hm; clear hm; revert eo382; intro hm
 refine x_mid (fun aa ww => ∃ r382, o382 = Sum.inl r382 ∧ Fr ⟨62, []⟩ aa [(4, .pointer (some ⟨b5, 0, none⟩))] ∧ St w0 ww (HP.sl rByte p6 c7 o.2.2.2.2.2 :: HP.blk b5 ([.int .i64 (r382.1), .int .i64 (0), .slice none (([] : List UInt8)).length 0, .slice none (([] : List (List UInt8))).length 0]) 37 :: HP.ow rStr 9 none 0 ([] : List (List UInt8)) :: HP.ow rByte 5 none 0 ([] : List UInt8) :: HP.blk b4 ([.int .i64 (o.1), .string (txb (o.2.1)), .string (txb (o.2.2.1)), .int .i64 (o.2.2.2.1), .int .i64 (o.2.2.2.2.1), .slice p6 (o.2.2.2.2.2).length c7]) 25 :: HP.mm (some m1) ekStr true R_files_file (fun _ => True) r382.2 :: l)) ?_ ?_
 refine bl (sq (sr (bk [0, 0] F H rfl trivial ?_))); clear F; intro a F
 refine nl ?_
 obtain ⟨r384, er384, hm384⟩ := ob hm; clear hm; revert er384; intro hm
 refine x_mid (fun aa ww => Fr ⟨62, []⟩ aa [(0, .map (some m1)), (3, .pointer (some ⟨b4, 0, none⟩)), (4, .pointer (some ⟨b5, 0, none⟩)), (6, .int .i64 (o.1)), (8, .bool (r384))] ∧ St w0 ww (HP.sl rByte p6 c7 o.2.2.2.2.2 :: HP.blk b5 ([.int .i64 (0), .int .i64 (0), .slice none (([] : List UInt8)).length 0, .slice none (([] : List (List UInt8))).length 0]) 37 :: HP.ow rStr 9 none 0 ([] : List (List UInt8)) :: HP.ow rByte 5 none 0 ([] : List UInt8) :: HP.blk b4 ([.int .i64 (o.1), .string (txb (o.2.1)), .string (txb (o.2.2.1)), .int .i64 (o.2.2.2.1), .int .i64 (o.2.2.2.2.1), .slice p6 (o.2.2.2.2.2).length c7]) 25 :: HP.mm (some m1) ekStr true R_files_file (fun _ => True) s :: l)) ?_ ?_
 refine cP F rfl (fun hg385 => ?_) (fun hg385 => ?_)
 replace hm := ifT hg385 hm
 refine sk ?_
 cases hm
 refine ct ?_
 exact ⟨F.sl rfl, H⟩
 replace hm := ifF hg385 hm
 refine rl (bk [0, 0] F H rfl trivial ?_); clear F; intro a F
 refine lz ?_
 cases hm
 refine ct ?_
 exact ⟨F.sl rfl, H⟩
 clear F H hm
 rintro a w ⟨F, H⟩; have hm := hm384; clear hm384
 refine ct ?_
 obtain ⟨o571, eo571, hm571⟩ := ob hm; clear hm; revert eo571; intro hm
 refine x_mid (fun aa ww => ∃ r571, o571 = Sum.inl r571 ∧ Fr ⟨62, []⟩ aa [(4, .pointer (some ⟨b5, 0, none⟩))] ∧ St w0 ww (HP.sl rByte p6 c7 o.2.2.2.2.2 :: HP.blk b5 ([.int .i64 (r571.1), .int .i64 (0), .slice none (([] : List UInt8)).length 0, .slice none (([] : List (List UInt8))).length 0]) 37 :: HP.ow rStr 9 none 0 ([] : List (List UInt8)) :: HP.ow rByte 5 none 0 ([] : List UInt8) :: HP.blk b4 ([.int .i64 (o.1), .string (txb (o.2.1)), .string (txb (o.2.2.1)), .int .i64 (o.2.2.2.1), .int .i64 (o.2.2.2.2.1), .slice p6 (o.2.2.2.2.2).length c7]) 25 :: HP.mm (some m1) ekStr true R_files_file (fun _ => True) r571.2 :: l)) ?_ ?_
 refine cB F rfl (fun hg572 => ?_) (fun hg572 => ?_)
 replace hm := ifT hg572 hm
 refine sr (bk [0, 1, 4001] F H rfl ⟨fld25_1, rfl, plain9, trivial⟩ ?_); clear F; intro a F
 obtain ⟨x573, ex573, hm⟩ := ob hm
 refine sc wkP F rfl ent61 (w_sRoom ex573 (H.pm 6 [5, 0, 1, 2, 3, 4] rfl:):) ?_; clear F H; rintro _ w a ⟨rfl, H⟩ F
 refine bk [0] F H rfl ⟨fld37_0, trivial⟩ ?_; clear F; intro a F
 refine s_st1 wkP F rfl rfl zero33 rfl rfl rfl rfl rfl H 2 rfl rfl ?_; clear H; intro w H
 replace H := H.nf 6 rfl
 refine nl (sr (bk [0, 2000, 0] F H rfl ⟨fld37_0, rfl, plain33, trivial⟩ ?_)); clear F; intro a F
 refine nl ?_
 obtain ⟨r575, er575, hm575⟩ := ob hm; clear hm; revert er575; intro hm
 refine x_mid (fun aa ww => Fr ⟨62, []⟩ aa [(4, .pointer (some ⟨b5, 0, none⟩))] ∧ St w0 ww (HP.mm (some m1) ekStr true R_files_file (fun _ => True) r575 :: HP.sl rByte p6 c7 o.2.2.2.2.2 :: HP.blk b5 ([.int .i64 (x573), .int .i64 (0), .slice none (([] : List UInt8)).length 0, .slice none (([] : List (List UInt8))).length 0]) 37 :: HP.ow rStr 9 none 0 ([] : List (List UInt8)) :: HP.ow rByte 5 none 0 ([] : List UInt8) :: HP.blk b4 ([.int .i64 (o.1), .string (txb (o.2.1)), .string (txb (o.2.2.1)), .int .i64 (o.2.2.2.1), .int .i64 (o.2.2.2.2.1), .slice p6 (o.2.2.2.2.2).length c7]) 25 :: l)) ?_ ?_
 refine cP F rfl (fun hg576 => ?_) (fun hg576 => ?_)
 replace hm := ifT hg576 hm
 refine rl (bk [0, 1, 5001, 0, 5000, 0] F H rfl ⟨fld25_1, rfl, plain9, fld25_0, rfl, plain3, trivial⟩ ?_); clear F; intro a F
 replace H := H.owNil rByte 5
 refine s_val wkP F rfl rfl rfl rfl (y_build F rfl rfl (cs := [.bool (decide (o.1 = 2)), .slice none (([] : List UInt8)).length 0]) (by kernel_rfl)) ?_; clear F; intro a F
 replace H := H.frz 0 rfl
 refine s_mmSet wkP F rfl rfl Tryz.underlying65 (keyStr Tryz.underlying9) rfl H 1 rfl rfl (k := o.2.1) rfl (cs := [.bool (decide (o.1 = 2)), .slice none (([] : List UInt8)).length 0]) rfl trivial (v := (decide (o.1 = 2), ([] : List UInt8))) (fun gg => ⟨_, _, rfl, rfl, ⟨_, _, rfl, (gg 0 _ rfl).choose_spec⟩⟩) ?_; clear H; intro w H
 replace H := H.nf 7 rfl
 refine lz ?_
 cases hm
 refine ct ?_
 exact ⟨F.sl rfl, (H.pm 7 [1, 2, 3, 4, 5, 6] rfl:)⟩
 replace hm := ifF hg576 hm
 refine sk ?_
 cases hm
 refine ct ?_
 exact ⟨F.sl rfl, H⟩
 clear F H hm
 rintro a w ⟨F, H⟩; have hm := hm575; clear hm575
 cases hm
 refine ct ?_
 exact ⟨_, rfl, F.sl rfl, (H.pm 6 [1, 2, 3, 4, 5, 0] rfl:)⟩
 replace hm := ifF (nT hg572) hm
 refine sq (sr (bk [0, 0] F H rfl trivial ?_)); clear F; intro a F
 refine nl ?_
 obtain ⟨r578, er578, hm578⟩ := ob hm; clear hm; revert er578; intro hm
 refine x_mid (fun aa ww => Fr ⟨62, []⟩ aa [(0, .map (some m1)), (3, .pointer (some ⟨b4, 0, none⟩)), (4, .pointer (some ⟨b5, 0, none⟩)), (6, .int .i64 (o.1)), (26, .bool (r578))] ∧ St w0 ww (HP.sl rByte p6 c7 o.2.2.2.2.2 :: HP.blk b5 ([.int .i64 (0), .int .i64 (0), .slice none (([] : List UInt8)).length 0, .slice none (([] : List (List UInt8))).length 0]) 37 :: HP.ow rStr 9 none 0 ([] : List (List UInt8)) :: HP.ow rByte 5 none 0 ([] : List UInt8) :: HP.blk b4 ([.int .i64 (o.1), .string (txb (o.2.1)), .string (txb (o.2.2.1)), .int .i64 (o.2.2.2.1), .int .i64 (o.2.2.2.2.1), .slice p6 (o.2.2.2.2.2).length c7]) 25 :: HP.mm (some m1) ekStr true R_files_file (fun _ => True) s :: l)) ?_ ?_
 refine cP F rfl (fun hg579 => ?_) (fun hg579 => ?_)
 replace hm := ifT hg579 hm
 refine sk ?_
 cases hm
 refine ct ?_
 exact ⟨F.sl rfl, H⟩
 replace hm := ifF hg579 hm
 refine rl (bk [0, 0] F H rfl trivial ?_); clear F; intro a F
 refine lz ?_
 cases hm
 refine ct ?_
 exact ⟨F.sl rfl, H⟩
 clear F H hm
 rintro a w ⟨F, H⟩; have hm := hm578; clear hm578
 refine ct ?_
 obtain ⟨o668, eo668, hm668⟩ := ob hm; clear hm; revert eo668; intro hm
 refine x_mid (fun aa ww => ∃ r668, o668 = Sum.inl r668 ∧ Fr ⟨62, []⟩ aa [(4, .pointer (some ⟨b5, 0, none⟩))] ∧ St w0 ww (HP.sl rByte p6 c7 o.2.2.2.2.2 :: HP.blk b5 ([.int .i64 (r668.1), .int .i64 (0), .slice none (([] : List UInt8)).length 0, .slice none (([] : List (List UInt8))).length 0]) 37 :: HP.ow rStr 9 none 0 ([] : List (List UInt8)) :: HP.ow rByte 5 none 0 ([] : List UInt8) :: HP.blk b4 ([.int .i64 (o.1), .string (txb (o.2.1)), .string (txb (o.2.2.1)), .int .i64 (o.2.2.2.1), .int .i64 (o.2.2.2.2.1), .slice p6 (o.2.2.2.2.2).length c7]) 25 :: HP.mm (some m1) ekStr true R_files_file (fun _ => True) r668.2 :: l)) ?_ ?_
 refine cB F rfl (fun hg669 => ?_) (fun hg669 => ?_)
 replace hm := ifT hg669 hm
 refine sr (bk [0, 4999] F H rfl ⟨rfl, (aggn agg25 (by simp only [List.length_append, List.length_cons, List.length_nil, icells_length, bcells_length])), trivial⟩ ?_); clear F; intro a F
 replace H := H.mkRc (R := R_api_Op) (cs := [.int .i64 (o.1), .string (txb (o.2.1)), .string (txb (o.2.2.1)), .int .i64 (o.2.2.2.1), .int .i64 (o.2.2.2.2.1), .slice p6 (o.2.2.2.2.2).length c7]) (x := (o.1, o.2.1, o.2.2.1, o.2.2.2.1, o.2.2.2.2.1, o.2.2.2.2.2)) (fun gg => ⟨_, _, rfl, rfl, ⟨_, _, rfl, rfl, ⟨_, _, rfl, rfl, ⟨_, _, rfl, rfl, ⟨_, _, rfl, rfl, ⟨_, _, rfl, (gg 0 _ rfl).choose_spec⟩⟩⟩⟩⟩⟩)
 obtain ⟨x670, ex670, hm⟩ := ob hm
 refine sc wkP F rfl ent62 (w_sWrite ex670 (H.pm 7 [6, 0, 0, 1, 2, 3, 4, 5] rfl:):) ?_; clear F H; rintro _ w a ⟨cs671, rfl, H⟩ F
 refine s_storeA wkP F rfl rfl agg37 rfl rfl rfl H 4 rfl (H.rcLen 0 rfl) (by simp only [List.length_append, List.length_cons, List.length_nil, icells_length, bcells_length]) (H.rcFlat 0 rfl) ?_; clear H; intro w H
 replace H := H.nf 8 rfl
 refine nl (wr (tr ?_))
 cases hm
 replace hm := elimR hm668
 refine tr ?_
 cases hm
 replace hm := elimR hm571
 refine br (tr ?_)
 cases hm
 replace hm := elimR hm382
 refine tr ?_
 cases hm
 refine x_resC1 F rfl (⟨_, rfl, agg37.run_load (H.blk 4 rfl).row (H.rcLen 0 rfl)⟩) ?_
 exact ⟨_, rfl, cs671, rfl, (H.pm 8 [0, 1] rfl:)⟩
 replace hm := ifF (nT hg669) hm
 refine sr (bk [0, 0] F H rfl trivial ?_); clear F; intro a F
 refine nl ?_
 obtain ⟨o714, eo714, hm714⟩ := ob hm; clear hm; revert eo714; intro hm
 refine x_mid (fun aa ww => ∃ r714, o714 = Sum.inl r714 ∧ Fr ⟨62, []⟩ aa [(4, .pointer (some ⟨b5, 0, none⟩))] ∧ St w0 ww (HP.sl rByte p6 c7 o.2.2.2.2.2 :: HP.blk b5 ([.int .i64 (r714.1), .int .i64 (0), .slice none (([] : List UInt8)).length 0, .slice none (([] : List (List UInt8))).length 0]) 37 :: HP.ow rStr 9 none 0 ([] : List (List UInt8)) :: HP.ow rByte 5 none 0 ([] : List UInt8) :: HP.blk b4 ([.int .i64 (o.1), .string (txb (o.2.1)), .string (txb (o.2.2.1)), .int .i64 (o.2.2.2.1), .int .i64 (o.2.2.2.2.1), .slice p6 (o.2.2.2.2.2).length c7]) 25 :: HP.mm (some m1) ekStr true R_files_file (fun _ => True) r714.2 :: l)) ?_ ?_
 refine cP F rfl (fun hg715 => ?_) (fun hg715 => ?_)
 replace hm := ifT hg715 hm
 refine sr (bk [0, 4999] F H rfl ⟨rfl, (aggn agg25 (by simp only [List.length_append, List.length_cons, List.length_nil, icells_length, bcells_length])), trivial⟩ ?_); clear F; intro a F
 replace H := H.mkRc (R := R_api_Op) (cs := [.int .i64 (o.1), .string (txb (o.2.1)), .string (txb (o.2.2.1)), .int .i64 (o.2.2.2.1), .int .i64 (o.2.2.2.2.1), .slice p6 (o.2.2.2.2.2).length c7]) (x := (o.1, o.2.1, o.2.2.1, o.2.2.2.1, o.2.2.2.2.1, o.2.2.2.2.2)) (fun gg => ⟨_, _, rfl, rfl, ⟨_, _, rfl, rfl, ⟨_, _, rfl, rfl, ⟨_, _, rfl, rfl, ⟨_, _, rfl, rfl, ⟨_, _, rfl, (gg 0 _ rfl).choose_spec⟩⟩⟩⟩⟩⟩)
 obtain ⟨x716, ex716, hm⟩ := ob hm
 refine sc wkP F rfl ent63 (w_sRead ex716 (H.pm 7 [6, 0, 0, 1, 2, 3, 4, 5] rfl:):) ?_; clear F H; rintro _ w a ⟨cs717, rfl, H⟩ F
 refine s_storeA wkP F rfl rfl agg37 rfl rfl rfl H 4 rfl (H.rcLen 0 rfl) (by simp only [List.length_append, List.length_cons, List.length_nil, icells_length, bcells_length]) (H.rcFlat 0 rfl) ?_; clear H; intro w H
 replace H := H.nf 8 rfl
 refine nl (wr (tr ?_))
 cases hm
 replace hm := elimR hm714
 refine tr ?_
 cases hm
 replace hm := elimR hm668
 refine tr ?_
 cases hm
 replace hm := elimR hm571
 refine br (tr ?_)
 cases hm
 replace hm := elimR hm382
 refine tr ?_
 cases hm
 refine x_resC1 F rfl (⟨_, rfl, agg37.run_load (H.blk 4 rfl).row (H.rcLen 0 rfl)⟩) ?_
 exact ⟨_, rfl, cs717, rfl, (H.pm 8 [0, 1] rfl:)⟩
 replace hm := ifF hg715 hm
 refine sr (bk [0, 0] F H rfl trivial ?_); clear F; intro a F
 refine nl ?_
 obtain ⟨o737, eo737, hm737⟩ := ob hm; clear hm; revert eo737; intro hm
 refine x_mid (fun aa ww => ∃ r737, o737 = Sum.inl r737 ∧ Fr ⟨62, []⟩ aa [(4, .pointer (some ⟨b5, 0, none⟩))] ∧ St w0 ww (HP.sl rByte p6 c7 o.2.2.2.2.2 :: HP.blk b5 ([.int .i64 (r737.1), .int .i64 (0), .slice none (([] : List UInt8)).length 0, .slice none (([] : List (List UInt8))).length 0]) 37 :: HP.ow rStr 9 none 0 ([] : List (List UInt8)) :: HP.ow rByte 5 none 0 ([] : List UInt8) :: HP.blk b4 ([.int .i64 (o.1), .string (txb (o.2.1)), .string (txb (o.2.2.1)), .int .i64 (o.2.2.2.1), .int .i64 (o.2.2.2.2.1), .slice p6 (o.2.2.2.2.2).length c7]) 25 :: HP.mm (some m1) ekStr true R_files_file (fun _ => True) r737.2 :: l)) ?_ ?_
 refine cP F rfl (fun hg738 => ?_) (fun hg738 => ?_)
 replace hm := ifT hg738 hm
 refine rl (bk [0, 4999] F H rfl ⟨rfl, (aggn agg25 (by simp only [List.length_append, List.length_cons, List.length_nil, icells_length, bcells_length])), trivial⟩ ?_); clear F; intro a F
 replace H := H.mkRc (R := R_api_Op) (cs := [.int .i64 (o.1), .string (txb (o.2.1)), .string (txb (o.2.2.1)), .int .i64 (o.2.2.2.1), .int .i64 (o.2.2.2.2.1), .slice p6 (o.2.2.2.2.2).length c7]) (x := (o.1, o.2.1, o.2.2.1, o.2.2.2.1, o.2.2.2.2.1, o.2.2.2.2.2)) (fun gg => ⟨_, _, rfl, rfl, ⟨_, _, rfl, rfl, ⟨_, _, rfl, rfl, ⟨_, _, rfl, rfl, ⟨_, _, rfl, rfl, ⟨_, _, rfl, (gg 0 _ rfl).choose_spec⟩⟩⟩⟩⟩⟩)
 obtain ⟨x739, ex739, hm⟩ := ob hm
 refine sc wkP F rfl ent64 (w_sRename ex739 (H.pm 7 [6, 0, 0, 1, 2, 3, 4, 5] rfl:):) ?_; clear F H; rintro _ w a ⟨rfl, H⟩ F
 refine bk [0] F H rfl ⟨fld37_0, trivial⟩ ?_; clear F; intro a F
 refine s_st1 wkP F rfl rfl zero33 rfl rfl rfl rfl rfl H 3 rfl rfl ?_; clear H; intro w H
 replace H := H.nf 7 rfl
 refine lz ?_
 cases hm
 refine ct ?_
 exact ⟨_, rfl, F.sl rfl, (H.pm 7 [2, 3, 4, 5, 6, 0] rfl:)⟩
 replace hm := ifF hg738 hm
 refine sr (bk [0, 0] F H rfl trivial ?_); clear F; intro a F
 refine nl ?_
 obtain ⟨o748, eo748, hm748⟩ := ob hm; clear hm; revert eo748; intro hm
 refine x_mid (fun aa ww => ∃ r748, o748 = Sum.inl r748 ∧ Fr ⟨62, []⟩ aa [(4, .pointer (some ⟨b5, 0, none⟩))] ∧ St w0 ww (HP.sl rByte p6 c7 o.2.2.2.2.2 :: HP.blk b5 ([.int .i64 (r748.1), .int .i64 (0), .slice none (([] : List UInt8)).length 0, .slice none (([] : List (List UInt8))).length 0]) 37 :: HP.ow rStr 9 none 0 ([] : List (List UInt8)) :: HP.ow rByte 5 none 0 ([] : List UInt8) :: HP.blk b4 ([.int .i64 (o.1), .string (txb (o.2.1)), .string (txb (o.2.2.1)), .int .i64 (o.2.2.2.1), .int .i64 (o.2.2.2.2.1), .slice p6 (o.2.2.2.2.2).length c7]) 25 :: HP.mm (some m1) ekStr true R_files_file (fun _ => True) r748.2 :: l)) ?_ ?_
 refine cP F rfl (fun hg749 => ?_) (fun hg749 => ?_)
 replace hm := ifT hg749 hm
 refine rl (bk [0, 1, 4001] F H rfl ⟨fld25_1, rfl, plain9, trivial⟩ ?_); clear F; intro a F
 obtain ⟨x750, ex750, hm⟩ := ob hm
 refine sc wkP F rfl ent65 (w_sRemove ex750 (H.pm 6 [5, 0, 1, 2, 3, 4] rfl:):) ?_; clear F H; rintro _ w a ⟨rfl, H⟩ F
 refine bk [0] F H rfl ⟨fld37_0, trivial⟩ ?_; clear F; intro a F
 refine s_st1 wkP F rfl rfl zero33 rfl rfl rfl rfl rfl H 2 rfl rfl ?_; clear H; intro w H
 replace H := H.nf 6 rfl
 refine lz ?_
 cases hm
 refine ct ?_
 exact ⟨_, rfl, F.sl rfl, (H.pm 6 [1, 2, 3, 4, 5, 0] rfl:)⟩
 replace hm := ifF hg749 hm
 refine sr (bk [0, 0] F H rfl trivial ?_); clear F; intro a F
 refine nl (cP F rfl (fun hg751 => ?_) (fun hg751 => ?_))
 replace hm := ifT hg751 hm
 refine sr (bk [0, 4999] F H rfl ⟨rfl, (aggn agg25 (by simp only [List.length_append, List.length_cons, List.length_nil, icells_length, bcells_length])), trivial⟩ ?_); clear F; intro a F
 replace H := H.mkRc (R := R_api_Op) (cs := [.int .i64 (o.1), .string (txb (o.2.1)), .string (txb (o.2.2.1)), .int .i64 (o.2.2.2.1), .int .i64 (o.2.2.2.2.1), .slice p6 (o.2.2.2.2.2).length c7]) (x := (o.1, o.2.1, o.2.2.1, o.2.2.2.1, o.2.2.2.2.1, o.2.2.2.2.2)) (fun gg => ⟨_, _, rfl, rfl, ⟨_, _, rfl, rfl, ⟨_, _, rfl, rfl, ⟨_, _, rfl, rfl, ⟨_, _, rfl, rfl, ⟨_, _, rfl, (gg 0 _ rfl).choose_spec⟩⟩⟩⟩⟩⟩)
 obtain ⟨x752, ex752, hm⟩ := ob hm
 refine sc wkP F rfl ent66 (w_sList ex752 (H.pm 7 [6, 0, 0, 1, 2, 3, 4, 5] rfl:):) ?_; clear F H; rintro _ w a ⟨cs753, rfl, H⟩ F
 refine s_storeA wkP F rfl rfl agg37 rfl rfl rfl H 4 rfl (H.rcLen 0 rfl) (by simp only [List.length_append, List.length_cons, List.length_nil, icells_length, bcells_length]) (H.rcFlat 0 rfl) ?_; clear H; intro w H
 replace H := H.nf 8 rfl
 refine nl (wr (tr ?_))
 cases hm
 replace hm := elimR hm748
 refine tr ?_
 cases hm
 replace hm := elimR hm737
 refine tr ?_
 cases hm
 replace hm := elimR hm714
 refine tr ?_
 cases hm
 replace hm := elimR hm668
 refine tr ?_
 cases hm
 replace hm := elimR hm571
 refine br (tr ?_)
 cases hm
 replace hm := elimR hm382
 refine tr ?_
 cases hm
 refine x_resC1 F rfl (⟨_, rfl, agg37.run_load (H.blk 4 rfl).row (H.rcLen 0 rfl)⟩) ?_
 exact ⟨_, rfl, cs753, rfl, (H.pm 8 [0, 1] rfl:)⟩
 replace hm := ifF hg751 hm
 refine sr (bk [0, 0] F H rfl trivial ?_); clear F; intro a F
 refine nl (cP F rfl (fun hg754 => ?_) (fun hg754 => ?_))
 replace hm := ifT hg754 hm
 refine sr (bk [0, 1, 4001] F H rfl ⟨fld25_1, rfl, plain9, trivial⟩ ?_); clear F; intro a F
 obtain ⟨x755, ex755, hm⟩ := ob hm
 refine sc wkP F rfl ent67 (w_sStat ex755 (H.pm 6 [5, 0, 1, 2, 3, 4] rfl:):) ?_; clear F H; rintro _ w a ⟨cs756, rfl, H⟩ F
 refine s_storeA wkP F rfl rfl agg37 rfl rfl rfl H 3 rfl (H.rcLen 0 rfl) (by simp only [List.length_append, List.length_cons, List.length_nil, icells_length, bcells_length]) (H.rcFlat 0 rfl) ?_; clear H; intro w H
 replace H := H.nf 7 rfl
 refine nl (wr (tr ?_))
 cases hm
 replace hm := elimR hm748
 refine tr ?_
 cases hm
 replace hm := elimR hm737
 refine tr ?_
 cases hm
 replace hm := elimR hm714
 refine tr ?_
 cases hm
 replace hm := elimR hm668
 refine tr ?_
 cases hm
 replace hm := elimR hm571
 refine br (tr ?_)
 cases hm
 replace hm := elimR hm382
 refine tr ?_
 cases hm
 refine x_resC1 F rfl (⟨_, rfl, agg37.run_load (H.blk 3 rfl).row (H.rcLen 0 rfl)⟩) ?_
 exact ⟨_, rfl, cs756, rfl, (H.pm 7 [0, 1] rfl:)⟩
 replace hm := ifF hg754 hm
 refine rl (bk [0] F H rfl ⟨fld37_0, trivial⟩ ?_); clear F; intro a F
 refine s_st1 wkP F rfl rfl zero33 rfl rfl rfl rfl rfl H 1 rfl rfl ?_; clear H; intro w H
 replace H := H.nf 6 rfl
 refine lz ?_
 cases hm
 refine ct ?_
 exact ⟨_, rfl, F.sl rfl, H⟩
 clear F H hm
 rintro a w ⟨r748, rfl, F, H⟩; have hm := elimL hm748; clear hm748
 cases hm
 refine ct ?_
 exact ⟨_, rfl, F.sl rfl, H⟩
 clear F H hm
 rintro a w ⟨r737, rfl, F, H⟩; have hm := elimL hm737; clear hm737
 cases hm
 refine ct ?_
 exact ⟨_, rfl, F.sl rfl, H⟩
 clear F H hm
 rintro a w ⟨r714, rfl, F, H⟩; have hm := elimL hm714; clear hm714
 cases hm
 refine ct ?_
 exact ⟨_, rfl, F.sl rfl, H⟩
 clear F H hm
 rintro a w ⟨r668, rfl, F, H⟩; have hm := elimL hm668; clear hm668
 cases hm
 refine ct ?_
 exact ⟨_, rfl, F.sl rfl, H⟩
 clear F H hm
 rintro a w ⟨r571, rfl, F, H⟩; have hm := elimL hm571; clear hm571
 refine bn ?_
 cases hm
 refine ct ?_
 exact ⟨_, rfl, F.sl rfl, H⟩
 clear F H hm
 rintro a w ⟨r382, rfl, F, H⟩; have hm := elimL hm382; clear hm382
 refine ct (sr (bk [1999] F H rfl ⟨rfl, (aggn agg37 (by simp only [List.length_append, List.length_cons, List.length_nil, icells_length, bcells_length])), trivial⟩ ?_)); clear F; intro a F
 refine s_storeA wkP F rfl rfl agg37 rfl rfl rfl H 1 rfl (by simp only [List.length_append, List.length_cons, List.length_nil, icells_length, bcells_length]) (by simp only [List.length_append, List.length_cons, List.length_nil, icells_length, bcells_length]) (by intro v hv; simp only [List.mem_append, List.mem_cons, List.not_mem_nil, or_false] at hv; first | (rcases hv with h | h <;> first | (subst h; rfl) | exact bcells_flat _ _ h | exact icells_flat _ _ _ h | (rcases h with h | h <;> first | (subst h; rfl) | exact bcells_flat _ _ h | exact icells_flat _ _ _ h | (rcases h with h | h <;> first | (subst h; rfl) | exact bcells_flat _ _ h | (rcases h with h | h <;> first | (subst h; rfl) | (rcases h with h | h <;> (subst h; rfl)))))) | (subst hv; rfl)) ?_; clear H; intro w H
 replace H := H.nf 6 rfl
 refine nl (wr ?_)
 replace H := H.frz 3 rfl
 replace H := H.frz 3 rfl
 replace H := H.mkRc (R := R_api_Answer) (cs := [.int .i64 (r382.1), .int .i64 (0), .slice none (([] : List UInt8)).length 0, .slice none (([] : List (List UInt8))).length 0]) (x := (r382.1, 0, ([] : List UInt8), ([] : List (List UInt8)))) (fun gg => ⟨_, _, rfl, rfl, ⟨_, _, rfl, rfl, ⟨_, _, rfl, ⟨_, _, rfl, (gg 1 _ rfl).choose_spec⟩, ⟨_, _, rfl, (gg 0 _ rfl).choose_spec⟩⟩⟩⟩)
 cases hm
 refine x_resC1 F rfl (⟨_, rfl, agg37.run_load (H.blk 4 rfl).row (by simp only [List.length_append, List.length_cons, List.length_nil, icells_length, bcells_length])⟩) ?_
 exact ⟨_, rfl, [.int .i64 (r382.1), .int .i64 (0), .slice none (([] : List UInt8)).length 0, .slice none (([] : List (List UInt8))).length 0], rfl, (H.pm 7 [0, 6] rfl:)⟩
end Go.Proofs.YtohmcgmmphpgoaaGreatDoor
