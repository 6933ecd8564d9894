/- Texts FilesC, LawA. -/
import Derived.Test.YthcjjjnphgopjaaGreatDoorQ7
set_option linter.unusedSimpArgs false
set_option linter.unusedVariables false
namespace Go.Proofs.YthcjjjnphgopjaaGreatDoor
open Go.RowKit Go.Tri
set_option maxRecDepth 100000
set_option maxHeartbeats 4000000
theorem elem22:ElemT Tryz.prog 22 60 2 48 (.agg [.slice none 0 0,.slice none 0 0].toArray):=⟨Tryz.underlying22,by kernel_rfl,by kernel_rfl,by decide⟩
theorem agz60:AggT Tryz.prog 60 2 ([.slice none (([]:List UInt8)).length 0,.slice none (([]:List UInt8)).length 0]):=⟨by rw [Tryz.underlying60];rfl,by kernel_rfl,by kernel_rfl⟩
theorem ent48:En Tryz.prog 48:=enters Tryz.func48 (by kernel_rfl) rfl
theorem fld60_1:FieldT Tryz.prog 60 1 1:=by unfold FieldT;rw [Tryz.underlying60];kernel_rfl
theorem plain5:Plain Tryz.prog 5:=by unfold Plain;rw [Tryz.underlying5];rfl
theorem w_fRead {list:List T_api_Pair} {p1:Option Addr} {c1:Nat} {w0 w:World} {l:List HP}  {r:((List UInt8)→Option T_files_file)} (hm:fRead list=some r) (H:St w0 w (HP.sl R_api_Pair p1 c1 list::l)) :
  Calls Tryz.prog 31 [.slice p1 (list).length c1].toArray w (fun e w'=>∃ v,e=.returned v∧∃ (m2:Nat),v=.map (some m2)∧St w0 w' (HP.mm (some m2) ekStr true R_files_file (fun _=>True) r::l)):=by
 unfold fRead at hm
 refine x_enter Tryz.func31 rfl rfl rfl ?_
 intro a F
 refine sb [0] F H rfl fun a F=>nl (sr (s_mmNew ekStr true R_files_file (fun _=>True) wkP F rfl rfl rfl rfl H fun m3 w a H F=>bb [0] F H rfl fun a F=>?_))
 replace H:=H.nf 2 rfl
 refine nl (sr (s_mmNew ekStr false rHdr (fun _=>True) wkP F rfl rfl rfl rfl H fun m4 w a H F=>?_))
 replace H:=H.mwNil 5
 refine bb [0] F H rfl fun a F=>?_
 replace H:=H.nf 3 rfl
 refine nl (sq (sr (bk [0,0,0] F H rfl ⟨⟨_,Tryz.underlying22⟩,trivial⟩ fun a F=>?_)))
 refine nl (xm0 3 [3,4] [] F H hm rfl rfl (fun r528 z=>z) (fun r528 z=>HP.mw 5 (some m4) ekStr (fun _=>True) r528.1::HP.mm (some m3) ekStr true R_files_file (fun _=>True) r528.2::z) (fun r528 hm=>?_) (fun r528 a w hm F H=>?_))
 refine bl (xl0 3 [3,4,16,17] [2] F H hm rfl rfl (fun (s877:((List UInt8)→Option (List UInt8))×((List UInt8)→Option T_files_file)×Int) z=>(18,.int .i64 (s877.2.2))::z) (fun s877 z=>HP.mw 5 (some m4) ekStr (fun _=>True) s877.1::HP.mm (some m3) ekStr true R_files_file (fun _=>True) s877.2.1::z) ⟨F.sl rfl,H⟩ (fun s877 a w o F H hm=>sb [0] F H rfl fun a F=>?_))
 refine nl (sq (cPm F rfl hm (fun hg878 hm=>?_) (fun hg878 hm=>?_)))
 refine sk (ct (sq (xm0 3 [3,4,16,17,18] [2] F H hm rfl rfl (fun r965 z=>z) (fun r965 z=>HP.mw 5 (some m4) ekStr (fun _=>True) r965.1::HP.mm (some m3) ekStr true R_files_file (fun _=>True) r965.2::z) (fun r965 hm=>?_) (fun r965 a w hm F H=>?_))))
 refine bl (sr ?_)
 obtain ⟨x966,ex966,hm⟩:=ob hm
 obtain ⟨b967,o967,hp967⟩:=H.slP 2 rfl (idxO_some ex966).2
 obtain ⟨cs968,hcl968,H⟩:=H.slEl 2 rfl hp967 (idxO_some ex966).2
 clear hcl968
 refine sv F rfl (y_idxS F elem22 rfl rfl rfl hp967 ex966) fun a F=>bk [999] F H rfl ⟨rfl,(aggn agg60 (H.rcLen 1 rfl)),trivial⟩ fun a F=>?_
 replace H:=H.owNil rByte 5
 replace H:=H.owNil rByte 5
 refine s_allocA wkP F rfl rfl rfl agz60 rfl H fun b969 w a H F=>s_storeA wkP F rfl rfl agg60 rfl rfl rfl H 0 rfl (H.rcLen 4 rfl) rfl (H.rcFlat 4 rfl) fun w H=>?_
 replace H:=H.nf 8 rfl
 refine nb [0,0] F H rfl fun a F=>nl (sq (sr (bk [0] F H rfl ⟨fld60_0,trivial⟩ fun a F=>?_)))
 have G:=F;replace H:=rc_api_Pair (H.pk 4 rfl);obtain ⟨p970,c971,p972,c973,rfl,J⟩:=H;have H:=J;have F:=G;clear G J
 refine bk [2000,0,0] F H rfl ⟨rfl,plain23,⟨_,Tryz.underlying23⟩,trivial⟩ fun a F=>?_
 refine nl (xm0 9 [3,4,6,16,17,18] [0,1,2,3,4,5,6,7,8] F H hm rfl rfl (fun r979 z=>(7,.string (txb (r979.1)))::(8,.string (txb (r979.2)))::z) (fun r979 z=>z) (fun r979 hm=>?_) (fun r979 a w hm F H=>?_))
 refine cPm F rfl hm (fun hg980 hm=>?_) (fun hg980 hm=>?_)
 obtain ⟨x982,ex982,hm⟩:=ob hm
 have hc981:=H.slCap 0 rfl
 replace H:=H.slSubN 1 rfl 0 rfl ex982
 obtain ⟨x984,ex984,hm⟩:=ob hm
 have hc983:=H.slCap 1 rfl
 replace H:=H.slSubN 1 rfl 1 rfl ex984
 refine qr H (by kernel_rfl) (by kernel_rfl) ?_
 refine qbk [0,4000] F rfl ⟨fld60_0,rfl,plain23,trivial⟩ fun a F=>qv F rfl (fun u hu=>y_slH F elem23 rfl rfl rfl ex982 hc981) fun a F=>qv F rfl (fun u hu=>y_b2s F Tryz.underlying23 Tryz.underlying9 Tryz.underlying5 rfl rfl (hu) 1 rfl) fun a F=>qbk [0,4000] F rfl ⟨fld60_0,rfl,plain23,trivial⟩ fun a F=>qv F rfl (fun u hu=>y_slL F elem23 rfl rfl rfl ex984 hc983) fun a F=>qv F rfl (fun u hu=>y_b2s F Tryz.underlying23 Tryz.underlying9 Tryz.underlying5 rfl rfl (hu) 0 rfl) fun a F=>qb [0,0] F rfl fun a F=>?_
 refine q_nil fun w H=>?_
 cases hm
 refine ct ?_
 exact ⟨F.sl rfl,(H.pm 11 [2,3,4,5,6,7,8,9,10] rfl:)⟩
 refine sk ?_
 cases hm
 refine ct ?_
 exact ⟨F.sl rfl,H⟩
 refine ct (xm0 9 [3,4,16,17,18] [0,1,2,3,4,5,8] F H hm rfl rfl (fun r1018 z=>z) (fun r1018 z=>HP.mw 5 (some m4) ekStr (fun _=>True) r1018.1::HP.mm (some m3) ekStr true R_files_file (fun _=>True) r1018.2::z) (fun r1018 hm=>?_) (fun r1018 a w hm F H=>?_))
 refine bl (sb [0] F H rfl fun a F=>sv F rfl (y_eqT (l:=r979.1) (m:=[99]) F rfl rfl rfl) fun a F=>bb [0] F H rfl fun a F=>?_)
 refine nl (xm0 9 [3,4,16,17,18] [0,1,2,3,4,5,8] F H hm rfl rfl (fun r1035 z=>z) (fun r1035 z=>HP.mw 5 (some m4) ekStr (fun _=>True) r1035.1::HP.mm (some m3) ekStr true R_files_file (fun _=>True) r1035.2::z) (fun r1035 hm=>?_) (fun r1035 a w hm F H=>?_))
 refine cPm F rfl hm (fun hg1036 hm=>?_) (fun hg1036 hm=>?_)
 refine sb [0] F H rfl fun a F=>?_
 obtain ⟨x1037,ex1037,hm⟩:=ob hm
 refine sd F rfl ent48 (w_m_strings_Cut ex1037 H:) ?_;rintro _ w a ⟨rfl,H⟩ F
 refine bb (List.replicate 7 0) F H rfl fun a F=>?_
 replace H:=H.nf 9 rfl
 refine nl (rl (bb [0,0,0,0] F H rfl fun a F=>?_))
 obtain ⟨hm1038,q1038,c1038,hh1038,H⟩:=(H.pm 9 [6,0,1,2,3,4,5,7,8] rfl:).mwTake x1037.1
 refine sv F rfl (y_mmGetH F Tryz.underlying82 (keyStr Tryz.underlying9) (fun w=>zero23.run w) rfl H 2 rfl rfl (k:=x1037.1) rfl trivial hh1038) fun a F=>bk [1,5001] F H rfl ⟨fld60_1,rfl,plain23,trivial⟩ fun a F=>?_
 obtain ⟨x1040,ex1040,hm⟩:=ob hm
 refine s_app wkP F rfl rfl rfl rfl rfl rfl elem23 rfl ex1040 H 0 4 rfl rfl fun p1039 c1039 w a H F=>?_
 refine s_mmSet wkP F rfl rfl Tryz.underlying82 (keyStr Tryz.underlying9) rfl H 2 rfl rfl (k:=x1037.1) rfl (cs:=[.slice p1039 (x1040).length c1039]) rfl trivial (v:=(p1039,x1040.length,c1039)) (fun gg=>rfl) fun w H=>?_
 replace H:=H.mwPut
 replace H:=H.nf 9 rfl
 refine lz ?_
 cases hm
 refine ct ?_
 exact ⟨F.sl rfl,(H.pm 9 [0,7,1,2,3,4,5,6,8] rfl:)⟩
 refine sb [0] F H rfl fun a F=>sv F rfl (y_eqT (l:=r979.1) (m:=[110]) F rfl rfl rfl) fun a F=>bb [0] F H rfl fun a F=>?_
 refine nl (xm0 9 [3,4,16,17,18] [0,1,2,3,4,5,6,8] F H hm rfl rfl (fun r1046 z=>z) (fun r1046 z=>HP.mm (some m3) ekStr true R_files_file (fun _=>True) r1046::z) (fun r1046 hm=>?_) (fun r1046 a w hm F H=>?_))
 refine cPm F rfl hm (fun hg1047 hm=>?_) (fun hg1047 hm=>?_)
 refine rl (bk [0,0,1,2001,0,0,0] F H rfl ⟨fld60_1,rfl,plain23,⟨_,Tryz.underlying23⟩,trivial⟩ fun a F=>?_)
 rcases spP 60 F rfl hm with ⟨hg1048,hm,F⟩ | ⟨hg1048,hm,F⟩
 refine bk [1,2001] F H rfl ⟨fld60_1,rfl,plain23,trivial⟩ fun a F=>g_onP F rfl rfl rfl rfl ?_
 obtain ⟨x1049,ex1049,hm⟩:=ob hm
 obtain ⟨b1050,o1050,hp1050⟩:=H.slP 1 rfl (idxO_some ex1049).2
 obtain ⟨cs1051,hcl1051,H⟩:=H.slEl 1 rfl hp1050 (idxO_some ex1049).2
 obtain rfl:=H.rcB 1 rfl
 replace H:=H.dp 1 rfl
 clear hcl1051
 refine sv F rfl (y_idxS F elem23 rfl rfl rfl hp1050 ex1049) fun a F=>bk [0,0,0] F H rfl ⟨rfl,plain5,trivial⟩ fun a F=>?_
 replace H:=H.owNil rByte 5
 refine sv F rfl (y_build F rfl rfl (cs:=[.bool (decide (((x1049).toNat:Int)=100)),.slice none (([]:List UInt8)).length 0]) (by kernel_rfl)) fun a F=>?_
 replace H:=H.frz 0 rfl
 refine s_mmSet wkP F rfl rfl Tryz.underlying65 (keyStr Tryz.underlying9) rfl H 9 rfl rfl (k:=r979.2) rfl (cs:=[.bool (decide (((x1049).toNat:Int)=100)),.slice none (([]:List UInt8)).length 0]) rfl trivial (v:=(decide (((x1049).toNat:Int)=100),([]:List UInt8))) (fun gg=>⟨_,_,rfl,rfl,⟨_,_,rfl,(gg 0 _ rfl).choose_spec⟩⟩) fun w H=>?_
 replace H:=H.nf 11 rfl
 refine lz ?_
 cases hm
 refine ct ?_
 exact ⟨F.sl rfl,(H.pm 11 [9,2,3,4,5,6,7,8,10] rfl:)⟩
 refine bb (List.replicate 6 0) F H rfl fun a F=>?_
 replace H:=H.owNil rByte 5
 refine sv F rfl (y_build F rfl rfl (cs:=[.bool false,.slice none (([]:List UInt8)).length 0]) (by kernel_rfl)) fun a F=>?_
 replace H:=H.frz 0 rfl
 refine s_mmSet wkP F rfl rfl Tryz.underlying65 (keyStr Tryz.underlying9) rfl H 8 rfl rfl (k:=r979.2) rfl (cs:=[.bool false,.slice none (([]:List UInt8)).length 0]) rfl trivial (v:=(false,([]:List UInt8))) (fun gg=>⟨_,_,rfl,rfl,⟨_,_,rfl,(gg 0 _ rfl).choose_spec⟩⟩) fun w H=>?_
 replace H:=H.nf 10 rfl
 refine lz ?_
 cases hm
 refine ct ?_
 exact ⟨F.sl rfl,(H.pm 10 [8,1,2,3,4,5,6,7,9] rfl:)⟩
 refine sk ?_
 cases hm
 refine ct ?_
 exact ⟨F.sl rfl,(H.pm 9 [7,0,1,2,3,4,5,6,8] rfl:)⟩
 cases hm
 refine ct ?_
 exact ⟨F.sl rfl,(H.pm 9 [7,0,1,2,3,4,5,6,8] rfl:)⟩
 refine bn ?_
 cases hm
 refine ct ?_
 exact ⟨F.sl rfl,H⟩
 refine bn ?_
 cases hm
 refine ct ?_
 exact ⟨F.sl rfl,(H.pm 9 [0,1,8] rfl:)⟩
 refine ct (rl (bb [0,0] F H rfl fun a F=>?_))
 refine lz (ct ?_);cases hm
 exact ⟨_,rfl,⟨F.sl rfl,H⟩⟩
 refine ex (cx (cx ?_));cases hm;refine ⟨_,rfl,?_⟩;rintro rfl
 refine ch (ct ?_)
 exact ⟨F.sl rfl,(H.pm 3 [0,1] rfl:)⟩
 refine ct (sq (sb [0] F H rfl fun a F=>?_))
 replace H:=H.mwFrz
 obtain ⟨raw1052,cl1052,es1052,hM1052,hE1052,H⟩:=H.moOpen 1 rfl
 refine s_rngM wkP F rfl rfl rfl Tryz.underlying65 rfl H 2 rfl rfl fun r1052 w a H F=>?_
 replace H:=((H.pm 4 [3,1,0,2] rfl:)).mrStart hM1052
 replace H:=H.nf 3 rfl
 refine nl (bl ?_)
 have hmM1109:=hm;clear hm
 refine x_loopM es1052 hmM1109 (fun (s1109:((List UInt8)→Option T_files_file)) vis1109 aa ww=>Fr ⟨86,[]⟩ aa [(3,.map (some m3)),(4,.map (some m4)),(70,.pointer (some ⟨r1052,0,none⟩))]∧St w0 ww (HP.mr (some m3) ekStr true R_files_file (fun _=>True) es1052 raw1052 cl1052 (vis1109) s1109::HP.obj r1052 (mit (some m3) cl1052 (bornsOf raw1052 (vis1109)))::HP.mm (some m4) ekStr false (rSl rByte) (fun _=>True) r528.1::l)) ⟨F.sl rfl,H⟩ ?_
 clear F H
 rintro s1109 vis1109 a w hr1109 ⟨F,H⟩
 refine sr ?_
 replace H:=(H.pm 3 [1,0,2] rfl:)
 refine s_nxtR wkP F rfl rfl rfl rfl rfl hr1109.ok H (fun hall1110 w a H F=>?_) (fun q1110 k1110 cs1110 v1110 hq1110 hn1110 w a H F=>?_)
 have hm:=elimL (hr1109.done hE1052 hall1110 hmM1109)
 refine bb [0] F H rfl fun a F=>nl (sq (cF F rfl ?_))
 refine ex (cx (cx ?_))
 replace H:=(H.pm 3 [1,0,2] rfl:).mrMm
 refine ch (ct (sb [0,0] F H rfl fun a F=>?_))
 refine nl (wr ?_)
 cases hm
 refine x_ret1 F rfl rfl ?_
 exact ⟨_,rfl,m3,rfl,(H.pm 3 [0] rfl:)⟩
 obtain ⟨o1110,hm,hs1110,hx1110⟩:=hr1109.step hE1052 hq1110 hn1110 hmM1109
 refine bb [0] F H rfl fun a F=>nl (sq (cT F rfl ?_))
 refine sk (ct (xm0 3 [3,4,70] [0,2] F H hm rfl rfl (fun r1124 z=>z) (fun r1124 z=>HP.mr (some m3) ekStr true R_files_file (fun _=>True) es1052 raw1052 cl1052 (vis1109++[q1110]) r1124::z) (fun r1124 hm=>?_) (fun r1124 a w hm F H=>?_)))
 refine bl (sr ?_)
 obtain ⟨hk1125,H⟩:=(H.pm 3 [1,0,2] rfl:).mrEl hq1110 hn1110
 replace H:=(H.pm 4 [2,1,0,3] rfl:)
 refine sv F rfl (y_entR (agg:=true) (ek:=ekStr) F rfl rfl hq1110 hn1110 H) fun a F=>?_
 replace H:=(H.pm 4 [1,0,2,3] rfl:).mrSkip q1110
 refine bb [0,0] F H rfl fun a F=>?_
 replace H:=H.owNil rByte 5
 refine s_allocA wkP F rfl rfl rfl agz71 rfl H fun b1126 w a H F=>bb [0] F H rfl fun a F=>s_storeA wkP F rfl rfl agg71 rfl rfl rfl H 0 rfl (H.rcLen 4 rfl) rfl (H.rcFlat 4 rfl) fun w H=>?_
 replace H:=H.nf 6 rfl
 refine nl (sr (bk [0] F H rfl ⟨fld71_0,trivial⟩ fun a F=>?_))
 have G:=F;replace H:=rc_files_file (H.pk 4 rfl);obtain ⟨p1127,c1128,rfl,J⟩:=H;have H:=J;have F:=G;clear G J
 refine bk [1000,0] F H rfl ⟨rfl,plain4,trivial⟩ fun a F=>?_
 refine nl (xm0 6 [3,4,70] [0,1,2,4,5] F H hm rfl rfl (fun r1133 z=>z) (fun r1133 z=>HP.mr (some m3) ekStr true R_files_file (fun _=>True) es1052 raw1052 cl1052 (vis1109++[q1110]) r1133::z) (fun r1133 hm=>?_) (fun r1133 a w hm F H=>?_))
 refine cB F rfl (fun hg1134=>?_) (fun hg1134=>?_)
 replace hm:=ifT hg1134 hm
 refine rl (bb [0,0,0,0] F H rfl fun a F=>?_)
 obtain ⟨es1135,H⟩:=H.mmOpen 5 rfl
 obtain ⟨cs1136,hcs1136,H⟩:=H.mxGet 5 rfl k1110 (zc:=[Value.slice none 0 0]) (z0:=[]) (fun _=>rSl_nil _ _)
 have G:=F;obtain ⟨p1137,c1137,rfl,H⟩:=H.rcSl 0 rfl;have F:=G;clear G
 replace H:=H.dp 1 rfl
 refine sv F rfl (y_mxGet (agg:=false) (zc:=[Value.slice none 0 0]) F Tryz.underlying82 (keyStr Tryz.underlying9) (fun w=>zero23.run w) rfl H 6 rfl rfl (k:=k1110) rfl trivial hcs1136) fun a F=>sv F rfl (y_build F rfl rfl (cs:=[.bool false,.slice p1137 (((r528.1 k1110).getD [])).length c1137]) (by kernel_rfl)) fun a F=>?_
 replace H:=(H.pm 7 [4,0,1,2,3,5,6] rfl:)
 refine s_mrSet wkP F rfl rfl Tryz.underlying65 (keyStr Tryz.underlying9) rfl hq1110 H rfl rfl (cs:=[.bool false,.slice p1137 (((r528.1 k1110).getD [])).length c1137]) rfl (v:=(false,((r528.1 k1110).getD []))) (fun gg=>⟨_,_,rfl,rfl,⟨_,_,rfl,(gg 0 _ rfl).choose_spec⟩⟩) fun w H=>?_
 refine lz ?_
 replace H:=H.mxShut 6 rfl
 cases hm
 refine ct ?_
 exact ⟨F.sl rfl,(H.pm 7 [0,2,3,4,5,6] rfl:)⟩
 replace hm:=ifF (nT hg1134) hm
 refine sk ?_
 cases hm
 refine ct ?_
 exact ⟨F.sl rfl,(H.pm 6 [3,0,1,2,4,5] rfl:)⟩
 refine bn ?_
 cases hm
 refine ct ?_
 exact ⟨F.sl rfl,(H.pm 6 [0,4,5] rfl:)⟩
 refine ct ?_;cases hm
 exact ⟨_,q1110,hs1110 _ rfl,⟨F.sl rfl,H⟩⟩
theorem w_fReadN {list:List T_api_Pair} {p1:Option Addr} {c1:Nat} {w0 w:World} {l:List HP}  {r:((List UInt8)→Option T_files_file)} (hm:fRead list=some r) (H:St w0 w (HP.sl R_api_Pair p1 c1 list::l)) :
  Calls Tryz.prog 31 [.slice p1 (list).length c1].toArray w (fun e w'=>∃ v,e=.returned v∧∃ (m2:Nat),v=.map (some m2)∧St w0 w' (HP.mm (some m2) ekStr true (rFlN w0.heap.size) (fun _=>True) r::l)):=by
 unfold fRead at hm
 refine x_enter Tryz.func31 rfl rfl rfl ?_
 intro a F
 refine sb [0] F H rfl fun a F=>nl (sr (s_mmNew ekStr true (rFlN w0.heap.size) (fun _=>True) wkP F rfl rfl rfl rfl H fun m3 w a H F=>bb [0] F H rfl fun a F=>?_))
 replace H:=H.nf 2 rfl
 refine nl (sr (s_mmNew ekStr false rHdr (fun _=>True) wkP F rfl rfl rfl rfl H fun m4 w a H F=>?_))
 replace H:=H.mwNil 5
 refine bb [0] F H rfl fun a F=>?_
 replace H:=H.nf 3 rfl
 refine nl (sq (sr (bk [0,0,0] F H rfl ⟨⟨_,Tryz.underlying22⟩,trivial⟩ fun a F=>?_)))
 refine nl (xm0 3 [3,4] [] F H hm rfl rfl (fun r528 z=>z) (fun r528 z=>HP.mw 5 (some m4) ekStr (fun _=>True) r528.1::HP.mm (some m3) ekStr true (rFlN w0.heap.size) (fun _=>True) r528.2::z) (fun r528 hm=>?_) (fun r528 a w hm F H=>?_))
 refine bl (xl0 3 [3,4,16,17] [2] F H hm rfl rfl (fun (s877:((List UInt8)→Option (List UInt8))×((List UInt8)→Option T_files_file)×Int) z=>(18,.int .i64 (s877.2.2))::z) (fun s877 z=>HP.mw 5 (some m4) ekStr (fun _=>True) s877.1::HP.mm (some m3) ekStr true (rFlN w0.heap.size) (fun _=>True) s877.2.1::z) ⟨F.sl rfl,H⟩ (fun s877 a w o F H hm=>sb [0] F H rfl fun a F=>?_))
 refine nl (sq (cPm F rfl hm (fun hg878 hm=>?_) (fun hg878 hm=>?_)))
 refine sk (ct (sq (xm0 3 [3,4,16,17,18] [2] F H hm rfl rfl (fun r965 z=>z) (fun r965 z=>HP.mw 5 (some m4) ekStr (fun _=>True) r965.1::HP.mm (some m3) ekStr true (rFlN w0.heap.size) (fun _=>True) r965.2::z) (fun r965 hm=>?_) (fun r965 a w hm F H=>?_))))
 refine bl (sr ?_)
 obtain ⟨x966,ex966,hm⟩:=ob hm
 obtain ⟨b967,o967,hp967⟩:=H.slP 2 rfl (idxO_some ex966).2
 obtain ⟨cs968,hcl968,H⟩:=H.slEl 2 rfl hp967 (idxO_some ex966).2
 clear hcl968
 refine sv F rfl (y_idxS F elem22 rfl rfl rfl hp967 ex966) fun a F=>bk [999] F H rfl ⟨rfl,(aggn agg60 (H.rcLen 1 rfl)),trivial⟩ fun a F=>?_
 replace H:=H.owNil rByte 5
 replace H:=H.owNil rByte 5
 refine s_allocA wkP F rfl rfl rfl agz60 rfl H fun b969 w a H F=>s_storeA wkP F rfl rfl agg60 rfl rfl rfl H 0 rfl (H.rcLen 4 rfl) rfl (H.rcFlat 4 rfl) fun w H=>?_
 replace H:=H.nf 8 rfl
 refine nb [0,0] F H rfl fun a F=>nl (sq (sr (bk [0] F H rfl ⟨fld60_0,trivial⟩ fun a F=>?_)))
 have G:=F;replace H:=rc_api_Pair (H.pk 4 rfl);obtain ⟨p970,c971,p972,c973,rfl,J⟩:=H;have H:=J;have F:=G;clear G J
 refine bk [2000,0,0] F H rfl ⟨rfl,plain23,⟨_,Tryz.underlying23⟩,trivial⟩ fun a F=>?_
 refine nl (xm0 9 [3,4,6,16,17,18] [0,1,2,3,4,5,6,7,8] F H hm rfl rfl (fun r979 z=>(7,.string (txb (r979.1)))::(8,.string (txb (r979.2)))::z) (fun r979 z=>z) (fun r979 hm=>?_) (fun r979 a w hm F H=>?_))
 refine cPm F rfl hm (fun hg980 hm=>?_) (fun hg980 hm=>?_)
 obtain ⟨x982,ex982,hm⟩:=ob hm
 have hc981:=H.slCap 0 rfl
 replace H:=H.slSubN 1 rfl 0 rfl ex982
 obtain ⟨x984,ex984,hm⟩:=ob hm
 have hc983:=H.slCap 1 rfl
 replace H:=H.slSubN 1 rfl 1 rfl ex984
 refine qr H (by kernel_rfl) (by kernel_rfl) ?_
 refine qbk [0,4000] F rfl ⟨fld60_0,rfl,plain23,trivial⟩ fun a F=>qv F rfl (fun u hu=>y_slH F elem23 rfl rfl rfl ex982 hc981) fun a F=>qv F rfl (fun u hu=>y_b2s F Tryz.underlying23 Tryz.underlying9 Tryz.underlying5 rfl rfl (hu) 1 rfl) fun a F=>qbk [0,4000] F rfl ⟨fld60_0,rfl,plain23,trivial⟩ fun a F=>qv F rfl (fun u hu=>y_slL F elem23 rfl rfl rfl ex984 hc983) fun a F=>qv F rfl (fun u hu=>y_b2s F Tryz.underlying23 Tryz.underlying9 Tryz.underlying5 rfl rfl (hu) 0 rfl) fun a F=>qb [0,0] F rfl fun a F=>?_
 refine q_nil fun w H=>?_
 cases hm
 refine ct ?_
 exact ⟨F.sl rfl,(H.pm 11 [2,3,4,5,6,7,8,9,10] rfl:)⟩
 refine sk ?_
 cases hm
 refine ct ?_
 exact ⟨F.sl rfl,H⟩
 refine ct (xm0 9 [3,4,16,17,18] [0,1,2,3,4,5,8] F H hm rfl rfl (fun r1018 z=>z) (fun r1018 z=>HP.mw 5 (some m4) ekStr (fun _=>True) r1018.1::HP.mm (some m3) ekStr true (rFlN w0.heap.size) (fun _=>True) r1018.2::z) (fun r1018 hm=>?_) (fun r1018 a w hm F H=>?_))
 refine bl (sb [0] F H rfl fun a F=>sv F rfl (y_eqT (l:=r979.1) (m:=[99]) F rfl rfl rfl) fun a F=>bb [0] F H rfl fun a F=>?_)
 refine nl (xm0 9 [3,4,16,17,18] [0,1,2,3,4,5,8] F H hm rfl rfl (fun r1035 z=>z) (fun r1035 z=>HP.mw 5 (some m4) ekStr (fun _=>True) r1035.1::HP.mm (some m3) ekStr true (rFlN w0.heap.size) (fun _=>True) r1035.2::z) (fun r1035 hm=>?_) (fun r1035 a w hm F H=>?_))
 refine cPm F rfl hm (fun hg1036 hm=>?_) (fun hg1036 hm=>?_)
 refine sb [0] F H rfl fun a F=>?_
 obtain ⟨x1037,ex1037,hm⟩:=ob hm
 refine sd F rfl ent48 (w_m_strings_Cut ex1037 H:) ?_;rintro _ w a ⟨rfl,H⟩ F
 refine bb (List.replicate 7 0) F H rfl fun a F=>?_
 replace H:=H.nf 9 rfl
 refine nl (rl (bb [0,0,0,0] F H rfl fun a F=>?_))
 obtain ⟨hm1038,q1038,c1038,hh1038,H⟩:=(H.pm 9 [6,0,1,2,3,4,5,7,8] rfl:).mwTake x1037.1
 refine sv F rfl (y_mmGetH F Tryz.underlying82 (keyStr Tryz.underlying9) (fun w=>zero23.run w) rfl H 2 rfl rfl (k:=x1037.1) rfl trivial hh1038) fun a F=>bk [1,5001] F H rfl ⟨fld60_1,rfl,plain23,trivial⟩ fun a F=>?_
 obtain ⟨x1040,ex1040,hm⟩:=ob hm
 refine s_app wkP F rfl rfl rfl rfl rfl rfl elem23 rfl ex1040 H 0 4 rfl rfl fun p1039 c1039 w a H F=>?_
 refine s_mmSet wkP F rfl rfl Tryz.underlying82 (keyStr Tryz.underlying9) rfl H 2 rfl rfl (k:=x1037.1) rfl (cs:=[.slice p1039 (x1040).length c1039]) rfl trivial (v:=(p1039,x1040.length,c1039)) (fun gg=>rfl) fun w H=>?_
 replace H:=H.mwPut
 replace H:=H.nf 9 rfl
 refine lz ?_
 cases hm
 refine ct ?_
 exact ⟨F.sl rfl,(H.pm 9 [0,7,1,2,3,4,5,6,8] rfl:)⟩
 refine sb [0] F H rfl fun a F=>sv F rfl (y_eqT (l:=r979.1) (m:=[110]) F rfl rfl rfl) fun a F=>bb [0] F H rfl fun a F=>?_
 refine nl (xm0 9 [3,4,16,17,18] [0,1,2,3,4,5,6,8] F H hm rfl rfl (fun r1046 z=>z) (fun r1046 z=>HP.mm (some m3) ekStr true (rFlN w0.heap.size) (fun _=>True) r1046::z) (fun r1046 hm=>?_) (fun r1046 a w hm F H=>?_))
 refine cPm F rfl hm (fun hg1047 hm=>?_) (fun hg1047 hm=>?_)
 refine rl (bk [0,0,1,2001,0,0,0] F H rfl ⟨fld60_1,rfl,plain23,⟨_,Tryz.underlying23⟩,trivial⟩ fun a F=>?_)
 rcases spP 60 F rfl hm with ⟨hg1048,hm,F⟩ | ⟨hg1048,hm,F⟩
 refine bk [1,2001] F H rfl ⟨fld60_1,rfl,plain23,trivial⟩ fun a F=>g_onP F rfl rfl rfl rfl ?_
 obtain ⟨x1049,ex1049,hm⟩:=ob hm
 obtain ⟨b1050,o1050,hp1050⟩:=H.slP 1 rfl (idxO_some ex1049).2
 obtain ⟨cs1051,hcl1051,H⟩:=H.slEl 1 rfl hp1050 (idxO_some ex1049).2
 obtain rfl:=H.rcB 1 rfl
 replace H:=H.dp 1 rfl
 clear hcl1051
 refine sv F rfl (y_idxS F elem23 rfl rfl rfl hp1050 ex1049) fun a F=>bk [0,0,0] F H rfl ⟨rfl,plain5,trivial⟩ fun a F=>?_
 replace H:=H.owNil rByte 5
 refine sv F rfl (y_build F rfl rfl (cs:=[.bool (decide (((x1049).toNat:Int)=100)),.slice none (([]:List UInt8)).length 0]) (by kernel_rfl)) fun a F=>?_
 replace H:=H.frz 0 rfl
 refine s_mmSet wkP F rfl rfl Tryz.underlying65 (keyStr Tryz.underlying9) rfl H 9 rfl rfl (k:=r979.2) rfl (cs:=[.bool (decide (((x1049).toNat:Int)=100)),.slice none (([]:List UInt8)).length 0]) rfl trivial (v:=(decide (((x1049).toNat:Int)=100),([]:List UInt8))) (fun gg=>⟨_,_,rfl,rfl,rSlN_nil _ _ _⟩) fun w H=>?_
 replace H:=H.nf 11 rfl
 refine lz ?_
 cases hm
 refine ct ?_
 exact ⟨F.sl rfl,(H.pm 11 [9,2,3,4,5,6,7,8,10] rfl:)⟩
 refine bb (List.replicate 6 0) F H rfl fun a F=>?_
 replace H:=H.owNil rByte 5
 refine sv F rfl (y_build F rfl rfl (cs:=[.bool false,.slice none (([]:List UInt8)).length 0]) (by kernel_rfl)) fun a F=>?_
 replace H:=H.frz 0 rfl
 refine s_mmSet wkP F rfl rfl Tryz.underlying65 (keyStr Tryz.underlying9) rfl H 8 rfl rfl (k:=r979.2) rfl (cs:=[.bool false,.slice none (([]:List UInt8)).length 0]) rfl trivial (v:=(false,([]:List UInt8))) (fun gg=>⟨_,_,rfl,rfl,rSlN_nil _ _ _⟩) fun w H=>?_
 replace H:=H.nf 10 rfl
 refine lz ?_
 cases hm
 refine ct ?_
 exact ⟨F.sl rfl,(H.pm 10 [8,1,2,3,4,5,6,7,9] rfl:)⟩
 refine sk ?_
 cases hm
 refine ct ?_
 exact ⟨F.sl rfl,(H.pm 9 [7,0,1,2,3,4,5,6,8] rfl:)⟩
 cases hm
 refine ct ?_
 exact ⟨F.sl rfl,(H.pm 9 [7,0,1,2,3,4,5,6,8] rfl:)⟩
 refine bn ?_
 cases hm
 refine ct ?_
 exact ⟨F.sl rfl,H⟩
 refine bn ?_
 cases hm
 refine ct ?_
 exact ⟨F.sl rfl,(H.pm 9 [0,1,8] rfl:)⟩
 refine ct (rl (bb [0,0] F H rfl fun a F=>?_))
 refine lz (ct ?_);cases hm
 exact ⟨_,rfl,⟨F.sl rfl,H⟩⟩
 refine ex (cx (cx ?_));cases hm;refine ⟨_,rfl,?_⟩;rintro rfl
 refine ch (ct ?_)
 exact ⟨F.sl rfl,(H.pm 3 [0,1] rfl:)⟩
 refine ct (sq (sb [0] F H rfl fun a F=>?_))
 replace H:=H.mwFrzN
 obtain ⟨raw1052,cl1052,es1052,hM1052,hE1052,H⟩:=H.moOpen 1 rfl
 refine s_rngM wkP F rfl rfl rfl Tryz.underlying65 rfl H 2 rfl rfl fun r1052 w a H F=>?_
 replace H:=((H.pm 4 [3,1,0,2] rfl:)).mrStart hM1052
 replace H:=H.nf 3 rfl
 refine nl (bl ?_)
 have hmM1109:=hm;clear hm
 refine x_loopM es1052 hmM1109 (fun (s1109:((List UInt8)→Option T_files_file)) vis1109 aa ww=>Fr ⟨86,[]⟩ aa [(3,.map (some m3)),(4,.map (some m4)),(70,.pointer (some ⟨r1052,0,none⟩))]∧St w0 ww (HP.mr (some m3) ekStr true (rFlN w0.heap.size) (fun _=>True) es1052 raw1052 cl1052 (vis1109) s1109::HP.obj r1052 (mit (some m3) cl1052 (bornsOf raw1052 (vis1109)))::HP.mm (some m4) ekStr false (rSlN w0.heap.size rByte) (fun _=>True) r528.1::l)) ⟨F.sl rfl,H⟩ ?_
 clear F H
 rintro s1109 vis1109 a w hr1109 ⟨F,H⟩
 refine sr ?_
 replace H:=(H.pm 3 [1,0,2] rfl:)
 refine s_nxtR wkP F rfl rfl rfl rfl rfl hr1109.ok H (fun hall1110 w a H F=>?_) (fun q1110 k1110 cs1110 v1110 hq1110 hn1110 w a H F=>?_)
 have hm:=elimL (hr1109.done hE1052 hall1110 hmM1109)
 refine bb [0] F H rfl fun a F=>nl (sq (cF F rfl ?_))
 refine ex (cx (cx ?_))
 replace H:=(H.pm 3 [1,0,2] rfl:).mrMm
 refine ch (ct (sb [0,0] F H rfl fun a F=>?_))
 refine nl (wr ?_)
 cases hm
 refine x_ret1 F rfl rfl ?_
 exact ⟨_,rfl,m3,rfl,(H.pm 3 [0] rfl:)⟩
 obtain ⟨o1110,hm,hs1110,hx1110⟩:=hr1109.step hE1052 hq1110 hn1110 hmM1109
 refine bb [0] F H rfl fun a F=>nl (sq (cT F rfl ?_))
 refine sk (ct (xm0 3 [3,4,70] [0,2] F H hm rfl rfl (fun r1124 z=>z) (fun r1124 z=>HP.mr (some m3) ekStr true (rFlN w0.heap.size) (fun _=>True) es1052 raw1052 cl1052 (vis1109++[q1110]) r1124::z) (fun r1124 hm=>?_) (fun r1124 a w hm F H=>?_)))
 refine bl (sr ?_)
 obtain ⟨hk1125,H⟩:=(H.pm 3 [1,0,2] rfl:).mrEl hq1110 hn1110
 replace H:=(H.pm 4 [2,1,0,3] rfl:)
 refine sv F rfl (y_entR (agg:=true) (ek:=ekStr) F rfl rfl hq1110 hn1110 H) fun a F=>?_
 replace H:=(H.pm 4 [1,0,2,3] rfl:).mrSkip q1110
 refine bb [0,0] F H rfl fun a F=>?_
 replace H:=H.owNil rByte 5
 refine s_allocA wkP F rfl rfl rfl agz71 rfl H fun b1126 w a H F=>bb [0] F H rfl fun a F=>s_storeA wkP F rfl rfl agg71 rfl rfl rfl H 0 rfl (H.rcLen 4 rfl) rfl (H.rcFlat 4 rfl) fun w H=>?_
 replace H:=H.nf 6 rfl
 refine nl (sr (bk [0] F H rfl ⟨fld71_0,trivial⟩ fun a F=>?_))
 have G:=F;replace H:=rc_files_file (H.pk 4 rfl).rcFl;obtain ⟨p1127,c1128,rfl,J⟩:=H;have H:=J;have F:=G;clear G J
 refine bk [1000,0] F H rfl ⟨rfl,plain4,trivial⟩ fun a F=>?_
 refine nl (xm0 6 [3,4,70] [0,1,2,4,5] F H hm rfl rfl (fun r1133 z=>z) (fun r1133 z=>HP.mr (some m3) ekStr true (rFlN w0.heap.size) (fun _=>True) es1052 raw1052 cl1052 (vis1109++[q1110]) r1133::z) (fun r1133 hm=>?_) (fun r1133 a w hm F H=>?_))
 refine cB F rfl (fun hg1134=>?_) (fun hg1134=>?_)
 replace hm:=ifT hg1134 hm
 refine rl (bb [0,0,0,0] F H rfl fun a F=>?_)
 obtain ⟨es1135,H⟩:=H.mmOpen 5 rfl
 obtain ⟨cs1136,hcs1136,H⟩:=H.mxGet 5 rfl k1110 (zc:=[Value.slice none 0 0]) (z0:=[]) (fun _=>rSlN_nil _ _ _)
 have G:=F;obtain ⟨p1137,c1137,rfl,H⟩:=H.rcSlN 0 rfl;have F:=G;clear G
 replace H:=H.dp 1 rfl
 refine sv F rfl (y_mxGet (agg:=false) (zc:=[Value.slice none 0 0]) F Tryz.underlying82 (keyStr Tryz.underlying9) (fun w=>zero23.run w) rfl H 6 rfl rfl (k:=k1110) rfl trivial hcs1136) fun a F=>sv F rfl (y_build F rfl rfl (cs:=[.bool false,.slice p1137 (((r528.1 k1110).getD [])).length c1137]) (by kernel_rfl)) fun a F=>?_
 replace H:=(H.pm 7 [4,0,1,2,3,5,6] rfl:)
 refine s_mrSet wkP F rfl rfl Tryz.underlying65 (keyStr Tryz.underlying9) rfl hq1110 H rfl rfl (cs:=[.bool false,.slice p1137 (((r528.1 k1110).getD [])).length c1137]) rfl (v:=(false,((r528.1 k1110).getD []))) (fun gg=>⟨_,_,rfl,rfl,⟨_,_,rfl,(gg 0 _ rfl).choose_spec⟩⟩) fun w H=>?_
 refine lz ?_
 replace H:=H.mxShut 6 rfl
 cases hm
 refine ct ?_
 exact ⟨F.sl rfl,(H.pm 7 [0,2,3,4,5,6] rfl:)⟩
 replace hm:=ifF (nT hg1134) hm
 refine sk ?_
 cases hm
 refine ct ?_
 exact ⟨F.sl rfl,(H.pm 6 [3,0,1,2,4,5] rfl:)⟩
 refine bn ?_
 cases hm
 refine ct ?_
 exact ⟨F.sl rfl,(H.pm 6 [0,4,5] rfl:)⟩
 refine ct ?_;cases hm
 exact ⟨_,q1110,hs1110 _ rfl,⟨F.sl rfl,H⟩⟩
theorem zero22:Zero1 Tryz.prog 22 (.slice none 0 0):=⟨by kernel_rfl,rfl⟩
theorem plain22:Plain Tryz.prog 22:=by unfold Plain;rw [Tryz.underlying22];rfl
theorem ent56:En Tryz.prog 56:=enters Tryz.func56 (by kernel_rfl) rfl
theorem ent51:En Tryz.prog 51:=enters Tryz.func51 (by kernel_rfl) rfl
theorem ent52:En Tryz.prog 52:=enters Tryz.func52 (by kernel_rfl) rfl
theorem ent53:En Tryz.prog 53:=enters Tryz.func53 (by kernel_rfl) rfl
theorem ent54:En Tryz.prog 54:=enters Tryz.func54 (by kernel_rfl) rfl
theorem ent75:En Tryz.prog 75:=enters Tryz.func75 (by kernel_rfl) rfl
theorem w_sPairs {s:(List UInt8)→Option T_files_file} {q1:Option Nat} {w0 w:World} {l:List HP}  {r:(List T_api_Pair)} (hm:sPairs s=some r) (H:St w0 w (HP.mm q1 ekStr true R_files_file (fun _=>True) s::l)) :
  Calls Tryz.prog 34 [.map q1].toArray w (fun e w'=>∃ v,e=.returned v∧∃ (p2:Option Addr) (c2:Nat),v=.slice p2 (r).length c2∧St w0 w' (HP.ow R_api_Pair 60 p2 c2 r::HP.mm q1 ekStr true R_files_file (fun _=>True) s::l)):=by
 unfold sPairs at hm
 refine xk_enter Tryz.func34 rfl rfl rfl ?_
 intro a F
 replace H:=H.mks0
 refine sr ?_
 replace H:=H.owNil R_api_Pair 60
 refine s_alloc1 wkP F rfl rfl rfl zero22 rfl H fun b3 w a H F=>?_
 replace H:=H.nf 4 rfl
 refine nl (sq (sb [0] F H rfl fun a F=>?_))
 obtain ⟨raw4,cl4,es4,hM4,hE4,H⟩:=H.moOpen 3 rfl
 refine s_rngM wkP F rfl rfl rfl Tryz.underlying65 rfl H 4 rfl rfl fun r4 w a H F=>?_
 replace H:=H.nf 6 rfl
 refine nl (bl ?_)
 have hmM733:=hm;clear hm
 refine x_loopM es4 hmM733 (fun (s733:(List T_api_Pair)) vis733 aa ww=>∃ (Ds734:List Nat) (p735:Option Addr) (c735:Nat),Fr ⟨67,marks Ds734⟩ aa [(2,.pointer (some ⟨b3,0,none⟩)),(10,.pointer (some ⟨r4,0,none⟩))]∧St w0 ww (HP.obj r4 (mit q1 cl4 (bornsOf raw4 (vis733)))::HP.es R_files_file (fun _=>True) es4 s::HP.blk b3 ([.slice p735 (s733).length c735]) 22::HP.mks Ds734::HP.mo q1 raw4 cl4::HP.ow R_api_Pair 60 p735 c735 s733::l)) ⟨[],none,0,F.sl rfl,(H.pm 6 [0,1,2,4,5,3] rfl:)⟩ ?_
 clear F H
 rintro s733 vis733 a w hr733 ⟨Ds734,p735,c735,F,H⟩
 refine sr (s_nxtM wkP F rfl rfl rfl rfl rfl hM4 hr733.ok H 4 0 rfl rfl rfl (fun hall736 w a H F=>?_) (fun q736 k736 cs736 v736 hq736 hn736 w a H F=>?_))
 have hm:=elimL (hr733.done hE4 hall736 hmM733)
 refine bb [0] F H rfl fun a F=>nl (sq (cF F rfl ?_))
 refine ex (cx (cx ?_))
 replace H:=H.moMm 4 1 hM4 rfl rfl
 refine ch (ct (sr (bk [2000] F H rfl ⟨rfl,plain22,trivial⟩ fun a F=>?_)))
 obtain ⟨x737,ex737,hm⟩:=ob hm
 refine sd F rfl ent56 (w_sortPs ex737 (H.pm 6 [5,0,1,2,3,4] rfl:):) ?_;rintro _ w a ⟨rfl,hl738,H⟩ F
 replace H:St w0 w (HP.ow R_api_Pair 60 p735 c735 x737::HP.obj r4 (mit q1 cl4 (bornsOf raw4 (vis733)))::HP.es R_files_file (fun _=>True) es4 s::HP.blk b3 ([.slice p735 (x737).length c735]) 22::HP.mks Ds734::HP.mm q1 ekStr true R_files_file (fun _=>True) s::l):=(by rw [hl738];exact H)
 replace F:=F.bool (k:=64) (u:=.slice p735 (x737).length c735) rfl (by rw [hl738])
 refine nl (sr (bk [3000] F H rfl ⟨rfl,plain22,trivial⟩ fun a F=>s_st1 wkP F rfl rfl zero22 rfl rfl rfl rfl rfl H 3 rfl rfl fun w H=>?_))
 replace H:=H.nf 6 rfl
 refine nl (wr ?_)
 cases hm
 refine xk_resC1 F rfl ((H.pm 6 [4,0,1,2,3,5] rfl:)) (fun w H=>⟨_,rfl,ld1 plain22 ((H.blk 3 rfl).cell _)⟩) fun w H=>?_
 exact ⟨_,rfl,p735,c735,rfl,(H.pm 5 [0,4] rfl:)⟩
 obtain ⟨o736,hm,hs736,hx736⟩:=hr733.step hE4 hq736 hn736 hmM733
 refine bb [0] F H rfl fun a F=>nl (sq (cT F rfl (sk (ct ?_))))
 obtain ⟨r917,er917,hm917⟩:=ob hm;clear hm;revert er917;intro hm
 refine x_mid (fun aa ww=>∃ (Ds918:List Nat) (p919:Option Addr) (c919:Nat),Fr ⟨67,marks Ds918⟩ aa [(2,.pointer (some ⟨b3,0,none⟩)),(10,.pointer (some ⟨r4,0,none⟩))]∧St w0 ww (HP.obj r4 (mit q1 cl4 (bornsOf raw4 (vis733++[q736])))::HP.es R_files_file (fun _=>True) es4 s::HP.blk b3 ([.slice p919 (r917).length c919]) 22::HP.mks Ds918::HP.mo q1 raw4 cl4::HP.ow R_api_Pair 60 p919 c919 r917::l)) ?_ ?_
 refine bl (sr ?_)
 obtain ⟨hk920,H⟩:=H.esEl 1 rfl hq736
 refine sv F rfl (y_entM (agg:=true) (ek:=ekStr) F rfl rfl hM4 hq736 H 5 1 rfl rfl rfl) fun a F=>bb [0,0] F H rfl fun a F=>s_alloc1 wkP F rfl rfl rfl zero9 rfl H fun b921 w a H F=>?_
 replace H:=H.owNil rByte 5
 refine s_allocA wkP F rfl rfl rfl agz71 rfl H fun b922 w a H F=>s_st1 wkP F rfl rfl zero9 rfl rfl rfl rfl rfl H 2 rfl rfl fun w H=>s_storeA wkP F rfl rfl agg71 rfl rfl rfl H 0 rfl (H.rcLen 3 rfl) rfl (H.rcFlat 3 rfl) fun w H=>?_
 replace H:=H.nf 10 rfl
 refine nl (sr (bk [2000] F H rfl ⟨rfl,plain9,trivial⟩ fun a F=>?_))
 obtain ⟨x923,ex923,hm⟩:=ob hm
 refine sv F rfl (y_addO F rfl rfl rfl ex923) fun a F=>?_
 refine s_cvT (e:=5) (xs:=x923) wkP F rfl rfl rfl Tryz.underlying9 Tryz.underlying23 Tryz.underlying5 rfl rfl H fun b924 c924 w a H F=>?_
 refine bb [0] F H rfl fun a F=>?_
 replace H:=H.nf 11 rfl
 refine nl (sq (sr (bk [0] F H rfl ⟨fld71_0,trivial⟩ fun a F=>?_)))
 have G:=F;replace H:=rc_files_file (H.pk 4 rfl);obtain ⟨p925,c926,rfl,J⟩:=H;have H:=J;have F:=G;clear G J
 refine bk [2000] F H rfl ⟨rfl,plain4,trivial⟩ fun a F=>?_
 refine nl (cB F rfl (fun hg927=>?_) (fun hg927=>?_))
 replace hm:=ifT hg927 hm
 refine sr (bk [7000,0] F H rfl ⟨rfl,plain22,trivial⟩ fun a F=>?_)
 obtain ⟨x929,ex929,hm⟩:=ob hm
 refine s_buildC wkP F rfl rfl rfl elem23 zero5 rfl rfl rfl rfl (by simp [Value.cells]) (by decide) H fun b928 w a H F=>?_
 replace H:=H.blkOw1 (R:=rByte) (x:=x929) (fun gg=>(congrArg (fun z=>[Value.int .u8 z]) (u8O_some ex929).symm))
 refine sv F rfl (y_build F rfl rfl (cs:=[.slice (some ⟨b924,0,none⟩) (x923).length c924,.slice (some ⟨b928,0,none⟩) ([x929]).length (([x929]).length)]) (by kernel_rfl)) fun a F=>?_
 replace H:=H.cvFrz 2 rfl
 replace H:=H.frz 1 rfl
 refine s_build1 wkP F rfl rfl rfl agg60 elem22 rfl rfl rfl (by decide) H fun b930 w a H F=>?_
 replace H:=H.blkOw1 (R:=R_api_Pair) (x:=(x923,[x929])) (fun gg=>⟨_,_,rfl,⟨_,_,rfl,(gg 2 _ rfl).choose_spec⟩,⟨_,_,rfl,(gg 1 _ rfl).choose_spec⟩⟩)
 replace H:=H.frz 0 rfl
 obtain ⟨x932,ex932,hm⟩:=ob hm
 refine s_app wkP F rfl rfl rfl rfl rfl rfl elem22 rfl ex932 H 12 0 rfl rfl fun p931 c931 w a H F=>?_
 refine s_st1 wkP F rfl rfl zero22 rfl rfl rfl rfl rfl H 9 rfl rfl fun w H=>?_
 replace H:=H.nf 13 rfl
 refine nl (ex (cx (ch ?_)))
 cases hm
 refine ct ?_
 exact ⟨Ds734,p931,c931,F.sl rfl,(H.pm 13 [7,8,9,10,11,12] rfl:)⟩
 replace hm:=ifF (nT hg927) hm
 refine sk (ct (sr ?_))
 replace H:=H.owNil rByte 5
 refine sv F rfl (y_build F rfl rfl (cs:=[.slice none (([]:List UInt8)).length 0]) (by kernel_rfl)) fun a F=>s_boxA wkP F rfl rfl rfl rfl rfl H fun b933 w a H F=>bb [0] F H rfl fun a F=>?_
 replace H:=H.nf 13 rfl
 refine nb [0] F H rfl fun a F=>?_
 obtain ⟨x935,ex935,hm⟩:=ob hm
 refine s_buildC wkP F rfl rfl rfl elem23 zero5 rfl rfl rfl rfl (by simp [Value.cells]) (by decide) H fun b934 w a H F=>?_
 replace H:=H.blkOw1 (R:=rByte) (x:=x935) (fun gg=>(congrArg (fun z=>[Value.int .u8 z]) (u8O_some ex935).symm))
 replace H:=O_pack_Pen_s (x0:=([]:List UInt8)) (H.pm 14 [1,2,0,3,4,5,6,7,8,9,10,11,12,13] rfl:)
 replace H:=H.frz 1 rfl
 obtain ⟨x936,ex936,hm⟩:=ob hm
 refine sd F rfl ent51 (w_penRaw ex936 (H.pm 13 [1,0,0,2,3,4,5,6,7,8,9,10,11,12] rfl:):) ?_;rintro _ w a ⟨rfl,H⟩ F
 replace H:=H.nf 13 rfl
 refine nl (sr (bk [0,1,4001,0,2] F H rfl ⟨fld71_1,rfl,plain23,⟨_,Tryz.underlying23⟩,Tryz.underlying3,Tryz.underlying91,trivial⟩ fun a F=>?_))
 obtain ⟨x937,ex937,hm⟩:=ob hm
 refine sd F rfl ent52 (w_penUint ex937 H:) ?_;rintro _ w a ⟨rfl,H⟩ F
 replace H:=H.nf 13 rfl
 refine nl (sq (mix_regionK [3,5,6,7] [7] (scL [0,1,2,2003,4,2005,2006,3007]) [9] H rfl rfl (by kernel_rfl) (by kernel_rfl) fun w H=>?_))
 refine m_pure F rfl rfl rfl rfl (fun u hu=>y_load1 F plain22 rfl rfl ((hu.choose_spec.blk 0 rfl).cell _)) fun a F=>?_
 refine mb [0,0] F H rfl fun a F=>m_heavy rfl rfl ?_
 obtain ⟨x938,ex938,hm⟩:=ob hm
 refine sd F rfl ent53 (w_penData ex938 H:) ?_;rintro _ w a ⟨p939,c939,rfl,H⟩ F
 refine lz ?_;refine ct ⟨⟨_,(H.pm 14 [10,0,1,2,3,4,5,6,7,8,9,11,12,13] rfl:)⟩,?_⟩
 refine m_pure F rfl rfl rfl rfl (fun u hu=>y_build F rfl rfl (cs:=[.slice (some ⟨b924,0,none⟩) (x923).length c924,.slice p939 (x938.1).length c939]) (by kernel_rfl)) fun a F=>?_
 refine m_heavy rfl rfl ?_
 replace H:=H.cvFrz 4 rfl
 replace H:=H.frz 1 rfl
 refine s_build1 wkP F rfl rfl rfl agg60 elem22 rfl rfl rfl (by decide) H fun b940 w a H F=>?_
 replace H:=H.blkOw1 (R:=R_api_Pair) (x:=(x923,x938.1)) (fun gg=>⟨_,_,rfl,⟨_,_,rfl,(gg 2 _ rfl).choose_spec⟩,⟨_,_,rfl,(gg 1 _ rfl).choose_spec⟩⟩)
 refine lz ?_;refine ct ⟨⟨_,(H.pm 15 [11,0,1,2,3,4,5,6,7,8,9,10,12,13,14] rfl:)⟩,?_⟩
 refine m_heavy rfl rfl ?_
 replace H:=H.frz 0 rfl
 obtain ⟨x942,ex942,hm⟩:=ob hm
 refine s_app wkP F rfl rfl rfl rfl rfl rfl elem22 rfl ex942 H 14 0 rfl rfl fun p941 c941 w a H F=>?_
 refine lz ?_;refine ct ⟨⟨_,(H.pm 15 [11,0,1,2,3,4,5,6,7,8,9,10,12,13,14] rfl:)⟩,?_⟩
 refine m_last rfl rfl (s_st1 wkP F rfl rfl zero22 rfl rfl rfl rfl rfl H 11 rfl rfl fun w H=>?_)
 refine lz ?_;refine ct ?_
 refine m_nil (ct (sr (s_alloc1 wkP F rfl rfl rfl zero3 rfl H fun b943 w a H F=>s_st1 wkP F rfl rfl zero3 rfl rfl rfl rfl rfl H 0 rfl rfl fun w H=>?_)))
 replace H:=H.nf 16 rfl
 refine nl (sr (bk [1,7001] F H rfl ⟨fld71_1,rfl,plain23,trivial⟩ fun a F=>?_))
 obtain ⟨x945,ex945,hm⟩:=ob hm
 refine s_call wkP F rfl rfl rfl rfl (y_call F rfl rfl ent54) (w_mk54 p925 _ c926 64 (chunkN_some ex945).1 (chunkN_some ex945).2.1 w0 _ _ H) ?_;rintro _ w a ⟨b946,b947,rfl,H⟩ F
 replace H:=H.nf 18 rfl
 refine nl (bl ?_)
 obtain ⟨_,hn948,hm948,hq948⟩:=chunkN_some ex945
 replace H:=(H.pm 18 [8,0,1,2,3,4,5,6,7,8,9,10,11,12,13,14,15,16,17] rfl:)
 replace H:St w0 w (HP.sl rByte p925 c926 v736.2::HP.blk b947 ([.int .i64 (((x945:Nat):Int))]) 3::HP.blk b946 ([.slice p925 (v736.2).length c926]) 23::HP.blk b943 ([.int .i64 (0)]) 3::HP.sl R_api_Pair (some ⟨b940,0,none⟩) (([(x923,x938.1)]).length) ([(x923,x938.1)])::HP.sl rByte p939 c939 x938.1::HP.sl rByte (some ⟨b924,0,none⟩) c924 x923::O_pack_Pen_1 b933 x938.2::HP.sl rByte (some ⟨b934,0,none⟩) (([x935]).length) ([x935])::HP.sl rByte p925 c926 v736.2::HP.blk b922 ([.bool (v736.1),.slice p925 (v736.2).length c926]) 71::HP.ow rByte 5 none 0 ([]:List UInt8)::HP.blk b921 ([.string (txb (k736))]) 9::HP.obj r4 (mit q1 cl4 (bornsOf raw4 (vis733++[q736])))::HP.es R_files_file (fun _=>True) es4 s::HP.blk b3 ([.slice p941 (x942).length c941]) 22::HP.mks Ds734::HP.mo q1 raw4 cl4::HP.ow R_api_Pair 60 p941 c941 x942::l):=H
 obtain ⟨o1047,eo1047,hm1047⟩:=ob hm;clear hm
 refine x_range (gf:=75) (lb:=[.pointer (some ⟨b946,0,none⟩),.pointer (some ⟨b947,0,none⟩)]) (ps:=[48]) (zs:=(chunkZ x945 v736.2)) (enc:=(fun z:Nat×List UInt8=>[.slice (shp p925 (z.1+z.2.length) z.1 1) z.2.length z.2.length])) (l:=[(2,.pointer (some ⟨b3,0,none⟩)),(3,.pointer (some ⟨b921,0,none⟩)),(7,.pointer (some ⟨b943,0,none⟩)),(10,.pointer (some ⟨r4,0,none⟩)),(47,.func (.func 75) #[] [.pointer (some ⟨b946,0,none⟩),.pointer (some ⟨b947,0,none⟩)].toArray)]) (own:=[HP.blk b947 ([.int .i64 (((x945:Nat):Int))]) 3,HP.blk b946 ([.slice p925 (v736.2).length c926]) 23,HP.sl rByte p925 c926 v736.2]) (fr:=l) (fun z=>z.2) (F.cut _ ⟨rfl,rfl,rfl,rfl,rfl,trivial⟩) rfl ent75 (seq75 b946 b947 p925 c926 v736.2 x945 hn948 hm948 hq948) (fun (s1047:Int×(List T_api_Pair)) (i1047:(Option Addr)×Nat)=>[HP.blk b943 ([.int .i64 (s1047.1)]) 3,O_pack_Pen_1 b933 x938.2,HP.sl rByte p925 c926 v736.2,HP.blk b922 ([.bool (v736.1),.slice p925 (v736.2).length c926]) 71,HP.ow rByte 5 none 0 ([]:List UInt8),HP.blk b921 ([.string (txb (k736))]) 9,HP.obj r4 (mit q1 cl4 (bornsOf raw4 (vis733++[q736]))),HP.es R_files_file (fun _=>True) es4 s,HP.blk b3 ([.slice i1047.1 (s1047.2).length i1047.2]) 22,HP.mo q1 raw4 cl4,HP.ow R_api_Pair 60 i1047.1 i1047.2 s1047.2]) (fun (_:Empty) (_:Unit)=>[]) (fun _=>Code.skip) _ (0,x942) (p941,c941) (eo1047) ((H.pm 19 [16,3,7,9,10,11,12,13,14,15,17,18,1,2,0,0,4,5,6,8,9] rfl:).keep 15 6) (fun _=>rfl) rfl (fun (s1047:Int×(List T_api_Pair)) (i1047:(Option Addr)×Nat) (x1047:Nat×List UInt8) (m1047:Unit)=>[(2,.pointer (some ⟨b3,0,none⟩)),(3,.pointer (some ⟨b921,0,none⟩)),(7,.pointer (some ⟨b943,0,none⟩)),(8,.slice (shp p925 (x1047.1+(x1047.2).length) x1047.1 1) (x1047.2).length ((x1047.2).length)),(10,.pointer (some ⟨r4,0,none⟩)),(47,.func (.func 75) #[] [.pointer (some ⟨b946,0,none⟩),.pointer (some ⟨b947,0,none⟩)].toArray),(48,.slice (shp p925 (x1047.1+(x1047.2).length) x1047.1 1) (x1047.2).length ((x1047.2).length))]) (fun (s1047:Int×(List T_api_Pair)) (i1047:(Option Addr)×Nat) (x1047:Nat×List UInt8) (m1047:Unit)=>[HP.sl rByte (shp p925 (x1047.1+(x1047.2).length) x1047.1 1) ((x1047.2).length) x1047.2,HP.blk b943 ([.int .i64 (s1047.1)]) 3,O_pack_Pen_1 b933 x938.2,HP.sl rByte p925 c926 v736.2,HP.blk b922 ([.bool (v736.1),.slice p925 (v736.2).length c926]) 71,HP.ow rByte 5 none 0 ([]:List UInt8),HP.blk b921 ([.string (txb (k736))]) 9,HP.obj r4 (mit q1 cl4 (bornsOf raw4 (vis733++[q736]))),HP.es R_files_file (fun _=>True) es4 s,HP.blk b3 ([.slice i1047.1 (s1047.2).length i1047.2]) 22,HP.mo q1 raw4 cl4,HP.ow R_api_Pair 60 i1047.1 i1047.2 s1047.2]) ?_ ?_ ?_ ?_
 clear F H
 rintro L s1047 ⟨p1048,c1048⟩ ⟨kx948,yx948⟩ a w l hx F H
 replace F:Fr ⟨67,[]⟩ a [(48,.slice (shp p925 (kx948+(yx948).length) kx948 1) (yx948).length ((yx948).length)),(2,.pointer (some ⟨b3,0,none⟩)),(3,.pointer (some ⟨b921,0,none⟩)),(7,.pointer (some ⟨b943,0,none⟩)),(10,.pointer (some ⟨r4,0,none⟩)),(47,.func (.func 75) #[] [.pointer (some ⟨b946,0,none⟩),.pointer (some ⟨b947,0,none⟩)].toArray)]:=F
 replace H:St w0 w (HP.blk b943 ([.int .i64 (s1047.1)]) 3::O_pack_Pen_1 b933 x938.2::HP.sl rByte p925 c926 v736.2::HP.blk b922 ([.bool (v736.1),.slice p925 (v736.2).length c926]) 71::HP.ow rByte 5 none 0 ([]:List UInt8)::HP.blk b921 ([.string (txb (k736))]) 9::HP.obj r4 (mit q1 cl4 (bornsOf raw4 (vis733++[q736])))::HP.es R_files_file (fun _=>True) es4 s::HP.blk b3 ([.slice p1048 (s1047.2).length c1048]) 22::HP.mo q1 raw4 cl4::HP.ow R_api_Pair 60 p1048 c1048 s1047.2::l):=H
 replace H:=H.chunkEl 1 rfl 2 rfl hn948 hx
 replace H:St w0 w (HP.sl rByte (shp p925 (kx948+(yx948).length) kx948 1) ((yx948).length) yx948::HP.blk b943 ([.int .i64 (s1047.1)]) 3::O_pack_Pen_1 b933 x938.2::HP.sl rByte p925 c926 v736.2::HP.blk b922 ([.bool (v736.1),.slice p925 (v736.2).length c926]) 71::HP.ow rByte 5 none 0 ([]:List UInt8)::HP.blk b921 ([.string (txb (k736))]) 9::HP.obj r4 (mit q1 cl4 (bornsOf raw4 (vis733++[q736])))::HP.es R_files_file (fun _=>True) es4 s::HP.blk b3 ([.slice p1048 (s1047.2).length c1048]) 22::HP.mo q1 raw4 cl4::HP.ow R_api_Pair 60 p1048 c1048 s1047.2::l):=H
 refine rli (bki [0] F H rfl trivial fun a F=>?_)
 refine lzi (ct ?_)
 exact ⟨(),F.cut _ ⟨rfl,rfl,rfl,rfl,rfl,rfl,rfl,trivial⟩,H⟩
 clear F H
 rintro L s1047 ⟨p1048,c1048⟩ ⟨kx948,yx948⟩ _ o a w l hx hm F H
 replace F:Fr ⟨67,[]⟩ a [(2,.pointer (some ⟨b3,0,none⟩)),(3,.pointer (some ⟨b921,0,none⟩)),(7,.pointer (some ⟨b943,0,none⟩)),(8,.slice (shp p925 (kx948+(yx948).length) kx948 1) (yx948).length ((yx948).length)),(10,.pointer (some ⟨r4,0,none⟩)),(47,.func (.func 75) #[] [.pointer (some ⟨b946,0,none⟩),.pointer (some ⟨b947,0,none⟩)].toArray),(48,.slice (shp p925 (kx948+(yx948).length) kx948 1) (yx948).length ((yx948).length))]:=F
 replace H:St w0 w (HP.sl rByte (shp p925 (kx948+(yx948).length) kx948 1) ((yx948).length) yx948::HP.blk b943 ([.int .i64 (s1047.1)]) 3::O_pack_Pen_1 b933 x938.2::HP.sl rByte p925 c926 v736.2::HP.blk b922 ([.bool (v736.1),.slice p925 (v736.2).length c926]) 71::HP.ow rByte 5 none 0 ([]:List UInt8)::HP.blk b921 ([.string (txb (k736))]) 9::HP.obj r4 (mit q1 cl4 (bornsOf raw4 (vis733++[q736])))::HP.es R_files_file (fun _=>True) es4 s::HP.blk b3 ([.slice p1048 (s1047.2).length c1048]) 22::HP.mo q1 raw4 cl4::HP.ow R_api_Pair 60 p1048 c1048 s1047.2::l):=H
 refine bli (sqi ?_)
 obtain ⟨r1072,er1072,hm1072⟩:=ob hm;clear hm;revert er1072;intro hm
 refine xi_mid (fun aa ww=>∃ (p1073:Option Addr) (c1073:Nat),Fr ⟨67,[]⟩ aa [(7,.pointer (some ⟨b943,0,none⟩))]∧St w0 ww (HP.blk b943 ([.int .i64 (s1047.1)]) 3::O_pack_Pen_1 b933 x938.2::HP.sl rByte p925 c926 v736.2::HP.blk b922 ([.bool (v736.1),.slice p925 (v736.2).length c926]) 71::HP.ow rByte 5 none 0 ([]:List UInt8)::HP.blk b921 ([.string (txb (k736))]) 9::HP.obj r4 (mit q1 cl4 (bornsOf raw4 (vis733++[q736])))::HP.es R_files_file (fun _=>True) es4 s::HP.blk b3 ([.slice p1073 (r1072).length c1073]) 22::HP.mo q1 raw4 cl4::HP.ow R_api_Pair 60 p1073 c1073 r1072::l)) ?_ ?_
 obtain ⟨x1074,ex1074,hm⟩:=ob hm
 refine mix_regionI [3,6,7,9,11,12,13] [13] (.step 0 0 (.step 0 1 (.step 0 2 (.step 0 4 (.step 0 5 (.step 0 8 (.fork 3 (.step 2 6 (.step 2 7 (.step 2 9 (.step 0 10 (.step 2 11 (.step 2 12 (.step 3 13 .done))))))) 6 (.step 2 3 (.step 2 7 (.step 2 9 (.step 0 10 (.step 2 11 (.step 2 12 (.step 3 13 .done)))))))))))))) (fun u=>∃ ls,St w0 u (HP.blk b943 ([.int .i64 (s1047.1)]) 3::HP.blk b921 ([.string (txb (k736))]) 9::HP.blk b3 ([.slice p1048 (s1047.2).length c1048]) 22::ls)) (by kernel_rfl) (by kernel_rfl) ⟨_,(H.drew.pm 12 [1,6,9,0,2,3,4,5,7,8,10,11] rfl:)⟩ ?_
 replace H:=H.drew
 generalize w.drew=w at H ⊢
 refine m_pure F rfl rfl rfl rfl (fun u hu=>y_load1 F plain22 rfl rfl ((hu.choose_spec.blk 2 rfl).cell _)) fun a F=>?_
 refine m_pure F rfl rfl rfl rfl (fun u hu=>y_load1 F plain9 rfl rfl ((hu.choose_spec.blk 1 rfl).cell _)) fun a F=>?_
 refine m_pure F rfl rfl rfl rfl (fun u hu=>y_addO F rfl rfl rfl ex1074) fun a F=>?_
 refine m_pure F rfl rfl rfl rfl (fun u hu=>y_load1 F plain3 rfl rfl ((hu.choose_spec.blk 0 rfl).cell _)) fun a F=>?_
 refine mbk [1,0] F H rfl ⟨Tryz.underlying3,Tryz.underlying5,trivial⟩ fun a F=>?_
 refine m_fork rfl rfl rfl rfl ?_ ?_
 refine m_heavy rfl rfl ?_
 refine s_cvT (e:=5) (xs:=x1074) wkP F rfl rfl rfl Tryz.underlying9 Tryz.underlying23 Tryz.underlying5 rfl rfl H fun b1075 c1075 w a H F=>?_
 refine lz ?_;refine ct ⟨⟨_,(H.pm 13 [2,7,10,0,1,3,4,5,6,8,9,11,12] rfl:)⟩,?_⟩
 refine m_heavy rfl rfl ?_
 obtain ⟨x1077,ex1077,hm⟩:=ob hm
 obtain ⟨x1078,ex1078,hm⟩:=ob hm
 refine s_buildC wkP F rfl rfl rfl elem23 zero5 rfl rfl rfl rfl (by simp [Value.cells]) (by decide) H fun b1076 w a H F=>?_
 replace H:St w0 w (HP.ow rByte 5 (some ⟨b1076,0,none⟩) (([x1077,x1078]).length) ([x1077,x1078])::HP.cv 5 b1075 c1075 x1074::HP.sl rByte (shp p925 (kx948+(yx948).length) kx948 1) ((yx948).length) yx948::HP.blk b943 ([.int .i64 (s1047.1)]) 3::O_pack_Pen_1 b933 x938.2::HP.sl rByte p925 c926 v736.2::HP.blk b922 ([.bool (v736.1),.slice p925 (v736.2).length c926]) 71::HP.ow rByte 5 none 0 ([]:List UInt8)::HP.blk b921 ([.string (txb (k736))]) 9::HP.obj r4 (mit q1 cl4 (bornsOf raw4 (vis733++[q736])))::HP.es R_files_file (fun _=>True) es4 s::HP.blk b3 ([.slice p1048 (s1047.2).length c1048]) 22::HP.mo q1 raw4 cl4::HP.ow R_api_Pair 60 p1048 c1048 s1047.2::l):=H.blkOw (R:=rByte) 0 rfl (fun gg=>⟨[[.int .u8 (0)],[.int .u8 (IntKind.u8.wrap (s1047.1))]],rfl,(congrArg (fun z=>[Value.int .u8 z]) (u8O_some ex1077).symm),(congrArg (fun z=>[Value.int .u8 z]) (u8O_some ex1078).symm),trivial⟩) (by simp)
 refine lz ?_;refine ct ⟨⟨_,(H.pm 14 [3,8,11,0,1,2,4,5,6,7,9,10,12,13] rfl:)⟩,?_⟩
 refine m_heavy rfl rfl ?_
 replace H:=H.frz 0 rfl
 obtain ⟨x1080,ex1080,hm⟩:=ob hm
 refine s_appCv wkP F rfl rfl rfl rfl rfl rfl elem23 rfl ex1080 rfl H 1 0 rfl rfl fun p1079 c1079 w a H F=>?_
 refine lz ?_;refine ct ⟨⟨_,(H.pm 14 [3,8,11,0,1,2,4,5,6,7,9,10,12,13] rfl:)⟩,?_⟩
 refine m_heavy rfl rfl ?_
 obtain ⟨x1081,ex1081,hm⟩:=ob hm
 refine sd F rfl ent55 (w_cloneB ex1081 (H.pm 14 [2,0,1,2,3,4,5,6,7,8,9,10,11,12,13] rfl:):) ?_;rintro _ w a ⟨p1082,c1082,rfl,H⟩ F
 refine lz ?_;refine ct ⟨⟨_,(H.pm 15 [4,9,12,0,1,2,3,5,6,7,8,10,11,13,14] rfl:)⟩,?_⟩
 refine m_pure F rfl rfl rfl rfl (fun u hu=>y_build F rfl rfl (cs:=[.slice p1079 (x1080).length c1079,.slice p1082 (x1081).length c1082]) (by kernel_rfl)) fun a F=>?_
 refine m_heavy rfl rfl ?_
 replace H:=H.frz 0 rfl
 refine s_build1 wkP F rfl rfl rfl agg60 elem22 rfl rfl rfl (by decide) H fun b1083 w a H F=>?_
 replace H:=H.blkOw1 (R:=R_api_Pair) (x:=(x1080,x1081)) (fun gg=>⟨_,_,rfl,⟨_,_,rfl,(gg 2 _ rfl).choose_spec⟩,⟨_,_,rfl,(gg 1 _ rfl).choose_spec⟩⟩)
 refine lz ?_;refine ct ⟨⟨_,(H.pm 16 [5,10,13,0,1,2,3,4,6,7,8,9,11,12,14,15] rfl:)⟩,?_⟩
 refine m_heavy rfl rfl ?_
 replace H:=H.frz 0 rfl
 obtain ⟨x1085,ex1085,hm⟩:=ob hm
 refine s_app wkP F rfl rfl rfl rfl rfl rfl elem22 rfl ex1085 H 15 0 rfl rfl fun p1084 c1084 w a H F=>?_
 refine lz ?_;refine ct ⟨⟨_,(H.pm 16 [5,10,13,0,1,2,3,4,6,7,8,9,11,12,14,15] rfl:)⟩,?_⟩
 refine m_last rfl rfl (s_st1 wkP F rfl rfl zero22 rfl rfl rfl rfl rfl H 13 rfl rfl fun w H=>?_)
 refine lz ?_;refine ct ?_
 refine m_nil ?_
 cases hm
 refine ct ?_
 exact ⟨p1084,c1084,F.sl rfl,(H.pm 16 [5,6,7,8,9,10,11,12,13,14,15] rfl:)⟩
 refine m_heavy rfl rfl ?_
 obtain ⟨x1087,ex1087,hm⟩:=ob hm
 obtain ⟨x1088,ex1088,hm⟩:=ob hm
 refine s_buildC wkP F rfl rfl rfl elem23 zero5 rfl rfl rfl rfl (by simp [Value.cells]) (by decide) H fun b1086 w a H F=>?_
 replace H:St w0 w (HP.ow rByte 5 (some ⟨b1086,0,none⟩) (([x1087,x1088]).length) ([x1087,x1088])::HP.sl rByte (shp p925 (kx948+(yx948).length) kx948 1) ((yx948).length) yx948::HP.blk b943 ([.int .i64 (s1047.1)]) 3::O_pack_Pen_1 b933 x938.2::HP.sl rByte p925 c926 v736.2::HP.blk b922 ([.bool (v736.1),.slice p925 (v736.2).length c926]) 71::HP.ow rByte 5 none 0 ([]:List UInt8)::HP.blk b921 ([.string (txb (k736))]) 9::HP.obj r4 (mit q1 cl4 (bornsOf raw4 (vis733++[q736])))::HP.es R_files_file (fun _=>True) es4 s::HP.blk b3 ([.slice p1048 (s1047.2).length c1048]) 22::HP.mo q1 raw4 cl4::HP.ow R_api_Pair 60 p1048 c1048 s1047.2::l):=H.blkOw (R:=rByte) 0 rfl (fun gg=>⟨[[.int .u8 (0)],[.int .u8 (IntKind.u8.wrap (s1047.1))]],rfl,(congrArg (fun z=>[Value.int .u8 z]) (u8O_some ex1087).symm),(congrArg (fun z=>[Value.int .u8 z]) (u8O_some ex1088).symm),trivial⟩) (by simp)
 refine lz ?_;refine ct ⟨⟨_,(H.pm 13 [2,7,10,0,1,3,4,5,6,8,9,11,12] rfl:)⟩,?_⟩
 refine m_heavy rfl rfl ?_
 refine s_cvT (e:=5) (xs:=x1074) wkP F rfl rfl rfl Tryz.underlying9 Tryz.underlying23 Tryz.underlying5 rfl rfl H fun b1089 c1089 w a H F=>?_
 refine lz ?_;refine ct ⟨⟨_,(H.pm 14 [3,8,11,0,1,2,4,5,6,7,9,10,12,13] rfl:)⟩,?_⟩
 refine m_heavy rfl rfl ?_
 replace H:=H.frz 1 rfl
 obtain ⟨x1091,ex1091,hm⟩:=ob hm
 refine s_appCv wkP F rfl rfl rfl rfl rfl rfl elem23 rfl ex1091 rfl H 1 0 rfl rfl fun p1090 c1090 w a H F=>?_
 refine lz ?_;refine ct ⟨⟨_,(H.pm 14 [3,8,11,0,1,2,4,5,6,7,9,10,12,13] rfl:)⟩,?_⟩
 refine m_heavy rfl rfl ?_
 obtain ⟨x1092,ex1092,hm⟩:=ob hm
 refine sd F rfl ent55 (w_cloneB ex1092 (H.pm 14 [2,0,1,2,3,4,5,6,7,8,9,10,11,12,13] rfl:):) ?_;rintro _ w a ⟨p1093,c1093,rfl,H⟩ F
 refine lz ?_;refine ct ⟨⟨_,(H.pm 15 [4,9,12,0,1,2,3,5,6,7,8,10,11,13,14] rfl:)⟩,?_⟩
 refine m_pure F rfl rfl rfl rfl (fun u hu=>y_build F rfl rfl (cs:=[.slice p1090 (x1091).length c1090,.slice p1093 (x1092).length c1093]) (by kernel_rfl)) fun a F=>?_
 refine m_heavy rfl rfl ?_
 replace H:=H.frz 0 rfl
 refine s_build1 wkP F rfl rfl rfl agg60 elem22 rfl rfl rfl (by decide) H fun b1094 w a H F=>?_
 replace H:=H.blkOw1 (R:=R_api_Pair) (x:=(x1091,x1092)) (fun gg=>⟨_,_,rfl,⟨_,_,rfl,(gg 2 _ rfl).choose_spec⟩,⟨_,_,rfl,(gg 1 _ rfl).choose_spec⟩⟩)
 refine lz ?_;refine ct ⟨⟨_,(H.pm 16 [5,10,13,0,1,2,3,4,6,7,8,9,11,12,14,15] rfl:)⟩,?_⟩
 refine m_heavy rfl rfl ?_
 replace H:=H.frz 0 rfl
 obtain ⟨x1096,ex1096,hm⟩:=ob hm
 refine s_app wkP F rfl rfl rfl rfl rfl rfl elem22 rfl ex1096 H 15 0 rfl rfl fun p1095 c1095 w a H F=>?_
 refine lz ?_;refine ct ⟨⟨_,(H.pm 16 [5,10,13,0,1,2,3,4,6,7,8,9,11,12,14,15] rfl:)⟩,?_⟩
 refine m_last rfl rfl (s_st1 wkP F rfl rfl zero22 rfl rfl rfl rfl rfl H 13 rfl rfl fun w H=>?_)
 refine lz ?_;refine ct ?_
 refine m_nil ?_
 cases hm
 refine ct ?_
 exact ⟨p1095,c1095,F.sl rfl,(H.pm 16 [5,6,7,8,9,10,11,12,13,14,15] rfl:)⟩
 clear F H hm
 rintro a w ⟨p1073,c1073,F,H⟩;have hm:=hm1072;clear hm1072
 refine ct (rli (bki [0,0] F H rfl ⟨rfl,plain3,trivial⟩ fun a F=>s_st1 wkI F rfl rfl zero3 rfl rfl rfl rfl rfl H 0 rfl rfl fun w H=>?_))
 replace H:=H.nf 11 rfl
 refine lzi (bn ?_)
 cases hm;exact rq_n (IntKind.i64.wrap (s1047.1+1),r1072) (p1073,c1073) rfl H
 clear F H
 rintro s1047 ⟨p1048,c1048⟩ Ds1097 a w ho F H;subst ho;have hm:=elimL hm1047;clear hm1047 eo1047
 replace F:Fr ⟨67,marks Ds1097⟩ a [(2,.pointer (some ⟨b3,0,none⟩)),(3,.pointer (some ⟨b921,0,none⟩)),(7,.pointer (some ⟨b943,0,none⟩)),(10,.pointer (some ⟨r4,0,none⟩)),(47,.func (.func 75) #[] [.pointer (some ⟨b946,0,none⟩),.pointer (some ⟨b947,0,none⟩)].toArray)]:=F
 replace H:St w0 w (HP.mks Ds1097::HP.blk b943 ([.int .i64 (s1047.1)]) 3::O_pack_Pen_1 b933 x938.2::HP.sl rByte p925 c926 v736.2::HP.blk b922 ([.bool (v736.1),.slice p925 (v736.2).length c926]) 71::HP.ow rByte 5 none 0 ([]:List UInt8)::HP.blk b921 ([.string (txb (k736))]) 9::HP.obj r4 (mit q1 cl4 (bornsOf raw4 (vis733++[q736])))::HP.es R_files_file (fun _=>True) es4 s::HP.blk b3 ([.slice p1048 (s1047.2).length c1048]) 22::HP.mo q1 raw4 cl4::HP.ow R_api_Pair 60 p1048 c1048 s1047.2::HP.blk b947 ([.int .i64 (((x945:Nat):Int))]) 3::HP.blk b946 ([.slice p925 (v736.2).length c926]) 23::HP.sl rByte p925 c926 v736.2::l):=H
 refine bn (bn ?_)
 cases hm
 refine ct ?_
 exact ⟨Ds1097,p1048,c1048,F.sl rfl,(H.pm 15 [7,8,9,0,10,11] rfl:)⟩
 intro r;exact r.elim
 clear F H hm
 rintro a w ⟨Ds918,p919,c919,F,H⟩;have hm:=hm917;clear hm917
 refine ct ?_;cases hm
 exact ⟨_,q736,hs736 _ rfl,⟨Ds918,p919,c919,F.sl rfl,H⟩⟩
theorem w_mClone {s:(List UInt8)→Option T_files_file} {m1:Nat} {w0 w:World} {l:List HP}  {r:((List UInt8)→Option T_files_file)} (hm:mClone s=some r) (H:St w0 w (HP.mm (some m1) ekStr true R_files_file (fun _=>True) s::l)) :
  Calls Tryz.prog 36 [.map (some m1)].toArray w (fun e w'=>∃ v,e=.returned v∧∃ (m2:Nat),v=.map (some m2)∧St w0 w' (HP.mm (some m2) ekStr true R_files_file (fun _=>True) r::HP.mm (some m1) ekStr true R_files_file (fun _=>True) s::l)):=by
 unfold mClone at hm
 cases hm
 rcases H.mmClone with ⟨h,_⟩ | ⟨b,raw,c,hb,hh,H2⟩
 · cases h
 cases hb
 exact (AnyW.maps_Clone Tryz.layz36 _ raw c w hh).mono fun e w' ⟨he,hw⟩=>⟨_,he,_,rfl,hw▸H2⟩
theorem ent31:En Tryz.prog 31:=enters Tryz.func31 (by kernel_rfl) rfl
theorem ent36:En Tryz.prog 36:=enters Tryz.func36 (by kernel_rfl) rfl
theorem ent37:En Tryz.prog 37:=enters Tryz.func37 (by kernel_rfl) rfl
theorem ent34:En Tryz.prog 34:=enters Tryz.func34 (by kernel_rfl) rfl
theorem w_fDo {files:List T_api_Pair} {o:T_api_Op} {p1:Option Addr} {c1:Nat} {cs2:List Value} {w0 w:World} {l:List HP}  {r:(List T_api_Pair)×T_api_Answer} (hm:fDo files o=some r) (H:St w0 w (HP.sl R_api_Pair p1 c1 files::HP.rc R_api_Op cs2 o::l)) :
  Calls Tryz.prog 16 [.slice p1 (files).length c1,.agg cs2.toArray].toArray w (fun e w'=>∃ v,e=.returned v∧∃ (p3:Option Addr) (c3:Nat) (cs4:List Value),v=.tuple [.slice p3 (r.1).length c3,.agg cs4.toArray].toArray∧St w0 w' (HP.sl R_api_Pair p3 c3 r.1::HP.rc R_api_Answer cs4 r.2::l)):=by
 unfold fDo at hm
 refine x_enter Tryz.func16 rfl rfl rfl ?_
 intro a F
 refine sr (s_boxA wkP F rfl rfl rfl rfl rfl H fun b5 w a H F=>bb [0] F H rfl fun a F=>?_)
 replace H:=H.owNil rByte 5
 replace H:=H.owNil rStr 9
 refine s_allocA wkP F rfl rfl rfl agz37 rfl H fun b6 w a H F=>?_
 replace H:=H.nf 6 rfl
 refine nb [0] F H rfl fun a F=>?_
 obtain ⟨x7,ex7,hm⟩:=ob hm
 refine sd F rfl ent31 (w_fRead ex7 (H.pm 6 [4,0,1,2,3,4,5] rfl:):) ?_;rintro _ w a ⟨m8,rfl,H⟩ F
 refine bb [0] F H rfl fun a F=>?_
 replace H:=H.nf 7 rfl
 refine nb [0] F H rfl fun a F=>?_
 obtain ⟨x9,ex9,hm⟩:=ob hm
 refine sd F rfl ent36 (w_mClone ex9 H:) ?_;rintro _ w a ⟨m10,rfl,H⟩ F
 refine bb [0] F H rfl fun a F=>?_
 replace H:=H.nf 8 rfl
 refine nl (sr (bk [0,5999] F H rfl ⟨rfl,(aggn agg25 (H.rcLen 7 rfl)),trivial⟩ fun a F=>?_))
 obtain ⟨x11,ex11,hm⟩:=ob hm
 refine sd F rfl ent37 (w_sDo ex11 (H.pm 8 [1,7,0,2,3,4,5,6,7] rfl:):) ?_;rintro _ w a ⟨cs12,rfl,H⟩ F
 replace H:=H.owNil rByte 5
 replace H:=H.owNil rStr 9
 refine s_allocA wkP F rfl rfl rfl agz37 rfl H fun b13 w a H F=>s_storeA wkP F rfl rfl agg37 rfl rfl rfl H 0 rfl (H.rcLen 3 rfl) rfl (H.rcFlat 3 rfl) fun w H=>?_
 replace H:=H.nf 12 rfl
 refine nl (sq (sr (bk [0] F H rfl ⟨fld37_0,trivial⟩ fun a F=>?_)))
 have G:=F;replace H:=rc_api_Answer (H.pk 3 rfl);obtain ⟨p14,c15,p16,c17,rfl,J⟩:=H;have H:=J;have F:=G;clear G J
 refine bk [2000,0] F H rfl ⟨rfl,plain33,trivial⟩ fun a F=>?_
 refine nl (cNm F rfl hm (fun hg18 hm=>?_) (fun hg18 hm=>?_))
 refine sq (mix_regionK [1,4] [4] (scL [0,2,2001,3,3004]) [2] H rfl rfl (by kernel_rfl) (by kernel_rfl) fun w H=>mb [0] F H rfl fun a F=>?_)
 refine m_pure F rfl rfl rfl rfl (fun u hu=>y_loadA F agg37 rfl rfl ((hu.choose_spec.blk 0 rfl).row) rfl) fun a F=>?_
 refine m_heavy rfl rfl ?_
 obtain ⟨x19,ex19,hm⟩:=ob hm
 refine sd F rfl ent34 (w_sPairs ex19 (H.pm 13 [6,0,1,2,3,4,5,7,8,9,10,11,12] rfl:):) ?_;rintro _ w a ⟨p20,c20,rfl,H⟩ F
 refine lz ?_;refine ct ⟨⟨_,(H.pm 14 [4,0,1,2,3,5,6,7,8,9,10,11,12,13] rfl:)⟩,?_⟩
 refine mb [0] F H rfl fun a F=>m_last rfl rfl (s_storeA wkP F rfl rfl agg37 rfl rfl rfl H 8 rfl rfl rfl (fl rfl) fun w H=>?_)
 refine lz ?_;refine ct ?_
 refine m_nil (ct (wr (tr ?_)))
 replace H:=H.frz 0 rfl
 replace H:=mk_api_Answer H x11.1.1 x11.1.2.1 2 rfl 3 rfl
 cases hm
 refine x_resC2 F rfl rfl (⟨_,rfl,agg37.run_load (H.blk 9 rfl).row rfl⟩) ?_
 exact ⟨_,rfl,p20,c20,[.int .i64 (x11.1.1),.int .i64 (x11.1.2.1),.slice p14 (x11.1.2.2.1).length c15,.slice p16 (x11.1.2.2.2).length c17],rfl,(H.pm 15 [1,0] rfl:)⟩
 refine sk (ct (sq (mix_regionK [1,4] [4] (scL [0,2,2001,3,3004]) [2] H rfl rfl (by kernel_rfl) (by kernel_rfl) fun w H=>mb [0] F H rfl fun a F=>?_)))
 refine m_pure F rfl rfl rfl rfl (fun u hu=>y_loadA F agg37 rfl rfl ((hu.choose_spec.blk 0 rfl).row) rfl) fun a F=>?_
 refine m_heavy rfl rfl ?_
 obtain ⟨x21,ex21,hm⟩:=ob hm
 refine sd F rfl ent34 (w_sPairs ex21 (H.pm 13 [5,0,1,2,3,4,6,7,8,9,10,11,12] rfl:):) ?_;rintro _ w a ⟨p22,c22,rfl,H⟩ F
 refine lz ?_;refine ct ⟨⟨_,(H.pm 14 [4,0,1,2,3,5,6,7,8,9,10,11,12,13] rfl:)⟩,?_⟩
 refine mb [0] F H rfl fun a F=>m_last rfl rfl (s_storeA wkP F rfl rfl agg37 rfl rfl rfl H 8 rfl rfl rfl (fl rfl) fun w H=>?_)
 refine lz ?_;refine ct ?_
 refine m_nil (ct (wr ?_))
 replace H:=H.frz 0 rfl
 replace H:=mk_api_Answer H x11.1.1 x11.1.2.1 2 rfl 3 rfl
 cases hm
 refine x_resC2 F rfl rfl (⟨_,rfl,agg37.run_load (H.blk 9 rfl).row rfl⟩) ?_
 exact ⟨_,rfl,p22,c22,[.int .i64 (x11.1.1),.int .i64 (x11.1.2.1),.slice p14 (x11.1.2.2.1).length c15,.slice p16 (x11.1.2.2.2).length c17],rfl,(H.pm 15 [1,0] rfl:)⟩
theorem w_fDoB {files:List T_api_Pair} {o:T_api_Op} {p1:Option Addr} {c1:Nat} {cs2:List Value} {w0 w:World} {l:List HP}  {r:(List T_api_Pair)×T_api_Answer} (hm:fDo files o=some r) (H:St w0 w (HP.box p1 c1 files::HP.rc R_api_Op cs2 o::l)) :
  Calls Tryz.prog 16 [.slice p1 (files).length c1,.agg cs2.toArray].toArray w (fun e w'=>∃ v,e=.returned v∧∃ (p3:Option Addr) (c3:Nat) (cs4:List Value),v=.tuple [.slice p3 (r.1).length c3,.agg cs4.toArray].toArray∧St w0 w' (HP.sl R_api_Pair p3 c3 r.1::HP.rc R_api_Answer cs4 r.2::HP.box p1 c1 files::l)):=by
 unfold fDo at hm
 refine x_enter Tryz.func16 rfl rfl rfl ?_
 intro a F
 refine sr (s_boxA wkP F rfl rfl rfl rfl rfl H fun b5 w a H F=>bb [0] F H rfl fun a F=>?_)
 replace H:=H.owNil rByte 5
 replace H:=H.owNil rStr 9
 refine s_allocA wkP F rfl rfl rfl agz37 rfl H fun b6 w a H F=>?_
 replace H:=H.nf 6 rfl
 refine nb [0] F H rfl fun a F=>?_
 obtain ⟨x7,ex7,hm⟩:=ob hm
 have H0:=H
 refine sd F rfl ent31 (w_fReadN ex7 (sealC (H.sealB 4 rfl) (sealN _)).st:) ?_;rintro _ w a ⟨m8,rfl,H⟩ F
 replace H:=H0.unsealF H;clear H0
 refine bb [0] F H rfl fun a F=>?_
 replace H:=H.nf 7 rfl
 refine nb [0] F H rfl fun a F=>?_
 obtain ⟨x9,ex9,hm⟩:=ob hm
 refine sd F rfl ent36 (w_mClone ex9 H:) ?_;rintro _ w a ⟨m10,rfl,H⟩ F
 refine bb [0] F H rfl fun a F=>?_
 replace H:=H.nf 8 rfl
 refine nl (sr (bk [0,5999] F H rfl ⟨rfl,(aggn agg25 (H.rcLen 7 rfl)),trivial⟩ fun a F=>?_))
 obtain ⟨x11,ex11,hm⟩:=ob hm
 refine sd F rfl ent37 (w_sDo ex11 (H.pm 8 [1,7,0,2,3,4,5,6,7] rfl:):) ?_;rintro _ w a ⟨cs12,rfl,H⟩ F
 replace H:=H.owNil rByte 5
 replace H:=H.owNil rStr 9
 refine s_allocA wkP F rfl rfl rfl agz37 rfl H fun b13 w a H F=>s_storeA wkP F rfl rfl agg37 rfl rfl rfl H 0 rfl (H.rcLen 3 rfl) rfl (H.rcFlat 3 rfl) fun w H=>?_
 replace H:=H.nf 12 rfl
 refine nl (sq (sr (bk [0] F H rfl ⟨fld37_0,trivial⟩ fun a F=>?_)))
 have G:=F;replace H:=rc_api_Answer (H.pk 3 rfl);obtain ⟨p14,c15,p16,c17,rfl,J⟩:=H;have H:=J;have F:=G;clear G J
 refine bk [2000,0] F H rfl ⟨rfl,plain33,trivial⟩ fun a F=>?_
 refine nl (cNm F rfl hm (fun hg18 hm=>?_) (fun hg18 hm=>?_))
 refine sq (mix_regionK [1,4] [4] (scL [0,2,2001,3,3004]) [2] H rfl rfl (by kernel_rfl) (by kernel_rfl) fun w H=>mb [0] F H rfl fun a F=>?_)
 refine m_pure F rfl rfl rfl rfl (fun u hu=>y_loadA F agg37 rfl rfl ((hu.choose_spec.blk 0 rfl).row) rfl) fun a F=>?_
 refine m_heavy rfl rfl ?_
 obtain ⟨x19,ex19,hm⟩:=ob hm
 refine sd F rfl ent34 (w_sPairs ex19 (H.pm 13 [6,0,1,2,3,4,5,7,8,9,10,11,12] rfl:):) ?_;rintro _ w a ⟨p20,c20,rfl,H⟩ F
 refine lz ?_;refine ct ⟨⟨_,(H.pm 14 [4,0,1,2,3,5,6,7,8,9,10,11,12,13] rfl:)⟩,?_⟩
 refine mb [0] F H rfl fun a F=>m_last rfl rfl (s_storeA wkP F rfl rfl agg37 rfl rfl rfl H 8 rfl rfl rfl (fl rfl) fun w H=>?_)
 refine lz ?_;refine ct ?_
 refine m_nil (ct (wr (tr ?_)))
 replace H:=H.frz 0 rfl
 replace H:=mk_api_Answer H x11.1.1 x11.1.2.1 2 rfl 3 rfl
 cases hm
 refine x_resC2 F rfl rfl (⟨_,rfl,agg37.run_load (H.blk 9 rfl).row rfl⟩) ?_
 exact ⟨_,rfl,p20,c20,[.int .i64 (x11.1.1),.int .i64 (x11.1.2.1),.slice p14 (x11.1.2.2.1).length c15,.slice p16 (x11.1.2.2.2).length c17],rfl,(H.pm 15 [1,0,13] rfl:)⟩
 refine sk (ct (sq (mix_regionK [1,4] [4] (scL [0,2,2001,3,3004]) [2] H rfl rfl (by kernel_rfl) (by kernel_rfl) fun w H=>mb [0] F H rfl fun a F=>?_)))
 refine m_pure F rfl rfl rfl rfl (fun u hu=>y_loadA F agg37 rfl rfl ((hu.choose_spec.blk 0 rfl).row) rfl) fun a F=>?_
 refine m_heavy rfl rfl ?_
 obtain ⟨x21,ex21,hm⟩:=ob hm
 refine sd F rfl ent34 (w_sPairs ex21 (H.pm 13 [5,0,1,2,3,4,6,7,8,9,10,11,12] rfl:):) ?_;rintro _ w a ⟨p22,c22,rfl,H⟩ F
 refine lz ?_;refine ct ⟨⟨_,(H.pm 14 [4,0,1,2,3,5,6,7,8,9,10,11,12,13] rfl:)⟩,?_⟩
 refine mb [0] F H rfl fun a F=>m_last rfl rfl (s_storeA wkP F rfl rfl agg37 rfl rfl rfl H 8 rfl rfl rfl (fl rfl) fun w H=>?_)
 refine lz ?_;refine ct ?_
 refine m_nil (ct (wr ?_))
 replace H:=H.frz 0 rfl
 replace H:=mk_api_Answer H x11.1.1 x11.1.2.1 2 rfl 3 rfl
 cases hm
 refine x_resC2 F rfl rfl (⟨_,rfl,agg37.run_load (H.blk 9 rfl).row rfl⟩) ?_
 exact ⟨_,rfl,p22,c22,[.int .i64 (x11.1.1),.int .i64 (x11.1.2.1),.slice p14 (x11.1.2.2.1).length c15,.slice p16 (x11.1.2.2.2).length c17],rfl,(H.pm 15 [1,0,13] rfl:)⟩
theorem w_bEqual {xs:List UInt8} {ys:List UInt8} {p1:Option Addr} {c1:Nat} {p2:Option Addr} {c2:Nat} {w0 w:World} {l:List HP}  {r:Bool} (hm:bEqual xs ys=some r) (H:St w0 w (HP.sl rByte p1 c1 xs::HP.sl rByte p2 c2 ys::l)) :
  Calls Tryz.prog 59 [.slice p1 (xs).length c1,.slice p2 (ys).length c2].toArray w (fun e w'=>∃ v,e=.returned v∧v=.bool (r)∧St w0 w' (l)):=by
 unfold bEqual at hm
 refine x_enter Tryz.func59 rfl rfl rfl ?_
 intro a F
 refine sb [0] F H rfl fun a F=>nb [0] F H rfl fun a F=>sv F rfl (y_b2s F Tryz.underlying23 Tryz.underlying9 Tryz.underlying5 rfl rfl (H) 0 rfl) fun a F=>bb [0] F H rfl fun a F=>sv F rfl (y_b2s F Tryz.underlying23 Tryz.underlying9 Tryz.underlying5 rfl rfl (H) 1 rfl) fun a F=>sv F rfl (y_eqT (l:=xs) (m:=ys) F rfl rfl rfl) fun a F=>bb [0] F H rfl fun a F=>nl (wr ?_)
 cases hm
 refine x_ret1 F rfl rfl ?_
 exact ⟨_,rfl,rfl,(H.pm 2 [] rfl:)⟩
theorem ent59:En Tryz.prog 59:=enters Tryz.func59 (by kernel_rfl) rfl
theorem w_m_files_same {x0_:T_api_Pair} {x1_:T_api_Pair} {cs1:List Value} {cs2:List Value} {w0 w:World} {l:List HP}  {r:Bool} (hm:m_files_same x0_ x1_=some r) (H:St w0 w (HP.rc R_api_Pair cs1 x0_::HP.rc R_api_Pair cs2 x1_::l)) :
  Calls Tryz.prog 35 [.agg cs1.toArray,.agg cs2.toArray].toArray w (fun e w'=>∃ v,e=.returned v∧v=.bool (r)∧St w0 w' (l)):=by
 unfold m_files_same at hm
 refine x_enter Tryz.func35 rfl rfl rfl ?_
 intro a F
 refine sr (s_boxA wkP F rfl rfl rfl rfl rfl H fun b3 w a H F=>s_boxA wkP F rfl rfl rfl rfl rfl H fun b4 w a H F=>bb [0] F H rfl fun a F=>?_)
 replace H:=H.nf 4 rfl
 refine nl (sr (bk [0] F H rfl ⟨fld60_0,trivial⟩ fun a F=>?_))
 have G:=F;replace H:=rc_api_Pair (H.pk 2 rfl);obtain ⟨p5,c6,p7,c8,rfl,J⟩:=H;have H:=J;have F:=G;clear G J
 refine bk [3000,0] F H rfl ⟨rfl,plain23,fld60_0,trivial⟩ fun a F=>?_
 have G:=F;replace H:=rc_api_Pair (H.pk 4 rfl);obtain ⟨p9,c10,p11,c12,rfl,J⟩:=H;have H:=J;have F:=G;clear G J
 refine bk [4000] F H rfl ⟨rfl,plain23,trivial⟩ fun a F=>?_
 obtain ⟨x13,ex13,hm⟩:=ob hm
 refine sd F rfl ent59 (w_bEqual ex13 (H.pm 6 [2,0,0,1,2,3,4,5] rfl:):) ?_;rintro _ w a ⟨rfl,H⟩ F
 refine bb [0] F H rfl fun a F=>?_
 by_cases hg14:x13=true
 replace hm:=ifT hg14 hm
 replace F:=F.vT 10 hg14 rfl
 refine bk [1,5001,1,4001] F H rfl ⟨fld60_1,rfl,plain23,fld60_1,rfl,plain23,trivial⟩ fun a F=>g_onP F rfl rfl rfl rfl ?_
 obtain ⟨x15,ex15,hm⟩:=ob hm
 refine sd F rfl ent59 (w_bEqual ex15 (H.pm 6 [3,1,0,1,2,3,4,5] rfl:):) ?_;rintro _ w a ⟨rfl,H⟩ F
 refine bb [0,0] F H rfl fun a F=>?_
 replace H:=H.nf 6 rfl
 refine nl (wr ?_)
 cases hm
 refine x_ret1 F rfl rfl ?_
 exact ⟨_,rfl,rfl,(H.pm 6 [] rfl:)⟩
 replace hm:=ifF hg14 hm
 replace F:=F.vF 10 hg14 rfl
 refine bb (List.replicate 7 0) F H rfl fun a F=>?_
 replace H:=H.nf 6 rfl
 refine nl (wr ?_)
 cases hm
 refine x_ret1 F rfl rfl ?_
 exact ⟨_,rfl,rfl,(H.pm 6 [] rfl:)⟩
theorem ent35:En Tryz.prog 35:=enters Tryz.func35 (by kernel_rfl) rfl
theorem w_eqPairs {xs:List T_api_Pair} {ys:List T_api_Pair} {p1:Option Addr} {c1:Nat} {p2:Option Addr} {c2:Nat} {w0 w:World} {l:List HP}  {r:Bool} (hm:eqPairs xs ys=some r) (H:St w0 w (HP.sl R_api_Pair p1 c1 xs::HP.sl R_api_Pair p2 c2 ys::l)) :
  Calls Tryz.prog 33 [.slice p1 (xs).length c1,.slice p2 (ys).length c2,.func (.func 35) #[] #[]].toArray w (fun e w'=>∃ v,e=.returned v∧v=.bool (r)∧St w0 w' (l)):=by
 unfold eqPairs at hm
 refine x_enter Tryz.func33 rfl rfl rfl ?_
 intro a F
 refine sb [0] F H rfl fun a F=>nl (sq (sr (bk (List.replicate 5 0) F H rfl ⟨⟨_,Tryz.underlying22⟩,⟨_,Tryz.underlying22⟩,trivial⟩ fun a F=>?_)))
 refine nl (cNm F rfl hm (fun hg3 hm=>?_) (fun hg3 hm=>?_))
 refine sb [0] F H rfl fun a F=>nl (wr (tr ?_))
 cases hm
 refine x_ret1 F rfl rfl ?_
 exact ⟨_,rfl,rfl,(H.pm 2 [] rfl:)⟩
 refine sk (ct (sq (sr (bk [0,0,0] F H rfl ⟨⟨_,Tryz.underlying22⟩,trivial⟩ fun a F=>?_))))
 refine nl (xr0 2 [] [] F H hm rfl rfl (fun r38 z=>z) (fun r38 z=>z) (fun o38 hm hm38=>?_) (fun r38 a w hm F H=>?_))
 refine bl (xl0 2 [1,2,15,16] [0,1] F H hm rfl rfl (fun (s61:Int) z=>(17,.int .i64 (s61))::z) (fun s61 z=>z) ⟨F.sl rfl,H⟩ (fun s61 a w o F H hm=>sb [0] F H rfl fun a F=>?_))
 refine nl (sq (cPm F rfl hm (fun hg62 hm=>?_) (fun hg62 hm=>?_)))
 refine sk (ct (sq (bl (sb [0] F H rfl fun a F=>?_))))
 obtain ⟨x63,ex63,hm⟩:=ob hm
 obtain ⟨b64,o64,hp64,cs65,H⟩:=H.slE 0 rfl ex63
 refine sv F rfl (y_idxS F elem22 rfl rfl rfl hp64 ex63) fun a F=>bk [999] F H rfl ⟨rfl,(aggn agg60 (H.rcLen 1 rfl)),trivial⟩ fun a F=>?_
 replace H:=H.owNil rByte 5
 replace H:=H.owNil rByte 5
 refine s_allocA wkP F rfl rfl rfl agz60 rfl H fun b66 w a H F=>bb [0] F H rfl fun a F=>s_storeA wkP F rfl rfl agg60 rfl rfl rfl H 0 rfl (H.rcLen 4 rfl) rfl (H.rcFlat 4 rfl) fun w H=>?_
 replace H:=H.nf 7 rfl
 refine nb [0,0] F H rfl fun a F=>?_
 obtain ⟨x67,ex67,hm⟩:=ob hm
 obtain ⟨b68,o68,hp68,cs69,H⟩:=H.slE 6 rfl ex67
 refine sv F rfl (y_idxS F elem22 rfl rfl rfl hp68 ex67) fun a F=>bk [999] F H rfl ⟨rfl,(aggn agg60 (H.rcLen 1 rfl)),trivial⟩ fun a F=>?_
 replace H:=H.owNil rByte 5
 replace H:=H.owNil rByte 5
 refine s_allocA wkP F rfl rfl rfl agz60 rfl H fun b70 w a H F=>s_storeA wkP F rfl rfl agg60 rfl rfl rfl H 0 rfl (H.rcLen 4 rfl) rfl (H.rcFlat 4 rfl) fun w H=>?_
 replace H:=H.nf 12 rfl
 refine nl (sr (bk [0,5999,999] F H rfl ⟨rfl,(aggn agg60 (H.rcLen 9 rfl)),rfl,(aggn agg60 (H.rcLen 4 rfl)),trivial⟩ fun a F=>?_))
 obtain ⟨x71,ex71,hm⟩:=ob hm
 refine s_call wkP F rfl rfl rfl rfl (y_callV0 F rfl rfl rfl ent35) (w_m_files_same ex71 (H.pm 12 [9,4,0,1,2,3,4,5,6,7,8,9,10,11] rfl:):) ?_;rintro _ w a ⟨rfl,H⟩ F
 refine bb [0] F H rfl fun a F=>?_
 replace H:=H.nf 12 rfl
 refine nl (cB F rfl (fun hg72=>?_) (fun hg72=>?_))
 replace hm:=ifT hg72 hm
 refine sb [0] F H rfl fun a F=>?_
 refine nl (wr (br (tr (tr ?_))));cases hm;refine ⟨_,rfl,?_⟩;rintro rfl
 refine br (tr ?_)
 replace hm:=elimR hm38
 refine tr ?_
 cases hm
 refine x_ret1 F rfl rfl ?_
 exact ⟨_,rfl,rfl,(H.pm 12 [] rfl:)⟩
 replace hm:=ifF (nT hg72) hm
 refine sk (bn (ct (rl (bb [0,0] F H rfl fun a F=>?_))))
 refine lz (ct ?_);cases hm
 exact ⟨_,rfl,⟨F.sl rfl,(H.pm 12 [10,11] rfl:)⟩⟩
 refine ex (cx (cx ?_));cases hm;refine ⟨_,rfl,?_⟩;rintro rfl
 refine ch (ct ?_)
 exact ⟨_,rfl,F.cut _ trivial,(H.pm 2 [] rfl:)⟩
 refine ct (sb [0] F H rfl fun a F=>nl (wr ?_))
 cases hm
 refine x_ret1 F rfl rfl ?_
 exact ⟨_,rfl,rfl,H⟩
theorem ent32:En Tryz.prog 32:=enters Tryz.func32 (by kernel_rfl) rfl
theorem ent33:En Tryz.prog 33:=enters Tryz.func33 (by kernel_rfl) rfl
theorem w_fCheck {files:List T_api_Pair} {p1:Option Addr} {c1:Nat} {w0 w:World} {l:List HP}  {r:Int} (hm:fCheck files=some r) (H:St w0 w (HP.sl R_api_Pair p1 c1 files::l)) :
  Calls Tryz.prog 15 [.slice p1 (files).length c1].toArray w (fun e w'=>∃ v,e=.returned v∧v=.int .i64 (r)∧St w0 w' (l)):=by
 unfold fCheck at hm
 refine x_enter Tryz.func15 rfl rfl rfl ?_
 intro a F
 refine sb [0] F H rfl fun a F=>nb [0] F H rfl fun a F=>?_
 obtain ⟨x2,ex2,hm⟩:=ob hm
 refine sd F rfl ent31 (w_fRead ex2 (H.pm 1 [0,0] rfl:):) ?_;rintro _ w a ⟨m3,rfl,H⟩ F
 refine bb [0] F H rfl fun a F=>?_
 replace H:=H.nf 2 rfl
 refine nl (sq (sb [0] F H rfl fun a F=>?_))
 obtain ⟨x4,ex4,hm⟩:=ob hm
 refine sd F rfl ent32 (w_sSound ex4 H:) ?_;rintro _ w a ⟨rfl,H⟩ F
 refine bb [0,0] F H rfl fun a F=>?_
 by_cases hg5:(!x4)=true
 replace hm:=ifT hg5 hm
 replace F:=F.vT 9 hg5 rfl
 refine bb (List.replicate 6 0) F H rfl fun a F=>?_
 replace H:=H.nf 2 rfl
 refine nl (cT F rfl (sb [0] F H rfl fun a F=>nl (wr (tr ?_))))
 cases hm
 refine x_ret1 F rfl rfl ?_
 exact ⟨_,rfl,rfl,(H.pm 2 [] rfl:)⟩
 replace hm:=ifF hg5 hm
 replace F:=F.vF 9 hg5 rfl
 refine bb [0] F H rfl fun a F=>g_onP F rfl rfl rfl rfl ?_
 obtain ⟨x6,ex6,hm⟩:=ob hm
 refine sd F rfl ent34 (w_sPairs ex6 H:) ?_;rintro _ w a ⟨p7,c7,rfl,H⟩ F
 refine bb [0] F H rfl fun a F=>g_onP F rfl rfl rfl rfl ?_
 replace H:=H.frz 0 rfl
 obtain ⟨x8,ex8,hm⟩:=ob hm
 refine sd F rfl ent33 (w_eqPairs ex8 (H.pm 3 [0,2,0,1,2] rfl:):) ?_;rintro _ w a ⟨rfl,H⟩ F
 refine bb [0,0] F H rfl fun a F=>?_
 replace H:=H.nf 3 rfl
 refine nl (cB F rfl (fun hg9=>?_) (fun hg9=>?_))
 replace hm:=ifT hg9 hm
 refine sb [0] F H rfl fun a F=>nl (wr (tr ?_))
 cases hm
 refine x_ret1 F rfl rfl ?_
 exact ⟨_,rfl,rfl,(H.pm 3 [] rfl:)⟩
 replace hm:=ifF (nT hg9) hm
 refine sk (ct (sb [0] F H rfl fun a F=>nl (wr ?_)))
 cases hm
 refine x_ret1 F rfl rfl ?_
 exact ⟨_,rfl,rfl,(H.pm 3 [] rfl:)⟩
theorem w_fNew   {w0 w:World} {l:List HP}  {r:(List T_api_Pair)} (hm:fNew =some r) (H:St w0 w (l)) :
  Calls Tryz.prog 23 [].toArray w (fun e w'=>∃ v,e=.returned v∧∃ (p1:Option Addr) (c1:Nat),v=.slice p1 (r).length c1∧St w0 w' (HP.sl R_api_Pair p1 c1 r::l)):=by
 unfold fNew at hm
 refine x_enter Tryz.func23 rfl rfl rfl ?_
 intro a F
 refine sb [0] F H rfl fun a F=>nl (sr (s_mmNew ekStr true R_files_file (fun _=>True) wkP F rfl rfl rfl rfl H fun m2 w a H F=>?_))
 replace H:=H.owNil rByte 5
 refine sv F rfl (y_build F rfl rfl (cs:=[.bool true,.slice none (([]:List UInt8)).length 0]) (by kernel_rfl)) fun a F=>?_
 replace H:=H.frz 0 rfl
 refine s_mmIns wkP F rfl rfl Tryz.underlying65 (keyStr Tryz.underlying9) rfl H 1 rfl rfl (k:=[47]) rfl (cs:=[.bool true,.slice none (([]:List UInt8)).length 0]) rfl trivial (v:=(true,([]:List UInt8))) (fun gg=>⟨_,_,rfl,rfl,⟨_,_,rfl,(gg 0 _ rfl).choose_spec⟩⟩) fun w H=>?_
 refine bb [0] F H rfl fun a F=>?_
 obtain ⟨x3,ex3,hm⟩:=ob hm
 refine sd F rfl ent34 (w_sPairs ex3 (H.pm 2 [1,0] rfl:):) ?_;rintro _ w a ⟨p4,c4,rfl,H⟩ F
 refine bb [0] F H rfl fun a F=>?_
 replace H:=H.nf 3 rfl
 refine nl (wr ?_)
 replace H:=H.frz 0 rfl
 cases hm
 refine x_ret1 F rfl rfl ?_
 exact ⟨_,rfl,p4,c4,rfl,(H.pm 3 [0] rfl:)⟩
set_option maxRecDepth 100000
set_option maxHeartbeats 4000000
theorem w_rSamePairs {a_:List T_api_Pair} {b_:List T_api_Pair} {p1:Option Addr} {c1:Nat} {p2:Option Addr} {c2:Nat} {w0 w:World} {l:List HP}  {r:Bool} (hm:rSamePairs a_ b_=some r) (H:St w0 w (HP.sl R_api_Pair p1 c1 a_::HP.sl R_api_Pair p2 c2 b_::l)) :
  Calls Tryz.prog 19 [.slice p1 (a_).length c1,.slice p2 (b_).length c2].toArray w (fun e w'=>∃ v,e=.returned v∧v=.bool (r)∧St w0 w' (l)):=by
 unfold rSamePairs at hm
 refine x_enter Tryz.func19 rfl rfl rfl ?_
 intro a F
 refine sb [0] F H rfl fun a F=>nl (sq (sr (bk (List.replicate 5 0) F H rfl ⟨⟨_,Tryz.underlying22⟩,⟨_,Tryz.underlying22⟩,trivial⟩ fun a F=>?_)))
 refine nl (cNm F rfl hm (fun hg3 hm=>?_) (fun hg3 hm=>?_))
 refine sb [0] F H rfl fun a F=>nl (wr (tr ?_))
 cases hm
 refine x_ret1 F rfl rfl ?_
 exact ⟨_,rfl,rfl,(H.pm 2 [] rfl:)⟩
 refine sk (ct (sq (sb [0] F H rfl fun a F=>?_)))
 refine nl (xr0 2 [] [] F H hm rfl rfl (fun r92 z=>z) (fun r92 z=>z) (fun o92 hm hm92=>?_) (fun r92 a w hm F H=>?_))
 refine bl (xl0 2 [0,1] [0,1] F H hm rfl rfl (fun (s151:Int) z=>(5,.int .i64 (s151))::z) (fun s151 z=>z) ⟨F.sl rfl,H⟩ (fun s151 a w o F H hm=>sq (sr (bk [0,0,0,0] F H rfl ⟨⟨_,Tryz.underlying22⟩,trivial⟩ fun a F=>?_))))
 refine nl (cPm F rfl hm (fun hg152 hm=>?_) (fun hg152 hm=>?_))
 refine sk (ct (sq (bl (sq ?_))))
 obtain ⟨x153,ex153,hm⟩:=ob hm
 obtain ⟨b154,o154,hp154,cs155,H⟩:=H.slE 0 rfl ex153
 have G:=F;replace H:=rc_api_Pair (H.pk 1 rfl);obtain ⟨p156,c157,p158,c159,rfl,J⟩:=H;have H:=J;have F:=G;clear G J
 obtain ⟨x160,ex160,hm⟩:=ob hm
 obtain ⟨b161,o161,hp161,cs162,H⟩:=H.slE 4 rfl ex160
 have G:=F;replace H:=rc_api_Pair (H.pk 1 rfl);obtain ⟨p163,c164,p165,c166,rfl,J⟩:=H;have H:=J;have F:=G;clear G J
 by_cases hg167:x153.1=x160.1
 replace hm:=ifT hg167 hm
 obtain ⟨x168,ex168,hm⟩:=ob hm
 obtain ⟨cs169,H⟩:=H.slF 6 rfl hp154 ex168
 have G:=F;replace H:=rc_api_Pair (H.pk 1 rfl);obtain ⟨p170,c171,p172,c173,rfl,J⟩:=H;have H:=J;have F:=G;clear G J
 obtain ⟨x174,ex174,hm⟩:=ob hm
 obtain ⟨cs175,H⟩:=H.slF 10 rfl hp161 ex174
 have G:=F;replace H:=rc_api_Pair (H.pk 1 rfl);obtain ⟨p176,c177,p178,c179,rfl,J⟩:=H;have H:=J;have F:=G;clear G J
 refine qr H (by kernel_rfl) (by kernel_rfl) ?_
 refine qb [0,0] F rfl fun a F=>qv F rfl (fun u hu=>y_idxS F elem22 rfl rfl rfl hp154 ex153) fun a F=>qbk [0,11000] F rfl ⟨fld60_0,rfl,plain23,trivial⟩ fun a F=>qv F rfl (fun u hu=>y_b2s F Tryz.underlying23 Tryz.underlying9 Tryz.underlying5 rfl rfl (hu) 9 rfl) fun a F=>qb [0,0] F rfl fun a F=>qv F rfl (fun u hu=>y_idxS F elem22 rfl rfl rfl hp161 ex160) fun a F=>qbk [0,8000] F rfl ⟨fld60_0,rfl,plain23,trivial⟩ fun a F=>qv F rfl (fun u hu=>y_b2s F Tryz.underlying23 Tryz.underlying9 Tryz.underlying5 rfl rfl (hu) 6 rfl) fun a F=>qv F rfl (fun u hu=>y_neT (l:=x153.1) (m:=x160.1) F rfl rfl rfl) fun a F=>qb [0] F rfl fun a F=>?_
 replace F:=F.nT 30 hg167 rfl
 refine qb [0,0] F rfl fun a F=>?_
 refine qg_on F rfl rfl rfl rfl ?_
 refine qv F rfl (fun u hu=>y_idxS F elem22 rfl rfl rfl hp154 ex168) fun a F=>qbk [1,5001] F rfl ⟨fld60_1,rfl,plain23,trivial⟩ fun a F=>?_
 refine qg_on F rfl rfl rfl rfl ?_
 refine qv F rfl (fun u hu=>y_b2s F Tryz.underlying23 Tryz.underlying9 Tryz.underlying5 rfl rfl (hu) 4 rfl) fun a F=>qb [0,0] F rfl fun a F=>?_
 refine qg_on F rfl rfl rfl rfl ?_
 refine qv F rfl (fun u hu=>y_idxS F elem22 rfl rfl rfl hp161 ex174) fun a F=>qbk [1,2001] F rfl ⟨fld60_1,rfl,plain23,trivial⟩ fun a F=>?_
 refine qg_on F rfl rfl rfl rfl ?_
 refine qv F rfl (fun u hu=>y_b2s F Tryz.underlying23 Tryz.underlying9 Tryz.underlying5 rfl rfl (hu) 1 rfl) fun a F=>?_
 refine qg_on F rfl rfl rfl rfl ?_
 refine qv F rfl (fun u hu=>y_neT (l:=x168.2) (m:=x174.2) F rfl rfl rfl) fun a F=>qb [0] F rfl fun a F=>?_
 refine q_nil fun w H=>?_
 refine ct (cNm F rfl hm (fun hg180 hm=>?_) (fun hg180 hm=>?_))
 refine sb [0] F H rfl fun a F=>?_
 refine nl (wr (br (tr (tr ?_))));cases hm;refine ⟨_,rfl,?_⟩;rintro rfl
 refine br (tr ?_)
 replace hm:=elimR hm92
 refine tr ?_
 cases hm
 refine x_ret1 F rfl rfl ?_
 exact ⟨_,rfl,rfl,(H.pm 14 [] rfl:)⟩
 refine sk (bn (ct (rl (bb [0,0,0] F H rfl fun a F=>?_))))
 refine lz (ct ?_);cases hm
 exact ⟨_,rfl,⟨F.sl rfl,(H.pm 14 [12,13] rfl:)⟩⟩
 replace hm:=ifF hg167 hm
 refine qr H (by kernel_rfl) (by kernel_rfl) ?_
 refine qb [0,0] F rfl fun a F=>qv F rfl (fun u hu=>y_idxS F elem22 rfl rfl rfl hp154 ex153) fun a F=>qbk [0,5000] F rfl ⟨fld60_0,rfl,plain23,trivial⟩ fun a F=>qv F rfl (fun u hu=>y_b2s F Tryz.underlying23 Tryz.underlying9 Tryz.underlying5 rfl rfl (hu) 3 rfl) fun a F=>qb [0,0] F rfl fun a F=>qv F rfl (fun u hu=>y_idxS F elem22 rfl rfl rfl hp161 ex160) fun a F=>qbk [0,2000] F rfl ⟨fld60_0,rfl,plain23,trivial⟩ fun a F=>qv F rfl (fun u hu=>y_b2s F Tryz.underlying23 Tryz.underlying9 Tryz.underlying5 rfl rfl (hu) 0 rfl) fun a F=>qv F rfl (fun u hu=>y_neT (l:=x153.1) (m:=x160.1) F rfl rfl rfl) fun a F=>qb [0] F rfl fun a F=>?_
 replace F:=F.nF 30 hg167 rfl
 refine qb (List.replicate 14 0) F rfl fun a F=>?_
 refine q_nil fun w H=>?_
 refine ct (cT F rfl (sb [0] F H rfl fun a F=>?_))
 refine nl (wr (br (tr (tr ?_))));cases hm;refine ⟨_,rfl,?_⟩;rintro rfl
 refine br (tr ?_)
 replace hm:=elimR hm92
 refine tr ?_
 cases hm
 refine x_ret1 F rfl rfl ?_
 exact ⟨_,rfl,rfl,(H.pm 8 [] rfl:)⟩
 refine ex (cx (cx ?_));cases hm;refine ⟨_,rfl,?_⟩;rintro rfl
 refine ch (ct ?_)
 exact ⟨_,rfl,F.cut _ trivial,(H.pm 2 [] rfl:)⟩
 refine ct (sb [0] F H rfl fun a F=>nl (wr ?_))
 cases hm
 refine x_ret1 F rfl rfl ?_
 exact ⟨_,rfl,rfl,H⟩
theorem w_rGreat {list:List T_api_Pair} {p1:Option Addr} {c1:Nat} {w0 w:World} {l:List HP}  {r:Bool} (hm:rGreat list=some r) (H:St w0 w (HP.sl R_api_Pair p1 c1 list::l)) :
  Calls Tryz.prog 26 [.slice p1 (list).length c1].toArray w (fun e w'=>∃ v,e=.returned v∧v=.bool (r)∧St w0 w' (l)):=by
 unfold rGreat at hm
 refine x_enter Tryz.func26 rfl rfl rfl ?_
 intro a F
 refine sb [0] F H rfl fun a F=>nb [0] F H rfl fun a F=>nl (sq (sb [0] F H rfl fun a F=>?_))
 refine nl (xr0 1 [] [] F H hm rfl rfl (fun r90 z=>(3,.int .i64 (r90))::z) (fun r90 z=>z) (fun o90 hm hm90=>?_) (fun r90 a w hm F H=>?_))
 refine bl (xl0 1 [0] [0] F H hm rfl rfl (fun (s149:Int×Int) z=>(3,.int .i64 (s149.1))::(4,.int .i64 (s149.2))::z) (fun s149 z=>z) ⟨F.sl rfl,H⟩ (fun s149 a w o F H hm=>sq (sr (bk (List.replicate 5 0) F H rfl ⟨⟨_,Tryz.underlying22⟩,trivial⟩ fun a F=>?_))))
 rcases spP 9 F rfl hm with ⟨hg150,hm,F⟩ | ⟨hg150,hm,F⟩
 refine bb [0,0,0] F H rfl fun a F=>?_
 refine nl (cPm F rfl hm (fun hg151 hm=>?_) (fun hg151 hm=>?_))
 refine sk (ct (sq (bl (sq (sb [0,0] F H rfl fun a F=>?_)))))
 obtain ⟨x152,ex152,hm⟩:=ob hm
 obtain ⟨b153,o153,hp153,cs154,H⟩:=H.slE 0 rfl ex152
 refine sv F rfl (y_idxS F elem22 rfl rfl rfl hp153 ex152) fun a F=>bk [0] F H rfl ⟨fld60_0,trivial⟩ fun a F=>?_
 have G:=F;replace H:=rc_api_Pair (H.pk 1 rfl);obtain ⟨p155,c156,p157,c158,rfl,J⟩:=H;have H:=J;have F:=G;clear G J
 refine bk [2000,0,0,0] F H rfl ⟨rfl,plain23,⟨_,Tryz.underlying23⟩,trivial⟩ fun a F=>?_
 rcases spP 22 F rfl hm with ⟨hg159,hm,F⟩ | ⟨hg159,hm,F⟩
 refine bb (List.replicate 8 0) F H rfl fun a F=>nl (cT F rfl (sb [0] F H rfl fun a F=>?_))
 refine nl (wr (tr (br (tr (tr ?_)))));cases hm;refine ⟨_,rfl,?_⟩;rintro rfl
 refine br (tr ?_)
 replace hm:=elimR hm90
 refine tr ?_
 cases hm
 refine x_ret1 F rfl rfl ?_
 exact ⟨_,rfl,rfl,(H.pm 4 [] rfl:)⟩
 refine bb [0,0] F H rfl fun a F=>g_onP F rfl rfl rfl rfl ?_
 obtain ⟨x160,ex160,hm⟩:=ob hm
 obtain ⟨cs161,H⟩:=H.slF 3 rfl hp153 ex160
 refine sv F rfl (y_idxS F elem22 rfl rfl rfl hp153 ex160) fun a F=>bk [1] F H rfl ⟨fld60_1,trivial⟩ fun a F=>g_onP F rfl rfl rfl rfl ?_
 have G:=F;replace H:=rc_api_Pair (H.pk 1 rfl);obtain ⟨p162,c163,p164,c165,rfl,J⟩:=H;have H:=J;have F:=G;clear G J
 refine bk [2001,0,0,0] F H rfl ⟨rfl,plain23,⟨_,Tryz.underlying23⟩,trivial⟩ fun a F=>?_
 refine nl (cPm F rfl hm (fun hg166 hm=>?_) (fun hg166 hm=>?_))
 refine sb [0] F H rfl fun a F=>?_
 refine nl (wr (tr (br (tr (tr ?_)))));cases hm;refine ⟨_,rfl,?_⟩;rintro rfl
 refine br (tr ?_)
 replace hm:=elimR hm90
 refine tr ?_
 cases hm
 refine x_ret1 F rfl rfl ?_
 exact ⟨_,rfl,rfl,(H.pm 7 [] rfl:)⟩
 refine sk (ct ?_)
 obtain ⟨x167,ex167,hm⟩:=ob hm
 obtain ⟨cs168,H⟩:=H.slF 6 rfl hp153 ex167
 have G:=F;replace H:=rc_api_Pair (H.pk 1 rfl);obtain ⟨p169,c170,p171,c172,rfl,J⟩:=H;have H:=J;have F:=G;clear G J
 obtain ⟨x173,ex173,hm⟩:=ob hm
 obtain ⟨cs174,H⟩:=H.slF 9 rfl hp153 ex173
 have G:=F;replace H:=rc_api_Pair (H.pk 1 rfl);obtain ⟨p175,c176,p177,c178,rfl,J⟩:=H;have H:=J;have F:=G;clear G J
 refine qr H (by kernel_rfl) (by kernel_rfl) ?_
 refine qb [0,0,0] F rfl fun a F=>qv F rfl (fun u hu=>y_idxS F elem22 rfl rfl rfl hp153 ex167) fun a F=>qbk [0,5000,0,0,0,0] F rfl ⟨fld60_0,rfl,plain23,⟨_,Tryz.underlying23⟩,trivial⟩ fun a F=>qv F rfl (fun u hu=>y_idxS F elem22 rfl rfl rfl hp153 ex173) fun a F=>qbk [1,2001,0,0,0,0] F rfl ⟨fld60_1,rfl,plain23,⟨_,Tryz.underlying23⟩,trivial⟩ fun a F=>?_
 refine q_nil fun w H=>?_
 refine bn (ct (rl (bb [0,0,0] F H rfl fun a F=>?_)))
 refine lz (ct ?_);cases hm
 exact ⟨_,rfl,⟨F.sl rfl,(H.pm 13 [12] rfl:)⟩⟩
 refine ex (cx (cx ?_));cases hm;refine ⟨_,rfl,?_⟩;rintro rfl
 refine ch (ct ?_)
 exact ⟨_,rfl,F.sl rfl,(H.pm 1 [] rfl:)⟩
 refine bb [0,0,0] F H rfl fun a F=>nl (cF F rfl ?_)
 refine ex (cx (cx ?_));cases hm;refine ⟨_,rfl,?_⟩;rintro rfl
 refine ch (ct ?_)
 exact ⟨_,rfl,F.sl rfl,(H.pm 1 [] rfl:)⟩
 refine ct (sb [0,0,0] F H rfl fun a F=>nl (wr ?_))
 cases hm
 refine x_ret1 F rfl rfl ?_
 exact ⟨_,rfl,rfl,H⟩
theorem w_rGreatOp {o:T_api_Op} {cs1:List Value} {w0 w:World} {l:List HP}  {r:Bool} (hm:rGreatOp o=some r) (H:St w0 w (HP.rc R_api_Op cs1 o::l)) :
  Calls Tryz.prog 24 [.agg cs1.toArray].toArray w (fun e w'=>∃ v,e=.returned v∧v=.bool (r)∧St w0 w' (l)):=by
 unfold rGreatOp at hm
 refine x_enter Tryz.func24 rfl rfl rfl ?_
 intro a F
 refine sr (s_boxA wkP F rfl rfl rfl rfl rfl H fun b2 w a H F=>bb [0] F H rfl fun a F=>?_)
 replace H:=H.nf 2 rfl
 refine nl (sr (bk [1] F H rfl ⟨fld25_1,trivial⟩ fun a F=>?_))
 have G:=F;replace H:=rc_api_Op (H.pk 1 rfl);obtain ⟨p3,c4,rfl,J⟩:=H;have H:=J;have F:=G;clear G J
 refine bk [1001] F H rfl ⟨rfl,plain9,trivial⟩ fun a F=>sv F rfl (y_lenT (l:=o.2.1) F rfl Tryz.underlying9 rfl) fun a F=>bb [0,0] F H rfl fun a F=>?_
 rcases spP 7 F rfl hm with ⟨hg5,hm,F⟩ | ⟨hg5,hm,F⟩
 refine bb (List.replicate 12 0) F H rfl fun a F=>nl (wr ?_)
 cases hm
 refine x_ret1 F rfl rfl ?_
 exact ⟨_,rfl,rfl,(H.pm 2 [] rfl:)⟩
 refine bk [2,1002] F H rfl ⟨fld25_2,rfl,plain9,trivial⟩ fun a F=>g_onP F rfl rfl rfl rfl (sv F rfl (y_lenT (l:=o.2.2.1) F rfl Tryz.underlying9 rfl) fun a F=>bb [0,0,0] F H rfl fun a F=>?_)
 rcases spP 13 F rfl hm with ⟨hg6,hm,F⟩ | ⟨hg6,hm,F⟩
 refine bb (List.replicate 6 0) F H rfl fun a F=>nl (wr ?_)
 cases hm
 refine x_ret1 F rfl rfl ?_
 exact ⟨_,rfl,rfl,(H.pm 2 [] rfl:)⟩
 refine bk [5,1005,0,0,0,0] F H rfl ⟨fld25_5,rfl,plain23,⟨_,Tryz.underlying23⟩,trivial⟩ fun a F=>nl (wr ?_)
 cases hm
 refine x_ret1 F rfl rfl ?_
 exact ⟨_,rfl,rfl,(H.pm 2 [] rfl:)⟩
theorem w_rSameT {a_:List (List UInt8)} {b_:List (List UInt8)} {p1:Option Addr} {c1:Nat} {p2:Option Addr} {c2:Nat} {w0 w:World} {l:List HP}  {r:Bool} (hm:rSameT a_ b_=some r) (H:St w0 w (HP.sl rStr p1 c1 a_::HP.sl rStr p2 c2 b_::l)) :
  Calls Tryz.prog 44 [.slice p1 (a_).length c1,.slice p2 (b_).length c2].toArray w (fun e w'=>∃ v,e=.returned v∧v=.bool (r)∧St w0 w' (l)):=by
 unfold rSameT at hm
 refine x_enter Tryz.func44 rfl rfl rfl ?_
 intro a F
 refine sb [0] F H rfl fun a F=>nl (sq (sr (bk (List.replicate 5 0) F H rfl ⟨⟨_,Tryz.underlying35⟩,⟨_,Tryz.underlying35⟩,trivial⟩ fun a F=>?_)))
 refine nl (cNm F rfl hm (fun hg3 hm=>?_) (fun hg3 hm=>?_))
 refine sb [0] F H rfl fun a F=>nl (wr (tr ?_))
 cases hm
 refine x_ret1 F rfl rfl ?_
 exact ⟨_,rfl,rfl,(H.pm 2 [] rfl:)⟩
 refine sk (ct (sq (sb [0] F H rfl fun a F=>?_)))
 refine nl (xr0 2 [] [] F H hm rfl rfl (fun r29 z=>z) (fun r29 z=>z) (fun o29 hm hm29=>?_) (fun r29 a w hm F H=>?_))
 refine bl (xl0 2 [0,1] [0,1] F H hm rfl rfl (fun (s46:Int) z=>(5,.int .i64 (s46))::z) (fun s46 z=>z) ⟨F.sl rfl,H⟩ (fun s46 a w o F H hm=>sq (sr (bk [0,0,0,0] F H rfl ⟨⟨_,Tryz.underlying35⟩,trivial⟩ fun a F=>?_))))
 refine nl (cPm F rfl hm (fun hg47 hm=>?_) (fun hg47 hm=>?_))
 refine sk (ct (sq (bl (sq ?_))))
 obtain ⟨x48,ex48,hm⟩:=ob hm
 obtain ⟨b49,o49,hp49,cs50,H⟩:=H.slE 0 rfl ex48
 obtain rfl:=H.rcStr 1 rfl
 replace H:=H.dp 1 rfl
 obtain ⟨x51,ex51,hm⟩:=ob hm
 obtain ⟨b52,o52,hp52,cs53,H⟩:=H.slE 2 rfl ex51
 obtain rfl:=H.rcStr 1 rfl
 replace H:=H.dp 1 rfl
 refine qr H (by kernel_rfl) (by kernel_rfl) ?_
 refine qb [0,0] F rfl fun a F=>qv F rfl (fun u hu=>y_idxS F elem35 rfl rfl rfl hp49 ex48) fun a F=>qbk [1000,0,0] F rfl ⟨rfl,plain9,trivial⟩ fun a F=>qv F rfl (fun u hu=>y_idxS F elem35 rfl rfl rfl hp52 ex51) fun a F=>qbk [0] F rfl ⟨rfl,plain9,trivial⟩ fun a F=>qv F rfl (fun u hu=>y_neT (l:=x48) (m:=x51) F rfl rfl rfl) fun a F=>?_
 refine q_nil fun w H=>?_
 refine ct (cNm F rfl hm (fun hg54 hm=>?_) (fun hg54 hm=>?_))
 refine sb [0] F H rfl fun a F=>?_
 refine nl (wr (br (tr (tr ?_))));cases hm;refine ⟨_,rfl,?_⟩;rintro rfl
 refine br (tr ?_)
 replace hm:=elimR hm29
 refine tr ?_
 cases hm
 refine x_ret1 F rfl rfl ?_
 exact ⟨_,rfl,rfl,(H.pm 4 [] rfl:)⟩
 refine sk (bn (ct (rl (bb [0,0,0] F H rfl fun a F=>?_))))
 refine lz (ct ?_);cases hm
 exact ⟨_,rfl,⟨F.sl rfl,(H.pm 4 [2,3] rfl:)⟩⟩
 refine ex (cx (cx ?_));cases hm;refine ⟨_,rfl,?_⟩;rintro rfl
 refine ch (ct ?_)
 exact ⟨_,rfl,F.cut _ trivial,(H.pm 2 [] rfl:)⟩
 refine ct (sb [0] F H rfl fun a F=>nl (wr ?_))
 cases hm
 refine x_ret1 F rfl rfl ?_
 exact ⟨_,rfl,rfl,H⟩
theorem plain35:Plain Tryz.prog 35:=by unfold Plain;rw [Tryz.underlying35];rfl
theorem ent44:En Tryz.prog 44:=enters Tryz.func44 (by kernel_rfl) rfl
theorem w_rSameAns {a_:T_api_Answer} {b_:T_api_Answer} {cs1:List Value} {cs2:List Value} {w0 w:World} {l:List HP}  {r:Bool} (hm:rSameAns a_ b_=some r) (H:St w0 w (HP.rc R_api_Answer cs1 a_::HP.rc R_api_Answer cs2 b_::l)) :
  Calls Tryz.prog 18 [.agg cs1.toArray,.agg cs2.toArray].toArray w (fun e w'=>∃ v,e=.returned v∧v=.bool (r)∧St w0 w' (l)):=by
 unfold rSameAns at hm
 refine x_enter Tryz.func18 rfl rfl rfl ?_
 intro a F
 refine sr (s_boxA wkP F rfl rfl rfl rfl rfl H fun b3 w a H F=>s_boxA wkP F rfl rfl rfl rfl rfl H fun b4 w a H F=>bb [0] F H rfl fun a F=>?_)
 replace H:=H.nf 4 rfl
 refine nl (sr (bk [0] F H rfl ⟨fld37_0,trivial⟩ fun a F=>?_))
 have G:=F;replace H:=rc_api_Answer (H.pk 2 rfl);obtain ⟨p5,c6,p7,c8,rfl,J⟩:=H;have H:=J;have F:=G;clear G J
 refine bk [3000,0] F H rfl ⟨rfl,plain33,fld37_0,trivial⟩ fun a F=>?_
 have G:=F;replace H:=rc_api_Answer (H.pk 4 rfl);obtain ⟨p9,c10,p11,c12,rfl,J⟩:=H;have H:=J;have F:=G;clear G J
 refine bk [4000,0,0] F H rfl ⟨rfl,plain33,trivial⟩ fun a F=>?_
 rcases spP 10 F rfl hm with ⟨hg13,hm,F⟩ | ⟨hg13,hm,F⟩
 refine bk [1,5001,1,4001,0,0,0] F H rfl ⟨fld37_1,rfl,plain3,fld37_1,rfl,plain3,trivial⟩ fun a F=>?_
 rcases spP 17 F rfl hm with ⟨hg14,hm,F⟩ | ⟨hg14,hm,F⟩
 refine bk [2,5002] F H rfl ⟨fld37_2,rfl,plain23,trivial⟩ fun a F=>g_onP F rfl rfl rfl rfl (sv F rfl (y_b2s F Tryz.underlying23 Tryz.underlying9 Tryz.underlying5 rfl rfl (H) 2 rfl) fun a F=>bk [2,4002] F H rfl ⟨fld37_2,rfl,plain23,trivial⟩ fun a F=>g_onP F rfl rfl rfl rfl (sv F rfl (y_b2s F Tryz.underlying23 Tryz.underlying9 Tryz.underlying5 rfl rfl (H) 0 rfl) fun a F=>g_onP F rfl rfl rfl rfl (sv F rfl (y_eqT (l:=a_.2.2.1) (m:=b_.2.2.1) F rfl rfl rfl) fun a F=>bb [0,0] F H rfl fun a F=>?_)))
 rcases spP 26 F rfl hm with ⟨hg15,hm,F⟩ | ⟨hg15,hm,F⟩
 refine bk [3,5003,3,4003] F H rfl ⟨fld37_3,rfl,plain35,fld37_3,rfl,plain35,trivial⟩ fun a F=>g_onP F rfl rfl rfl rfl ?_
 obtain ⟨x16,ex16,hm⟩:=ob hm
 refine sd F rfl ent44 (w_rSameT ex16 (H.pm 6 [3,1,0,1,2,3,4,5] rfl:):) ?_;rintro _ w a ⟨rfl,H⟩ F
 refine bb [0,0] F H rfl fun a F=>?_
 replace H:=H.nf 6 rfl
 refine nl (wr ?_)
 cases hm
 refine x_ret1 F rfl rfl ?_
 exact ⟨_,rfl,rfl,(H.pm 6 [] rfl:)⟩
 refine bb (List.replicate 7 0) F H rfl fun a F=>nl (wr ?_)
 cases hm
 refine x_ret1 F rfl rfl ?_
 exact ⟨_,rfl,rfl,(H.pm 6 [] rfl:)⟩
 refine bb (List.replicate 16 0) F H rfl fun a F=>nl (wr ?_)
 cases hm
 refine x_ret1 F rfl rfl ?_
 exact ⟨_,rfl,rfl,(H.pm 6 [] rfl:)⟩
 refine bb (List.replicate 23 0) F H rfl fun a F=>nl (wr ?_)
 cases hm
 refine x_ret1 F rfl rfl ?_
 exact ⟨_,rfl,rfl,(H.pm 6 [] rfl:)⟩
theorem ent23:En Tryz.prog 23:=enters Tryz.func23 (by kernel_rfl) rfl
theorem ent16:En Tryz.prog 16:=enters Tryz.func16 (by kernel_rfl) rfl
theorem w_lSpeaks   {w0 w:World} {l:List HP}  {r:Bool} (hm:lSpeaks =some r) (H:St w0 w (l)) :
  Calls Tryz.prog 10 [].toArray w (fun e w'=>∃ v,e=.returned v∧v=.bool (r)∧St w0 w' (l)):=by
 unfold lSpeaks at hm
 refine x_enter Tryz.func10 rfl rfl rfl ?_
 intro a F
 refine sb [0] F H rfl fun a F=>nl (sr ?_)
 obtain ⟨x1,ex1,hm⟩:=ob hm
 refine sd F rfl ent23 (w_fNew ex1 H:) ?_;rintro _ w a ⟨p2,c2,rfl,H⟩ F
 replace H:=H.owNil rByte 5
 refine sv F rfl (y_build F rfl rfl (cs:=[.int .i64 (2),.string (txb ([47,97])),.string (txb ([])),.int .i64 (0),.int .i64 (0),.slice none (([]:List UInt8)).length 0]) (by kernel_rfl)) fun a F=>?_
 replace H:=H.frz 0 rfl
 replace H:=mk_api_Op H 2 ([47,97]) ([]) 0 0 0 rfl
 obtain ⟨x3,ex3,hm⟩:=ob hm
 refine sd F rfl ent16 (w_fDo ex3 (H.pm 3 [2,0,0,1,2] rfl:):) ?_;rintro _ w a ⟨p4,c4,cs5,rfl,H⟩ F
 refine bb [0,0,0] F H rfl fun a F=>?_
 replace H:=H.owNil rByte 5
 replace H:=H.owNil rStr 9
 refine s_allocA wkP F rfl rfl rfl agz37 rfl H fun b6 w a H F=>bb [0] F H rfl fun a F=>s_storeA wkP F rfl rfl agg37 rfl rfl rfl H 0 rfl (H.rcLen 4 rfl) rfl (H.rcFlat 4 rfl) fun w H=>?_
 replace H:=H.nf 8 rfl
 refine nb [0] F H rfl fun a F=>?_
 replace H:=H.owNil rByte 5
 refine sv F rfl (y_build F rfl rfl (cs:=[.int .i64 (1),.string (txb ([47,97,47,98])),.string (txb ([])),.int .i64 (0),.int .i64 (0),.slice none (([]:List UInt8)).length 0]) (by kernel_rfl)) fun a F=>?_
 replace H:=H.frz 0 rfl
 replace H:=mk_api_Op H 1 ([47,97,47,98]) ([]) 0 0 0 rfl
 obtain ⟨x7,ex7,hm⟩:=ob hm
 refine sd F rfl ent16 (w_fDo ex7 (H.pm 10 [5,0,0,1,2,3,4,5,6,7,8,9] rfl:):) ?_;rintro _ w a ⟨p8,c8,cs9,rfl,H⟩ F
 refine bb [0,0,0] F H rfl fun a F=>?_
 replace H:=H.owNil rByte 5
 replace H:=H.owNil rStr 9
 refine s_allocA wkP F rfl rfl rfl agz37 rfl H fun b10 w a H F=>bb [0] F H rfl fun a F=>s_storeA wkP F rfl rfl agg37 rfl rfl rfl H 0 rfl (H.rcLen 4 rfl) rfl (H.rcFlat 4 rfl) fun w H=>?_
 replace H:=H.nf 15 rfl
 refine nb [0] F H rfl fun a F=>?_
 obtain ⟨x12,ex12,hm⟩:=ob hm
 obtain ⟨x13,ex13,hm⟩:=ob hm
 refine s_buildC wkP F rfl rfl rfl elem23 zero5 rfl rfl rfl rfl (by simp [Value.cells]) (by decide) H fun b11 w a H F=>?_
 replace H:St w0 w (HP.ow rByte 5 (some ⟨b11,0,none⟩) (([x12,x13]).length) ([x12,x13])::HP.blk b10 (cs9) 37::HP.ow rStr 9 none 0 ([]:List (List UInt8))::HP.ow rByte 5 none 0 ([]:List UInt8)::HP.sl R_api_Pair p8 c8 x7.1::HP.rc R_api_Answer cs9 x7.2::HP.rc R_api_Op ([.int .i64 (1),.string (txb ([47,97,47,98])),.string (txb ([])),.int .i64 (0),.int .i64 (0),.slice none (([]:List UInt8)).length 0]) (1,[47,97,47,98],[],0,0,([]:List UInt8))::HP.sl rByte none 0 ([]:List UInt8)::HP.blk b6 (cs5) 37::HP.ow rStr 9 none 0 ([]:List (List UInt8))::HP.ow rByte 5 none 0 ([]:List UInt8)::HP.sl R_api_Pair p4 c4 x3.1::HP.rc R_api_Answer cs5 x3.2::HP.rc R_api_Op ([.int .i64 (2),.string (txb ([47,97])),.string (txb ([])),.int .i64 (0),.int .i64 (0),.slice none (([]:List UInt8)).length 0]) (2,[47,97],[],0,0,([]:List UInt8))::HP.sl rByte none 0 ([]:List UInt8)::HP.sl R_api_Pair p2 c2 x1::l):=H.blkOw (R:=rByte) 0 rfl (fun gg=>⟨[[.int .u8 (120)],[.int .u8 (121)]],rfl,(congrArg (fun z=>[Value.int .u8 z]) (u8O_some ex12).symm),(congrArg (fun z=>[Value.int .u8 z]) (u8O_some ex13).symm),trivial⟩) (by simp)
 refine s_convSl wkP F rfl rfl rfl Tryz.underlying23 Tryz.underlying5 rfl rfl H 0 rfl fun w a H F=>?_
 refine sv F rfl (y_build F rfl rfl (cs:=[.int .i64 (3),.string (txb ([47,97,47,98])),.string (txb ([])),.int .i64 (2),.int .i64 (0),.slice (some ⟨b11,0,none⟩) ([x12,x13]).length (([x12,x13]).length)]) (by kernel_rfl)) fun a F=>?_
 replace H:=mk_api_Op H 3 ([47,97,47,98]) ([]) 2 0 0 rfl
 obtain ⟨x14,ex14,hm⟩:=ob hm
 refine sd F rfl ent16 (w_fDo ex14 (H.pm 17 [5,0,0,1,2,3,4,5,6,7,8,9,10,11,12,13,14,15,16] rfl:):) ?_;rintro _ w a ⟨p15,c15,cs16,rfl,H⟩ F
 refine bb [0,0,0] F H rfl fun a F=>?_
 replace H:=H.owNil rByte 5
 replace H:=H.owNil rStr 9
 refine s_allocA wkP F rfl rfl rfl agz37 rfl H fun b17 w a H F=>bb [0] F H rfl fun a F=>s_storeA wkP F rfl rfl agg37 rfl rfl rfl H 0 rfl (H.rcLen 4 rfl) rfl (H.rcFlat 4 rfl) fun w H=>?_
 replace H:=H.nf 22 rfl
 refine nb [0] F H rfl fun a F=>?_
 replace H:=H.owNil rByte 5
 refine sv F rfl (y_build F rfl rfl (cs:=[.int .i64 (5),.string (txb ([47,97,47,98])),.string (txb ([])),.int .i64 (0),.int .i64 (9),.slice none (([]:List UInt8)).length 0]) (by kernel_rfl)) fun a F=>?_
 replace H:=H.frz 0 rfl
 replace H:=mk_api_Op H 5 ([47,97,47,98]) ([]) 0 9 0 rfl
 obtain ⟨x18,ex18,hm⟩:=ob hm
 refine sd F rfl ent16 (w_fDo ex18 (H.pm 24 [5,0,0,1,2,3,4,5,6,7,8,9,10,11,12,13,14,15,16,17,18,19,20,21,22,23] rfl:):) ?_;rintro _ w a ⟨p19,c19,cs20,rfl,H⟩ F
 refine bb [0,0,0] F H rfl fun a F=>?_
 replace H:=H.owNil rByte 5
 replace H:=H.owNil rStr 9
 refine s_allocA wkP F rfl rfl rfl agz37 rfl H fun b21 w a H F=>bb [0] F H rfl fun a F=>s_storeA wkP F rfl rfl agg37 rfl rfl rfl H 0 rfl (H.rcLen 4 rfl) rfl (H.rcFlat 4 rfl) fun w H=>?_
 replace H:=H.nf 29 rfl
 refine nb [0] F H rfl fun a F=>?_
 replace H:=H.owNil rByte 5
 refine sv F rfl (y_build F rfl rfl (cs:=[.int .i64 (8),.string (txb ([47])),.string (txb ([])),.int .i64 (0),.int .i64 (0),.slice none (([]:List UInt8)).length 0]) (by kernel_rfl)) fun a F=>?_
 replace H:=H.frz 0 rfl
 replace H:=mk_api_Op H 8 ([47]) ([]) 0 0 0 rfl
 obtain ⟨x22,ex22,hm⟩:=ob hm
 refine sd F rfl ent16 (w_fDo ex22 (H.pm 31 [12,0,0,1,2,3,4,5,6,7,8,9,10,11,12,13,14,15,16,17,18,19,20,21,22,23,24,25,26,27,28,29,30] rfl:):) ?_;rintro _ w a ⟨p23,c23,cs24,rfl,H⟩ F
 refine bb [0,0,0] F H rfl fun a F=>?_
 replace H:=H.owNil rByte 5
 replace H:=H.owNil rStr 9
 refine s_allocA wkP F rfl rfl rfl agz37 rfl H fun b25 w a H F=>bb [0] F H rfl fun a F=>s_storeA wkP F rfl rfl agg37 rfl rfl rfl H 0 rfl (H.rcLen 4 rfl) rfl (H.rcFlat 4 rfl) fun w H=>?_
 replace H:=H.nf 36 rfl
 refine nb [0] F H rfl fun a F=>?_
 replace H:=H.owNil rByte 5
 refine sv F rfl (y_build F rfl rfl (cs:=[.int .i64 (7),.string (txb ([47,97])),.string (txb ([])),.int .i64 (0),.int .i64 (0),.slice none (([]:List UInt8)).length 0]) (by kernel_rfl)) fun a F=>?_
 replace H:=H.frz 0 rfl
 replace H:=mk_api_Op H 7 ([47,97]) ([]) 0 0 0 rfl
 obtain ⟨x26,ex26,hm⟩:=ob hm
 refine sd F rfl ent16 (w_fDo ex26 (H.pm 38 [19,0,0,1,2,3,4,5,6,7,8,9,10,11,12,13,14,15,16,17,18,19,20,21,22,23,24,25,26,27,28,29,30,31,32,33,34,35,36,37] rfl:):) ?_;rintro _ w a ⟨p27,c27,cs28,rfl,H⟩ F
 refine bb [0,0,0] F H rfl fun a F=>?_
 replace H:=H.owNil rByte 5
 replace H:=H.owNil rStr 9
 refine s_allocA wkP F rfl rfl rfl agz37 rfl H fun b29 w a H F=>bb [0] F H rfl fun a F=>s_storeA wkP F rfl rfl agg37 rfl rfl rfl H 0 rfl (H.rcLen 4 rfl) rfl (H.rcFlat 4 rfl) fun w H=>?_
 replace H:=H.nf 43 rfl
 refine nl (sr (bk [0] F H rfl ⟨fld37_0,trivial⟩ fun a F=>?_))
 have G:=F;replace H:=rc_api_Answer (H.pk 39 rfl);obtain ⟨p30,c31,p32,c33,rfl,J⟩:=H;have H:=J;have F:=G;clear G J
 refine bk [37000,0] F H rfl ⟨rfl,plain33,fld37_0,trivial⟩ fun a F=>?_
 have G:=F;replace H:=rc_api_Answer (H.pk 34 rfl);obtain ⟨p34,c35,p36,c37,rfl,J⟩:=H;have H:=J;have F:=G;clear G J
 refine bk [32000,0,0] F H rfl ⟨rfl,plain33,fld37_0,trivial⟩ fun a F=>?_
 have G:=F;replace H:=rc_api_Answer (H.pk 29 rfl);obtain ⟨p38,c39,p40,c41,rfl,J⟩:=H;have H:=J;have F:=G;clear G J
 refine bk [27000,0,0,0] F H rfl ⟨rfl,plain33,trivial⟩ fun a F=>?_
 rcases spP 58 F rfl hm with ⟨hg42,hm,F⟩ | ⟨hg42,hm,F⟩
 refine bk [2] F H rfl ⟨fld37_2,trivial⟩ fun a F=>g_onP F rfl rfl rfl rfl ?_
 have G:=F;replace H:=rc_api_Answer (H.pk 24 rfl);obtain ⟨p43,c44,p45,c46,rfl,J⟩:=H;have H:=J;have F:=G;clear G J
 refine bk [22002] F H rfl ⟨rfl,plain23,trivial⟩ fun a F=>g_onP F rfl rfl rfl rfl (sv F rfl (y_b2s F Tryz.underlying23 Tryz.underlying9 Tryz.underlying5 rfl rfl (H) 0 rfl) fun a F=>g_onP F rfl rfl rfl rfl (sv F rfl (y_eqT (l:=x18.2.2.2.1) (m:=[0,0,120,121]) F rfl rfl rfl) fun a F=>bb [0,0] F H rfl fun a F=>?_))
 rcases spP 64 F rfl hm with ⟨hg47,hm,F⟩ | ⟨hg47,hm,F⟩
 refine bk [3] F H rfl ⟨fld37_3,trivial⟩ fun a F=>g_onP F rfl rfl rfl rfl ?_
 have G:=F;replace H:=rc_api_Answer (H.pk 19 rfl);obtain ⟨p48,c49,p50,c51,rfl,J⟩:=H;have H:=J;have F:=G;clear G J
 refine bk [17003,0,0,0,0] F H rfl ⟨rfl,plain35,⟨_,Tryz.underlying35⟩,trivial⟩ fun a F=>?_
 rcases spP 70 F rfl hm with ⟨hg52,hm,F⟩ | ⟨hg52,hm,F⟩
 refine bk [3,17003] F H rfl ⟨fld37_3,rfl,plain35,trivial⟩ fun a F=>g_onP F rfl rfl rfl rfl ?_
 obtain ⟨x53,ex53,hm⟩:=ob hm
 obtain ⟨b54,o54,hp54,cs55,H⟩:=H.slE 1 rfl ex53
 obtain rfl:=H.rcStr 1 rfl
 replace H:=H.dp 1 rfl
 refine sv F rfl (y_idxS F elem35 rfl rfl rfl hp54 ex53) fun a F=>bk [0] F H rfl ⟨rfl,plain9,trivial⟩ fun a F=>g_onP F rfl rfl rfl rfl (sv F rfl (y_eqT (l:=x53) (m:=[97]) F rfl rfl rfl) fun a F=>bb [0,0] F H rfl fun a F=>?_)
 rcases spP 77 F rfl hm with ⟨hg56,hm,F⟩ | ⟨hg56,hm,F⟩
 refine bk [0] F H rfl ⟨fld37_0,trivial⟩ fun a F=>g_onP F rfl rfl rfl rfl ?_
 have G:=F;replace H:=rc_api_Answer (H.pk 15 rfl);obtain ⟨p57,c58,p59,c60,rfl,J⟩:=H;have H:=J;have F:=G;clear G J
 refine bk [13000,0,0,0] F H rfl ⟨rfl,plain33,trivial⟩ fun a F=>nl (wr ?_)
 cases hm
 refine x_ret1 F rfl rfl ?_
 exact ⟨_,rfl,rfl,(H.pm 50 [] rfl:)⟩
 refine bb (List.replicate 5 0) F H rfl fun a F=>nl (wr ?_)
 cases hm
 refine x_ret1 F rfl rfl ?_
 exact ⟨_,rfl,rfl,(H.pm 49 [] rfl:)⟩
 refine bb (List.replicate 12 0) F H rfl fun a F=>nl (wr ?_)
 cases hm
 refine x_ret1 F rfl rfl ?_
 exact ⟨_,rfl,rfl,(H.pm 48 [] rfl:)⟩
 refine bb (List.replicate 18 0) F H rfl fun a F=>nl (wr ?_)
 cases hm
 refine x_ret1 F rfl rfl ?_
 exact ⟨_,rfl,rfl,(H.pm 47 [] rfl:)⟩
 refine bb (List.replicate 24 0) F H rfl fun a F=>nl (wr ?_)
 cases hm
 refine x_ret1 F rfl rfl ?_
 exact ⟨_,rfl,rfl,(H.pm 46 [] rfl:)⟩
theorem ent26:En Tryz.prog 26:=enters Tryz.func26 (by kernel_rfl) rfl
theorem ent24:En Tryz.prog 24:=enters Tryz.func24 (by kernel_rfl) rfl
theorem w_lGreat {ps:List T_api_Pair} {o:T_api_Op} {p1:Option Addr} {c1:Nat} {cs2:List Value} {w0 w:World} {l:List HP}  {r:Bool} (hm:lGreat ps o=some r) (H:St w0 w (HP.sl R_api_Pair p1 c1 ps::HP.rc R_api_Op cs2 o::l)) :
  Calls Tryz.prog 11 [.slice p1 (ps).length c1,.agg cs2.toArray].toArray w (fun e w'=>∃ v,e=.returned v∧v=.bool (r)∧St w0 w' (l)):=by
 unfold lGreat at hm
 refine x_enter Tryz.func11 rfl rfl rfl ?_
 intro a F
 refine sr (s_boxA wkP F rfl rfl rfl rfl rfl H fun b3 w a H F=>bb [0] F H rfl fun a F=>?_)
 replace H:=H.nf 3 rfl
 refine nb [0] F H rfl fun a F=>?_
 obtain ⟨x4,ex4,hm⟩:=ob hm
 refine sd F rfl ent26 (w_rGreat ex4 (H.pm 3 [1,0,1,2] rfl:):) ?_;rintro _ w a ⟨rfl,H⟩ F
 refine bb [0] F H rfl fun a F=>?_
 by_cases hg5:x4=true
 replace hm:=ifT hg5 hm
 replace F:=F.vT 7 hg5 rfl
 refine bb (List.replicate 9 0) F H rfl fun a F=>?_
 replace H:=H.nf 3 rfl
 refine nl (wr ?_)
 cases hm
 refine x_ret1 F rfl rfl ?_
 exact ⟨_,rfl,rfl,(H.pm 3 [] rfl:)⟩
 replace hm:=ifF hg5 hm
 replace F:=F.vF 7 hg5 rfl
 refine bk (List.replicate 5 0) F H rfl ⟨⟨_,Tryz.underlying22⟩,trivial⟩ fun a F=>?_
 rcases spP 12 F rfl hm with ⟨hg6,hm,F⟩ | ⟨hg6,hm,F⟩
 refine bb [0,0,0,0] F H rfl fun a F=>?_
 replace H:=H.nf 3 rfl
 refine nl (wr ?_)
 cases hm
 refine x_ret1 F rfl rfl ?_
 exact ⟨_,rfl,rfl,(H.pm 3 [] rfl:)⟩
 refine bk [999] F H rfl ⟨rfl,(aggn agg25 (H.rcLen 2 rfl)),trivial⟩ fun a F=>g_onP F rfl rfl rfl rfl ?_
 obtain ⟨x7,ex7,hm⟩:=ob hm
 refine sd F rfl ent24 (w_rGreatOp ex7 (H.pm 3 [2,0,1,2] rfl:):) ?_;rintro _ w a ⟨rfl,H⟩ F
 refine bb [0,0] F H rfl fun a F=>?_
 replace H:=H.nf 3 rfl
 refine nl (wr ?_)
 cases hm
 refine x_ret1 F rfl rfl ?_
 exact ⟨_,rfl,rfl,(H.pm 3 [] rfl:)⟩
end Go.Proofs.YthcjjjnphgopjaaGreatDoor
