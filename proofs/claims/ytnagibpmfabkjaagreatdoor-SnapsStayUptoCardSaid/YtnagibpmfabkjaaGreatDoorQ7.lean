/- Texts FilesC, SnA. -/
import Derived.Test.YtnagibpmfabkjaaGreatDoorQ6
set_option linter.unusedSimpArgs false
set_option linter.unusedVariables false
namespace Go.Proofs.YtnagibpmfabkjaaGreatDoor
open Go.RowKit Go.Tri
set_option maxRecDepth 100000
set_option maxHeartbeats 4000000
theorem elem24:ElemT Tryz.prog 24 103 2 48 (.agg [.slice none 0 0,.slice none 0 0].toArray):=⟨Tryz.underlying24,by kernel_rfl,by kernel_rfl,by decide⟩
theorem agz103:AggT Tryz.prog 103 2 ([.slice none (([]:List UInt8)).length 0,.slice none (([]:List UInt8)).length 0]):=⟨by rw [Tryz.underlying103];rfl,by kernel_rfl,by kernel_rfl⟩
theorem ent112:En Tryz.prog 112:=enters Tryz.func112 (by kernel_rfl) rfl
theorem fld103_1:FieldT Tryz.prog 103 1 1:=by unfold FieldT;rw [Tryz.underlying103];kernel_rfl
theorem plain5:Plain Tryz.prog 5:=by unfold Plain;rw [Tryz.underlying5];rfl
theorem w_fRead {list:List T_api_Pair} {p1:Option Addr} {c1:Nat} {w0 w:World} {l:List HP}  {r:((List UInt8)→Option T_files_file)} (hm:fRead list=some r) (H:St w0 w (HP.sl R_api_Pair p1 c1 list::l)) :
  Calls Tryz.prog 73 [.slice p1 (list).length c1].toArray w (fun e w'=>∃ v,e=.returned v∧∃ (m2:Nat),v=.map (some m2)∧St w0 w' (HP.mm (some m2) ekStr true R_files_file (fun _=>True) r::l)):=by
 unfold fRead at hm
 refine x_enter Tryz.func73 rfl rfl rfl ?_
 intro a F
 refine sb [0] F H rfl fun a F=>nl (sr (s_mmNew ekStr true R_files_file (fun _=>True) wkP F rfl rfl rfl rfl H fun m3 w a H F=>?_))
 refine bb [0] F H rfl fun a F=>?_
 replace H:=H.nf 2 rfl
 refine nl (sr (s_mmNew ekStr false rHdr (fun _=>True) wkP F rfl rfl rfl rfl H fun m4 w a H F=>?_))
 replace H:=H.mwNil 5
 refine bb [0] F H rfl fun a F=>?_
 replace H:=H.nf 3 rfl
 refine nl (sq (sr (bk [0,0,0] F H rfl ⟨⟨_,Tryz.underlying24⟩,trivial⟩ fun a F=>?_)))
 refine nl (xm0 3 [3,4] [] F H hm rfl rfl (fun r528 z=>z) (fun r528 z=>HP.mw 5 (some m4) ekStr (fun _=>True) r528.1::HP.mm (some m3) ekStr true R_files_file (fun _=>True) r528.2::z) (fun r528 hm=>?_) (fun r528 a w hm F H=>?_))
 refine bl (xl0 3 [3,4,16,17] [2] F H hm rfl rfl (fun (s877:((List UInt8)→Option (List UInt8))×((List UInt8)→Option T_files_file)×Int) z=>(18,.int .i64 (s877.2.2))::z) (fun s877 z=>HP.mw 5 (some m4) ekStr (fun _=>True) s877.1::HP.mm (some m3) ekStr true R_files_file (fun _=>True) s877.2.1::z) ⟨F.sl rfl,H⟩ (fun s877 a w o F H hm=>?_))
 refine sb [0] F H rfl fun a F=>nl (sq (cPm F rfl hm (fun hg878 hm=>?_) (fun hg878 hm=>?_)))
 refine sk (ct (sq (xm0 3 [3,4,16,17,18] [2] F H hm rfl rfl (fun r965 z=>z) (fun r965 z=>HP.mw 5 (some m4) ekStr (fun _=>True) r965.1::HP.mm (some m3) ekStr true R_files_file (fun _=>True) r965.2::z) (fun r965 hm=>?_) (fun r965 a w hm F H=>?_))))
 refine bl (sr ?_)
 obtain ⟨x966,ex966,hm⟩:=ob hm
 obtain ⟨b967,o967,hp967⟩:=H.slP 2 rfl (idxO_some ex966).2
 obtain ⟨cs968,hcl968,H⟩:=H.slEl 2 rfl hp967 (idxO_some ex966).2
 clear hcl968
 refine sv F rfl (y_idxS F elem24 rfl rfl rfl hp967 ex966) fun a F=>bk [999] F H rfl ⟨rfl,(aggn agg103 (H.rcLen 1 rfl)),trivial⟩ fun a F=>?_
 replace H:=H.owNil rByte 5
 replace H:=H.owNil rByte 5
 refine s_allocA wkP F rfl rfl rfl agz103 rfl H fun b969 w a H F=>?_
 refine s_storeA wkP F rfl rfl agg103 rfl rfl rfl H 0 rfl (H.rcLen 4 rfl) rfl (H.rcFlat 4 rfl) fun w H=>?_
 replace H:=H.nf 8 rfl
 refine nb [0,0] F H rfl fun a F=>nl (sq (sr (bk [0] F H rfl ⟨fld103_0,trivial⟩ fun a F=>?_)))
 have G:=F;replace H:=rc_api_Pair (H.pk 4 rfl);obtain ⟨p970,c971,p972,c973,rfl,J⟩:=H;have H:=J;have F:=G;clear G J
 refine bk [2000,0,0] F H rfl ⟨rfl,plain29,⟨_,Tryz.underlying29⟩,trivial⟩ fun a F=>nl (xm0 9 [3,4,6,16,17,18] [0,1,2,3,4,5,6,7,8] F H hm rfl rfl (fun r979 z=>(7,.string (txb (r979.1)))::(8,.string (txb (r979.2)))::z) (fun r979 z=>z) (fun r979 hm=>?_) (fun r979 a w hm F H=>?_))
 refine cPm F rfl hm (fun hg980 hm=>?_) (fun hg980 hm=>?_)
 obtain ⟨x982,ex982,hm⟩:=ob hm
 have hc981:=H.slCap 0 rfl
 replace H:=H.slSubN 1 rfl 0 rfl ex982
 obtain ⟨x984,ex984,hm⟩:=ob hm
 have hc983:=H.slCap 1 rfl
 replace H:=H.slSubN 1 rfl 1 rfl ex984
 refine qr H (by kernel_rfl) (by kernel_rfl) ?_
 refine qbk [0,4000] F rfl ⟨fld103_0,rfl,plain29,trivial⟩ fun a F=>?_
 refine qv F rfl (fun u hu=>y_slH F elem29 rfl rfl rfl ex982 hc981) fun a F=>?_
 refine qv F rfl (fun u hu=>y_b2s F Tryz.underlying29 Tryz.underlying9 Tryz.underlying5 rfl rfl (hu) 1 rfl) fun a F=>?_
 refine qbk [0,4000] F rfl ⟨fld103_0,rfl,plain29,trivial⟩ fun a F=>?_
 refine qv F rfl (fun u hu=>y_slL F elem29 rfl rfl rfl ex984 hc983) fun a F=>?_
 refine qv F rfl (fun u hu=>y_b2s F Tryz.underlying29 Tryz.underlying9 Tryz.underlying5 rfl rfl (hu) 0 rfl) fun a F=>?_
 refine qb [0,0] F rfl fun a F=>?_
 refine q_nil fun w H=>?_
 cases hm
 refine ct ?_
 exact ⟨F.sl rfl,(H.pm 11 [2,3,4,5,6,7,8,9,10] rfl:)⟩
 refine sk ?_
 cases hm
 refine ct ?_
 exact ⟨F.sl rfl,H⟩
 refine ct (xm0 9 [3,4,16,17,18] [0,1,2,3,4,5,8] F H hm rfl rfl (fun r1018 z=>z) (fun r1018 z=>HP.mw 5 (some m4) ekStr (fun _=>True) r1018.1::HP.mm (some m3) ekStr true R_files_file (fun _=>True) r1018.2::z) (fun r1018 hm=>?_) (fun r1018 a w hm F H=>?_))
 refine bl (sb [0] F H rfl fun a F=>?_)
 refine sv F rfl (y_eqT (l:=r979.1) (m:=[99]) F rfl rfl rfl) fun a F=>bb [0] F H rfl fun a F=>?_
 refine nl (xm0 9 [3,4,16,17,18] [0,1,2,3,4,5,8] F H hm rfl rfl (fun r1035 z=>z) (fun r1035 z=>HP.mw 5 (some m4) ekStr (fun _=>True) r1035.1::HP.mm (some m3) ekStr true R_files_file (fun _=>True) r1035.2::z) (fun r1035 hm=>?_) (fun r1035 a w hm F H=>?_))
 refine cPm F rfl hm (fun hg1036 hm=>?_) (fun hg1036 hm=>?_)
 refine sb [0] F H rfl fun a F=>?_
 obtain ⟨x1037,ex1037,hm⟩:=ob hm
 refine sd F rfl ent112 (w_m_strings_Cut ex1037 H:) ?_;rintro _ w a ⟨rfl,H⟩ F
 refine bb (List.replicate 7 0) F H rfl fun a F=>?_
 replace H:=H.nf 9 rfl
 refine nl (rl (bb [0,0,0,0] F H rfl fun a F=>?_))
 obtain ⟨hm1038,q1038,c1038,hh1038,H⟩:=(H.pm 9 [6,0,1,2,3,4,5,7,8] rfl:).mwTake x1037.1
 refine sv F rfl (y_mmGetH F Tryz.underlying175 (keyStr Tryz.underlying9) (fun w=>zero29.run w) rfl H 2 rfl rfl (k:=x1037.1) rfl trivial hh1038) fun a F=>bk [1,5001] F H rfl ⟨fld103_1,rfl,plain29,trivial⟩ fun a F=>?_
 obtain ⟨x1040,ex1040,hm⟩:=ob hm
 refine s_app wkP F rfl rfl rfl rfl rfl rfl elem29 rfl ex1040 H 0 4 rfl rfl fun p1039 c1039 w a H F=>?_
 refine s_mmSet wkP F rfl rfl Tryz.underlying175 (keyStr Tryz.underlying9) rfl H 2 rfl rfl (k:=x1037.1) rfl (cs:=[.slice p1039 (x1040).length c1039]) rfl trivial (v:=(p1039,x1040.length,c1039)) (fun gg=>rfl) fun w H=>?_
 replace H:=H.mwPut
 replace H:=H.nf 9 rfl
 refine lz ?_
 cases hm
 refine ct ?_
 exact ⟨F.sl rfl,(H.pm 9 [0,7,1,2,3,4,5,6,8] rfl:)⟩
 refine sb [0] F H rfl fun a F=>sv F rfl (y_eqT (l:=r979.1) (m:=[110]) F rfl rfl rfl) fun a F=>?_
 refine bb [0] F H rfl fun a F=>nl (xm0 9 [3,4,16,17,18] [0,1,2,3,4,5,6,8] F H hm rfl rfl (fun r1046 z=>z) (fun r1046 z=>HP.mm (some m3) ekStr true R_files_file (fun _=>True) r1046::z) (fun r1046 hm=>?_) (fun r1046 a w hm F H=>?_))
 refine cPm F rfl hm (fun hg1047 hm=>?_) (fun hg1047 hm=>?_)
 refine rl (bk [0,0,1,2001,0,0,0] F H rfl ⟨fld103_1,rfl,plain29,⟨_,Tryz.underlying29⟩,trivial⟩ fun a F=>?_)
 rcases spP 60 F rfl hm with ⟨hg1048,hm,F⟩ | ⟨hg1048,hm,F⟩
 refine bk [1,2001] F H rfl ⟨fld103_1,rfl,plain29,trivial⟩ fun a F=>?_
 refine g_onP F rfl rfl rfl rfl ?_
 obtain ⟨x1049,ex1049,hm⟩:=ob hm
 obtain ⟨b1050,o1050,hp1050⟩:=H.slP 1 rfl (idxO_some ex1049).2
 obtain ⟨cs1051,hcl1051,H⟩:=H.slEl 1 rfl hp1050 (idxO_some ex1049).2
 obtain rfl:=H.rcB 1 rfl
 replace H:=H.dp 1 rfl
 clear hcl1051
 refine sv F rfl (y_idxS F elem29 rfl rfl rfl hp1050 ex1049) fun a F=>bk [0,0,0] F H rfl ⟨rfl,plain5,trivial⟩ fun a F=>?_
 replace H:=H.owNil rByte 5
 refine sv F rfl (y_build F rfl rfl (cs:=[.bool (decide (((x1049).toNat:Int)=100)),.slice none (([]:List UInt8)).length 0]) (by kernel_rfl)) fun a F=>?_
 replace H:=H.frz 0 rfl
 refine s_mmSet wkP F rfl rfl Tryz.underlying134 (keyStr Tryz.underlying9) rfl H 9 rfl rfl (k:=r979.2) rfl (cs:=[.bool (decide (((x1049).toNat:Int)=100)),.slice none (([]:List UInt8)).length 0]) rfl trivial (v:=(decide (((x1049).toNat:Int)=100),([]:List UInt8))) (fun gg=>⟨_,_,rfl,rfl,⟨_,_,rfl,(gg 0 _ rfl).choose_spec⟩⟩) fun w H=>?_
 replace H:=H.nf 11 rfl
 refine lz ?_
 cases hm
 refine ct ?_
 exact ⟨F.sl rfl,(H.pm 11 [9,2,3,4,5,6,7,8,10] rfl:)⟩
 refine bb (List.replicate 6 0) F H rfl fun a F=>?_
 replace H:=H.owNil rByte 5
 refine sv F rfl (y_build F rfl rfl (cs:=[.bool false,.slice none (([]:List UInt8)).length 0]) (by kernel_rfl)) fun a F=>?_
 replace H:=H.frz 0 rfl
 refine s_mmSet wkP F rfl rfl Tryz.underlying134 (keyStr Tryz.underlying9) rfl H 8 rfl rfl (k:=r979.2) rfl (cs:=[.bool false,.slice none (([]:List UInt8)).length 0]) rfl trivial (v:=(false,([]:List UInt8))) (fun gg=>⟨_,_,rfl,rfl,⟨_,_,rfl,(gg 0 _ rfl).choose_spec⟩⟩) fun w H=>?_
 replace H:=H.nf 10 rfl
 refine lz ?_
 cases hm
 refine ct ?_
 exact ⟨F.sl rfl,(H.pm 10 [8,1,2,3,4,5,6,7,9] rfl:)⟩
 refine sk ?_
 cases hm
 refine ct ?_
 exact ⟨F.sl rfl,(H.pm 9 [7,0,1,2,3,4,5,6,8] rfl:)⟩
 cases hm
 refine ct ?_
 exact ⟨F.sl rfl,(H.pm 9 [7,0,1,2,3,4,5,6,8] rfl:)⟩
 refine bn ?_
 cases hm
 refine ct ?_
 exact ⟨F.sl rfl,H⟩
 refine bn ?_
 cases hm
 refine ct ?_
 exact ⟨F.sl rfl,(H.pm 9 [0,1,8] rfl:)⟩
 refine ct (rl (bb [0,0] F H rfl fun a F=>?_))
 refine lz (ct ?_);cases hm
 exact ⟨_,rfl,⟨F.sl rfl,H⟩⟩
 refine ex (cx (cx ?_));cases hm;refine ⟨_,rfl,?_⟩;rintro rfl
 refine ch (ct ?_)
 exact ⟨F.sl rfl,(H.pm 3 [0,1] rfl:)⟩
 refine ct (sq (sb [0] F H rfl fun a F=>?_))
 replace H:=H.mwFrz
 obtain ⟨raw1052,cl1052,es1052,hM1052,hE1052,H⟩:=H.moOpen 1 rfl
 refine s_rngM wkP F rfl rfl rfl Tryz.underlying134 rfl H 2 rfl rfl fun r1052 w a H F=>?_
 replace H:=((H.pm 4 [3,1,0,2] rfl:)).mrStart hM1052
 replace H:=H.nf 3 rfl
 refine nl (bl ?_)
 have hmM1109:=hm;clear hm
 refine x_loopM es1052 hmM1109 (fun (s1109:((List UInt8)→Option T_files_file)) vis1109 aa ww=>Fr ⟨86,[]⟩ aa [(3,.map (some m3)),(4,.map (some m4)),(70,.pointer (some ⟨r1052,0,none⟩))]∧St w0 ww (HP.mr (some m3) ekStr true R_files_file (fun _=>True) es1052 raw1052 cl1052 (vis1109) s1109::HP.obj r1052 (mit (some m3) cl1052 (bornsOf raw1052 (vis1109)))::HP.mm (some m4) ekStr false (rSl rByte) (fun _=>True) r528.1::l)) ⟨F.sl rfl,H⟩ ?_
 clear F H
 rintro s1109 vis1109 a w hr1109 ⟨F,H⟩
 refine sr ?_
 replace H:=(H.pm 3 [1,0,2] rfl:)
 refine s_nxtR wkP F rfl rfl rfl rfl rfl hr1109.ok H (fun hall1110 w a H F=>?_) (fun q1110 k1110 cs1110 v1110 hq1110 hn1110 w a H F=>?_)
 have hm:=elimL (hr1109.done hE1052 hall1110 hmM1109)
 refine bb [0] F H rfl fun a F=>nl (sq (cF F rfl ?_))
 refine ex (cx (cx ?_))
 replace H:=(H.pm 3 [1,0,2] rfl:).mrMm
 refine ch (ct (sb [0,0] F H rfl fun a F=>?_))
 refine nl (wr ?_)
 cases hm
 refine x_ret1 F rfl rfl ?_
 exact ⟨_,rfl,m3,rfl,(H.pm 3 [0] rfl:)⟩
 obtain ⟨o1110,hm,hs1110,hx1110⟩:=hr1109.step hE1052 hq1110 hn1110 hmM1109
 refine bb [0] F H rfl fun a F=>nl (sq (cT F rfl ?_))
 refine sk (ct (xm0 3 [3,4,70] [0,2] F H hm rfl rfl (fun r1124 z=>z) (fun r1124 z=>HP.mr (some m3) ekStr true R_files_file (fun _=>True) es1052 raw1052 cl1052 (vis1109++[q1110]) r1124::z) (fun r1124 hm=>?_) (fun r1124 a w hm F H=>?_)))
 refine bl (sr ?_)
 obtain ⟨hk1125,H⟩:=(H.pm 3 [1,0,2] rfl:).mrEl hq1110 hn1110
 replace H:=(H.pm 4 [2,1,0,3] rfl:)
 refine sv F rfl (y_entR (agg:=true) (ek:=ekStr) F rfl rfl hq1110 hn1110 H) fun a F=>?_
 replace H:=(H.pm 4 [1,0,2,3] rfl:).mrSkip q1110
 refine bb [0,0] F H rfl fun a F=>?_
 replace H:=H.owNil rByte 5
 refine s_allocA wkP F rfl rfl rfl agz132 rfl H fun b1126 w a H F=>?_
 refine bb [0] F H rfl fun a F=>?_
 refine s_storeA wkP F rfl rfl agg132 rfl rfl rfl H 0 rfl (H.rcLen 4 rfl) rfl (H.rcFlat 4 rfl) fun w H=>?_
 replace H:=H.nf 6 rfl
 refine nl (sr (bk [0] F H rfl ⟨fld132_0,trivial⟩ fun a F=>?_))
 have G:=F;replace H:=rc_files_file (H.pk 4 rfl);obtain ⟨p1127,c1128,rfl,J⟩:=H;have H:=J;have F:=G;clear G J
 refine bk [1000,0] F H rfl ⟨rfl,plain4,trivial⟩ fun a F=>nl (xm0 6 [3,4,70] [0,1,2,4,5] F H hm rfl rfl (fun r1133 z=>z) (fun r1133 z=>HP.mr (some m3) ekStr true R_files_file (fun _=>True) es1052 raw1052 cl1052 (vis1109++[q1110]) r1133::z) (fun r1133 hm=>?_) (fun r1133 a w hm F H=>?_))
 refine cB F rfl (fun hg1134=>?_) (fun hg1134=>?_)
 replace hm:=ifT hg1134 hm
 refine rl (bb [0,0,0,0] F H rfl fun a F=>?_)
 obtain ⟨es1135,H⟩:=H.mmOpen 5 rfl
 obtain ⟨cs1136,hcs1136,H⟩:=H.mxGet 5 rfl k1110 (zc:=[Value.slice none 0 0]) (z0:=[]) (fun _=>rSl_nil _ _)
 have G:=F;obtain ⟨p1137,c1137,rfl,H⟩:=H.rcSl 0 rfl;have F:=G;clear G
 replace H:=H.dp 1 rfl
 refine sv F rfl (y_mxGet (agg:=false) (zc:=[Value.slice none 0 0]) F Tryz.underlying175 (keyStr Tryz.underlying9) (fun w=>zero29.run w) rfl H 6 rfl rfl (k:=k1110) rfl trivial hcs1136) fun a F=>sv F rfl (y_build F rfl rfl (cs:=[.bool false,.slice p1137 (((r528.1 k1110).getD [])).length c1137]) (by kernel_rfl)) fun a F=>?_
 replace H:=(H.pm 7 [4,0,1,2,3,5,6] rfl:)
 refine s_mrSet wkP F rfl rfl Tryz.underlying134 (keyStr Tryz.underlying9) rfl hq1110 H rfl rfl (cs:=[.bool false,.slice p1137 (((r528.1 k1110).getD [])).length c1137]) rfl (v:=(false,((r528.1 k1110).getD []))) (fun gg=>⟨_,_,rfl,rfl,⟨_,_,rfl,(gg 0 _ rfl).choose_spec⟩⟩) fun w H=>?_
 refine lz ?_
 replace H:=H.mxShut 6 rfl
 cases hm
 refine ct ?_
 exact ⟨F.sl rfl,(H.pm 7 [0,2,3,4,5,6] rfl:)⟩
 replace hm:=ifF (nT hg1134) hm
 refine sk ?_
 cases hm
 refine ct ?_
 exact ⟨F.sl rfl,(H.pm 6 [3,0,1,2,4,5] rfl:)⟩
 refine bn ?_
 cases hm
 refine ct ?_
 exact ⟨F.sl rfl,(H.pm 6 [0,4,5] rfl:)⟩
 refine ct ?_;cases hm
 exact ⟨_,q1110,hs1110 _ rfl,⟨F.sl rfl,H⟩⟩
theorem zero24:Zero1 Tryz.prog 24 (.slice none 0 0):=⟨by kernel_rfl,rfl⟩
theorem plain24:Plain Tryz.prog 24:=by unfold Plain;rw [Tryz.underlying24];rfl
theorem ent107:En Tryz.prog 107:=enters Tryz.func107 (by kernel_rfl) rfl
theorem ent104:En Tryz.prog 104:=enters Tryz.func104 (by kernel_rfl) rfl
theorem ent97:En Tryz.prog 97:=enters Tryz.func97 (by kernel_rfl) rfl
theorem ent99:En Tryz.prog 99:=enters Tryz.func99 (by kernel_rfl) rfl
theorem ent105:En Tryz.prog 105:=enters Tryz.func105 (by kernel_rfl) rfl
theorem ent134:En Tryz.prog 134:=enters Tryz.func134 (by kernel_rfl) rfl
theorem w_sPairs {s:(List UInt8)→Option T_files_file} {q1:Option Nat} {w0 w:World} {l:List HP}  {r:(List T_api_Pair)} (hm:sPairs s=some r) (H:St w0 w (HP.mm q1 ekStr true R_files_file (fun _=>True) s::l)) :
  Calls Tryz.prog 68 [.map q1].toArray w (fun e w'=>∃ v,e=.returned v∧∃ (p2:Option Addr) (c2:Nat),v=.slice p2 (r).length c2∧St w0 w' (HP.ow R_api_Pair 103 p2 c2 r::HP.mm q1 ekStr true R_files_file (fun _=>True) s::l)):=by
 unfold sPairs at hm
 refine xk_enter Tryz.func68 rfl rfl rfl ?_
 intro a F
 replace H:=H.mks0
 refine sr ?_
 replace H:=H.owNil R_api_Pair 103
 refine s_alloc1 wkP F rfl rfl rfl zero24 rfl H fun b3 w a H F=>?_
 replace H:=H.nf 4 rfl
 refine nl (sq (sb [0] F H rfl fun a F=>?_))
 obtain ⟨raw4,cl4,es4,hM4,hE4,H⟩:=H.moOpen 3 rfl
 refine s_rngM wkP F rfl rfl rfl Tryz.underlying134 rfl H 4 rfl rfl fun r4 w a H F=>?_
 replace H:=H.nf 6 rfl
 refine nl (bl ?_)
 have hmM733:=hm;clear hm
 refine x_loopM es4 hmM733 (fun (s733:(List T_api_Pair)) vis733 aa ww=>∃ (Ds734:List Nat) (p735:Option Addr) (c735:Nat),Fr ⟨67,marks Ds734⟩ aa [(2,.pointer (some ⟨b3,0,none⟩)),(10,.pointer (some ⟨r4,0,none⟩))]∧St w0 ww (HP.obj r4 (mit q1 cl4 (bornsOf raw4 (vis733)))::HP.es R_files_file (fun _=>True) es4 s::HP.blk b3 ([.slice p735 (s733).length c735]) 24::HP.mks Ds734::HP.mo q1 raw4 cl4::HP.ow R_api_Pair 103 p735 c735 s733::l)) ⟨[],none,0,F.sl rfl,(H.pm 6 [0,1,2,4,5,3] rfl:)⟩ ?_
 clear F H
 rintro s733 vis733 a w hr733 ⟨Ds734,p735,c735,F,H⟩
 refine sr (s_nxtM wkP F rfl rfl rfl rfl rfl hM4 hr733.ok H 4 0 rfl rfl rfl (fun hall736 w a H F=>?_) (fun q736 k736 cs736 v736 hq736 hn736 w a H F=>?_))
 have hm:=elimL (hr733.done hE4 hall736 hmM733)
 refine bb [0] F H rfl fun a F=>nl (sq (cF F rfl ?_))
 refine ex (cx (cx ?_))
 replace H:=H.moMm 4 1 hM4 rfl rfl
 refine ch (ct (sr (bk [2000] F H rfl ⟨rfl,plain24,trivial⟩ fun a F=>?_)))
 obtain ⟨x737,ex737,hm⟩:=ob hm
 refine sd F rfl ent107 (w_sortPs ex737 (H.pm 6 [5,0,1,2,3,4] rfl:):) ?_;rintro _ w a ⟨rfl,hl738,H⟩ F
 replace H:St w0 w (HP.ow R_api_Pair 103 p735 c735 x737::HP.obj r4 (mit q1 cl4 (bornsOf raw4 (vis733)))::HP.es R_files_file (fun _=>True) es4 s::HP.blk b3 ([.slice p735 (x737).length c735]) 24::HP.mks Ds734::HP.mm q1 ekStr true R_files_file (fun _=>True) s::l):=(by rw [hl738];exact H)
 replace F:=F.bool (k:=64) (u:=.slice p735 (x737).length c735) rfl (by rw [hl738])
 refine nl (sr (bk [3000] F H rfl ⟨rfl,plain24,trivial⟩ fun a F=>?_))
 refine s_st1 wkP F rfl rfl zero24 rfl rfl rfl rfl rfl H 3 rfl rfl fun w H=>?_
 replace H:=H.nf 6 rfl
 refine nl (wr ?_)
 cases hm
 refine xk_resC1 F rfl ((H.pm 6 [4,0,1,2,3,5] rfl:)) (fun w H=>⟨_,rfl,ld1 plain24 ((H.blk 3 rfl).cell _)⟩) fun w H=>?_
 exact ⟨_,rfl,p735,c735,rfl,(H.pm 5 [0,4] rfl:)⟩
 obtain ⟨o736,hm,hs736,hx736⟩:=hr733.step hE4 hq736 hn736 hmM733
 refine bb [0] F H rfl fun a F=>nl (sq (cT F rfl ?_))
 refine sk (ct ?_)
 obtain ⟨r917,er917,hm917⟩:=ob hm;clear hm;revert er917;intro hm
 refine x_mid (fun aa ww=>∃ (Ds918:List Nat) (p919:Option Addr) (c919:Nat),Fr ⟨67,marks Ds918⟩ aa [(2,.pointer (some ⟨b3,0,none⟩)),(10,.pointer (some ⟨r4,0,none⟩))]∧St w0 ww (HP.obj r4 (mit q1 cl4 (bornsOf raw4 (vis733++[q736])))::HP.es R_files_file (fun _=>True) es4 s::HP.blk b3 ([.slice p919 (r917).length c919]) 24::HP.mks Ds918::HP.mo q1 raw4 cl4::HP.ow R_api_Pair 103 p919 c919 r917::l)) ?_ ?_
 refine bl (sr ?_)
 obtain ⟨hk920,H⟩:=H.esEl 1 rfl hq736
 refine sv F rfl (y_entM (agg:=true) (ek:=ekStr) F rfl rfl hM4 hq736 H 5 1 rfl rfl rfl) fun a F=>bb [0,0] F H rfl fun a F=>?_
 refine s_alloc1 wkP F rfl rfl rfl zero9 rfl H fun b921 w a H F=>?_
 replace H:=H.owNil rByte 5
 refine s_allocA wkP F rfl rfl rfl agz132 rfl H fun b922 w a H F=>?_
 refine s_st1 wkP F rfl rfl zero9 rfl rfl rfl rfl rfl H 2 rfl rfl fun w H=>?_
 refine s_storeA wkP F rfl rfl agg132 rfl rfl rfl H 0 rfl (H.rcLen 3 rfl) rfl (H.rcFlat 3 rfl) fun w H=>?_
 replace H:=H.nf 10 rfl
 refine nl (sr (bk [2000] F H rfl ⟨rfl,plain9,trivial⟩ fun a F=>?_))
 obtain ⟨x923,ex923,hm⟩:=ob hm
 refine sv F rfl (y_addO F rfl rfl rfl ex923) fun a F=>?_
 refine s_cvT (e:=5) (xs:=x923) wkP F rfl rfl rfl Tryz.underlying9 Tryz.underlying29 Tryz.underlying5 rfl rfl H fun b924 c924 w a H F=>?_
 refine bb [0] F H rfl fun a F=>?_
 replace H:=H.nf 11 rfl
 refine nl (sq (sr (bk [0] F H rfl ⟨fld132_0,trivial⟩ fun a F=>?_)))
 have G:=F;replace H:=rc_files_file (H.pk 4 rfl);obtain ⟨p925,c926,rfl,J⟩:=H;have H:=J;have F:=G;clear G J
 refine bk [2000] F H rfl ⟨rfl,plain4,trivial⟩ fun a F=>nl (cB F rfl (fun hg927=>?_) (fun hg927=>?_))
 replace hm:=ifT hg927 hm
 refine sr (bk [7000,0] F H rfl ⟨rfl,plain24,trivial⟩ fun a F=>?_)
 obtain ⟨x929,ex929,hm⟩:=ob hm
 refine s_buildC wkP F rfl rfl rfl elem29 zero5 rfl rfl rfl rfl (by simp [Value.cells]) (by decide) H fun b928 w a H F=>?_
 replace H:=H.blkOw1 (R:=rByte) (x:=x929) (fun gg=>(congrArg (fun z=>[Value.int .u8 z]) (u8O_some ex929).symm))
 refine sv F rfl (y_build F rfl rfl (cs:=[.slice (some ⟨b924,0,none⟩) (x923).length c924,.slice (some ⟨b928,0,none⟩) ([x929]).length (([x929]).length)]) (by kernel_rfl)) fun a F=>?_
 replace H:=H.cvFrz 2 rfl
 replace H:=H.frz 1 rfl
 refine s_build1 wkP F rfl rfl rfl agg103 elem24 rfl rfl rfl (by decide) H fun b930 w a H F=>?_
 replace H:=H.blkOw1 (R:=R_api_Pair) (x:=(x923,[x929])) (fun gg=>⟨_,_,rfl,⟨_,_,rfl,(gg 2 _ rfl).choose_spec⟩,⟨_,_,rfl,(gg 1 _ rfl).choose_spec⟩⟩)
 replace H:=H.frz 0 rfl
 obtain ⟨x932,ex932,hm⟩:=ob hm
 refine s_app wkP F rfl rfl rfl rfl rfl rfl elem24 rfl ex932 H 12 0 rfl rfl fun p931 c931 w a H F=>?_
 refine s_st1 wkP F rfl rfl zero24 rfl rfl rfl rfl rfl H 9 rfl rfl fun w H=>?_
 replace H:=H.nf 13 rfl
 refine nl (ex (cx (ch ?_)))
 cases hm
 refine ct ?_
 exact ⟨Ds734,p931,c931,F.sl rfl,(H.pm 13 [7,8,9,10,11,12] rfl:)⟩
 replace hm:=ifF (nT hg927) hm
 refine sk (ct (sr ?_))
 replace H:=H.owNil rByte 5
 refine sv F rfl (y_build F rfl rfl (cs:=[.slice none (([]:List UInt8)).length 0]) (by kernel_rfl)) fun a F=>?_
 refine s_boxA wkP F rfl rfl rfl rfl rfl H fun b933 w a H F=>?_
 refine bb [0] F H rfl fun a F=>?_
 replace H:=H.nf 13 rfl
 refine nb [0] F H rfl fun a F=>?_
 obtain ⟨x935,ex935,hm⟩:=ob hm
 refine s_buildC wkP F rfl rfl rfl elem29 zero5 rfl rfl rfl rfl (by simp [Value.cells]) (by decide) H fun b934 w a H F=>?_
 replace H:=H.blkOw1 (R:=rByte) (x:=x935) (fun gg=>(congrArg (fun z=>[Value.int .u8 z]) (u8O_some ex935).symm))
 replace H:=O_pack_Pen_s (x0:=([]:List UInt8)) (H.pm 14 [1,2,0,3,4,5,6,7,8,9,10,11,12,13] rfl:)
 replace H:=H.frz 1 rfl
 obtain ⟨x936,ex936,hm⟩:=ob hm
 refine sd F rfl ent104 (w_penRaw ex936 (H.pm 13 [1,0,0,2,3,4,5,6,7,8,9,10,11,12] rfl:):) ?_;rintro _ w a ⟨rfl,H⟩ F
 replace H:=H.nf 13 rfl
 refine nl (sr (bk [0,1,4001,0,2] F H rfl ⟨fld132_1,rfl,plain29,⟨_,Tryz.underlying29⟩,Tryz.underlying3,Tryz.underlying38,trivial⟩ fun a F=>?_))
 obtain ⟨x937,ex937,hm⟩:=ob hm
 refine sd F rfl ent97 (w_penUint ex937 H:) ?_;rintro _ w a ⟨rfl,H⟩ F
 replace H:=H.nf 13 rfl
 refine nl (sq (mix_region [3,5,6,7] [7] (.step 0 0 (.step 0 1 (.step 0 2 (.step 2 3 (.step 0 4 (.step 2 5 (.step 2 6 (.step 3 7 .done)))))))) (fun u=>∃ ls,St w0 u (HP.blk b3 ([.slice p735 (s733).length c735]) 24::ls)) (by kernel_rfl) (by kernel_rfl) ⟨_,(H.drew.pm 13 [9,0,1,2,3,4,5,6,7,8,10,11,12] rfl:)⟩ ?_))
 replace H:=H.drew
 generalize w.drew=w at H ⊢
 refine m_pure F rfl rfl rfl rfl (fun u hu=>y_load1 F plain24 rfl rfl ((hu.choose_spec.blk 0 rfl).cell _)) fun a F=>?_
 refine mb [0,0] F H rfl fun a F=>?_
 refine m_heavy rfl rfl ?_
 obtain ⟨x938,ex938,hm⟩:=ob hm
 refine sd F rfl ent99 (w_penData ex938 H:) ?_;rintro _ w a ⟨p939,c939,rfl,H⟩ F
 refine lz ?_;refine ct ⟨⟨_,(H.pm 14 [10,0,1,2,3,4,5,6,7,8,9,11,12,13] rfl:)⟩,?_⟩
 refine m_pure F rfl rfl rfl rfl (fun u hu=>y_build F rfl rfl (cs:=[.slice (some ⟨b924,0,none⟩) (x923).length c924,.slice p939 (x938.1).length c939]) (by kernel_rfl)) fun a F=>?_
 refine m_heavy rfl rfl ?_
 replace H:=H.cvFrz 4 rfl
 replace H:=H.frz 1 rfl
 refine s_build1 wkP F rfl rfl rfl agg103 elem24 rfl rfl rfl (by decide) H fun b940 w a H F=>?_
 replace H:=H.blkOw1 (R:=R_api_Pair) (x:=(x923,x938.1)) (fun gg=>⟨_,_,rfl,⟨_,_,rfl,(gg 2 _ rfl).choose_spec⟩,⟨_,_,rfl,(gg 1 _ rfl).choose_spec⟩⟩)
 refine lz ?_;refine ct ⟨⟨_,(H.pm 15 [11,0,1,2,3,4,5,6,7,8,9,10,12,13,14] rfl:)⟩,?_⟩
 refine m_heavy rfl rfl ?_
 replace H:=H.frz 0 rfl
 obtain ⟨x942,ex942,hm⟩:=ob hm
 refine s_app wkP F rfl rfl rfl rfl rfl rfl elem24 rfl ex942 H 14 0 rfl rfl fun p941 c941 w a H F=>?_
 refine lz ?_;refine ct ⟨⟨_,(H.pm 15 [11,0,1,2,3,4,5,6,7,8,9,10,12,13,14] rfl:)⟩,?_⟩
 refine m_last rfl rfl ?_
 refine s_st1 wkP F rfl rfl zero24 rfl rfl rfl rfl rfl H 11 rfl rfl fun w H=>?_
 refine lz ?_;refine ct ?_
 refine m_nil ?_
 refine ct (sr (s_alloc1 wkP F rfl rfl rfl zero3 rfl H fun b943 w a H F=>?_))
 refine s_st1 wkP F rfl rfl zero3 rfl rfl rfl rfl rfl H 0 rfl rfl fun w H=>?_
 replace H:=H.nf 16 rfl
 refine nl (sr (bk [1,7001] F H rfl ⟨fld132_1,rfl,plain29,trivial⟩ fun a F=>?_))
 obtain ⟨x945,ex945,hm⟩:=ob hm
 refine s_call wkP F rfl rfl rfl rfl (y_call F rfl rfl ent105) (w_mk105 p925 _ c926 64 (chunkN_some ex945).1 (chunkN_some ex945).2.1 w0 _ _ H) ?_;rintro _ w a ⟨b946,b947,rfl,H⟩ F
 replace H:=H.nf 18 rfl
 refine nl (bl ?_)
 obtain ⟨_,hn948,hm948,hq948⟩:=chunkN_some ex945
 replace H:=(H.pm 18 [8,0,1,2,3,4,5,6,7,8,9,10,11,12,13,14,15,16,17] rfl:)
 replace H:St w0 w (HP.sl rByte p925 c926 v736.2::HP.blk b947 ([.int .i64 (((x945:Nat):Int))]) 3::HP.blk b946 ([.slice p925 (v736.2).length c926]) 29::HP.blk b943 ([.int .i64 (0)]) 3::HP.sl R_api_Pair (some ⟨b940,0,none⟩) (([(x923,x938.1)]).length) ([(x923,x938.1)])::HP.sl rByte p939 c939 x938.1::HP.sl rByte (some ⟨b924,0,none⟩) c924 x923::O_pack_Pen_1 b933 x938.2::HP.sl rByte (some ⟨b934,0,none⟩) (([x935]).length) ([x935])::HP.sl rByte p925 c926 v736.2::HP.blk b922 ([.bool (v736.1),.slice p925 (v736.2).length c926]) 132::HP.ow rByte 5 none 0 ([]:List UInt8)::HP.blk b921 ([.string (txb (k736))]) 9::HP.obj r4 (mit q1 cl4 (bornsOf raw4 (vis733++[q736])))::HP.es R_files_file (fun _=>True) es4 s::HP.blk b3 ([.slice p941 (x942).length c941]) 24::HP.mks Ds734::HP.mo q1 raw4 cl4::HP.ow R_api_Pair 103 p941 c941 x942::l):=H
 obtain ⟨o1047,eo1047,hm1047⟩:=ob hm;clear hm
 refine x_range (gf:=134) (lb:=[.pointer (some ⟨b946,0,none⟩),.pointer (some ⟨b947,0,none⟩)]) (ps:=[48]) (zs:=(chunkZ x945 v736.2)) (enc:=(fun z:Nat×List UInt8=>[.slice (shp p925 (z.1+z.2.length) z.1 1) z.2.length z.2.length])) (l:=[(2,.pointer (some ⟨b3,0,none⟩)),(3,.pointer (some ⟨b921,0,none⟩)),(7,.pointer (some ⟨b943,0,none⟩)),(10,.pointer (some ⟨r4,0,none⟩)),(47,.func (.func 134) #[] [.pointer (some ⟨b946,0,none⟩),.pointer (some ⟨b947,0,none⟩)].toArray)]) (own:=[HP.blk b947 ([.int .i64 (((x945:Nat):Int))]) 3,HP.blk b946 ([.slice p925 (v736.2).length c926]) 29,HP.sl rByte p925 c926 v736.2]) (fr:=l) (fun z=>z.2) (F.cut _ ⟨rfl,rfl,rfl,rfl,rfl,trivial⟩) rfl ent134 (seq134 b946 b947 p925 c926 v736.2 x945 hn948 hm948 hq948) (fun (s1047:Int×(List T_api_Pair)) (i1047:(Option Addr)×Nat)=>[HP.blk b943 ([.int .i64 (s1047.1)]) 3,O_pack_Pen_1 b933 x938.2,HP.sl rByte p925 c926 v736.2,HP.blk b922 ([.bool (v736.1),.slice p925 (v736.2).length c926]) 132,HP.ow rByte 5 none 0 ([]:List UInt8),HP.blk b921 ([.string (txb (k736))]) 9,HP.obj r4 (mit q1 cl4 (bornsOf raw4 (vis733++[q736]))),HP.es R_files_file (fun _=>True) es4 s,HP.blk b3 ([.slice i1047.1 (s1047.2).length i1047.2]) 24,HP.mo q1 raw4 cl4,HP.ow R_api_Pair 103 i1047.1 i1047.2 s1047.2]) (fun (_:Empty) (_:Unit)=>[]) (fun _=>Code.skip) _ (0,x942) (p941,c941) (eo1047) ((H.pm 19 [16,3,7,9,10,11,12,13,14,15,17,18,1,2,0,0,4,5,6,8,9] rfl:).keep 15 6) (fun _=>rfl) rfl (fun (s1047:Int×(List T_api_Pair)) (i1047:(Option Addr)×Nat) (x1047:Nat×List UInt8) (m1047:Unit)=>[(2,.pointer (some ⟨b3,0,none⟩)),(3,.pointer (some ⟨b921,0,none⟩)),(7,.pointer (some ⟨b943,0,none⟩)),(8,.slice (shp p925 (x1047.1+(x1047.2).length) x1047.1 1) (x1047.2).length ((x1047.2).length)),(10,.pointer (some ⟨r4,0,none⟩)),(47,.func (.func 134) #[] [.pointer (some ⟨b946,0,none⟩),.pointer (some ⟨b947,0,none⟩)].toArray),(48,.slice (shp p925 (x1047.1+(x1047.2).length) x1047.1 1) (x1047.2).length ((x1047.2).length))]) (fun (s1047:Int×(List T_api_Pair)) (i1047:(Option Addr)×Nat) (x1047:Nat×List UInt8) (m1047:Unit)=>[HP.sl rByte (shp p925 (x1047.1+(x1047.2).length) x1047.1 1) ((x1047.2).length) x1047.2,HP.blk b943 ([.int .i64 (s1047.1)]) 3,O_pack_Pen_1 b933 x938.2,HP.sl rByte p925 c926 v736.2,HP.blk b922 ([.bool (v736.1),.slice p925 (v736.2).length c926]) 132,HP.ow rByte 5 none 0 ([]:List UInt8),HP.blk b921 ([.string (txb (k736))]) 9,HP.obj r4 (mit q1 cl4 (bornsOf raw4 (vis733++[q736]))),HP.es R_files_file (fun _=>True) es4 s,HP.blk b3 ([.slice i1047.1 (s1047.2).length i1047.2]) 24,HP.mo q1 raw4 cl4,HP.ow R_api_Pair 103 i1047.1 i1047.2 s1047.2]) ?_ ?_ ?_ ?_
 clear F H
 rintro L s1047 ⟨p1048,c1048⟩ ⟨kx948,yx948⟩ a w l hx F H
 replace F:Fr ⟨67,[]⟩ a [(48,.slice (shp p925 (kx948+(yx948).length) kx948 1) (yx948).length ((yx948).length)),(2,.pointer (some ⟨b3,0,none⟩)),(3,.pointer (some ⟨b921,0,none⟩)),(7,.pointer (some ⟨b943,0,none⟩)),(10,.pointer (some ⟨r4,0,none⟩)),(47,.func (.func 134) #[] [.pointer (some ⟨b946,0,none⟩),.pointer (some ⟨b947,0,none⟩)].toArray)]:=F
 replace H:St w0 w (HP.blk b943 ([.int .i64 (s1047.1)]) 3::O_pack_Pen_1 b933 x938.2::HP.sl rByte p925 c926 v736.2::HP.blk b922 ([.bool (v736.1),.slice p925 (v736.2).length c926]) 132::HP.ow rByte 5 none 0 ([]:List UInt8)::HP.blk b921 ([.string (txb (k736))]) 9::HP.obj r4 (mit q1 cl4 (bornsOf raw4 (vis733++[q736])))::HP.es R_files_file (fun _=>True) es4 s::HP.blk b3 ([.slice p1048 (s1047.2).length c1048]) 24::HP.mo q1 raw4 cl4::HP.ow R_api_Pair 103 p1048 c1048 s1047.2::l):=H
 replace H:=H.chunkEl 1 rfl 2 rfl hn948 hx
 replace H:St w0 w (HP.sl rByte (shp p925 (kx948+(yx948).length) kx948 1) ((yx948).length) yx948::HP.blk b943 ([.int .i64 (s1047.1)]) 3::O_pack_Pen_1 b933 x938.2::HP.sl rByte p925 c926 v736.2::HP.blk b922 ([.bool (v736.1),.slice p925 (v736.2).length c926]) 132::HP.ow rByte 5 none 0 ([]:List UInt8)::HP.blk b921 ([.string (txb (k736))]) 9::HP.obj r4 (mit q1 cl4 (bornsOf raw4 (vis733++[q736])))::HP.es R_files_file (fun _=>True) es4 s::HP.blk b3 ([.slice p1048 (s1047.2).length c1048]) 24::HP.mo q1 raw4 cl4::HP.ow R_api_Pair 103 p1048 c1048 s1047.2::l):=H
 refine rli (bki [0] F H rfl trivial fun a F=>?_)
 refine lzi (ct ?_)
 exact ⟨(),F.cut _ ⟨rfl,rfl,rfl,rfl,rfl,rfl,rfl,trivial⟩,H⟩
 clear F H
 rintro L s1047 ⟨p1048,c1048⟩ ⟨kx948,yx948⟩ _ o a w l hx hm F H
 replace F:Fr ⟨67,[]⟩ a [(2,.pointer (some ⟨b3,0,none⟩)),(3,.pointer (some ⟨b921,0,none⟩)),(7,.pointer (some ⟨b943,0,none⟩)),(8,.slice (shp p925 (kx948+(yx948).length) kx948 1) (yx948).length ((yx948).length)),(10,.pointer (some ⟨r4,0,none⟩)),(47,.func (.func 134) #[] [.pointer (some ⟨b946,0,none⟩),.pointer (some ⟨b947,0,none⟩)].toArray),(48,.slice (shp p925 (kx948+(yx948).length) kx948 1) (yx948).length ((yx948).length))]:=F
 replace H:St w0 w (HP.sl rByte (shp p925 (kx948+(yx948).length) kx948 1) ((yx948).length) yx948::HP.blk b943 ([.int .i64 (s1047.1)]) 3::O_pack_Pen_1 b933 x938.2::HP.sl rByte p925 c926 v736.2::HP.blk b922 ([.bool (v736.1),.slice p925 (v736.2).length c926]) 132::HP.ow rByte 5 none 0 ([]:List UInt8)::HP.blk b921 ([.string (txb (k736))]) 9::HP.obj r4 (mit q1 cl4 (bornsOf raw4 (vis733++[q736])))::HP.es R_files_file (fun _=>True) es4 s::HP.blk b3 ([.slice p1048 (s1047.2).length c1048]) 24::HP.mo q1 raw4 cl4::HP.ow R_api_Pair 103 p1048 c1048 s1047.2::l):=H
 refine bli (sqi ?_)
 obtain ⟨r1072,er1072,hm1072⟩:=ob hm;clear hm;revert er1072;intro hm
 refine xi_mid (fun aa ww=>∃ (p1073:Option Addr) (c1073:Nat),Fr ⟨67,[]⟩ aa [(7,.pointer (some ⟨b943,0,none⟩))]∧St w0 ww (HP.blk b943 ([.int .i64 (s1047.1)]) 3::O_pack_Pen_1 b933 x938.2::HP.sl rByte p925 c926 v736.2::HP.blk b922 ([.bool (v736.1),.slice p925 (v736.2).length c926]) 132::HP.ow rByte 5 none 0 ([]:List UInt8)::HP.blk b921 ([.string (txb (k736))]) 9::HP.obj r4 (mit q1 cl4 (bornsOf raw4 (vis733++[q736])))::HP.es R_files_file (fun _=>True) es4 s::HP.blk b3 ([.slice p1073 (r1072).length c1073]) 24::HP.mo q1 raw4 cl4::HP.ow R_api_Pair 103 p1073 c1073 r1072::l)) ?_ ?_
 obtain ⟨x1074,ex1074,hm⟩:=ob hm
 refine mix_regionI [3,6,7,9,11,12,13] [13] (.step 0 0 (.step 0 1 (.step 0 2 (.step 0 4 (.step 0 5 (.step 0 8 (.fork 3 (.step 2 6 (.step 2 7 (.step 2 9 (.step 0 10 (.step 2 11 (.step 2 12 (.step 3 13 .done))))))) 6 (.step 2 3 (.step 2 7 (.step 2 9 (.step 0 10 (.step 2 11 (.step 2 12 (.step 3 13 .done)))))))))))))) (fun u=>∃ ls,St w0 u (HP.blk b943 ([.int .i64 (s1047.1)]) 3::HP.blk b921 ([.string (txb (k736))]) 9::HP.blk b3 ([.slice p1048 (s1047.2).length c1048]) 24::ls)) (by kernel_rfl) (by kernel_rfl) ⟨_,(H.drew.pm 12 [1,6,9,0,2,3,4,5,7,8,10,11] rfl:)⟩ ?_
 replace H:=H.drew
 generalize w.drew=w at H ⊢
 refine m_pure F rfl rfl rfl rfl (fun u hu=>y_load1 F plain24 rfl rfl ((hu.choose_spec.blk 2 rfl).cell _)) fun a F=>?_
 refine m_pure F rfl rfl rfl rfl (fun u hu=>y_load1 F plain9 rfl rfl ((hu.choose_spec.blk 1 rfl).cell _)) fun a F=>?_
 refine m_pure F rfl rfl rfl rfl (fun u hu=>y_addO F rfl rfl rfl ex1074) fun a F=>?_
 refine m_pure F rfl rfl rfl rfl (fun u hu=>y_load1 F plain3 rfl rfl ((hu.choose_spec.blk 0 rfl).cell _)) fun a F=>?_
 refine mbk [1,0] F H rfl ⟨Tryz.underlying3,Tryz.underlying5,trivial⟩ fun a F=>?_
 refine m_fork rfl rfl rfl rfl ?_ ?_
 refine m_heavy rfl rfl ?_
 refine s_cvT (e:=5) (xs:=x1074) wkP F rfl rfl rfl Tryz.underlying9 Tryz.underlying29 Tryz.underlying5 rfl rfl H fun b1075 c1075 w a H F=>?_
 refine lz ?_;refine ct ⟨⟨_,(H.pm 13 [2,7,10,0,1,3,4,5,6,8,9,11,12] rfl:)⟩,?_⟩
 refine m_heavy rfl rfl ?_
 obtain ⟨x1077,ex1077,hm⟩:=ob hm
 obtain ⟨x1078,ex1078,hm⟩:=ob hm
 refine s_buildC wkP F rfl rfl rfl elem29 zero5 rfl rfl rfl rfl (by simp [Value.cells]) (by decide) H fun b1076 w a H F=>?_
 replace H:St w0 w (HP.ow rByte 5 (some ⟨b1076,0,none⟩) (([x1077,x1078]).length) ([x1077,x1078])::HP.cv 5 b1075 c1075 x1074::HP.sl rByte (shp p925 (kx948+(yx948).length) kx948 1) ((yx948).length) yx948::HP.blk b943 ([.int .i64 (s1047.1)]) 3::O_pack_Pen_1 b933 x938.2::HP.sl rByte p925 c926 v736.2::HP.blk b922 ([.bool (v736.1),.slice p925 (v736.2).length c926]) 132::HP.ow rByte 5 none 0 ([]:List UInt8)::HP.blk b921 ([.string (txb (k736))]) 9::HP.obj r4 (mit q1 cl4 (bornsOf raw4 (vis733++[q736])))::HP.es R_files_file (fun _=>True) es4 s::HP.blk b3 ([.slice p1048 (s1047.2).length c1048]) 24::HP.mo q1 raw4 cl4::HP.ow R_api_Pair 103 p1048 c1048 s1047.2::l):=H.blkOw (R:=rByte) 0 rfl (fun gg=>⟨[[.int .u8 (0)],[.int .u8 (IntKind.u8.wrap (s1047.1))]],rfl,(congrArg (fun z=>[Value.int .u8 z]) (u8O_some ex1077).symm),(congrArg (fun z=>[Value.int .u8 z]) (u8O_some ex1078).symm),trivial⟩) (by simp)
 refine lz ?_;refine ct ⟨⟨_,(H.pm 14 [3,8,11,0,1,2,4,5,6,7,9,10,12,13] rfl:)⟩,?_⟩
 refine m_heavy rfl rfl ?_
 replace H:=H.frz 0 rfl
 obtain ⟨x1080,ex1080,hm⟩:=ob hm
 refine s_appCv wkP F rfl rfl rfl rfl rfl rfl elem29 rfl ex1080 rfl H 1 0 rfl rfl fun p1079 c1079 w a H F=>?_
 refine lz ?_;refine ct ⟨⟨_,(H.pm 14 [3,8,11,0,1,2,4,5,6,7,9,10,12,13] rfl:)⟩,?_⟩
 refine m_heavy rfl rfl ?_
 obtain ⟨x1081,ex1081,hm⟩:=ob hm
 refine sd F rfl ent106 (w_cloneB ex1081 (H.pm 14 [2,0,1,2,3,4,5,6,7,8,9,10,11,12,13] rfl:):) ?_;rintro _ w a ⟨p1082,c1082,rfl,H⟩ F
 refine lz ?_;refine ct ⟨⟨_,(H.pm 15 [4,9,12,0,1,2,3,5,6,7,8,10,11,13,14] rfl:)⟩,?_⟩
 refine m_pure F rfl rfl rfl rfl (fun u hu=>y_build F rfl rfl (cs:=[.slice p1079 (x1080).length c1079,.slice p1082 (x1081).length c1082]) (by kernel_rfl)) fun a F=>?_
 refine m_heavy rfl rfl ?_
 replace H:=H.frz 0 rfl
 refine s_build1 wkP F rfl rfl rfl agg103 elem24 rfl rfl rfl (by decide) H fun b1083 w a H F=>?_
 replace H:=H.blkOw1 (R:=R_api_Pair) (x:=(x1080,x1081)) (fun gg=>⟨_,_,rfl,⟨_,_,rfl,(gg 2 _ rfl).choose_spec⟩,⟨_,_,rfl,(gg 1 _ rfl).choose_spec⟩⟩)
 refine lz ?_;refine ct ⟨⟨_,(H.pm 16 [5,10,13,0,1,2,3,4,6,7,8,9,11,12,14,15] rfl:)⟩,?_⟩
 refine m_heavy rfl rfl ?_
 replace H:=H.frz 0 rfl
 obtain ⟨x1085,ex1085,hm⟩:=ob hm
 refine s_app wkP F rfl rfl rfl rfl rfl rfl elem24 rfl ex1085 H 15 0 rfl rfl fun p1084 c1084 w a H F=>?_
 refine lz ?_;refine ct ⟨⟨_,(H.pm 16 [5,10,13,0,1,2,3,4,6,7,8,9,11,12,14,15] rfl:)⟩,?_⟩
 refine m_last rfl rfl ?_
 refine s_st1 wkP F rfl rfl zero24 rfl rfl rfl rfl rfl H 13 rfl rfl fun w H=>?_
 refine lz ?_;refine ct ?_
 refine m_nil ?_
 cases hm
 refine ct ?_
 exact ⟨p1084,c1084,F.sl rfl,(H.pm 16 [5,6,7,8,9,10,11,12,13,14,15] rfl:)⟩
 refine m_heavy rfl rfl ?_
 obtain ⟨x1087,ex1087,hm⟩:=ob hm
 obtain ⟨x1088,ex1088,hm⟩:=ob hm
 refine s_buildC wkP F rfl rfl rfl elem29 zero5 rfl rfl rfl rfl (by simp [Value.cells]) (by decide) H fun b1086 w a H F=>?_
 replace H:St w0 w (HP.ow rByte 5 (some ⟨b1086,0,none⟩) (([x1087,x1088]).length) ([x1087,x1088])::HP.sl rByte (shp p925 (kx948+(yx948).length) kx948 1) ((yx948).length) yx948::HP.blk b943 ([.int .i64 (s1047.1)]) 3::O_pack_Pen_1 b933 x938.2::HP.sl rByte p925 c926 v736.2::HP.blk b922 ([.bool (v736.1),.slice p925 (v736.2).length c926]) 132::HP.ow rByte 5 none 0 ([]:List UInt8)::HP.blk b921 ([.string (txb (k736))]) 9::HP.obj r4 (mit q1 cl4 (bornsOf raw4 (vis733++[q736])))::HP.es R_files_file (fun _=>True) es4 s::HP.blk b3 ([.slice p1048 (s1047.2).length c1048]) 24::HP.mo q1 raw4 cl4::HP.ow R_api_Pair 103 p1048 c1048 s1047.2::l):=H.blkOw (R:=rByte) 0 rfl (fun gg=>⟨[[.int .u8 (0)],[.int .u8 (IntKind.u8.wrap (s1047.1))]],rfl,(congrArg (fun z=>[Value.int .u8 z]) (u8O_some ex1087).symm),(congrArg (fun z=>[Value.int .u8 z]) (u8O_some ex1088).symm),trivial⟩) (by simp)
 refine lz ?_;refine ct ⟨⟨_,(H.pm 13 [2,7,10,0,1,3,4,5,6,8,9,11,12] rfl:)⟩,?_⟩
 refine m_heavy rfl rfl ?_
 refine s_cvT (e:=5) (xs:=x1074) wkP F rfl rfl rfl Tryz.underlying9 Tryz.underlying29 Tryz.underlying5 rfl rfl H fun b1089 c1089 w a H F=>?_
 refine lz ?_;refine ct ⟨⟨_,(H.pm 14 [3,8,11,0,1,2,4,5,6,7,9,10,12,13] rfl:)⟩,?_⟩
 refine m_heavy rfl rfl ?_
 replace H:=H.frz 1 rfl
 obtain ⟨x1091,ex1091,hm⟩:=ob hm
 refine s_appCv wkP F rfl rfl rfl rfl rfl rfl elem29 rfl ex1091 rfl H 1 0 rfl rfl fun p1090 c1090 w a H F=>?_
 refine lz ?_;refine ct ⟨⟨_,(H.pm 14 [3,8,11,0,1,2,4,5,6,7,9,10,12,13] rfl:)⟩,?_⟩
 refine m_heavy rfl rfl ?_
 obtain ⟨x1092,ex1092,hm⟩:=ob hm
 refine sd F rfl ent106 (w_cloneB ex1092 (H.pm 14 [2,0,1,2,3,4,5,6,7,8,9,10,11,12,13] rfl:):) ?_;rintro _ w a ⟨p1093,c1093,rfl,H⟩ F
 refine lz ?_;refine ct ⟨⟨_,(H.pm 15 [4,9,12,0,1,2,3,5,6,7,8,10,11,13,14] rfl:)⟩,?_⟩
 refine m_pure F rfl rfl rfl rfl (fun u hu=>y_build F rfl rfl (cs:=[.slice p1090 (x1091).length c1090,.slice p1093 (x1092).length c1093]) (by kernel_rfl)) fun a F=>?_
 refine m_heavy rfl rfl ?_
 replace H:=H.frz 0 rfl
 refine s_build1 wkP F rfl rfl rfl agg103 elem24 rfl rfl rfl (by decide) H fun b1094 w a H F=>?_
 replace H:=H.blkOw1 (R:=R_api_Pair) (x:=(x1091,x1092)) (fun gg=>⟨_,_,rfl,⟨_,_,rfl,(gg 2 _ rfl).choose_spec⟩,⟨_,_,rfl,(gg 1 _ rfl).choose_spec⟩⟩)
 refine lz ?_;refine ct ⟨⟨_,(H.pm 16 [5,10,13,0,1,2,3,4,6,7,8,9,11,12,14,15] rfl:)⟩,?_⟩
 refine m_heavy rfl rfl ?_
 replace H:=H.frz 0 rfl
 obtain ⟨x1096,ex1096,hm⟩:=ob hm
 refine s_app wkP F rfl rfl rfl rfl rfl rfl elem24 rfl ex1096 H 15 0 rfl rfl fun p1095 c1095 w a H F=>?_
 refine lz ?_;refine ct ⟨⟨_,(H.pm 16 [5,10,13,0,1,2,3,4,6,7,8,9,11,12,14,15] rfl:)⟩,?_⟩
 refine m_last rfl rfl ?_
 refine s_st1 wkP F rfl rfl zero24 rfl rfl rfl rfl rfl H 13 rfl rfl fun w H=>?_
 refine lz ?_;refine ct ?_
 refine m_nil ?_
 cases hm
 refine ct ?_
 exact ⟨p1095,c1095,F.sl rfl,(H.pm 16 [5,6,7,8,9,10,11,12,13,14,15] rfl:)⟩
 clear F H hm
 rintro a w ⟨p1073,c1073,F,H⟩;have hm:=hm1072;clear hm1072
 refine ct (rli (bki [0,0] F H rfl ⟨rfl,plain3,trivial⟩ fun a F=>?_))
 refine s_st1 wkI F rfl rfl zero3 rfl rfl rfl rfl rfl H 0 rfl rfl fun w H=>?_
 replace H:=H.nf 11 rfl
 refine lzi (bn ?_)
 cases hm;exact rq_n (IntKind.i64.wrap (s1047.1+1),r1072) (p1073,c1073) rfl H
 clear F H
 rintro s1047 ⟨p1048,c1048⟩ Ds1097 a w ho F H;subst ho;have hm:=elimL hm1047;clear hm1047 eo1047
 replace F:Fr ⟨67,marks Ds1097⟩ a [(2,.pointer (some ⟨b3,0,none⟩)),(3,.pointer (some ⟨b921,0,none⟩)),(7,.pointer (some ⟨b943,0,none⟩)),(10,.pointer (some ⟨r4,0,none⟩)),(47,.func (.func 134) #[] [.pointer (some ⟨b946,0,none⟩),.pointer (some ⟨b947,0,none⟩)].toArray)]:=F
 replace H:St w0 w (HP.mks Ds1097::HP.blk b943 ([.int .i64 (s1047.1)]) 3::O_pack_Pen_1 b933 x938.2::HP.sl rByte p925 c926 v736.2::HP.blk b922 ([.bool (v736.1),.slice p925 (v736.2).length c926]) 132::HP.ow rByte 5 none 0 ([]:List UInt8)::HP.blk b921 ([.string (txb (k736))]) 9::HP.obj r4 (mit q1 cl4 (bornsOf raw4 (vis733++[q736])))::HP.es R_files_file (fun _=>True) es4 s::HP.blk b3 ([.slice p1048 (s1047.2).length c1048]) 24::HP.mo q1 raw4 cl4::HP.ow R_api_Pair 103 p1048 c1048 s1047.2::HP.blk b947 ([.int .i64 (((x945:Nat):Int))]) 3::HP.blk b946 ([.slice p925 (v736.2).length c926]) 29::HP.sl rByte p925 c926 v736.2::l):=H
 refine bn (bn ?_)
 cases hm
 refine ct ?_
 exact ⟨Ds1097,p1048,c1048,F.sl rfl,(H.pm 15 [7,8,9,0,10,11] rfl:)⟩
 intro r;exact r.elim
 clear F H hm
 rintro a w ⟨Ds918,p919,c919,F,H⟩;have hm:=hm917;clear hm917
 refine ct ?_;cases hm
 exact ⟨_,q736,hs736 _ rfl,⟨Ds918,p919,c919,F.sl rfl,H⟩⟩
theorem w_mClone {s:(List UInt8)→Option T_files_file} {m1:Nat} {w0 w:World} {l:List HP}  {r:((List UInt8)→Option T_files_file)} (hm:mClone s=some r) (H:St w0 w (HP.mm (some m1) ekStr true R_files_file (fun _=>True) s::l)) :
  Calls Tryz.prog 74 [.map (some m1)].toArray w (fun e w'=>∃ v,e=.returned v∧∃ (m2:Nat),v=.map (some m2)∧St w0 w' (HP.mm (some m2) ekStr true R_files_file (fun _=>True) r::HP.mm (some m1) ekStr true R_files_file (fun _=>True) s::l)):=by
 unfold mClone at hm
 cases hm
 rcases H.mmClone with ⟨h,_⟩ | ⟨b,raw,c,hb,hh,H2⟩
 · cases h
 cases hb
 exact (AnyW.maps_Clone Tryz.layz74 _ raw c w hh).mono fun e w' ⟨he,hw⟩=>⟨_,he,_,rfl,hw▸H2⟩
theorem ent73:En Tryz.prog 73:=enters Tryz.func73 (by kernel_rfl) rfl
theorem ent74:En Tryz.prog 74:=enters Tryz.func74 (by kernel_rfl) rfl
theorem ent75:En Tryz.prog 75:=enters Tryz.func75 (by kernel_rfl) rfl
theorem ent68:En Tryz.prog 68:=enters Tryz.func68 (by kernel_rfl) rfl
theorem w_fDo {files:List T_api_Pair} {o:T_api_Op} {p1:Option Addr} {c1:Nat} {cs2:List Value} {w0 w:World} {l:List HP}  {r:(List T_api_Pair)×T_api_Answer} (hm:fDo files o=some r) (H:St w0 w (HP.sl R_api_Pair p1 c1 files::HP.rc R_api_Op cs2 o::l)) :
  Calls Tryz.prog 46 [.slice p1 (files).length c1,.agg cs2.toArray].toArray w (fun e w'=>∃ v,e=.returned v∧∃ (p3:Option Addr) (c3:Nat) (cs4:List Value),v=.tuple [.slice p3 (r.1).length c3,.agg cs4.toArray].toArray∧St w0 w' (HP.sl R_api_Pair p3 c3 r.1::HP.rc R_api_Answer cs4 r.2::l)):=by
 unfold fDo at hm
 refine x_enter Tryz.func46 rfl rfl rfl ?_
 intro a F
 refine sr (s_boxA wkP F rfl rfl rfl rfl rfl H fun b5 w a H F=>?_)
 refine bb [0] F H rfl fun a F=>?_
 replace H:=H.owNil rByte 5
 replace H:=H.owNil rStr 9
 refine s_allocA wkP F rfl rfl rfl agz35 rfl H fun b6 w a H F=>?_
 replace H:=H.nf 6 rfl
 refine nb [0] F H rfl fun a F=>?_
 obtain ⟨x7,ex7,hm⟩:=ob hm
 refine sd F rfl ent73 (w_fRead ex7 (H.pm 6 [4,0,1,2,3,4,5] rfl:):) ?_;rintro _ w a ⟨m8,rfl,H⟩ F
 refine bb [0] F H rfl fun a F=>?_
 replace H:=H.nf 7 rfl
 refine nb [0] F H rfl fun a F=>?_
 obtain ⟨x9,ex9,hm⟩:=ob hm
 refine sd F rfl ent74 (w_mClone ex9 H:) ?_;rintro _ w a ⟨m10,rfl,H⟩ F
 refine bb [0] F H rfl fun a F=>?_
 replace H:=H.nf 8 rfl
 refine nl (sr (bk [0,5999] F H rfl ⟨rfl,(aggn agg31 (H.rcLen 7 rfl)),trivial⟩ fun a F=>?_))
 obtain ⟨x11,ex11,hm⟩:=ob hm
 refine sd F rfl ent75 (w_sDo ex11 (H.pm 8 [1,7,0,2,3,4,5,6,7] rfl:):) ?_;rintro _ w a ⟨cs12,rfl,H⟩ F
 replace H:=H.owNil rByte 5
 replace H:=H.owNil rStr 9
 refine s_allocA wkP F rfl rfl rfl agz35 rfl H fun b13 w a H F=>?_
 refine s_storeA wkP F rfl rfl agg35 rfl rfl rfl H 0 rfl (H.rcLen 3 rfl) rfl (H.rcFlat 3 rfl) fun w H=>?_
 replace H:=H.nf 12 rfl
 refine nl (sq (sr (bk [0] F H rfl ⟨fld35_0,trivial⟩ fun a F=>?_)))
 have G:=F;replace H:=rc_api_Answer (H.pk 3 rfl);obtain ⟨p14,c15,p16,c17,rfl,J⟩:=H;have H:=J;have F:=G;clear G J
 refine bk [2000,0] F H rfl ⟨rfl,plain32,trivial⟩ fun a F=>nl (cNm F rfl hm (fun hg18 hm=>?_) (fun hg18 hm=>?_))
 refine sq (mix_region [1,4] [4] (.step 0 0 (.step 0 2 (.step 2 1 (.step 0 3 (.step 3 4 .done))))) (fun u=>∃ ls,St w0 u (HP.blk b13 ([.int .i64 (x11.1.1),.int .i64 (x11.1.2.1),.slice p14 (x11.1.2.2.1).length c15,.slice p16 (x11.1.2.2.2).length c17]) 35::ls)) (by kernel_rfl) (by kernel_rfl) ⟨_,(H.drew.pm 13 [2,0,1,3,4,5,6,7,8,9,10,11,12] rfl:)⟩ ?_)
 replace H:=H.drew
 generalize w.drew=w at H ⊢
 refine mb [0] F H rfl fun a F=>?_
 refine m_pure F rfl rfl rfl rfl (fun u hu=>y_loadA F agg35 rfl rfl ((hu.choose_spec.blk 0 rfl).row) rfl) fun a F=>?_
 refine m_heavy rfl rfl ?_
 obtain ⟨x19,ex19,hm⟩:=ob hm
 refine sd F rfl ent68 (w_sPairs ex19 (H.pm 13 [6,0,1,2,3,4,5,7,8,9,10,11,12] rfl:):) ?_;rintro _ w a ⟨p20,c20,rfl,H⟩ F
 refine lz ?_;refine ct ⟨⟨_,(H.pm 14 [4,0,1,2,3,5,6,7,8,9,10,11,12,13] rfl:)⟩,?_⟩
 refine mb [0] F H rfl fun a F=>?_
 refine m_last rfl rfl ?_
 refine s_storeA wkP F rfl rfl agg35 rfl rfl rfl H 8 rfl rfl rfl (fl rfl) fun w H=>?_
 refine lz ?_;refine ct ?_
 refine m_nil ?_
 refine ct (wr (tr ?_))
 replace H:=H.frz 0 rfl
 replace H:=H.mkRc (R:=R_api_Answer) (cs:=[.int .i64 (x11.1.1),.int .i64 (x11.1.2.1),.slice p14 (x11.1.2.2.1).length c15,.slice p16 (x11.1.2.2.2).length c17]) (x:=(x11.1.1,x11.1.2.1,x11.1.2.2.1,x11.1.2.2.2)) (fun gg=>⟨_,_,rfl,rfl,⟨_,_,rfl,rfl,⟨_,_,rfl,⟨_,_,rfl,(gg 2 _ rfl).choose_spec⟩,⟨_,_,rfl,(gg 3 _ rfl).choose_spec⟩⟩⟩⟩)
 cases hm
 refine x_resC2 F rfl rfl (⟨_,rfl,agg35.run_load (H.blk 9 rfl).row rfl⟩) ?_
 exact ⟨_,rfl,p20,c20,[.int .i64 (x11.1.1),.int .i64 (x11.1.2.1),.slice p14 (x11.1.2.2.1).length c15,.slice p16 (x11.1.2.2.2).length c17],rfl,(H.pm 15 [1,0] rfl:)⟩
 refine sk (ct (sq (mix_region [1,4] [4] (.step 0 0 (.step 0 2 (.step 2 1 (.step 0 3 (.step 3 4 .done))))) (fun u=>∃ ls,St w0 u (HP.blk b13 ([.int .i64 (x11.1.1),.int .i64 (x11.1.2.1),.slice p14 (x11.1.2.2.1).length c15,.slice p16 (x11.1.2.2.2).length c17]) 35::ls)) (by kernel_rfl) (by kernel_rfl) ⟨_,(H.drew.pm 13 [2,0,1,3,4,5,6,7,8,9,10,11,12] rfl:)⟩ ?_)))
 replace H:=H.drew
 generalize w.drew=w at H ⊢
 refine mb [0] F H rfl fun a F=>?_
 refine m_pure F rfl rfl rfl rfl (fun u hu=>y_loadA F agg35 rfl rfl ((hu.choose_spec.blk 0 rfl).row) rfl) fun a F=>?_
 refine m_heavy rfl rfl ?_
 obtain ⟨x21,ex21,hm⟩:=ob hm
 refine sd F rfl ent68 (w_sPairs ex21 (H.pm 13 [5,0,1,2,3,4,6,7,8,9,10,11,12] rfl:):) ?_;rintro _ w a ⟨p22,c22,rfl,H⟩ F
 refine lz ?_;refine ct ⟨⟨_,(H.pm 14 [4,0,1,2,3,5,6,7,8,9,10,11,12,13] rfl:)⟩,?_⟩
 refine mb [0] F H rfl fun a F=>?_
 refine m_last rfl rfl ?_
 refine s_storeA wkP F rfl rfl agg35 rfl rfl rfl H 8 rfl rfl rfl (fl rfl) fun w H=>?_
 refine lz ?_;refine ct ?_
 refine m_nil ?_
 refine ct (wr ?_)
 replace H:=H.frz 0 rfl
 replace H:=H.mkRc (R:=R_api_Answer) (cs:=[.int .i64 (x11.1.1),.int .i64 (x11.1.2.1),.slice p14 (x11.1.2.2.1).length c15,.slice p16 (x11.1.2.2.2).length c17]) (x:=(x11.1.1,x11.1.2.1,x11.1.2.2.1,x11.1.2.2.2)) (fun gg=>⟨_,_,rfl,rfl,⟨_,_,rfl,rfl,⟨_,_,rfl,⟨_,_,rfl,(gg 2 _ rfl).choose_spec⟩,⟨_,_,rfl,(gg 3 _ rfl).choose_spec⟩⟩⟩⟩)
 cases hm
 refine x_resC2 F rfl rfl (⟨_,rfl,agg35.run_load (H.blk 9 rfl).row rfl⟩) ?_
 exact ⟨_,rfl,p22,c22,[.int .i64 (x11.1.1),.int .i64 (x11.1.2.1),.slice p14 (x11.1.2.2.1).length c15,.slice p16 (x11.1.2.2.2).length c17],rfl,(H.pm 15 [1,0] rfl:)⟩
theorem w_fNew   {w0 w:World} {l:List HP}  {r:(List T_api_Pair)} (hm:fNew =some r) (H:St w0 w (l)) :
  Calls Tryz.prog 42 [].toArray w (fun e w'=>∃ v,e=.returned v∧∃ (p1:Option Addr) (c1:Nat),v=.slice p1 (r).length c1∧St w0 w' (HP.sl R_api_Pair p1 c1 r::l)):=by
 unfold fNew at hm
 refine x_enter Tryz.func42 rfl rfl rfl ?_
 intro a F
 refine sb [0] F H rfl fun a F=>nl (sr (s_mmNew ekStr true R_files_file (fun _=>True) wkP F rfl rfl rfl rfl H fun m2 w a H F=>?_))
 replace H:=H.owNil rByte 5
 refine sv F rfl (y_build F rfl rfl (cs:=[.bool true,.slice none (([]:List UInt8)).length 0]) (by kernel_rfl)) fun a F=>?_
 replace H:=H.frz 0 rfl
 refine s_mmIns wkP F rfl rfl Tryz.underlying134 (keyStr Tryz.underlying9) rfl H 1 rfl rfl (k:=[47]) rfl (cs:=[.bool true,.slice none (([]:List UInt8)).length 0]) rfl trivial (v:=(true,([]:List UInt8))) (fun gg=>⟨_,_,rfl,rfl,⟨_,_,rfl,(gg 0 _ rfl).choose_spec⟩⟩) fun w H=>?_
 refine bb [0] F H rfl fun a F=>?_
 obtain ⟨x3,ex3,hm⟩:=ob hm
 refine sd F rfl ent68 (w_sPairs ex3 (H.pm 2 [1,0] rfl:):) ?_;rintro _ w a ⟨p4,c4,rfl,H⟩ F
 refine bb [0] F H rfl fun a F=>?_
 replace H:=H.nf 3 rfl
 refine nl (wr ?_)
 replace H:=H.frz 0 rfl
 cases hm
 refine x_ret1 F rfl rfl ?_
 exact ⟨_,rfl,p4,c4,rfl,(H.pm 3 [0] rfl:)⟩
set_option maxRecDepth 100000
set_option maxHeartbeats 4000000
theorem w_cloneBy {s:List UInt8} {p1:Option Addr} {c1:Nat} {w0 w:World} {l:List HP}  {r:(List UInt8)} (hm:cloneBy s=some r) (H:St w0 w (HP.sl rByte p1 c1 s::l)) :
  Calls Tryz.prog 102 [.slice p1 (s).length c1].toArray w (fun e w'=>∃ v,e=.returned v∧∃ (p2:Option Addr) (c2:Nat),v=.slice p2 (r).length c2∧St w0 w' (HP.ow rByte 5 p2 c2 r::l)):=by
 unfold cloneBy at hm
 refine x_enter Tryz.func102 rfl rfl rfl ?_
 intro a F
 refine sb [0] F H rfl fun a F=>nl (sq (sb [0] F H rfl fun a F=>?_))
 obtain _ | ad:=p1
 obtain ⟨hx0,hc0⟩:=H.slNone 0 rfl;subst hc0;try subst hx0
 replace H:=H.dp 0 rfl
 refine sv F rfl (y_eqNil F rfl Tryz.underlying29 rfl rfl (by simp)) fun a F=>nl (cT F rfl ?_)
 refine sb [0] F H rfl fun a F=>nl (wr (tr ?_))
 replace H:=H.owNil rByte 5
 cases hm
 refine x_ret1 F rfl rfl ?_
 exact ⟨_,rfl,none,0,rfl,H⟩
 refine sv F rfl (y_eqSome F rfl Tryz.underlying29 rfl rfl (by simp)) fun a F=>nl (cF F rfl ?_)
 refine sk (ct (sr (s_build0O (R:=rByte) wkP F rfl rfl rfl elem29 rfl H fun b3 w a H F=>?_)))
 refine bb [0] F H rfl fun a F=>?_
 obtain ⟨x5,ex5,hm⟩:=ob hm
 refine s_app wkP F rfl rfl rfl rfl rfl rfl elem29 rfl ex5 H 0 1 rfl rfl fun p4 c4 w a H F=>?_
 refine bb [0] F H rfl fun a F=>?_
 replace H:=H.nf 2 rfl
 refine nl (wr ?_)
 cases hm
 refine x_ret1 F rfl rfl ?_
 exact ⟨_,rfl,p4,c4,rfl,(H.pm 2 [0] rfl:)⟩
theorem ent126:En Tryz.prog 126:=enters Tryz.func126 (by kernel_rfl) rfl
theorem run_cmpT {P:Program} {w:World} {x y:List UInt8}:(Extern.BytealgCompare.compare #[.string (txb x),.string (txb y)]).run P w=.ok (.int .i64 (Lib.compareBytes x y)) w:=by
 show Sem.run P (do pure (goInt (Extern.BytealgCompare.cmp (← Extern.Bytes.bytesOf (.string (txb x))) (← Extern.Bytes.bytesOf (.string (txb y)))))) w=_
 show Result.ok (Value.int .i64 (Extern.BytealgCompare.cmp (txb x) (txb y))) w=_
 rw [show txb x=⟨x.toArray⟩ from rfl,show txb y=⟨y.toArray⟩ from rfl,Lib.cmp_eq]
theorem w_cmps126 {w:World} {x y:List UInt8}:Calls Tryz.prog 126 [.string (txb x),.string (txb y)].toArray w (fun e w'=>e=.returned (.int .i64 (Lib.compareBytes x y))∧w'=w):=by
 refine x_enter Tryz.func126 rfl rfl rfl ?_
 intro a F
 replace F:Fr ⟨8,[]⟩ a [(0,.string (txb x)),(1,.string (txb y))]:=F
 refine wp_seq (r_lit ?_)
 refine sv F rfl (y_assign F rfl rfl) fun a F=>?_
 refine wpList_nil (c_then ?_)
 refine wp_seq (r_lit ?_)
 refine sv F rfl (y_move F rfl rfl) fun a F=>sv F rfl (y_move F rfl rfl) fun a F=>?_
 refine sv F rfl (y_ext F rfl rfl (v:=.int .i64 (Lib.compareBytes x y)) (w:=w) (by rw [run_callFunc_extern Tryz.func149 (by kernel_rfl) (by kernel_rfl) (by kernel_rfl) (e:=Extern.BytealgCompare.compare) (by kernel_rfl),run_cmpT];rfl)) fun a F=>sv F rfl (y_assign F rfl rfl) fun a F=>?_
 refine wpList_nil (c_then ?_)
 refine wp_ret ?_
 refine x_ret1 F rfl rfl ?_
 exact ⟨rfl,rfl⟩
theorem w_strCmp0 {a:List UInt8} {b:List UInt8}  {w0 w:World} {l:List HP}  {r:Int} (hm:strCmp0 a b=some r) (H:St w0 w (l)) :
  Calls Tryz.prog 126 [.string (txb (a)),.string (txb (b))].toArray w (fun e w'=>∃ v,e=.returned v∧v=.int .i64 (r)∧St w0 w' (l)):=by
 unfold strCmp0 at hm
 cases hm
 exact (w_cmps126).mono fun e w' h=>⟨_,h.1,rfl,by rw [h.2];exact H⟩
theorem w_strCmp {a:List UInt8} {b:List UInt8}  {w0 w:World} {l:List HP}  {r:Int} (hm:strCmp a b=some r) (H:St w0 w (l)) :
  Calls Tryz.prog 83 [.string (txb (a)),.string (txb (b))].toArray w (fun e w'=>∃ v,e=.returned v∧v=.int .i64 (r)∧St w0 w' (l)):=by
 unfold strCmp at hm
 refine x_enter Tryz.func83 rfl rfl rfl ?_
 intro a F
 refine sb [0] F H rfl fun a F=>nb [0,0] F H rfl fun a F=>?_
 obtain ⟨x1,ex1,hm⟩:=ob hm
 refine sd F rfl ent126 (w_strCmp0 ex1 H:) ?_;rintro _ w a ⟨rfl,H⟩ F
 refine bb [0] F H rfl fun a F=>nl (wr ?_)
 cases hm
 refine x_ret1 F rfl rfl ?_
 exact ⟨_,rfl,rfl,H⟩
theorem fld41_0:FieldT Tryz.prog 41 0 0:=by unfold FieldT;rw [Tryz.underlying41];kernel_rfl
theorem ent83:En Tryz.prog 83:=enters Tryz.func83 (by kernel_rfl) rfl
theorem w_nCompare {a_:T_api_Snap} {b_:T_api_Snap} {cs1:List Value} {cs2:List Value} {w0 w:World} {l:List HP}  {r:Int} (hm:nCompare a_ b_=some r) (H:St w0 w (HP.rc R_api_Snap cs1 a_::HP.rc R_api_Snap cs2 b_::l)) :
  Calls Tryz.prog 53 [.agg cs1.toArray,.agg cs2.toArray].toArray w (fun e w'=>∃ v,e=.returned v∧v=.int .i64 (r)∧St w0 w' (l)):=by
 unfold nCompare at hm
 refine x_enter Tryz.func53 rfl rfl rfl ?_
 intro a F
 refine sr (s_boxA wkP F rfl rfl rfl rfl rfl H fun b3 w a H F=>?_)
 refine s_boxA wkP F rfl rfl rfl rfl rfl H fun b4 w a H F=>?_
 refine bb [0] F H rfl fun a F=>?_
 replace H:=H.nf 4 rfl
 refine nl (sr (bk [0] F H rfl ⟨fld41_0,trivial⟩ fun a F=>?_))
 have G:=F;replace H:=rc_api_Snap (H.pk 2 rfl);obtain ⟨p5,c6,rfl,J⟩:=H;have H:=J;have F:=G;clear G J
 refine bk [2000,0] F H rfl ⟨rfl,plain9,fld41_0,trivial⟩ fun a F=>?_
 have G:=F;replace H:=rc_api_Snap (H.pk 3 rfl);obtain ⟨p7,c8,rfl,J⟩:=H;have H:=J;have F:=G;clear G J
 refine bk [2000] F H rfl ⟨rfl,plain9,trivial⟩ fun a F=>?_
 obtain ⟨x9,ex9,hm⟩:=ob hm
 refine sd F rfl ent83 (w_strCmp ex9 H:) ?_;rintro _ w a ⟨rfl,H⟩ F
 refine bb [0] F H rfl fun a F=>?_
 replace H:=H.nf 4 rfl
 refine nl (wr ?_)
 cases hm
 refine x_ret1 F rfl rfl ?_
 exact ⟨_,rfl,rfl,(H.pm 4 [] rfl:)⟩
theorem ent102:En Tryz.prog 102:=enters Tryz.func102 (by kernel_rfl) rfl
theorem w_nPairs {list:List T_api_Pair} {p1:Option Addr} {c1:Nat} {w0 w:World} {l:List HP}  {r:(List T_api_Pair)} (hm:nPairs list=some r) (H:St w0 w (HP.sl R_api_Pair p1 c1 list::l)) :
  Calls Tryz.prog 69 [.slice p1 (list).length c1].toArray w (fun e w'=>∃ v,e=.returned v∧∃ (p2:Option Addr) (c2:Nat),v=.slice p2 (r).length c2∧St w0 w' (HP.ow R_api_Pair 103 p2 c2 r::l)):=by
 unfold nPairs at hm
 refine x_enter Tryz.func69 rfl rfl rfl ?_
 intro a F
 refine sb [0] F H rfl fun a F=>nl (sq (sr (bk [0,0,0] F H rfl ⟨⟨_,Tryz.underlying24⟩,trivial⟩ fun a F=>?_)))
 refine nl (xm2 1 [] [] F H hm rfl rfl (fun r55 (p56:Option Addr) (c56:Nat) z=>(2,.slice p56 (r55).length c56)::z) (fun r55 p56 c56 z=>HP.ow R_api_Pair 103 p56 c56 r55::z) (fun r55 hm=>?_) (fun r55 a w hm p56 c56 F H=>?_))
 refine bl ?_
 replace H:=H.owNil R_api_Pair 103
 refine xl2 2 [5,6] [1] F H hm rfl rfl (fun (s91:(List T_api_Pair)×Int) (p92:Option Addr) (c92:Nat) z=>(2,.slice p92 (s91.1).length c92)::(7,.int .i64 (s91.2))::z) (fun s91 p92 c92 z=>HP.ow R_api_Pair 103 p92 c92 s91.1::z) ⟨none,0,F.sl rfl,H⟩ (fun s91 a w o p92 c92 F H hm=>?_)
 refine sb [0] F H rfl fun a F=>nl (sq (cPm F rfl hm (fun hg93 hm=>?_) (fun hg93 hm=>?_)))
 refine sk (ct (sq (bl (sr ?_))))
 obtain ⟨x94,ex94,hm⟩:=ob hm
 obtain ⟨b95,o95,hp95⟩:=H.slP 1 rfl (idxO_some ex94).2
 obtain ⟨cs96,hcl96,H⟩:=H.slEl 1 rfl hp95 (idxO_some ex94).2
 clear hcl96
 refine sv F rfl (y_idxS F elem24 rfl rfl rfl hp95 ex94) fun a F=>bk [999] F H rfl ⟨rfl,(aggn agg103 (H.rcLen 1 rfl)),trivial⟩ fun a F=>?_
 replace H:=H.owNil rByte 5
 replace H:=H.owNil rByte 5
 refine s_allocA wkP F rfl rfl rfl agz103 rfl H fun b97 w a H F=>?_
 refine s_storeA wkP F rfl rfl agg103 rfl rfl rfl H 0 rfl (H.rcLen 4 rfl) rfl (H.rcFlat 4 rfl) fun w H=>?_
 replace H:=H.nf 7 rfl
 refine nl ?_
 have G:=F;replace H:=rc_api_Pair (H.pk 4 rfl);obtain ⟨p98,c99,p100,c101,rfl,J⟩:=H;have H:=J;have F:=G;clear G J
 refine mix_region [3,6,8,9] [] (.step 0 0 (.step 0 1 (.step 1 2 (.step 0 4 (.step 0 5 (.step 2 3 (.step 2 6 (.step 0 7 (.step 2 8 (.step 2 9 (.step 0 10 .done))))))))))) (fun u=>∃ ls,St w0 u (HP.blk b97 ([.slice p98 (x94.1).length c99,.slice p100 (x94.2).length c101]) 103::ls)) (by kernel_rfl) (by kernel_rfl) ⟨_,(H.drew.pm 8 [2,0,1,3,4,5,6,7] rfl:)⟩ ?_
 replace H:=H.drew
 generalize w.drew=w at H ⊢
 refine mbk [0,0,2000,1] F H rfl ⟨fld103_0,rfl,plain29,fld103_1,trivial⟩ fun a F=>?_
 refine m_pure F rfl rfl rfl rfl (fun u hu=>y_load1 F plain29 rfl rfl (row_at (v:=.slice p100 (x94.2).length c101) ((hu.choose_spec.blk 0 rfl).row) rfl)) fun a F=>?_
 refine m_heavy rfl rfl ?_
 obtain ⟨x102,ex102,hm⟩:=ob hm
 refine sd F rfl ent102 (w_cloneBy ex102 (H.pm 8 [0,0,1,2,3,4,5,6,7] rfl:):) ?_;rintro _ w a ⟨p103,c103,rfl,H⟩ F
 refine lz ?_;refine ct ⟨⟨_,(H.pm 9 [3,0,1,2,4,5,6,7,8] rfl:)⟩,?_⟩
 refine m_heavy rfl rfl ?_
 obtain ⟨x104,ex104,hm⟩:=ob hm
 refine sd F rfl ent102 (w_cloneBy ex104 (H.pm 9 [2,0,1,2,3,4,5,6,7,8] rfl:):) ?_;rintro _ w a ⟨p105,c105,rfl,H⟩ F
 refine lz ?_;refine ct ⟨⟨_,(H.pm 10 [4,0,1,2,3,5,6,7,8,9] rfl:)⟩,?_⟩
 refine m_pure F rfl rfl rfl rfl (fun u hu=>y_build F rfl rfl (cs:=[.slice p103 (x102).length c103,.slice p105 (x104).length c105]) (by kernel_rfl)) fun a F=>?_
 refine m_heavy rfl rfl ?_
 replace H:=H.frz 1 rfl
 replace H:=H.frz 1 rfl
 refine s_build1 wkP F rfl rfl rfl agg103 elem24 rfl rfl rfl (by decide) H fun b106 w a H F=>?_
 replace H:=H.blkOw1 (R:=R_api_Pair) (x:=(x102,x104)) (fun gg=>⟨_,_,rfl,⟨_,_,rfl,(gg 2 _ rfl).choose_spec⟩,⟨_,_,rfl,(gg 1 _ rfl).choose_spec⟩⟩)
 refine lz ?_;refine ct ⟨⟨_,(H.pm 11 [5,0,1,2,3,4,6,7,8,9,10] rfl:)⟩,?_⟩
 refine m_heavy rfl rfl ?_
 replace H:=H.frz 0 rfl
 obtain ⟨x108,ex108,hm⟩:=ob hm
 refine s_app wkP F rfl rfl rfl rfl rfl rfl elem24 rfl ex108 H 9 0 rfl rfl fun p107 c107 w a H F=>?_
 refine lz ?_;refine ct ⟨⟨_,(H.pm 11 [5,0,1,2,3,4,6,7,8,9,10] rfl:)⟩,?_⟩
 refine mb [0] F H rfl fun a F=>?_
 refine m_nil ?_
 refine bn (ct (rl (bb [0,0] F H rfl fun a F=>?_)))
 replace H:=H.nf 11 rfl
 refine lz (ct ?_);cases hm
 exact ⟨_,rfl,⟨p107,c107,F.sl rfl,(H.pm 11 [9,10] rfl:)⟩⟩
 refine ex (cx (cx ?_));cases hm;refine ⟨_,rfl,?_⟩;rintro rfl
 refine ch (ct ?_)
 exact ⟨p92,c92,F.sl rfl,(H.pm 2 [0] rfl:)⟩
 refine ct (sb [0,0] F H rfl fun a F=>?_)
 refine nl (wr ?_)
 cases hm
 refine x_ret1 F rfl rfl ?_
 exact ⟨_,rfl,p56,c56,rfl,H⟩
theorem agz27:AggT Tryz.prog 27 2 ([.slice none (([]:List T_api_Pair)).length 0,.slice none (([]:List T_api_Snap)).length 0]):=⟨by rw [Tryz.underlying27];rfl,by kernel_rfl,by kernel_rfl⟩
theorem fld27_0:FieldT Tryz.prog 27 0 0:=by unfold FieldT;rw [Tryz.underlying27];kernel_rfl
theorem ent69:En Tryz.prog 69:=enters Tryz.func69 (by kernel_rfl) rfl
theorem agg27:AggT Tryz.prog 27 2 [.slice none 0 0,.slice none 0 0]:=⟨by rw [Tryz.underlying27];rfl,by kernel_rfl,by kernel_rfl⟩
theorem fld27_1:FieldT Tryz.prog 27 1 1:=by unfold FieldT;rw [Tryz.underlying27];kernel_rfl
theorem plain25:Plain Tryz.prog 25:=by unfold Plain;rw [Tryz.underlying25];rfl
theorem elem25:ElemT Tryz.prog 25 41 3 48 (.agg [.string ByteArray.empty,.int .u64 0,.slice none 0 0].toArray):=⟨Tryz.underlying25,by kernel_rfl,by kernel_rfl,by decide⟩
theorem agg41:AggT Tryz.prog 41 3 [.string ByteArray.empty,.int .u64 0,.slice none 0 0]:=⟨by rw [Tryz.underlying41];rfl,by kernel_rfl,by kernel_rfl⟩
theorem agz41:AggT Tryz.prog 41 3 ([.string (txb ([])),.int .u64 (0),.slice none (([]:List T_api_Pair)).length 0]):=⟨by rw [Tryz.underlying41];rfl,by kernel_rfl,by kernel_rfl⟩
theorem fld41_2:FieldT Tryz.prog 41 2 2:=by unfold FieldT;rw [Tryz.underlying41];kernel_rfl
theorem zero25:Zero1 Tryz.prog 25 (.slice none 0 0):=⟨by kernel_rfl,rfl⟩
theorem w_nCopied {s:T_api_State} {cs1:List Value} {w0 w:World} {l:List HP}  {r:T_api_State} (hm:nCopied s=some r) (H:St w0 w (HP.rc R_api_State cs1 s::l)) :
  Calls Tryz.prog 43 [.agg cs1.toArray].toArray w (fun e w'=>∃ v,e=.returned v∧∃ (p2:Option Addr) (c2:Nat) (p3:Option Addr) (c3:Nat),v=.agg ([.slice p2 (r.1).length c2,.slice p3 (r.2).length c3]).toArray∧St w0 w' (HP.sl R_api_Pair p2 c2 r.1::HP.ow R_api_Snap 41 p3 c3 r.2::l)):=by
 unfold nCopied at hm
 refine x_enter Tryz.func43 rfl rfl rfl ?_
 intro a F
 refine sr (s_boxA wkP F rfl rfl rfl rfl rfl H fun b4 w a H F=>?_)
 replace H:=H.owNil R_api_Pair 103
 replace H:=H.owNil R_api_Snap 41
 refine s_allocA wkP F rfl rfl rfl agz27 rfl H fun b5 w a H F=>?_
 replace H:=H.nf 5 rfl
 refine nl (sr (bk [0] F H rfl ⟨fld27_0,trivial⟩ fun a F=>?_))
 have G:=F;replace H:=rc_api_State (H.pk 4 rfl);obtain ⟨p6,c7,p8,c9,rfl,J⟩:=H;have H:=J;have F:=G;clear G J
 refine bk [5000] F H rfl ⟨rfl,plain24,trivial⟩ fun a F=>?_
 obtain ⟨x10,ex10,hm⟩:=ob hm
 refine sd F rfl ent69 (w_nPairs ex10 (H.pm 6 [0,0,1,2,3,4,5] rfl:):) ?_;rintro _ w a ⟨p11,c11,rfl,H⟩ F
 replace H:=H.owNil R_api_Snap 41
 refine sv F rfl (y_build F rfl rfl (cs:=[.slice p11 (x10).length c11,.slice none (([]:List T_api_Snap)).length 0]) (by kernel_rfl)) fun a F=>?_
 replace H:=H.owNil R_api_Pair 103
 replace H:=H.owNil R_api_Snap 41
 refine s_allocA wkP F rfl rfl rfl agz27 rfl H fun b12 w a H F=>?_
 refine s_storeA wkP F rfl rfl agg27 rfl rfl rfl H 0 rfl rfl rfl (fl rfl) fun w H=>?_
 replace H:=H.nf 11 rfl
 refine nl (sq (sr (bk [1,10001,0,0] F H rfl ⟨fld27_1,rfl,plain25,⟨_,Tryz.underlying25⟩,trivial⟩ fun a F=>?_)))
 refine nl ?_
 replace H:=H.frz 4 rfl
 replace H:=O_api_State_s (x1:=([]:List T_api_Snap)) (H.pm 11 [1,0,4,0,2,3,5,6,7,8,9,10] rfl:)
 replace H:=H.frz 8 rfl
 replace H:=O_api_State_s (x0:=([]:List T_api_Pair)) (x1:=([]:List T_api_Snap)) (H.pm 10 [7,0,8,0,1,2,3,4,5,6,9] rfl:)
 refine xm0 9 [2,3] [0,4,5,6,7,8] F H hm rfl rfl (fun r62 z=>z) (fun r62 z=>O_api_State b12 r62::z) (fun r62 hm=>?_) (fun r62 a w hm F H=>?_)
 refine bl (xl0 9 [2,3,11,12] [0,4,5,6,7,8] F H hm rfl rfl (fun (s95:T_api_State_o×Int) z=>(13,.int .i64 (s95.2))::z) (fun s95 z=>O_api_State b12 s95.1::z) ⟨F.sl rfl,(H.pm 9 [2,0,4,5,6,7,8] rfl:)⟩ (fun s95 a w o F H hm=>?_))
 refine sb [0] F H rfl fun a F=>?_
 replace H:=H.nf 7 rfl
 refine nl (sq (cPm F rfl hm (fun hg96 hm=>?_) (fun hg96 hm=>?_)))
 refine sk (ct (sq (bl (sr ?_))))
 obtain ⟨x97,ex97,hm⟩:=ob hm
 obtain ⟨b98,o98,hp98⟩:=H.slP 5 rfl (idxO_some ex97).2
 obtain ⟨cs99,hcl99,H⟩:=H.slEl 5 rfl hp98 (idxO_some ex97).2
 clear hcl99
 refine sv F rfl (y_idxS F elem25 rfl rfl rfl hp98 ex97) fun a F=>bk [999] F H rfl ⟨rfl,(aggn agg41 (H.rcLen 1 rfl)),trivial⟩ fun a F=>?_
 replace H:=H.owNil R_api_Pair 103
 refine s_allocA wkP F rfl rfl rfl agz41 rfl H fun b100 w a H F=>?_
 refine s_storeA wkP F rfl rfl agg41 rfl rfl rfl H 0 rfl (H.rcLen 3 rfl) rfl (H.rcFlat 3 rfl) fun w H=>?_
 replace H:=H.nf 11 rfl
 refine nl (sr (bk [2] F H rfl ⟨fld41_2,trivial⟩ fun a F=>?_))
 have G:=F;replace H:=rc_api_Snap (H.pk 3 rfl);obtain ⟨p101,c102,rfl,J⟩:=H;have H:=J;have F:=G;clear G J
 refine bk [1002] F H rfl ⟨rfl,plain24,trivial⟩ fun a F=>?_
 obtain ⟨x103,ex103,hm⟩:=ob hm
 refine sd F rfl ent69 (w_nPairs ex103 (H.pm 11 [0,0,1,2,3,4,5,6,7,8,9,10] rfl:):) ?_;rintro _ w a ⟨p104,c104,rfl,H⟩ F
 refine bk [2] F H rfl ⟨fld41_2,trivial⟩ fun a F=>?_
 refine s_st1 wkP F rfl rfl zero24 rfl rfl rfl rfl rfl H 2 rfl rfl fun w H=>?_
 replace H:=H.nf 12 rfl
 refine nl (rl (bk [1] F H rfl ⟨fld27_1,trivial⟩ fun a F=>?_))
 obtain ⟨p105,c106,p107,c108,H⟩:=O_api_State_o (H.pk 5 rfl)
 refine bk [1,5999] F H rfl ⟨rfl,plain25,rfl,(aggn agg41 rfl),trivial⟩ fun a F=>?_
 replace H:=H.frz 3 rfl
 refine s_build1 wkP F rfl rfl rfl agg41 elem25 rfl rfl rfl (by decide) H fun b109 w a H F=>?_
 replace H:=H.blkOw1 (R:=R_api_Snap) (x:=(x97.1,x97.2.1,x103)) (fun gg=>⟨_,_,rfl,rfl,⟨_,_,rfl,rfl,⟨_,_,rfl,(gg 1 _ rfl).choose_spec⟩⟩⟩)
 replace H:=H.frz 0 rfl
 obtain ⟨x111,ex111,hm⟩:=ob hm
 refine s_app wkP F rfl rfl rfl rfl rfl rfl elem25 rfl ex111 H 4 0 rfl rfl fun p110 c110 w a H F=>?_
 refine bk [1] F H rfl ⟨fld27_1,trivial⟩ fun a F=>?_
 refine s_st1 wkP F rfl rfl zero25 rfl rfl rfl rfl rfl H 2 rfl rfl fun w H=>?_
 replace H:=H.nf 15 rfl
 refine lz (bn (ct (rl (bb [0,0] F H rfl fun a F=>?_))))
 refine lz ?_
 replace H:=O_api_State_s (H.pm 15 [2,3,4,0,1,3,5,6,7,8,9,10,11,12,13,14] rfl:)
 refine ct ?_;cases hm
 exact ⟨_,rfl,⟨F.sl rfl,(H.pm 14 [0,8,9,10,11,12,13] rfl:)⟩⟩
 refine ex (cx (cx ?_));cases hm;refine ⟨_,rfl,?_⟩;rintro rfl
 refine ch (ct ?_)
 exact ⟨F.sl rfl,H⟩
 refine ct (sr ?_)
 obtain ⟨p112,c113,p114,c115,H⟩:=O_api_State_o (H.pk 0 rfl)
 refine bk [999] F H rfl ⟨rfl,(aggn agg27 rfl),trivial⟩ fun a F=>?_
 obtain ⟨p116,c117,p118,c119,H⟩:=O_api_State_o (H.pk 3 rfl)
 refine s_storeA wkP F rfl rfl agg27 rfl rfl rfl H 0 rfl rfl rfl (fl rfl) fun w H=>?_
 replace H:=H.nf 11 rfl
 refine nl (wr ?_)
 cases hm
 refine x_resC1 F rfl (⟨_,rfl,agg27.run_load (H.blk 0 rfl).row rfl⟩) ?_
 exact ⟨_,rfl,p112,c113,p114,c115,rfl,(H.pm 11 [4,5] rfl:)⟩
theorem ent42:En Tryz.prog 42:=enters Tryz.func42 (by kernel_rfl) rfl
theorem w_nNew   {w0 w:World} {l:List HP}  {r:T_api_State} (hm:nNew =some r) (H:St w0 w (l)) :
  Calls Tryz.prog 14 [].toArray w (fun e w'=>∃ v,e=.returned v∧∃ (cs1:List Value),v=.agg cs1.toArray∧St w0 w' (HP.rc R_api_State cs1 r::l)):=by
 unfold nNew at hm
 refine x_enter Tryz.func14 rfl rfl rfl ?_
 intro a F
 refine sr ?_
 replace H:=H.owNil R_api_Pair 103
 replace H:=H.owNil R_api_Snap 41
 refine s_allocA wkP F rfl rfl rfl agz27 rfl H fun b2 w a H F=>?_
 replace H:=H.nf 3 rfl
 refine nl (sr ?_)
 obtain ⟨x3,ex3,hm⟩:=ob hm
 refine sd F rfl ent42 (w_fNew ex3 H:) ?_;rintro _ w a ⟨p4,c4,rfl,H⟩ F
 replace H:=H.owNil R_api_Snap 41
 refine sv F rfl (y_build F rfl rfl (cs:=[.slice p4 (x3).length c4,.slice none (([]:List T_api_Snap)).length 0]) (by kernel_rfl)) fun a F=>?_
 refine s_storeA wkP F rfl rfl agg27 rfl rfl rfl H 2 rfl rfl rfl (fl rfl) fun w H=>?_
 replace H:=H.nf 5 rfl
 refine nl (wr ?_)
 replace H:=H.frz 0 rfl
 replace H:=H.mkRc (R:=R_api_State) (cs:=[.slice p4 (x3).length c4,.slice none (([]:List T_api_Snap)).length 0]) (x:=(x3,([]:List T_api_Snap))) (fun gg=>⟨_,_,rfl,⟨_,_,rfl,(gg 1 _ rfl).choose_spec⟩,⟨_,_,rfl,(gg 0 _ rfl).choose_spec⟩⟩)
 cases hm
 refine x_resC1 F rfl (⟨_,rfl,agg27.run_load (H.blk 3 rfl).row rfl⟩) ?_
 exact ⟨_,rfl,[.slice p4 (x3).length c4,.slice none (([]:List T_api_Snap)).length 0],rfl,(H.pm 6 [0] rfl:)⟩
theorem w_nUnits {s:T_api_State} {cs1:List Value} {w0 w:World} {l:List HP}  {r:Int} (hm:nUnits s=some r) (H:St w0 w (HP.rc R_api_State cs1 s::l)) :
  Calls Tryz.prog 24 [.agg cs1.toArray].toArray w (fun e w'=>∃ v,e=.returned v∧v=.int .i64 (r)∧St w0 w' (l)):=by
 unfold nUnits at hm
 refine x_enter Tryz.func24 rfl rfl rfl ?_
 intro a F
 refine sr (s_boxA wkP F rfl rfl rfl rfl rfl H fun b2 w a H F=>?_)
 refine bb [0] F H rfl fun a F=>?_
 replace H:=H.nf 2 rfl
 refine nl (sr (bk [0] F H rfl ⟨fld27_0,trivial⟩ fun a F=>?_))
 have G:=F;replace H:=rc_api_State (H.pk 1 rfl);obtain ⟨p3,c4,p5,c6,rfl,J⟩:=H;have H:=J;have F:=G;clear G J
 refine bk [2000,0,0] F H rfl ⟨rfl,plain24,⟨_,Tryz.underlying24⟩,trivial⟩ fun a F=>nl (sq (sr (bk [1,2001,0,0] F H rfl ⟨fld27_1,rfl,plain25,⟨_,Tryz.underlying25⟩,trivial⟩ fun a F=>?_)))
 refine nl (xm0 3 [] [0,1,2] F H hm rfl rfl (fun r29 z=>(3,.int .i64 (r29))::z) (fun r29 z=>z) (fun r29 hm=>?_) (fun r29 a w hm F H=>?_))
 refine bl (xl0 3 [10,11] [0,1,2] F H hm rfl rfl (fun (s44:Int×Int) z=>(3,.int .i64 (s44.1))::(12,.int .i64 (s44.2))::z) (fun s44 z=>z) ⟨F.sl rfl,H⟩ (fun s44 a w o F H hm=>?_))
 refine sb [0] F H rfl fun a F=>nl (sq (cPm F rfl hm (fun hg45 hm=>?_) (fun hg45 hm=>?_)))
 refine sk (ct (sq (bl (sr ?_))))
 obtain ⟨x46,ex46,hm⟩:=ob hm
 obtain ⟨b47,o47,hp47⟩:=H.slP 1 rfl (idxO_some ex46).2
 obtain ⟨cs48,hcl48,H⟩:=H.slEl 1 rfl hp47 (idxO_some ex46).2
 clear hcl48
 refine sv F rfl (y_idxS F elem25 rfl rfl rfl hp47 ex46) fun a F=>bk [999] F H rfl ⟨rfl,(aggn agg41 (H.rcLen 1 rfl)),trivial⟩ fun a F=>?_
 replace H:=H.owNil R_api_Pair 103
 refine s_allocA wkP F rfl rfl rfl agz41 rfl H fun b49 w a H F=>?_
 refine s_storeA wkP F rfl rfl agg41 rfl rfl rfl H 0 rfl (H.rcLen 3 rfl) rfl (H.rcFlat 3 rfl) fun w H=>?_
 replace H:=H.nf 7 rfl
 refine nl (rl (bk [0,2] F H rfl ⟨fld41_2,trivial⟩ fun a F=>?_))
 have G:=F;replace H:=rc_api_Snap (H.pk 3 rfl);obtain ⟨p50,c51,rfl,J⟩:=H;have H:=J;have F:=G;clear G J
 refine bk [1002,0,0,0,0] F H rfl ⟨rfl,plain24,⟨_,Tryz.underlying24⟩,trivial⟩ fun a F=>?_
 refine lz (bn (ct (rl (bb [0,0] F H rfl fun a F=>?_))))
 refine lz (ct ?_);cases hm
 exact ⟨_,rfl,⟨F.sl rfl,(H.pm 7 [4,5,6] rfl:)⟩⟩
 refine ex (cx (cx ?_));cases hm;refine ⟨_,rfl,?_⟩;rintro rfl
 refine ch (ct ?_)
 exact ⟨F.sl rfl,H⟩
 refine ct (sb [0,0] F H rfl fun a F=>?_)
 refine nl (wr ?_)
 cases hm
 refine x_ret1 F rfl rfl ?_
 exact ⟨_,rfl,rfl,(H.pm 3 [] rfl:)⟩
theorem ent24:En Tryz.prog 24:=enters Tryz.func24 (by kernel_rfl) rfl
theorem ent53:En Tryz.prog 53:=enters Tryz.func53 (by kernel_rfl) rfl
theorem plain33:Plain Tryz.prog 33:=by unfold Plain;rw [Tryz.underlying33];rfl
theorem w_nList {s:T_api_State} {behind:List UInt8} {cs1:List Value} {w0 w:World} {l:List HP}  {r:T_api_Answer} (hm:nList s behind=some r) (H:St w0 w (HP.rc R_api_State cs1 s::l)) :
  Calls Tryz.prog 45 [.agg cs1.toArray,.string (txb (behind))].toArray w (fun e w'=>∃ v,e=.returned v∧∃ (cs2:List Value),v=.agg cs2.toArray∧St w0 w' (HP.rc R_api_Answer cs2 r::l)):=by
 unfold nList at hm
 refine x_enter Tryz.func45 rfl rfl rfl ?_
 intro a F
 refine sr (s_boxA wkP F rfl rfl rfl rfl rfl H fun b3 w a H F=>?_)
 replace H:=H.owNil rByte 5
 replace H:=H.owNil rStr 9
 refine s_allocA wkP F rfl rfl rfl agz35 rfl H fun b4 w a H F=>?_
 replace H:=H.nf 5 rfl
 refine nl (sr (bk [1] F H rfl ⟨fld27_1,trivial⟩ fun a F=>?_))
 have G:=F;replace H:=rc_api_State (H.pk 4 rfl);obtain ⟨p5,c6,p7,c8,rfl,J⟩:=H;have H:=J;have F:=G;clear G J
 refine bk [5001,0] F H rfl ⟨rfl,plain25,⟨_,Tryz.underlying25⟩,trivial⟩ fun a F=>?_
 replace H:=H.owNil rByte 5
 replace H:=H.owNil rStr 9
 refine sv F rfl (y_build F rfl rfl (cs:=[.int .i64 (0),.int .i64 (((s.2).length:Int)),.slice none (([]:List UInt8)).length 0,.slice none (([]:List (List UInt8))).length 0]) (by kernel_rfl)) fun a F=>?_
 replace H:=H.owNil rByte 5
 replace H:=H.owNil rStr 9
 refine s_allocA wkP F rfl rfl rfl agz35 rfl H fun b9 w a H F=>?_
 refine s_storeA wkP F rfl rfl agg35 rfl rfl rfl H 0 rfl rfl rfl (fl rfl) fun w H=>?_
 replace H:=H.nf 11 rfl
 refine nl (sq (sr (bk [1,10001,0,0] F H rfl ⟨fld27_1,rfl,plain25,⟨_,Tryz.underlying25⟩,trivial⟩ fun a F=>?_)))
 refine nl (xm2 11 [4,5] [1,2,4,5,6,7,8,9,10] F H hm rfl rfl (fun r125 (p126:Option Addr) (c126:Nat) z=>z) (fun r125 p126 c126 z=>HP.blk b9 ([.int .i64 (0),.int .i64 (((s.2).length:Int)),.slice none (([]:List UInt8)).length 0,.slice p126 (r125).length c126]) 35::HP.ow rStr 9 p126 c126 r125::z) (fun r125 hm=>?_) (fun r125 a w hm p126 c126 F H=>?_))
 refine bl ?_
 refine xl2 11 [1,4,5,13,14] [1,2,4,5,6,7,8,9,10] F H hm rfl rfl (fun (s203:(List (List UInt8))×Int) (p204:Option Addr) (c204:Nat) z=>(15,.int .i64 (s203.2))::z) (fun s203 p204 c204 z=>HP.blk b9 ([.int .i64 (0),.int .i64 (((s.2).length:Int)),.slice none (([]:List UInt8)).length 0,.slice p204 (s203.1).length c204]) 35::HP.ow rStr 9 p204 c204 s203.1::z) ⟨none,0,F.sl rfl,(H.pm 11 [0,3,1,2,4,5,6,7,8,9,10] rfl:)⟩ (fun s203 a w o p204 c204 F H hm=>?_)
 refine sb [0] F H rfl fun a F=>nl (sq (cPm F rfl hm (fun hg205 hm=>?_) (fun hg205 hm=>?_)))
 refine sk (ct (sq (xm2 11 [1,4,5,13,14,15] [2,3,4,5,6,7,8,9,10] F H hm rfl rfl (fun r223 (p224:Option Addr) (c224:Nat) z=>z) (fun r223 p224 c224 z=>HP.blk b9 ([.int .i64 (0),.int .i64 (((s.2).length:Int)),.slice none (([]:List UInt8)).length 0,.slice p224 (r223).length c224]) 35::HP.ow rStr 9 p224 c224 r223::z) (fun r223 hm=>?_) (fun r223 a w hm p224 c224 F H=>?_))))
 refine bl (sr ?_)
 obtain ⟨x225,ex225,hm⟩:=ob hm
 obtain ⟨b226,o226,hp226⟩:=H.slP 6 rfl (idxO_some ex225).2
 obtain ⟨cs227,hcl227,H⟩:=H.slEl 6 rfl hp226 (idxO_some ex225).2
 clear hcl227
 refine sv F rfl (y_idxS F elem25 rfl rfl rfl hp226 ex225) fun a F=>bk [999] F H rfl ⟨rfl,(aggn agg41 (H.rcLen 1 rfl)),trivial⟩ fun a F=>?_
 replace H:=H.owNil R_api_Pair 103
 refine s_allocA wkP F rfl rfl rfl agz41 rfl H fun b228 w a H F=>?_
 refine s_storeA wkP F rfl rfl agg41 rfl rfl rfl H 0 rfl (H.rcLen 3 rfl) rfl (H.rcFlat 3 rfl) fun w H=>?_
 replace H:=H.nf 15 rfl
 refine nl (sr (bk [0] F H rfl ⟨fld41_0,trivial⟩ fun a F=>?_))
 have G:=F;replace H:=rc_api_Snap (H.pk 3 rfl);obtain ⟨p229,c230,rfl,J⟩:=H;have H:=J;have F:=G;clear G J
 refine bk [1000,0] F H rfl ⟨rfl,plain9,trivial⟩ fun a F=>sv F rfl (y_gtrT (l:=x225.1) (m:=behind) F rfl rfl rfl) fun a F=>?_
 refine bb [0] F H rfl fun a F=>?_
 by_cases hg231:(gtrB x225.1 behind)=true
 replace hm:=ifT hg231 hm
 replace F:=F.vT 23 hg231 rfl
 refine bk [3,4003,0,0,0] F H rfl ⟨fld35_3,rfl,plain33,⟨_,Tryz.underlying33⟩,trivial⟩ fun a F=>nl (xm2 15 [1,4,5,13,14,15] [0,1,2,3,6,7,8,9,10,11,12,13,14] F H hm rfl rfl (fun r236 (p237:Option Addr) (c237:Nat) z=>z) (fun r236 p237 c237 z=>HP.blk b9 ([.int .i64 (0),.int .i64 (((s.2).length:Int)),.slice none (([]:List UInt8)).length 0,.slice p237 (r236).length c237]) 35::HP.ow rStr 9 p237 c237 r236::z) (fun r236 hm=>?_) (fun r236 a w hm p237 c237 F H=>?_))
 refine cPm F rfl hm (fun hg238 hm=>?_) (fun hg238 hm=>?_)
 refine rl (bk [3,4003,0,1000] F H rfl ⟨fld35_3,rfl,plain33,fld41_0,rfl,plain9,trivial⟩ fun a F=>?_)
 refine s_buildC wkP F rfl rfl rfl elem33 zero9 rfl rfl rfl rfl (by simp [Value.cells]) (by decide) H fun b239 w a H F=>?_
 replace H:=H.blkOw1 (R:=rStr) (x:=x225.1) (fun gg=>rfl)
 replace H:=H.frz 0 rfl
 obtain ⟨x241,ex241,hm⟩:=ob hm
 refine s_app wkP F rfl rfl rfl rfl rfl rfl elem33 rfl ex241 H 6 0 rfl rfl fun p240 c240 w a H F=>?_
 refine bk [3] F H rfl ⟨fld35_3,trivial⟩ fun a F=>?_
 refine s_st1 wkP F rfl rfl zero33 rfl rfl rfl rfl rfl H 5 rfl rfl fun w H=>?_
 replace H:=H.nf 16 rfl
 refine lz ?_
 cases hm
 refine ct ?_
 exact ⟨p240,c240,F.sl rfl,(H.pm 16 [5,6,1,2,3,4,7,8,9,10,11,12,13,14,15] rfl:)⟩
 refine sk ?_
 cases hm
 refine ct ?_
 exact ⟨p204,c204,F.sl rfl,(H.pm 15 [4,5,0,1,2,3,6,7,8,9,10,11,12,13,14] rfl:)⟩
 refine bn ?_
 cases hm
 refine ct ?_
 exact ⟨p237,c237,F.sl rfl,(H.pm 15 [0,1,6,7,8,9,10,11,12,13,14] rfl:)⟩
 replace hm:=ifF hg231 hm
 replace F:=F.vF 23 hg231 rfl
 refine bb (List.replicate 5 0) F H rfl fun a F=>nl (cF F rfl ?_)
 refine sk (bn ?_)
 cases hm
 refine ct ?_
 exact ⟨p204,c204,F.sl rfl,(H.pm 15 [4,5,6,7,8,9,10,11,12,13,14] rfl:)⟩
 refine ct (rl (bb [0,0] F H rfl fun a F=>?_))
 refine lz (ct ?_);cases hm
 exact ⟨_,rfl,⟨p224,c224,F.sl rfl,H⟩⟩
 refine ex (cx (cx ?_));cases hm;refine ⟨_,rfl,?_⟩;rintro rfl
 refine ch (ct ?_)
 exact ⟨p204,c204,F.sl rfl,H⟩
 refine ct (sr (bk [999] F H rfl ⟨rfl,(aggn agg35 rfl),trivial⟩ fun a F=>?_))
 refine s_storeA wkP F rfl rfl agg35 rfl rfl rfl H 7 rfl rfl rfl (fl rfl) fun w H=>?_
 replace H:=H.nf 11 rfl
 refine nl (wr ?_)
 replace H:=H.frz 4 rfl
 replace H:=H.frz 2 rfl
 replace H:=H.mkRc (R:=R_api_Answer) (cs:=[.int .i64 (0),.int .i64 (((s.2).length:Int)),.slice none (([]:List UInt8)).length 0,.slice p126 (r125).length c126]) (x:=(0,((s.2).length:Int),([]:List UInt8),r125)) (fun gg=>⟨_,_,rfl,rfl,⟨_,_,rfl,rfl,⟨_,_,rfl,⟨_,_,rfl,(gg 1 _ rfl).choose_spec⟩,⟨_,_,rfl,(gg 0 _ rfl).choose_spec⟩⟩⟩⟩)
 cases hm
 refine x_resC1 F rfl (⟨_,rfl,agg35.run_load (H.blk 8 rfl).row rfl⟩) ?_
 exact ⟨_,rfl,[.int .i64 (0),.int .i64 (((s.2).length:Int)),.slice none (([]:List UInt8)).length 0,.slice p126 (r125).length c126],rfl,(H.pm 12 [0] rfl:)⟩
end Go.Proofs.YtnagibpmfabkjaaGreatDoor
