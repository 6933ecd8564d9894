/- Texts FilesB, S2, Mos, New. -/
import Derived.Test.YthcjjjnphgopjaaGreatDoorQ6
import Derived.Test.YthcjjjnphgopjaaGreatDoorQ3
import Derived.Shelf.SlMaps.Clone
import Derived.Test.YthcjjjnphgopjaaGreatDoorQ4
set_option linter.unusedSimpArgs false
set_option linter.unusedVariables false
namespace Go.Proofs.YthcjjjnphgopjaaGreatDoor
open Go.RowKit Go.Tri
set_option maxRecDepth 100000
set_option maxHeartbeats 4000000
theorem ent107:En Tryz.prog 107:=enters Tryz.func107 (by kernel_rfl) rfl
theorem ent106:En Tryz.prog 106:=enters Tryz.func106 (by kernel_rfl) rfl
theorem w_sBelow {s:(List UInt8)→Option T_files_file} {p:List UInt8} {q1:Option Nat} {w0 w:World} {l:List HP}  {r:(List (List UInt8))} (hm:sBelow s p=some r) (H:St w0 w (HP.mm q1 ekStr true R_files_file (fun _=>True) s::l)) :
  Calls Tryz.prog 83 [.map q1,.string (txb (p))].toArray w (fun e w'=>∃ v,e=.returned v∧∃ (p2:Option Addr) (c2:Nat),v=.slice p2 (r).length c2∧St w0 w' (HP.ow rStr 9 p2 c2 r::HP.mm q1 ekStr true R_files_file (fun _=>True) s::l)):=by
 unfold sBelow at hm
 refine x_enter Tryz.func83 rfl rfl rfl ?_
 intro a F
 refine sb [0] F H rfl fun a F=>nl (sq (sb [0] F H rfl fun a F=>?_))
 obtain ⟨raw3,cl3,es3,hM3,hE3,H⟩:=H.moOpen 0 rfl
 refine s_rngM wkP F rfl rfl rfl Tryz.underlying65 rfl H 1 rfl rfl fun r3 w a H F=>?_
 replace H:=H.nf 3 rfl
 refine nl (bl ?_)
 replace H:=H.owNil rStr 9
 have hmM76:=hm;clear hm
 refine x_loopM es3 hmM76 (fun (s76:(List (List UInt8))) vis76 aa ww=>∃ (p77:Option Addr) (c77:Nat),Fr ⟨28,[]⟩ aa [(1,.string (txb (p))),(4,.slice p77 (s76).length c77),(7,.pointer (some ⟨r3,0,none⟩))]∧St w0 ww (HP.obj r3 (mit q1 cl3 (bornsOf raw3 (vis76)))::HP.es R_files_file (fun _=>True) es3 s::HP.mo q1 raw3 cl3::HP.ow rStr 9 p77 c77 s76::l)) ⟨none,0,F.sl rfl,(H.pm 4 [1,2,3,0] rfl:)⟩ ?_
 clear F H
 rintro s76 vis76 a w hr76 ⟨p77,c77,F,H⟩
 refine sr (s_nxtM wkP F rfl rfl rfl rfl rfl hM3 hr76.ok H 2 0 rfl rfl rfl (fun hall78 w a H F=>?_) (fun q78 k78 cs78 v78 hq78 hn78 w a H F=>?_))
 have hm:=elimL (hr76.done hE3 hall78 hmM76)
 refine bb [0] F H rfl fun a F=>nl (sq (cF F rfl ?_))
 refine ex (cx (cx ?_))
 replace H:=H.moMm 2 1 hM3 rfl rfl
 refine ch (ct (sb [0] F H rfl fun a F=>?_))
 obtain ⟨x79,ex79,hm⟩:=ob hm
 refine sd F rfl ent107 (w_sortT ex79 (H.pm 4 [3,0,1,2] rfl:):) ?_;rintro _ w a ⟨rfl,hl80,H⟩ F
 replace F:=F.bool (k:=4) (u:=.slice p77 (x79).length c77) rfl (by rw [hl80])
 replace F:=F.bool (k:=25) (u:=.slice p77 (x79).length c77) rfl (by rw [hl80])
 replace H:=H.nf 4 rfl
 refine nb [0,0] F H rfl fun a F=>nl (wr ?_)
 cases hm
 refine x_ret1 F rfl rfl ?_
 exact ⟨_,rfl,p77,c77,rfl,(H.pm 4 [0,3] rfl:)⟩
 obtain ⟨o78,hm,hs78,hx78⟩:=hr76.step hE3 hq78 hn78 hmM76
 refine bb [0] F H rfl fun a F=>nl (sq (cT F rfl ?_))
 refine sk (ct (xm2 4 [1,7] [0,1,2] F H hm rfl rfl (fun r96 (p97:Option Addr) (c97:Nat) z=>(4,.slice p97 (r96).length c97)::z) (fun r96 p97 c97 z=>HP.ow rStr 9 p97 c97 r96::z) (fun r96 hm=>?_) (fun r96 a w hm p97 c97 F H=>?_)))
 refine bl (sr ?_)
 obtain ⟨hk98,H⟩:=H.esEl 1 rfl hq78
 refine sv F rfl (y_entM (agg:=true) (ek:=ekStr) F rfl rfl hM3 hq78 H 3 1 rfl rfl rfl) fun a F=>bb [0,0] F H rfl fun a F=>nb [0] F H rfl fun a F=>sv F rfl (y_neT (l:=k78) (m:=[47]) F rfl rfl rfl) fun a F=>bb [0] F H rfl fun a F=>?_
 rcases spN 14 F rfl hm with ⟨hg99,hm,F⟩ | ⟨hg99,hm,F⟩
 refine bb (List.replicate 5 0) F H rfl fun a F=>nl (cF F rfl (sk (bn ?_)))
 cases hm
 refine ct ?_
 exact ⟨p77,c77,F.sl rfl,(H.pm 5 [4,1,2,3] rfl:)⟩
 refine bb [0] F H rfl fun a F=>g_onP F rfl rfl rfl rfl ?_
 obtain ⟨x100,ex100,hm⟩:=ob hm
 refine sd F rfl ent50 (w_m_path_Parent ex100 H:) ?_;rintro _ w a ⟨rfl,H⟩ F
 refine bb [0] F H rfl fun a F=>g_onP F rfl rfl rfl rfl (sv F rfl (y_eqT (l:=x100) (m:=p) F rfl rfl rfl) fun a F=>bb [0] F H rfl fun a F=>?_)
 replace H:=H.nf 5 rfl
 refine nl (xm2 5 [1,7] [1,2,3] F H hm rfl rfl (fun r106 (p107:Option Addr) (c107:Nat) z=>(4,.slice p107 (r106).length c107)::z) (fun r106 p107 c107 z=>HP.ow rStr 9 p107 c107 r106::z) (fun r106 hm=>?_) (fun r106 a w hm p107 c107 F H=>?_))
 refine cPm F rfl hm (fun hg108 hm=>?_) (fun hg108 hm=>?_)
 refine rl (bb [0,0] F H rfl fun a F=>?_)
 obtain ⟨x109,ex109,hm⟩:=ob hm
 refine sd F rfl ent106 (w_m_path_Base ex109 H:) ?_;rintro _ w a ⟨rfl,H⟩ F
 refine s_buildC wkP F rfl rfl rfl elem35 zero9 rfl rfl rfl rfl (by simp [Value.cells]) (by decide) H fun b110 w a H F=>?_
 replace H:=H.blkOw1 (R:=rStr) (x:=x109) (fun gg=>rfl)
 replace H:=H.frz 0 rfl
 obtain ⟨x112,ex112,hm⟩:=ob hm
 refine s_app wkP F rfl rfl rfl rfl rfl rfl elem35 rfl ex112 H 5 0 rfl rfl fun p111 c111 w a H F=>?_
 refine bb [0] F H rfl fun a F=>?_
 replace H:=H.nf 6 rfl
 refine lz ?_
 cases hm
 refine ct ?_
 exact ⟨p111,c111,F.sl rfl,(H.pm 6 [5,2,3,4] rfl:)⟩
 refine sk ?_
 cases hm
 refine ct ?_
 exact ⟨p77,c77,F.sl rfl,(H.pm 5 [4,1,2,3] rfl:)⟩
 refine bn ?_
 cases hm
 refine ct ?_
 exact ⟨p107,c107,F.sl rfl,H⟩
 refine ct ?_;cases hm
 exact ⟨_,q78,hs78 _ rfl,⟨p97,c97,F.sl rfl,(H.pm 4 [1,2,3,0] rfl:)⟩⟩
theorem ent82:En Tryz.prog 82:=enters Tryz.func82 (by kernel_rfl) rfl
theorem ent61:En Tryz.prog 61:=enters Tryz.func61 (by kernel_rfl) rfl
theorem w_sRename {s:(List UInt8)→Option T_files_file} {o:T_api_Op} {m1:Nat} {cs2:List Value} {w0 w:World} {l:List HP}  {r:Int×((List UInt8)→Option T_files_file)} (hm:sRename s o=some r) (H:St w0 w (HP.mm (some m1) ekStr true R_files_file (fun _=>True) s::HP.rc R_api_Op cs2 o::l)) :
  Calls Tryz.prog 64 [.map (some m1),.agg cs2.toArray].toArray w (fun e w'=>∃ v,e=.returned v∧v=.int .i64 (r.1)∧St w0 w' (HP.mm (some m1) ekStr true R_files_file (fun _=>True) r.2::l)):=by
 unfold sRename at hm
 refine x_enter Tryz.func64 rfl rfl rfl ?_
 intro a F
 refine sr (s_boxA wkP F rfl rfl rfl rfl rfl H fun b3 w a H F=>bb [0] F H rfl fun a F=>?_)
 replace H:=H.nf 3 rfl
 refine nl (sq (sr (bk [1] F H rfl ⟨fld25_1,trivial⟩ fun a F=>?_)))
 have G:=F;replace H:=rc_api_Op (H.pk 2 rfl);obtain ⟨p4,c5,rfl,J⟩:=H;have H:=J;have F:=G;clear G J
 refine bk [1001] F H rfl ⟨rfl,plain9,trivial⟩ fun a F=>?_
 obtain ⟨x6,ex6,hm⟩:=ob hm
 refine sd F rfl ent49 (w_m_path_Check ex6 H:) ?_;rintro _ w a ⟨rfl,H⟩ F
 refine bb [0,0] F H rfl fun a F=>?_
 rcases spN 16 F rfl hm with ⟨hg7,hm,F⟩ | ⟨hg7,hm,F⟩
 refine bk [2,1002] F H rfl ⟨fld25_2,rfl,plain9,trivial⟩ fun a F=>g_onP F rfl rfl rfl rfl ?_
 obtain ⟨x8,ex8,hm⟩:=ob hm
 refine sd F rfl ent49 (w_m_path_Check ex8 H:) ?_;rintro _ w a ⟨rfl,H⟩ F
 refine bb [0,0] F H rfl fun a F=>?_
 replace H:=H.nf 3 rfl
 refine nl (cNm F rfl hm (fun hg9 hm=>?_) (fun hg9 hm=>?_))
 refine sb [0] F H rfl fun a F=>nl (wr (tr ?_))
 cases hm
 refine x_ret1 F rfl rfl ?_
 exact ⟨_,rfl,rfl,(H.pm 3 [2] rfl:)⟩
 refine sk (ct (sq (sr (bk [0,1,1001] F H rfl ⟨fld25_1,rfl,plain9,trivial⟩ fun a F=>?_))))
 obtain ⟨x10,ex10,hm⟩:=ob hm
 refine sd F rfl ent79 (w_sLook ex10 (H.pm 3 [2,0,1] rfl:):) ?_;rintro _ w a ⟨cs11,rfl,H⟩ F
 refine bb [0,0,0] F H rfl fun a F=>?_
 replace H:=H.owNil rByte 5
 refine s_allocA wkP F rfl rfl rfl agz71 rfl H fun b12 w a H F=>s_storeA wkP F rfl rfl agg71 rfl rfl rfl H 0 rfl (H.rcLen 2 rfl) rfl (H.rcFlat 2 rfl) fun w H=>bb [0] F H rfl fun a F=>?_
 replace H:=H.nf 6 rfl
 refine nb [0,0] F H rfl fun a F=>?_
 refine nl (cNm F rfl hm (fun hg13 hm=>?_) (fun hg13 hm=>?_))
 refine sb [0,0] F H rfl fun a F=>nl (wr (tr ?_))
 cases hm
 refine x_ret1 F rfl rfl ?_
 exact ⟨_,rfl,rfl,(H.pm 6 [3] rfl:)⟩
 refine sk (ct (sq (sr (bk [1,5001] F H rfl ⟨fld25_1,rfl,plain9,trivial⟩ fun a F=>sv F rfl (y_eqT (l:=o.2.1) (m:=[47]) F rfl rfl rfl) fun a F=>bb [0] F H rfl fun a F=>?_))))
 rcases spP 35 F rfl hm with ⟨hg14,hm,F⟩ | ⟨hg14,hm,F⟩
 refine bb (List.replicate 6 0) F H rfl fun a F=>nl (cT F rfl (sb [0] F H rfl fun a F=>nl (wr (tr ?_))))
 cases hm
 refine x_ret1 F rfl rfl ?_
 exact ⟨_,rfl,rfl,(H.pm 6 [3] rfl:)⟩
 refine bk [1,5001,2,5002] F H rfl ⟨fld25_1,rfl,plain9,fld25_2,rfl,plain9,trivial⟩ fun a F=>g_onP F rfl rfl rfl rfl ?_
 obtain ⟨x15,ex15,hm⟩:=ob hm
 refine sd F rfl ent82 (w_m_path_Within ex15 H:) ?_;rintro _ w a ⟨rfl,H⟩ F
 refine bb [0] F H rfl fun a F=>?_
 replace H:=H.nf 6 rfl
 refine nl (cB F rfl (fun hg16=>?_) (fun hg16=>?_))
 replace hm:=ifT hg16 hm
 refine sb [0] F H rfl fun a F=>nl (wr (tr ?_))
 cases hm
 refine x_ret1 F rfl rfl ?_
 exact ⟨_,rfl,rfl,(H.pm 6 [3] rfl:)⟩
 replace hm:=ifF (nT hg16) hm
 refine sk (ct (sq (sr (bk [0,2,5002] F H rfl ⟨fld25_2,rfl,plain9,trivial⟩ fun a F=>?_))))
 obtain ⟨x17,ex17,hm⟩:=ob hm
 refine sd F rfl ent61 (w_sRoom ex17 (H.pm 6 [3,0,1,2,4,5] rfl:):) ?_;rintro _ w a ⟨rfl,H⟩ F
 refine bb [0] F H rfl fun a F=>?_
 replace H:=H.nf 6 rfl
 refine nb [0,0] F H rfl fun a F=>?_
 refine nl (cNm F rfl hm (fun hg18 hm=>?_) (fun hg18 hm=>?_))
 refine sb [0,0] F H rfl fun a F=>nl (wr (tr ?_))
 cases hm
 refine x_ret1 F rfl rfl ?_
 exact ⟨_,rfl,rfl,(H.pm 6 [0] rfl:)⟩
 refine sk (ct (sr (s_mmNew ekStr false rStr (fun _=>True) wkP F rfl rfl rfl rfl H fun m19 w a H F=>bb [0] F H rfl fun a F=>?_)))
 replace H:=H.nf 7 rfl
 refine nl (sq (sb [0] F H rfl fun a F=>?_))
 obtain ⟨raw20,cl20,es20,hM20,hE20,H⟩:=H.moOpen 1 rfl
 refine s_rngM wkP F rfl rfl rfl Tryz.underlying65 rfl H 2 rfl rfl fun r20 w a H F=>?_
 replace H:=H.nf 9 rfl
 refine nl (bl ?_)
 have hmM141:=hm;clear hm
 refine x_loopM es20 hmM141 (fun (s141:((List UInt8)→Option (List UInt8))) vis141 aa ww=>Fr ⟨89,[]⟩ aa [(0,.map (some m1)),(3,.pointer (some ⟨b3,0,none⟩)),(8,.map (some m19)),(51,.pointer (some ⟨r20,0,none⟩))]∧St w0 ww (HP.obj r20 (mit (some m1) cl20 (bornsOf raw20 (vis141)))::HP.es R_files_file (fun _=>True) es20 s::HP.mm (some m19) ekStr false rStr (fun _=>True) s141::HP.mo (some m1) raw20 cl20::HP.blk b12 (cs11) 71::HP.ow rByte 5 none 0 ([]:List UInt8)::HP.rc R_files_file cs11 x10.1::HP.sl rByte p4 c5 o.2.2.2.2.2::HP.blk b3 ([.int .i64 (o.1),.string (txb (o.2.1)),.string (txb (o.2.2.1)),.int .i64 (o.2.2.2.1),.int .i64 (o.2.2.2.2.1),.slice p4 (o.2.2.2.2.2).length c5]) 25::l)) ⟨F.sl rfl,H⟩ ?_
 clear F H
 rintro s141 vis141 a w hr141 ⟨F,H⟩
 refine sr (s_nxtM wkP F rfl rfl rfl rfl rfl hM20 hr141.ok H 3 0 rfl rfl rfl (fun hall142 w a H F=>?_) (fun q142 k142 cs142 v142 hq142 hn142 w a H F=>?_))
 have hm:=elimL (hr141.done hE20 hall142 hmM141)
 refine bb [0] F H rfl fun a F=>nl (sq (cF F rfl ?_))
 refine ex (cx (cx ?_))
 replace H:=H.moMm 3 1 hM20 rfl rfl
 refine ch (ct (sq (sb [0] F H rfl fun a F=>?_)))
 obtain ⟨raw143,cl143,es143,hM143,hE143,H⟩:=H.moOpen 2 rfl
 refine s_rngM wkP F rfl rfl rfl Tryz.underlying113 rfl H 3 rfl rfl fun r143 w a H F=>?_
 replace H:=H.nf 11 rfl
 refine nl (xm0 11 [] [2,3,6,7,8,9,10] F H hm rfl rfl (fun r157 z=>z) (fun r157 z=>HP.mm (some m19) ekStr false rStr (fun _=>True) s141::HP.mm (some m1) ekStr true R_files_file (fun _=>True) r157::z) (fun r157 hm=>?_) (fun r157 a w hm F H=>?_))
 refine bl ?_
 have hmM166:=hm;clear hm
 refine x_loopM es143 hmM166 (fun (s166:((List UInt8)→Option T_files_file)) vis166 aa ww=>Fr ⟨89,[]⟩ aa [(0,.map (some m1)),(76,.pointer (some ⟨r143,0,none⟩))]∧St w0 ww (HP.obj r143 (mit (some m19) cl143 (bornsOf raw143 (vis166)))::HP.es rStr (fun _=>True) es143 s141::HP.obj r20 (mit (some m1) cl20 (bornsOf raw20 (vis141)))::HP.es R_files_file (fun _=>True) es20 s::HP.mo (some m19) raw143 cl143::HP.mm (some m1) ekStr true R_files_file (fun _=>True) s166::HP.blk b12 (cs11) 71::HP.ow rByte 5 none 0 ([]:List UInt8)::HP.rc R_files_file cs11 x10.1::HP.sl rByte p4 c5 o.2.2.2.2.2::HP.blk b3 ([.int .i64 (o.1),.string (txb (o.2.1)),.string (txb (o.2.2.1)),.int .i64 (o.2.2.2.1),.int .i64 (o.2.2.2.2.1),.slice p4 (o.2.2.2.2.2).length c5]) 25::l)) ⟨F.sl rfl,H⟩ ?_
 clear F H
 rintro s166 vis166 a w hr166 ⟨F,H⟩
 refine sr (s_nxtM wkP F rfl rfl rfl rfl rfl hM143 hr166.ok H 4 0 rfl rfl rfl (fun hall167 w a H F=>?_) (fun q167 k167 cs167 v167 hq167 hn167 w a H F=>?_))
 have hm:=elimL (hr166.done hE143 hall167 hmM166)
 refine bb [0] F H rfl fun a F=>nl (sq (cF F rfl ?_))
 refine ex (cx (cx ?_))
 replace H:=H.moMm 4 1 hM143 rfl rfl
 refine ch ?_
 cases hm
 refine ct ?_
 exact ⟨F.cut _ trivial,(H.pm 11 [4,5,2,3,6,7,8,9,10] rfl:)⟩
 obtain ⟨o167,hm,hs167,hx167⟩:=hr166.step hE143 hq167 hn167 hmM166
 refine bb [0] F H rfl fun a F=>nl (sq (cT F rfl (sk (ct (bl (sr ?_))))))
 obtain ⟨hk168,H⟩:=H.esEl 1 rfl hq167
 obtain rfl:=H.rcStr 0 rfl
 replace H:=H.dp 0 rfl
 refine sv F rfl (y_entM (agg:=false) (ek:=ekStr) F rfl rfl hM143 hq167 H 4 0 rfl rfl rfl) fun a F=>bb [0,0,0,0] F H rfl fun a F=>nb [0,0,0,0] F H rfl fun a F=>?_
 obtain ⟨es169,H⟩:=H.mmOpen 5 rfl
 obtain ⟨cs170,hcs170,H⟩:=H.mxGet 5 rfl k167 (zc:=([Value.bool false]++[Value.slice none 0 0])) (z0:=(false,[])) (fun B=>⟨_,_,rfl,(fun _=>rfl) B,((fun _=>rSl_nil _ _) B)⟩)
 refine sv F rfl (y_mxGet (agg:=true) (zc:=([Value.bool false]++[Value.slice none 0 0])) F Tryz.underlying65 (keyStr Tryz.underlying9) (fun w=>aggz71.run_zero w) rfl H 6 rfl rfl (k:=k167) rfl trivial hcs170) fun a F=>?_
 replace H:=H.mxShut 6 rfl
 refine s_mmSet wkP F rfl rfl Tryz.underlying65 (keyStr Tryz.underlying9) rfl H 6 rfl rfl (k:=v167) rfl (cs:=cs170) rfl trivial (v:=((s166 k167).getD (false,[]))) (fun gg=>(gg 0 _ rfl).choose_spec) fun w H=>?_
 replace H:=H.nf 12 rfl
 refine nl (rl (bb [0,0] F H rfl fun a F=>?_))
 refine s_mmDelN wkP F rfl rfl Tryz.underlying65 (keyStr Tryz.underlying9) rfl H 6 rfl rfl (k:=k167) rfl trivial fun w H=>?_
 replace H:=H.nf 12 rfl
 refine lz (bn (ct ?_));cases hm
 exact ⟨_,q167,hs167 _ rfl,⟨F.sl rfl,(H.pm 12 [1,2,3,4,5,6,7,8,9,10,11] rfl:)⟩⟩
 refine ct (sb [0] F H rfl fun a F=>nl (wr ?_))
 cases hm
 refine x_ret1 F rfl rfl ?_
 exact ⟨_,rfl,rfl,(H.pm 9 [1] rfl:)⟩
 obtain ⟨o142,hm,hs142,hx142⟩:=hr141.step hE20 hq142 hn142 hmM141
 refine bb [0] F H rfl fun a F=>nl (sq (cT F rfl ?_))
 refine sk (ct (xr0 9 [0,3,8,51] [0,1,3,4,5,6,7,8] F H hm rfl rfl (fun r186 z=>z) (fun r186 z=>HP.mm (some m19) ekStr false rStr (fun _=>True) r186::z) (fun o186 hm hm186=>?_) (fun r186 a w hm F H=>?_)))
 refine bl (sr ?_)
 obtain ⟨hk187,H⟩:=H.esEl 1 rfl hq142
 refine sv F rfl (y_entM (agg:=true) (ek:=ekStr) F rfl rfl hM20 hq142 H 4 1 rfl rfl rfl) fun a F=>bb [0,0] F H rfl fun a F=>nl (sr (bk [1,9001,0] F H rfl ⟨fld25_1,rfl,plain9,trivial⟩ fun a F=>?_))
 obtain ⟨x188,ex188,hm⟩:=ob hm
 refine sd F rfl ent82 (w_m_path_Within ex188 H:) ?_;rintro _ w a ⟨rfl,H⟩ F
 replace H:=H.nf 10 rfl
 refine nl (xr0 10 [0,3,8,51] [1,2,4,5,6,7,8,9] F H hm rfl rfl (fun r195 z=>z) (fun r195 z=>HP.mm (some m19) ekStr false rStr (fun _=>True) r195::z) (fun o195 hm hm195=>?_) (fun r195 a w hm F H=>?_))
 refine cB F rfl (fun hg196=>?_) (fun hg196=>?_)
 replace hm:=ifT hg196 hm
 refine sq ?_
 obtain ⟨x197,ex197,hm⟩:=ob hm
 obtain ⟨x198,ex198,hm⟩:=ob hm
 refine mix_regionK [10] [10] (scL [0,1,2,1003,4,5,1006,7,8,9,3010]) [] H rfl rfl (by kernel_rfl) (by kernel_rfl) fun w H=>?_
 refine mbk [0,0,2,9002,0,1,9001] F H rfl ⟨fld25_2,rfl,plain9,fld25_1,rfl,plain9,trivial⟩ fun a F=>?_
 refine m_pure F rfl rfl rfl rfl (fun u hu=>y_lenT (l:=o.2.1) F rfl Tryz.underlying9 rfl) fun a F=>?_
 refine m_pure F rfl rfl rfl rfl (fun u hu=>y_slTL F rfl Tryz.underlying9 rfl rfl ex197) fun a F=>?_
 refine m_pure F rfl rfl rfl rfl (fun u hu=>y_addO F rfl rfl rfl ex198) fun a F=>?_
 refine m_last rfl rfl ?_
 refine s_mmSet wkP F rfl rfl Tryz.underlying113 (keyStr Tryz.underlying9) rfl H 3 rfl rfl (k:=k142) rfl (cs:=[.string (txb (x198))]) rfl trivial (v:=x198) (fun gg=>rfl) fun w H=>?_
 refine lz ?_;refine ct ?_
 refine m_nil (ct (sb [0,0] F H rfl fun a F=>?_))
 obtain ⟨es199,H⟩:=H.mmOpen 3 rfl
 obtain ⟨cs200,hcs200,H⟩:=H.mxGet 3 rfl k142 (zc:=[Value.string ByteArray.empty]) (z0:=[]) (fun _=>rfl)
 obtain rfl:=H.rcStr 0 rfl
 replace H:=H.dp 0 rfl
 refine sv F rfl (y_mxGet (agg:=false) (zc:=[Value.string ByteArray.empty]) F Tryz.underlying113 (keyStr Tryz.underlying9) (fun w=>zero9.run w) rfl H 3 rfl rfl (k:=k142) rfl trivial hcs200) fun a F=>sv F rfl (y_lenT (l:=(((fset k142 x198 s141) k142).getD [])) F rfl Tryz.underlying9 rfl) fun a F=>bb [0] F H rfl fun a F=>?_
 replace H:=H.nf 10 rfl
 refine nl ?_
 replace H:=H.mxShut 3 rfl
 refine cPm F rfl hm (fun hg201 hm=>?_) (fun hg201 hm=>?_)
 refine sb [0] F H rfl fun a F=>?_
 replace H:=H.nf 10 rfl
 refine nl (wr (tr ?_))
 cases hm
 replace hm:=elimR hm195
 refine br (tr ?_)
 cases hm
 replace hm:=elimR hm186
 refine tr ?_;cases hm;obtain rfl:=elimS (hx142 _ rfl)
 replace H:=H.moMm 4 2 hM20 rfl rfl
 refine br (tr (x_ret1 F rfl rfl ?_))
 exact ⟨_,rfl,rfl,(H.pm 10 [4] rfl:)⟩
 refine sk ?_
 cases hm
 refine ct ?_
 exact ⟨_,rfl,F.sl rfl,(H.pm 10 [3,1,2,4,5,6,7,8,9] rfl:)⟩
 replace hm:=ifF (nT hg196) hm
 refine sk ?_
 cases hm
 refine ct ?_
 exact ⟨_,rfl,F.sl rfl,(H.pm 10 [3,1,2,4,5,6,7,8,9] rfl:)⟩
 refine bn ?_
 cases hm
 refine ct ?_
 exact ⟨_,rfl,F.sl rfl,H⟩
 refine ct ?_;cases hm
 exact ⟨_,q142,hs142 _ rfl,⟨F.sl rfl,(H.pm 9 [1,2,0,3,4,5,6,7,8] rfl:)⟩⟩
 refine bb (List.replicate 5 0) F H rfl fun a F=>?_
 replace H:=H.nf 3 rfl
 refine nl (cT F rfl (sb [0] F H rfl fun a F=>nl (wr (tr ?_))))
 cases hm
 refine x_ret1 F rfl rfl ?_
 exact ⟨_,rfl,rfl,(H.pm 3 [2] rfl:)⟩
theorem ent83:En Tryz.prog 83:=enters Tryz.func83 (by kernel_rfl) rfl
theorem w_sRemove {s:(List UInt8)→Option T_files_file} {p:List UInt8} {m1:Nat} {w0 w:World} {l:List HP}  {r:Int×((List UInt8)→Option T_files_file)} (hm:sRemove s p=some r) (H:St w0 w (HP.mm (some m1) ekStr true R_files_file (fun _=>True) s::l)) :
  Calls Tryz.prog 65 [.map (some m1),.string (txb (p))].toArray w (fun e w'=>∃ v,e=.returned v∧v=.int .i64 (r.1)∧St w0 w' (HP.mm (some m1) ekStr true R_files_file (fun _=>True) r.2::l)):=by
 unfold sRemove at hm
 refine x_enter Tryz.func65 rfl rfl rfl ?_
 intro a F
 refine sb [0] F H rfl fun a F=>nb [0,0] F H rfl fun a F=>?_
 obtain ⟨x2,ex2,hm⟩:=ob hm
 refine sd F rfl ent79 (w_sLook ex2 H:) ?_;rintro _ w a ⟨cs3,rfl,H⟩ F
 refine bb [0,0,0] F H rfl fun a F=>?_
 replace H:=H.owNil rByte 5
 refine s_allocA wkP F rfl rfl rfl agz71 rfl H fun b4 w a H F=>s_storeA wkP F rfl rfl agg71 rfl rfl rfl H 0 rfl (H.rcLen 2 rfl) rfl (H.rcFlat 2 rfl) fun w H=>bb [0] F H rfl fun a F=>?_
 replace H:=H.nf 4 rfl
 refine nl (sq (bl (sb [0,0,0] F H rfl fun a F=>?_)))
 refine nl (cNm F rfl hm (fun hg5 hm=>?_) (fun hg5 hm=>?_))
 refine sb [0,0] F H rfl fun a F=>nl (wr (br (tr ?_)))
 cases hm
 refine x_ret1 F rfl rfl ?_
 exact ⟨_,rfl,rfl,(H.pm 4 [3] rfl:)⟩
 refine sb [0] F H rfl fun a F=>sv F rfl (y_eqT (l:=p) (m:=[47]) F rfl rfl rfl) fun a F=>bb [0] F H rfl fun a F=>?_
 refine nl (cPm F rfl hm (fun hg6 hm=>?_) (fun hg6 hm=>?_))
 refine sb [0] F H rfl fun a F=>nl (wr (br (tr ?_)))
 cases hm
 refine x_ret1 F rfl rfl ?_
 exact ⟨_,rfl,rfl,(H.pm 4 [3] rfl:)⟩
 refine sb [0,0] F H rfl fun a F=>?_
 obtain ⟨x7,ex7,hm⟩:=ob hm
 refine sd F rfl ent83 (w_sBelow ex7 (H.pm 4 [3,0,1,2] rfl:):) ?_;rintro _ w a ⟨p8,c8,rfl,H⟩ F
 refine bk [0,0,0] F H rfl ⟨⟨_,Tryz.underlying35⟩,trivial⟩ fun a F=>?_
 replace H:=H.nf 5 rfl
 refine nl (cPm F rfl hm (fun hg9 hm=>?_) (fun hg9 hm=>?_))
 refine sb [0] F H rfl fun a F=>nl (wr (br (tr ?_)))
 cases hm
 refine x_ret1 F rfl rfl ?_
 exact ⟨_,rfl,rfl,(H.pm 5 [1] rfl:)⟩
 refine sk (bn (ct (sb [0,0] F H rfl fun a F=>?_)))
 refine s_mmDelN wkP F rfl rfl Tryz.underlying65 (keyStr Tryz.underlying9) rfl H 1 rfl rfl (k:=p) rfl trivial fun w H=>?_
 replace H:=H.nf 5 rfl
 refine nb [0] F H rfl fun a F=>nl (wr ?_)
 cases hm
 refine x_ret1 F rfl rfl ?_
 exact ⟨_,rfl,rfl,(H.pm 5 [1] rfl:)⟩
theorem w_cloneT {s:List (List UInt8)} {p1:Option Addr} {c1:Nat} {w0 w:World} {l:List HP}  {r:(List (List UInt8))} (hm:cloneT s=some r) (H:St w0 w (HP.sl rStr p1 c1 s::l)) :
  Calls Tryz.prog 86 [.slice p1 (s).length c1].toArray w (fun e w'=>∃ v,e=.returned v∧∃ (p2:Option Addr) (c2:Nat),v=.slice p2 (r).length c2∧St w0 w' (HP.ow rStr 9 p2 c2 r::l)):=by
 unfold cloneT at hm
 refine x_enter Tryz.func86 rfl rfl rfl ?_
 intro a F
 refine sb [0] F H rfl fun a F=>nl (sq (sb [0] F H rfl fun a F=>?_))
 obtain _ | ad:=p1
 obtain ⟨hx0,hc0⟩:=H.slNone 0 rfl;subst hc0;try subst hx0
 replace H:=H.dp 0 rfl
 refine sv F rfl (y_eqNil F rfl Tryz.underlying35 rfl rfl (by simp)) fun a F=>nl (cT F rfl (sb [0] F H rfl fun a F=>nl (wr (tr ?_))))
 replace H:=H.owNil rStr 9
 cases hm
 refine x_ret1 F rfl rfl ?_
 exact ⟨_,rfl,none,0,rfl,H⟩
 refine sv F rfl (y_eqSome F rfl Tryz.underlying35 rfl rfl (by simp)) fun a F=>nl (cF F rfl (sk (ct (sr (s_build0O (R:=rStr) wkP F rfl rfl rfl elem35 rfl H fun b3 w a H F=>bb [0] F H rfl fun a F=>?_)))))
 obtain ⟨x5,ex5,hm⟩:=ob hm
 refine s_app wkP F rfl rfl rfl rfl rfl rfl elem35 rfl ex5 H 0 1 rfl rfl fun p4 c4 w a H F=>?_
 refine bb [0] F H rfl fun a F=>?_
 replace H:=H.nf 2 rfl
 refine nl (wr ?_)
 cases hm
 refine x_ret1 F rfl rfl ?_
 exact ⟨_,rfl,p4,c4,rfl,(H.pm 2 [0] rfl:)⟩
theorem ent86:En Tryz.prog 86:=enters Tryz.func86 (by kernel_rfl) rfl
theorem fld37_3:FieldT Tryz.prog 37 3 3:=by unfold FieldT;rw [Tryz.underlying37];kernel_rfl
theorem zero35:Zero1 Tryz.prog 35 (.slice none 0 0):=⟨by kernel_rfl,rfl⟩
theorem w_sList {s:(List UInt8)→Option T_files_file} {o:T_api_Op} {q1:Option Nat} {cs2:List Value} {w0 w:World} {l:List HP}  {r:T_api_Answer} (hm:sList s o=some r) (H:St w0 w (HP.mm q1 ekStr true R_files_file (fun _=>True) s::HP.rc R_api_Op cs2 o::l)) :
  Calls Tryz.prog 66 [.map q1,.agg cs2.toArray].toArray w (fun e w'=>∃ v,e=.returned v∧∃ (cs3:List Value),v=.agg cs3.toArray∧St w0 w' (HP.rc R_api_Answer cs3 r::HP.mm q1 ekStr true R_files_file (fun _=>True) s::l)):=by
 unfold sList at hm
 refine x_enter Tryz.func66 rfl rfl rfl ?_
 intro a F
 refine sr (s_boxA wkP F rfl rfl rfl rfl rfl H fun b4 w a H F=>?_)
 replace H:=H.owNil rByte 5
 replace H:=H.owNil rStr 9
 refine s_allocA wkP F rfl rfl rfl agz37 rfl H fun b5 w a H F=>?_
 replace H:=H.nf 6 rfl
 refine nl (sr (bk [0,1] F H rfl ⟨fld25_1,trivial⟩ fun a F=>?_))
 have G:=F;replace H:=rc_api_Op (H.pk 5 rfl);obtain ⟨p6,c7,rfl,J⟩:=H;have H:=J;have F:=G;clear G J
 refine bk [4001] F H rfl ⟨rfl,plain9,trivial⟩ fun a F=>?_
 obtain ⟨x8,ex8,hm⟩:=ob hm
 refine sd F rfl ent79 (w_sLook ex8 (H.pm 6 [5,0,1,2,3,4] rfl:):) ?_;rintro _ w a ⟨cs9,rfl,H⟩ F
 refine bb [0,0,0] F H rfl fun a F=>?_
 replace H:=H.owNil rByte 5
 refine s_allocA wkP F rfl rfl rfl agz71 rfl H fun b10 w a H F=>s_storeA wkP F rfl rfl agg71 rfl rfl rfl H 0 rfl (H.rcLen 2 rfl) rfl (H.rcFlat 2 rfl) fun w H=>bb [0] F H rfl fun a F=>?_
 replace H:=H.nf 9 rfl
 refine nl (sq ?_)
 refine xm3 9 [4] [1,3,4,7,8] F H hm rfl rfl (fun r60 (cs61:List Value) (p62:Option Addr) (c62:Nat) z=>z) (fun r60 cs61 p62 c62 z=>HP.blk b10 (cs61) 71::HP.blk b5 ([.int .i64 (r60.2.1),.int .i64 (r60.2.2.1),.slice none (([]:List UInt8)).length 0,.slice p62 (r60.2.2.2).length c62]) 37::HP.rc R_files_file cs61 r60.1::HP.ow rStr 9 p62 c62 r60.2.2.2::z) (fun r60 hm=>?_) (fun r60 a w hm cs61 p62 c62 F H=>?_)
 refine bl (sb [0,0,0] F H rfl fun a F=>nl ?_)
 refine xm3 9 [4] [1,3,4,7,8] F H hm rfl rfl (fun r86 (cs87:List Value) (p88:Option Addr) (c88:Nat) z=>z) (fun r86 cs87 p88 c88 z=>HP.blk b10 (cs87) 71::HP.blk b5 ([.int .i64 (r86.2.1),.int .i64 (r86.2.2.1),.slice none (([]:List UInt8)).length 0,.slice p88 (r86.2.2.2).length c88]) 37::HP.rc R_files_file cs87 r86.1::HP.ow rStr 9 p88 c88 r86.2.2.2::z) (fun r86 hm=>?_) (fun r86 a w hm cs87 p88 c88 F H=>?_)
 refine cNm F rfl hm (fun hg89 hm=>?_) (fun hg89 hm=>?_)
 refine rl (bk [0,0] F H rfl ⟨fld37_0,trivial⟩ fun a F=>s_st1 wkP F rfl rfl zero33 rfl rfl rfl rfl rfl H 5 rfl rfl fun w H=>?_)
 replace H:=H.nf 9 rfl
 refine lz ?_
 cases hm
 refine ct ?_
 exact ⟨cs9,none,0,F.sl rfl,(H.pm 9 [0,5,2,6,1,3,4,7,8] rfl:)⟩
 refine sr (bk [0] F H rfl ⟨fld71_0,trivial⟩ fun a F=>?_)
 have G:=F;replace H:=rc_files_file (H.pk 2 rfl);obtain ⟨p90,c91,rfl,J⟩:=H;have H:=J;have F:=G;clear G J
 refine bk [1000,0,0] F H rfl ⟨rfl,plain4,trivial⟩ fun a F=>?_
 refine nl (xm2 9 [4] [0,1,2,3,4,7,8] F H hm rfl rfl (fun r101 (p102:Option Addr) (c102:Nat) z=>z) (fun r101 p102 c102 z=>HP.blk b5 ([.int .i64 (r101.1),.int .i64 (r101.2.1),.slice none (([]:List UInt8)).length 0,.slice p102 (r101.2.2).length c102]) 37::HP.ow rStr 9 p102 c102 r101.2.2::z) (fun r101 hm=>?_) (fun r101 a w hm p102 c102 F H=>?_))
 refine cB F rfl (fun hg103=>?_) (fun hg103=>?_)
 replace hm:=ifT hg103 hm
 refine rl (bk [0] F H rfl ⟨fld37_0,trivial⟩ fun a F=>s_st1 wkP F rfl rfl zero33 rfl rfl rfl rfl rfl H 5 rfl rfl fun w H=>?_)
 replace H:=H.nf 9 rfl
 refine lz ?_
 cases hm
 refine ct ?_
 exact ⟨none,0,F.sl rfl,(H.pm 9 [5,6,0,1,2,3,4,7,8] rfl:)⟩
 replace hm:=ifF (nT hg103) hm
 refine sr (bk [0,1,8001] F H rfl ⟨fld25_1,rfl,plain9,trivial⟩ fun a F=>?_)
 obtain ⟨x104,ex104,hm⟩:=ob hm
 refine sd F rfl ent83 (w_sBelow ex104 (H.pm 9 [3,0,1,2,4,5,6,7,8] rfl:):) ?_;rintro _ w a ⟨p105,c105,rfl,H⟩ F
 refine bb [0] F H rfl fun a F=>?_
 replace H:=H.nf 10 rfl
 refine nl (sr (bk [0,0,1] F H rfl ⟨⟨_,Tryz.underlying35⟩,fld37_1,trivial⟩ fun a F=>s_st1 wkP F rfl rfl zero3 rfl rfl rfl rfl rfl H 6 rfl rfl fun w H=>?_))
 replace H:=H.nf 10 rfl
 refine nb [0] F H rfl fun a F=>sv F rfl (y_makeFunc F rfl rfl) fun a F=>?_
 obtain ⟨x106,ex106,hm⟩:=ob hm
 refine s_call wkP F rfl rfl rfl rfl (y_call F rfl rfl ent84) (w_del84 (tx:=o.2.2.1) (cs:=[.int .i64 (o.1),.string (txb (o.2.1)),.string (txb (o.2.2.1)),.int .i64 (o.2.2.2.1),.int .i64 (o.2.2.2.2.1),.slice p6 (o.2.2.2.2.2).length c7]) ex106 rfl (H.pm 10 [0,9,1,2,3,4,5,6,7,8] rfl:)) ?_;rintro _ w a ⟨rfl,H⟩ F
 refine bb [0] F H rfl fun a F=>?_
 replace H:=H.nf 10 rfl
 refine nl (rl (bk [0,0,0] F H rfl ⟨⟨_,Tryz.underlying35⟩,trivial⟩ fun a F=>sv F rfl (y_min F rfl rfl rfl rfl) fun a F=>?_))
 replace H:=H.frz 0 rfl
 obtain ⟨x109,ex109,hm⟩:=ob hm
 have hc108:=H.slCap 0 rfl
 replace H:=H.slSubN 1 rfl 0 rfl ex109
 refine sv F rfl (y_slH F elem35 rfl rfl rfl ex109 hc108) fun a F=>?_
 obtain ⟨x110,ex110,hm⟩:=ob hm
 refine sd F rfl ent86 (w_cloneT ex110 (H.pm 11 [0,0,1,2,3,4,5,6,7,8,9,10] rfl:):) ?_;rintro _ w a ⟨p111,c111,rfl,H⟩ F
 refine bk [3] F H rfl ⟨fld37_3,trivial⟩ fun a F=>s_st1 wkP F rfl rfl zero35 rfl rfl rfl rfl rfl H 9 rfl rfl fun w H=>?_
 replace H:=H.nf 12 rfl
 refine lz ?_
 cases hm
 refine ct ?_
 exact ⟨p111,c111,F.sl rfl,(H.pm 12 [9,0,5,6,7,4,8,11,3] rfl:)⟩
 cases hm
 refine ct ?_
 replace H:=mk_files_file H x8.1.1 2 rfl
 exact ⟨[.bool (x8.1.1),.slice p90 (x8.1.2).length c91],p102,c102,F.sl rfl,(H.pm 10 [4,1,0,2,5,6,7,8,9] rfl:)⟩
 refine bn ?_
 cases hm
 refine ct ?_
 exact ⟨cs87,p88,c88,F.sl rfl,H⟩
 refine ct (sr (bk [1999] F H rfl ⟨rfl,(aggn agg37 rfl),trivial⟩ fun a F=>s_storeA wkP F rfl rfl agg37 rfl rfl rfl H 1 rfl rfl rfl (fl rfl) fun w H=>?_))
 replace H:=H.nf 9 rfl
 refine nl (wr ?_)
 replace H:=H.frz 7 rfl
 replace H:=H.frz 4 rfl
 replace H:=mk_api_Answer H r60.2.1 r60.2.2.1 1 rfl 0 rfl
 cases hm
 refine x_resC1 F rfl (⟨_,rfl,agg37.run_load (H.blk 4 rfl).row rfl⟩) ?_
 exact ⟨_,rfl,[.int .i64 (r60.2.1),.int .i64 (r60.2.2.1),.slice none (([]:List UInt8)).length 0,.slice p62 (r60.2.2.2).length c62],rfl,(H.pm 10 [0,7] rfl:)⟩
theorem w_sStat {s:(List UInt8)→Option T_files_file} {p:List UInt8} {q1:Option Nat} {w0 w:World} {l:List HP}  {r:T_api_Answer} (hm:sStat s p=some r) (H:St w0 w (HP.mm q1 ekStr true R_files_file (fun _=>True) s::l)) :
  Calls Tryz.prog 67 [.map q1,.string (txb (p))].toArray w (fun e w'=>∃ v,e=.returned v∧∃ (cs2:List Value),v=.agg cs2.toArray∧St w0 w' (HP.rc R_api_Answer cs2 r::HP.mm q1 ekStr true R_files_file (fun _=>True) s::l)):=by
 unfold sStat at hm
 refine x_enter Tryz.func67 rfl rfl rfl ?_
 intro a F
 refine sr ?_
 replace H:=H.owNil rByte 5
 replace H:=H.owNil rStr 9
 refine s_allocA wkP F rfl rfl rfl agz37 rfl H fun b3 w a H F=>?_
 replace H:=H.nf 4 rfl
 refine nb [0,0] F H rfl fun a F=>?_
 obtain ⟨x4,ex4,hm⟩:=ob hm
 refine sd F rfl ent79 (w_sLook ex4 (H.pm 4 [3,0,1,2] rfl:):) ?_;rintro _ w a ⟨cs5,rfl,H⟩ F
 refine bb [0,0,0] F H rfl fun a F=>?_
 replace H:=H.owNil rByte 5
 refine s_allocA wkP F rfl rfl rfl agz71 rfl H fun b6 w a H F=>s_storeA wkP F rfl rfl agg71 rfl rfl rfl H 0 rfl (H.rcLen 2 rfl) rfl (H.rcFlat 2 rfl) fun w H=>bb [0] F H rfl fun a F=>?_
 replace H:=H.nf 7 rfl
 refine nl (sq ?_)
 refine xm3 7 [4] [1,3,5] F H hm rfl rfl (fun r48 (cs49:List Value) (p50:Option Addr) (c50:Nat) z=>z) (fun r48 cs49 p50 c50 z=>HP.blk b6 (cs49) 71::HP.blk b3 ([.int .i64 (r48.2.1),.int .i64 (r48.2.2.1),.slice p50 (r48.2.2.2).length c50,.slice none (([]:List (List UInt8))).length 0]) 37::HP.rc R_files_file cs49 r48.1::HP.ow rByte 5 p50 c50 r48.2.2.2::z) (fun r48 hm=>?_) (fun r48 a w hm cs49 p50 c50 F H=>?_)
 refine bl (sb [0,0,0] F H rfl fun a F=>nl ?_)
 refine xm3 7 [4] [1,3,5] F H hm rfl rfl (fun r70 (cs71:List Value) (p72:Option Addr) (c72:Nat) z=>z) (fun r70 cs71 p72 c72 z=>HP.blk b6 (cs71) 71::HP.blk b3 ([.int .i64 (r70.2.1),.int .i64 (r70.2.2.1),.slice p72 (r70.2.2.2).length c72,.slice none (([]:List (List UInt8))).length 0]) 37::HP.rc R_files_file cs71 r70.1::HP.ow rByte 5 p72 c72 r70.2.2.2::z) (fun r70 hm=>?_) (fun r70 a w hm cs71 p72 c72 F H=>?_)
 refine cNm F rfl hm (fun hg73 hm=>?_) (fun hg73 hm=>?_)
 refine rl (bk [0,0] F H rfl ⟨fld37_0,trivial⟩ fun a F=>s_st1 wkP F rfl rfl zero33 rfl rfl rfl rfl rfl H 4 rfl rfl fun w H=>?_)
 replace H:=H.nf 7 rfl
 refine lz ?_
 cases hm
 refine ct ?_
 exact ⟨cs5,none,0,F.sl rfl,(H.pm 7 [0,4,2,6,1,3,5] rfl:)⟩
 refine sr (bk [0] F H rfl ⟨fld71_0,trivial⟩ fun a F=>?_)
 have G:=F;replace H:=rc_files_file (H.pk 2 rfl);obtain ⟨p74,c75,rfl,J⟩:=H;have H:=J;have F:=G;clear G J
 refine bk [1000,0] F H rfl ⟨rfl,plain4,trivial⟩ fun a F=>?_
 refine nl (xm2 7 [4] [0,1,2,3,5] F H hm rfl rfl (fun r83 (p84:Option Addr) (c84:Nat) z=>z) (fun r83 p84 c84 z=>HP.blk b3 ([.int .i64 (0),.int .i64 (r83.1),.slice p84 (r83.2).length c84,.slice none (([]:List (List UInt8))).length 0]) 37::HP.ow rByte 5 p84 c84 r83.2::z) (fun r83 hm=>?_) (fun r83 a w hm p84 c84 F H=>?_))
 refine cB F rfl (fun hg85=>?_) (fun hg85=>?_)
 replace hm:=ifT hg85 hm
 refine rl ?_
 obtain ⟨x87,ex87,hm⟩:=ob hm
 refine s_buildC wkP F rfl rfl rfl elem23 zero5 rfl rfl rfl rfl (by simp [Value.cells]) (by decide) H fun b86 w a H F=>?_
 replace H:=H.blkOw1 (R:=rByte) (x:=x87) (fun gg=>(congrArg (fun z=>[Value.int .u8 z]) (u8O_some ex87).symm))
 refine bb [0,0] F H rfl fun a F=>?_
 obtain ⟨x88,ex88,hm⟩:=ob hm
 refine sd F rfl ent83 (w_sBelow ex88 (H.pm 8 [4,0,1,2,3,5,6,7] rfl:):) ?_;rintro _ w a ⟨p89,c89,rfl,H⟩ F
 refine bk [0,2] F H rfl ⟨⟨_,Tryz.underlying35⟩,fld37_2,trivial⟩ fun a F=>s_st1 wkP F rfl rfl zero23 rfl rfl rfl rfl rfl H 6 rfl rfl fun w H=>bk [1] F H rfl ⟨fld37_1,trivial⟩ fun a F=>s_st1 wkP F rfl rfl zero3 rfl rfl rfl rfl rfl H 6 rfl rfl fun w H=>?_
 replace H:=H.nf 9 rfl
 refine lz ?_
 cases hm
 refine ct ?_
 exact ⟨(some ⟨b86,0,none⟩),([x87]).length,F.sl rfl,(H.pm 9 [6,2,3,4,5,1,7] rfl:)⟩
 replace hm:=ifF (nT hg85) hm
 refine mix_regionK [0,5,7] [7] (scL [1,2,3,2000,4,2005,6,3007]) [1] H rfl rfl (by kernel_rfl) (by kernel_rfl) fun w H=>?_
 refine mbk [1] F H rfl ⟨fld71_1,trivial⟩ fun a F=>?_
 refine m_pure F rfl rfl rfl rfl (fun u hu=>y_load1 F plain23 rfl rfl (row_at (v:=.slice p74 (x4.1.2).length c75) ((hu.choose_spec.blk 0 rfl).row) rfl)) fun a F=>?_
 refine mbk [0] F H rfl ⟨⟨_,Tryz.underlying23⟩,trivial⟩ fun a F=>m_heavy rfl rfl ?_
 obtain ⟨x91,ex91,hm⟩:=ob hm
 refine s_buildC wkP F rfl rfl rfl elem23 zero5 rfl rfl rfl rfl (by simp [Value.cells]) (by decide) H fun b90 w a H F=>?_
 replace H:=H.blkOw1 (R:=rByte) (x:=x91) (fun gg=>(congrArg (fun z=>[Value.int .u8 z]) (u8O_some ex91).symm))
 refine lz ?_;refine ct ⟨⟨_,(H.pm 8 [2,0,1,3,4,5,6,7] rfl:)⟩,?_⟩
 refine mbk [2] F H rfl ⟨fld37_2,trivial⟩ fun a F=>m_heavy rfl rfl (s_st1 wkP F rfl rfl zero23 rfl rfl rfl rfl rfl H 5 rfl rfl fun w H=>?_)
 refine lz ?_;refine ct ⟨⟨_,(H.pm 8 [2,0,1,3,4,5,6,7] rfl:)⟩,?_⟩
 refine mbk [1] F H rfl ⟨fld37_1,trivial⟩ fun a F=>m_last rfl rfl (s_st1 wkP F rfl rfl zero3 rfl rfl rfl rfl rfl H 5 rfl rfl fun w H=>?_)
 refine lz ?_;refine ct ?_
 refine m_nil ?_
 cases hm
 refine ct ?_
 exact ⟨(some ⟨b90,0,none⟩),([x91]).length,F.sl rfl,(H.pm 8 [5,0,1,2,3,4,6] rfl:)⟩
 cases hm
 refine ct ?_
 replace H:=mk_files_file H x4.1.1 2 rfl
 exact ⟨[.bool (x4.1.1),.slice p74 (x4.1.2).length c75],p84,c84,F.sl rfl,(H.pm 8 [4,1,0,2,5,6,7] rfl:)⟩
 refine bn ?_
 cases hm
 refine ct ?_
 exact ⟨cs71,p72,c72,F.sl rfl,H⟩
 refine ct (sr (bk [1999] F H rfl ⟨rfl,(aggn agg37 rfl),trivial⟩ fun a F=>s_storeA wkP F rfl rfl agg37 rfl rfl rfl H 1 rfl rfl rfl (fl rfl) fun w H=>?_))
 replace H:=H.nf 7 rfl
 refine nl (wr ?_)
 replace H:=H.frz 3 rfl
 replace H:=H.frz 6 rfl
 replace H:=mk_api_Answer H r48.2.1 r48.2.2.1 1 rfl 0 rfl
 cases hm
 refine x_resC1 F rfl (⟨_,rfl,agg37.run_load (H.blk 4 rfl).row rfl⟩) ?_
 exact ⟨_,rfl,[.int .i64 (r48.2.1),.int .i64 (r48.2.2.1),.slice p50 (r48.2.2.2).length c50,.slice none (([]:List (List UInt8))).length 0],rfl,(H.pm 8 [0,7] rfl:)⟩
theorem plain33:Plain Tryz.prog 33:=by unfold Plain;rw [Tryz.underlying33];rfl
theorem agg25:AggT Tryz.prog 25 6 [.int .i64 0,.string ByteArray.empty,.string ByteArray.empty,.int .i64 0,.int .i64 0,.slice none 0 0]:=⟨by rw [Tryz.underlying25];rfl,by kernel_rfl,by kernel_rfl⟩
theorem ent62:En Tryz.prog 62:=enters Tryz.func62 (by kernel_rfl) rfl
theorem ent63:En Tryz.prog 63:=enters Tryz.func63 (by kernel_rfl) rfl
theorem ent64:En Tryz.prog 64:=enters Tryz.func64 (by kernel_rfl) rfl
theorem ent65:En Tryz.prog 65:=enters Tryz.func65 (by kernel_rfl) rfl
theorem ent66:En Tryz.prog 66:=enters Tryz.func66 (by kernel_rfl) rfl
theorem ent67:En Tryz.prog 67:=enters Tryz.func67 (by kernel_rfl) rfl
theorem w_sDo {s:(List UInt8)→Option T_files_file} {o:T_api_Op} {m1:Nat} {cs2:List Value} {w0 w:World} {l:List HP}  {r:T_api_Answer×((List UInt8)→Option T_files_file)} (hm:sDo s o=some r) (H:St w0 w (HP.mm (some m1) ekStr true R_files_file (fun _=>True) s::HP.rc R_api_Op cs2 o::l)) :
  Calls Tryz.prog 37 [.map (some m1),.agg cs2.toArray].toArray w (fun e w'=>∃ v,e=.returned v∧∃ (cs3:List Value),v=.agg cs3.toArray∧St w0 w' (HP.rc R_api_Answer cs3 r.1::HP.mm (some m1) ekStr true R_files_file (fun _=>True) r.2::l)):=by
 unfold sDo at hm
 refine x_enter Tryz.func37 rfl rfl rfl ?_
 intro a F
 refine sr (s_boxA wkP F rfl rfl rfl rfl rfl H fun b4 w a H F=>?_)
 replace H:=H.owNil rByte 5
 replace H:=H.owNil rStr 9
 refine s_allocA wkP F rfl rfl rfl agz37 rfl H fun b5 w a H F=>?_
 replace H:=H.nf 6 rfl
 refine nl (sq (sr (bk [0] F H rfl ⟨fld25_0,trivial⟩ fun a F=>?_)))
 have G:=F;replace H:=rc_api_Op (H.pk 5 rfl);obtain ⟨p6,c7,rfl,J⟩:=H;have H:=J;have F:=G;clear G J
 refine bk [4000] F H rfl ⟨rfl,plain3,trivial⟩ fun a F=>?_
 refine nl (xr0 6 [4] [0,2,3,4] F H hm rfl rfl (fun r382 z=>z) (fun r382 z=>HP.blk b5 ([.int .i64 (r382.1),.int .i64 (0),.slice none (([]:List UInt8)).length 0,.slice none (([]:List (List UInt8))).length 0]) 37::HP.mm (some m1) ekStr true R_files_file (fun _=>True) r382.2::z) (fun o382 hm hm382=>?_) (fun r382 a w hm F H=>?_))
 refine bl (sq (sb [0,0] F H rfl fun a F=>?_))
 refine nl (xm0 6 [0,3,4,6] [0,1,2,3,4,5] F H hm rfl rfl (fun r384 z=>(8,.bool (r384))::z) (fun r384 z=>z) (fun r384 hm=>?_) (fun r384 a w hm F H=>?_))
 refine cPm F rfl hm (fun hg385 hm=>?_) (fun hg385 hm=>?_)
 refine sk ?_
 cases hm
 refine ct ?_
 exact ⟨F.sl rfl,H⟩
 refine rl (bb [0,0] F H rfl fun a F=>lz ?_)
 cases hm
 refine ct ?_
 exact ⟨F.sl rfl,H⟩
 refine ct (xr0 6 [4] [0,2,3,4] F H hm rfl rfl (fun r571 z=>z) (fun r571 z=>HP.blk b5 ([.int .i64 (r571.1),.int .i64 (0),.slice none (([]:List UInt8)).length 0,.slice none (([]:List (List UInt8))).length 0]) 37::HP.mm (some m1) ekStr true R_files_file (fun _=>True) r571.2::z) (fun o571 hm hm571=>?_) (fun r571 a w hm F H=>?_))
 refine cB F rfl (fun hg572=>?_) (fun hg572=>?_)
 replace hm:=ifT hg572 hm
 refine sr (bk [0,1,4001] F H rfl ⟨fld25_1,rfl,plain9,trivial⟩ fun a F=>?_)
 obtain ⟨x573,ex573,hm⟩:=ob hm
 refine sd F rfl ent61 (w_sRoom ex573 (H.pm 6 [5,0,1,2,3,4] rfl:):) ?_;rintro _ w a ⟨rfl,H⟩ F
 refine bk [0] F H rfl ⟨fld37_0,trivial⟩ fun a F=>s_st1 wkP F rfl rfl zero33 rfl rfl rfl rfl rfl H 2 rfl rfl fun w H=>?_
 replace H:=H.nf 6 rfl
 refine nl (sr (bk [0,2000,0] F H rfl ⟨fld37_0,rfl,plain33,trivial⟩ fun a F=>?_))
 refine nl (xm0 6 [4] [1,2,3,4,5] F H hm rfl rfl (fun r575 z=>z) (fun r575 z=>HP.mm (some m1) ekStr true R_files_file (fun _=>True) r575::z) (fun r575 hm=>?_) (fun r575 a w hm F H=>?_))
 refine cPm F rfl hm (fun hg576 hm=>?_) (fun hg576 hm=>?_)
 refine rl (bk [0,1,5001,0,5000,0] F H rfl ⟨fld25_1,rfl,plain9,fld25_0,rfl,plain3,trivial⟩ fun a F=>?_)
 replace H:=H.owNil rByte 5
 refine sv F rfl (y_build F rfl rfl (cs:=[.bool (decide (o.1=2)),.slice none (([]:List UInt8)).length 0]) (by kernel_rfl)) fun a F=>?_
 replace H:=H.frz 0 rfl
 refine s_mmSet wkP F rfl rfl Tryz.underlying65 (keyStr Tryz.underlying9) rfl H 1 rfl rfl (k:=o.2.1) rfl (cs:=[.bool (decide (o.1=2)),.slice none (([]:List UInt8)).length 0]) rfl trivial (v:=(decide (o.1=2),([]:List UInt8))) (fun gg=>⟨_,_,rfl,rfl,⟨_,_,rfl,(gg 0 _ rfl).choose_spec⟩⟩) fun w H=>?_
 replace H:=H.nf 7 rfl
 refine lz ?_
 cases hm
 refine ct ?_
 exact ⟨F.sl rfl,(H.pm 7 [1,2,3,4,5,6] rfl:)⟩
 refine sk ?_
 cases hm
 refine ct ?_
 exact ⟨F.sl rfl,H⟩
 cases hm
 refine ct ?_
 exact ⟨_,rfl,F.sl rfl,(H.pm 6 [2,0,1,3,4,5] rfl:)⟩
 replace hm:=ifF (nT hg572) hm
 refine sq (sb [0,0] F H rfl fun a F=>?_)
 refine nl (xm0 6 [0,3,4,6] [0,1,2,3,4,5] F H hm rfl rfl (fun r578 z=>(26,.bool (r578))::z) (fun r578 z=>z) (fun r578 hm=>?_) (fun r578 a w hm F H=>?_))
 refine cPm F rfl hm (fun hg579 hm=>?_) (fun hg579 hm=>?_)
 refine sk ?_
 cases hm
 refine ct ?_
 exact ⟨F.sl rfl,H⟩
 refine rl (bb [0,0] F H rfl fun a F=>lz ?_)
 cases hm
 refine ct ?_
 exact ⟨F.sl rfl,H⟩
 refine ct (xr0 6 [4] [0,2,3,4] F H hm rfl rfl (fun r668 z=>z) (fun r668 z=>HP.blk b5 ([.int .i64 (r668.1),.int .i64 (0),.slice none (([]:List UInt8)).length 0,.slice none (([]:List (List UInt8))).length 0]) 37::HP.mm (some m1) ekStr true R_files_file (fun _=>True) r668.2::z) (fun o668 hm hm668=>?_) (fun r668 a w hm F H=>?_))
 refine cB F rfl (fun hg669=>?_) (fun hg669=>?_)
 replace hm:=ifT hg669 hm
 refine sr (bk [0,4999] F H rfl ⟨rfl,(aggn agg25 rfl),trivial⟩ fun a F=>?_)
 replace H:=mk_api_Op H o.1 o.2.1 o.2.2.1 o.2.2.2.1 o.2.2.2.2.1 0 rfl
 obtain ⟨x670,ex670,hm⟩:=ob hm
 refine sd F rfl ent62 (w_sWrite ex670 (H.pm 7 [6,0,0,1,2,3,4,5] rfl:):) ?_;rintro _ w a ⟨cs671,rfl,H⟩ F
 refine s_storeA wkP F rfl rfl agg37 rfl rfl rfl H 4 rfl (H.rcLen 0 rfl) rfl (H.rcFlat 0 rfl) fun w H=>?_
 replace H:=H.nf 8 rfl
 refine nl (wr (tr ?_))
 cases hm
 replace hm:=elimR hm668
 refine tr ?_
 cases hm
 replace hm:=elimR hm571
 refine br (tr ?_)
 cases hm
 replace hm:=elimR hm382
 refine tr ?_
 cases hm
 refine x_resC1 F rfl (⟨_,rfl,agg37.run_load (H.blk 4 rfl).row (H.rcLen 0 rfl)⟩) ?_
 exact ⟨_,rfl,cs671,rfl,(H.pm 8 [0,1] rfl:)⟩
 replace hm:=ifF (nT hg669) hm
 refine sb [0,0] F H rfl fun a F=>?_
 refine nl (xr0 6 [4] [0,2,3,4] F H hm rfl rfl (fun r714 z=>z) (fun r714 z=>HP.blk b5 ([.int .i64 (r714.1),.int .i64 (0),.slice none (([]:List UInt8)).length 0,.slice none (([]:List (List UInt8))).length 0]) 37::HP.mm (some m1) ekStr true R_files_file (fun _=>True) r714.2::z) (fun o714 hm hm714=>?_) (fun r714 a w hm F H=>?_))
 refine cPm F rfl hm (fun hg715 hm=>?_) (fun hg715 hm=>?_)
 refine sr (bk [0,4999] F H rfl ⟨rfl,(aggn agg25 rfl),trivial⟩ fun a F=>?_)
 replace H:=mk_api_Op H o.1 o.2.1 o.2.2.1 o.2.2.2.1 o.2.2.2.2.1 0 rfl
 obtain ⟨x716,ex716,hm⟩:=ob hm
 refine sd F rfl ent63 (w_sRead ex716 (H.pm 7 [6,0,0,1,2,3,4,5] rfl:):) ?_;rintro _ w a ⟨cs717,rfl,H⟩ F
 refine s_storeA wkP F rfl rfl agg37 rfl rfl rfl H 4 rfl (H.rcLen 0 rfl) rfl (H.rcFlat 0 rfl) fun w H=>?_
 replace H:=H.nf 8 rfl
 refine nl (wr (tr ?_))
 cases hm
 replace hm:=elimR hm714
 refine tr ?_
 cases hm
 replace hm:=elimR hm668
 refine tr ?_
 cases hm
 replace hm:=elimR hm571
 refine br (tr ?_)
 cases hm
 replace hm:=elimR hm382
 refine tr ?_
 cases hm
 refine x_resC1 F rfl (⟨_,rfl,agg37.run_load (H.blk 4 rfl).row (H.rcLen 0 rfl)⟩) ?_
 exact ⟨_,rfl,cs717,rfl,(H.pm 8 [0,1] rfl:)⟩
 refine sb [0,0] F H rfl fun a F=>?_
 refine nl (xr0 6 [4] [0,2,3,4] F H hm rfl rfl (fun r737 z=>z) (fun r737 z=>HP.blk b5 ([.int .i64 (r737.1),.int .i64 (0),.slice none (([]:List UInt8)).length 0,.slice none (([]:List (List UInt8))).length 0]) 37::HP.mm (some m1) ekStr true R_files_file (fun _=>True) r737.2::z) (fun o737 hm hm737=>?_) (fun r737 a w hm F H=>?_))
 refine cPm F rfl hm (fun hg738 hm=>?_) (fun hg738 hm=>?_)
 refine rl (bk [0,4999] F H rfl ⟨rfl,(aggn agg25 rfl),trivial⟩ fun a F=>?_)
 replace H:=mk_api_Op H o.1 o.2.1 o.2.2.1 o.2.2.2.1 o.2.2.2.2.1 0 rfl
 obtain ⟨x739,ex739,hm⟩:=ob hm
 refine sd F rfl ent64 (w_sRename ex739 (H.pm 7 [6,0,0,1,2,3,4,5] rfl:):) ?_;rintro _ w a ⟨rfl,H⟩ F
 refine bk [0] F H rfl ⟨fld37_0,trivial⟩ fun a F=>s_st1 wkP F rfl rfl zero33 rfl rfl rfl rfl rfl H 3 rfl rfl fun w H=>?_
 replace H:=H.nf 7 rfl
 refine lz ?_
 cases hm
 refine ct ?_
 exact ⟨_,rfl,F.sl rfl,(H.pm 7 [3,0,2,4,5,6] rfl:)⟩
 refine sb [0,0] F H rfl fun a F=>?_
 refine nl (xr0 6 [4] [0,2,3,4] F H hm rfl rfl (fun r748 z=>z) (fun r748 z=>HP.blk b5 ([.int .i64 (r748.1),.int .i64 (0),.slice none (([]:List UInt8)).length 0,.slice none (([]:List (List UInt8))).length 0]) 37::HP.mm (some m1) ekStr true R_files_file (fun _=>True) r748.2::z) (fun o748 hm hm748=>?_) (fun r748 a w hm F H=>?_))
 refine cPm F rfl hm (fun hg749 hm=>?_) (fun hg749 hm=>?_)
 refine rl (bk [0,1,4001] F H rfl ⟨fld25_1,rfl,plain9,trivial⟩ fun a F=>?_)
 obtain ⟨x750,ex750,hm⟩:=ob hm
 refine sd F rfl ent65 (w_sRemove ex750 (H.pm 6 [5,0,1,2,3,4] rfl:):) ?_;rintro _ w a ⟨rfl,H⟩ F
 refine bk [0] F H rfl ⟨fld37_0,trivial⟩ fun a F=>s_st1 wkP F rfl rfl zero33 rfl rfl rfl rfl rfl H 2 rfl rfl fun w H=>?_
 replace H:=H.nf 6 rfl
 refine lz ?_
 cases hm
 refine ct ?_
 exact ⟨_,rfl,F.sl rfl,(H.pm 6 [2,0,1,3,4,5] rfl:)⟩
 refine sb [0,0] F H rfl fun a F=>?_
 refine nl (cPm F rfl hm (fun hg751 hm=>?_) (fun hg751 hm=>?_))
 refine sr (bk [0,4999] F H rfl ⟨rfl,(aggn agg25 rfl),trivial⟩ fun a F=>?_)
 replace H:=mk_api_Op H o.1 o.2.1 o.2.2.1 o.2.2.2.1 o.2.2.2.2.1 0 rfl
 obtain ⟨x752,ex752,hm⟩:=ob hm
 refine sd F rfl ent66 (w_sList ex752 (H.pm 7 [6,0,0,1,2,3,4,5] rfl:):) ?_;rintro _ w a ⟨cs753,rfl,H⟩ F
 refine s_storeA wkP F rfl rfl agg37 rfl rfl rfl H 4 rfl (H.rcLen 0 rfl) rfl (H.rcFlat 0 rfl) fun w H=>?_
 replace H:=H.nf 8 rfl
 refine nl (wr (tr ?_))
 cases hm
 replace hm:=elimR hm748
 refine tr ?_
 cases hm
 replace hm:=elimR hm737
 refine tr ?_
 cases hm
 replace hm:=elimR hm714
 refine tr ?_
 cases hm
 replace hm:=elimR hm668
 refine tr ?_
 cases hm
 replace hm:=elimR hm571
 refine br (tr ?_)
 cases hm
 replace hm:=elimR hm382
 refine tr ?_
 cases hm
 refine x_resC1 F rfl (⟨_,rfl,agg37.run_load (H.blk 4 rfl).row (H.rcLen 0 rfl)⟩) ?_
 exact ⟨_,rfl,cs753,rfl,(H.pm 8 [0,1] rfl:)⟩
 refine sb [0,0] F H rfl fun a F=>?_
 refine nl (cPm F rfl hm (fun hg754 hm=>?_) (fun hg754 hm=>?_))
 refine sr (bk [0,1,4001] F H rfl ⟨fld25_1,rfl,plain9,trivial⟩ fun a F=>?_)
 obtain ⟨x755,ex755,hm⟩:=ob hm
 refine sd F rfl ent67 (w_sStat ex755 (H.pm 6 [5,0,1,2,3,4] rfl:):) ?_;rintro _ w a ⟨cs756,rfl,H⟩ F
 refine s_storeA wkP F rfl rfl agg37 rfl rfl rfl H 3 rfl (H.rcLen 0 rfl) rfl (H.rcFlat 0 rfl) fun w H=>?_
 replace H:=H.nf 7 rfl
 refine nl (wr (tr ?_))
 cases hm
 replace hm:=elimR hm748
 refine tr ?_
 cases hm
 replace hm:=elimR hm737
 refine tr ?_
 cases hm
 replace hm:=elimR hm714
 refine tr ?_
 cases hm
 replace hm:=elimR hm668
 refine tr ?_
 cases hm
 replace hm:=elimR hm571
 refine br (tr ?_)
 cases hm
 replace hm:=elimR hm382
 refine tr ?_
 cases hm
 refine x_resC1 F rfl (⟨_,rfl,agg37.run_load (H.blk 3 rfl).row (H.rcLen 0 rfl)⟩) ?_
 exact ⟨_,rfl,cs756,rfl,(H.pm 7 [0,1] rfl:)⟩
 refine rl (bk [0] F H rfl ⟨fld37_0,trivial⟩ fun a F=>s_st1 wkP F rfl rfl zero33 rfl rfl rfl rfl rfl H 1 rfl rfl fun w H=>?_)
 replace H:=H.nf 6 rfl
 refine lz ?_
 cases hm
 refine ct ?_
 exact ⟨_,rfl,F.sl rfl,(H.pm 6 [1,5,0,2,3,4] rfl:)⟩
 cases hm
 refine ct ?_
 exact ⟨_,rfl,F.sl rfl,H⟩
 cases hm
 refine ct ?_
 exact ⟨_,rfl,F.sl rfl,H⟩
 cases hm
 refine ct ?_
 exact ⟨_,rfl,F.sl rfl,H⟩
 cases hm
 refine ct ?_
 exact ⟨_,rfl,F.sl rfl,H⟩
 refine bn ?_
 cases hm
 refine ct ?_
 exact ⟨_,rfl,F.sl rfl,H⟩
 refine ct (sr (bk [999] F H rfl ⟨rfl,(aggn agg37 rfl),trivial⟩ fun a F=>s_storeA wkP F rfl rfl agg37 rfl rfl rfl H 0 rfl rfl rfl (fl rfl) fun w H=>?_))
 replace H:=H.nf 6 rfl
 refine nl (wr ?_)
 replace H:=H.frz 4 rfl
 replace H:=H.frz 4 rfl
 replace H:=mk_api_Answer H r382.1 0 1 rfl 0 rfl
 cases hm
 refine x_resC1 F rfl (⟨_,rfl,agg37.run_load (H.blk 3 rfl).row rfl⟩) ?_
 exact ⟨_,rfl,[.int .i64 (r382.1),.int .i64 (0),.slice none (([]:List UInt8)).length 0,.slice none (([]:List (List UInt8))).length 0],rfl,(H.pm 7 [0,4] rfl:)⟩
end Go.Proofs.YthcjjjnphgopjaaGreatDoor
namespace Go.Tri
open Go.RowKit
abbrev Hdr:Type:=Option Addr×Nat×Nat
def hdrV (h:Hdr):Value:=.slice h.1 h.2.1 h.2.2
def rHdr:Rp Hdr:=Rp.enc 1 (fun h=>[hdrV h]) (fun _=>rfl) (fun _ v hv=>by simp at hv;subst hv;rfl)
def noK {κ:Type}:κ→Prop:=fun _=>False
def atK {κ:Type} (k:κ):κ→Prop:=fun i=>i=k
section
variable {κ:Type} [DecidableEq κ]
def HP.mos (e:TypeId) (hm:κ→Option Hdr) (m:κ→Option (List UInt8)) (h:κ→Prop):HP :=
 HP.of (fun B w S=>∃ f:κ→Nat→Prop,(∀ k,(hm k).isSome=(m k).isSome)∧(∀ k v x,hm k=some v→m k=some x→v.2.1=x.length∧(¬ h k→(HP.ow rByte e v.1 v.2.2 x).pr B w (f k)))∧(∀ i j b,f i b→f j b→i=j)∧∀ i b,f i b→S b)
  (fun ⟨f,h0,h1,h2,h3⟩ hS=>⟨f,h0,fun k v x hv hx=>⟨(h1 k v x hv hx).1,fun hn=>HP.loc _ ((h1 k v x hv hx).2 hn) fun b hb=>hS b (h3 k b hb)⟩,h2,h3⟩)
  (fun ⟨f,h0,h1,h2⟩ hl=>⟨f,h0,fun k v x hv hx=>⟨(h1 k v x hv hx).1,fun hn=>HP.mono _ ((h1 k v x hv hx).2 hn) hl⟩,h2⟩)
variable {w0 w:World} {l:List HP} {e:TypeId} {hm:κ→Option Hdr} {m:κ→Option (List UInt8)}
omit [DecidableEq κ] in
theorem St.mosNil (H:St w0 w l) (e:TypeId):St w0 w (HP.mos e (fnil:κ→Option Hdr) (fnil:κ→Option (List UInt8)) noK::l) :=
 H.more fun B _ _=>⟨fun _ _=>False,fun _=>rfl,fun k v x h=>by simp [fnil] at h,by simp,by simp⟩
omit [DecidableEq κ] in
theorem St.mosTake (H:St w0 w (HP.mos e hm m noK::l)) (k:κ):∃ q c,(hm k).getD (none,0,0)=(q,((m k).getD []).length,c)∧St w0 w (HP.ow rByte e q c ((m k).getD [])::HP.mos e hm m (atK k)::l):=by
 obtain ⟨B,S,hs,⟨f,h0,h1,h2,h3⟩,_⟩:=H.get 0 rfl
 cases hk:hm k with
 | none =>
  have hm0:m k=none:=by have:=h0 k;rw [hk] at this;cases h:m k with
   | none=>rfl
   | some x=>rw [h] at this;cases this
  rw [hm0]
  refine ⟨none,0,rfl,?_⟩
  obtain ⟨_,H2⟩:=H.split (ι:=Unit) (C:=fun _=>HP.ow rByte e none 0 []) (D:=fun _=>HP.mos e hm m (atK k)) fun {B S} ⟨f,h0,h1,h2,h3⟩=>by
   refine ⟨(),fun _=>False,S,?_,⟨f,h0,fun i v x hv hx=>⟨(h1 i v x hv hx).1,fun hn=>(h1 i v x hv hx).2 fun h=>h⟩,h2,h3⟩,fun b h _=>h,fun b h=>h.elim,fun b h=>h⟩
   obtain ⟨_,_,_,hh,_⟩:=(H.owNil rByte e).get 0 rfl
   obtain ⟨css,c1,c2⟩:=hh
   exact ⟨[],trivial,⟨rfl,.inl ⟨rfl,rfl⟩⟩,fun b hb=>by simp [Value.ownBlock] at hb⟩
  exact H2
 | some v =>
  obtain ⟨q,n,c⟩:=v
  obtain ⟨x,hx⟩:∃ x,m k=some x:=by have:=h0 k;rw [hk] at this;exact Option.isSome_iff_exists.1 this.symm
  obtain ⟨hn,_⟩:=h1 k _ x hk hx
  simp only at hn
  rw [hx]
  refine ⟨q,c,by simp [hn],?_⟩
  obtain ⟨_,H2⟩:=H.split (ι:=Unit) (C:=fun _=>HP.ow rByte e q c x) (D:=fun _=>HP.mos e hm m (atK k)) fun {B S} ⟨f,h0,h1,h2,h3⟩=>by
   refine ⟨(),f k,fun b=>∃ i,i≠k∧f i b,(h1 k _ x hk hx).2 fun h=>h,⟨fun i b=>i≠k∧f i b,h0,fun i v y hv hy=>⟨(h1 i v y hv hy).1,fun hn=>?_⟩,fun i j b ⟨_,hi⟩ ⟨_,hj⟩=>h2 i j b hi hj,fun i b hb=>⟨i,hb⟩⟩,fun b hb ⟨i,hi,hf⟩=>hi (h2 i k b hf hb),fun b hb=>h3 k b hb,fun b ⟨i,_,hf⟩=>h3 i b hf⟩
   have he:(fun b=>i≠k∧f i b)=f i:=by
    funext b
    have:i≠k:=hn
    simp [this]
   show (HP.ow rByte e v.fst v.snd.snd y).pr B w (fun b=>i≠k∧f i b)
   rw [he]
   exact (h1 i v y hv hy).2 fun h=>h
  exact H2
theorem St.mosPut {k:κ} {q:Option Addr} {c:Nat} {x:List UInt8} (H:St w0 w (HP.ow rByte e q c x::HP.mos e hm m (atK k)::l)):St w0 w (HP.mos e (fset k (q,x.length,c) hm) (fset k x m) noK::l):=by
 refine H.join fun {B} S T h1 h2 hd=>?_
 obtain ⟨f,h0,h2,h3,h4⟩:=h2
 refine ⟨fun i b=>if i=k then S b else f i b∧T b,fun i=>?_,fun i v y hv hy=>?_,fun i j b hi hj=>?_,fun i b hb=>?_⟩
 ·by_cases e:i=k
  ·simp [fset,e]
  ·simp [fset,e,h0 i]
 ·by_cases e:i=k
  ·subst e
   simp only [fset,if_true,Option.some.injEq] at hv hy
   subst hv;subst hy
   exact ⟨rfl,fun _=>by simpa using h1⟩
  ·simp only [fset,e,if_false] at hv hy
   refine ⟨(h2 i v y hv hy).1,fun _=>?_⟩
   have he:(fun b=>if i=k then S b else f i b∧T b)=f i:=by
    funext b
    rw [if_neg e]
    exact propext ⟨fun h=>h.1,fun h=>⟨h,h4 i b h⟩⟩
   show (HP.ow rByte _ v.fst v.snd.snd y).pr B w (fun b=>if i=k then S b else f i b∧T b)
   rw [he]
   exact (h2 i v y hv hy).2 e
 ·replace hi:if i=k then S b else f i b∧T b:=hi
  replace hj:if j=k then S b else f j b∧T b:=hj
  by_cases e1:i=k
  ·by_cases e2:j=k
   ·rw [e1,e2]
   ·simp only [if_pos e1,if_neg e2] at hi hj
    exact (hd b hi hj.2).elim
  ·by_cases e2:j=k
   ·simp only [if_neg e1,if_pos e2] at hi hj
    exact (hd b hj hi.2).elim
   ·simp only [if_neg e1,if_neg e2] at hi hj
    exact h3 i j b hi.1 hj.1
 ·replace hb:if i=k then S b else f i b∧T b:=hb
  by_cases e:i=k
  ·rw [if_pos e] at hb;exact .inl hb
  ·rw [if_neg e] at hb;exact .inr hb.2
theorem mm_ofHdr {p:Option Nat} {ek:κ→Value} {ok:κ→Prop} {R:Rp (List UInt8)} {B:Base} {S:Nat→Prop} (hd:∀ k,(hm k).isSome=(m k).isSome) (hp:∀ k v x,hm k=some v→m k=some x→R.rd B [hdrV v] x) (h:(HP.mm p ek false rHdr ok hm).pr B w S):(HP.mm p ek false R ok m).pr B w S:=by
 obtain ⟨es,hes,hmp⟩:=h
 have hex:∀ es:List (κ×(List Value×Hdr)),(es.map (·.1)).Nodup→(∀ q∈es,rHdr.rd B q.2.1 q.2.2∧hm q.1=some q.2.2)→∃ es':List (κ×(List Value×List UInt8)),es'.map (fun q=>(q.1,q.2.1))=es.map (fun q=>(q.1,q.2.1))∧∀ q∈es',R.rd B q.2.1 q.2.2∧m q.1=some q.2.2:=by
  intro es
  induction es with
  | nil=>exact fun _ _=>⟨[],rfl,by simp⟩
  | cons q es ih =>
   intro hn hq
   simp only [List.map_cons,List.nodup_cons] at hn
   obtain ⟨es',e1,e2⟩:=ih hn.2 fun q hq'=>hq q (List.mem_cons_of_mem _ hq')
   obtain ⟨k,cs,v⟩:=q
   obtain ⟨g1,g2⟩:=hq (k,cs,v) List.mem_cons_self
   simp only at g1 g2
   obtain ⟨x,hx⟩:∃ x,m k=some x:=by have:=hd k;rw [g2] at this;exact Option.isSome_iff_exists.1 this.symm
   have g3:cs=[hdrV v]:=g1
   refine ⟨(k,cs,x)::es',by simp [e1],fun q' hq'=>?_⟩
   rcases List.mem_cons.1 hq' with rfl | hq'
   ·exact ⟨by rw [g3];exact hp k v x g2 hx,hx⟩
   ·exact e2 q' hq'
 have hget:∀ q∈es,hm q.1=some q.2.2:=fun q hq=>by
  rw [hes.get q.1,aget_of_mem hes.nodup (v:=q.2) (by obtain ⟨a,b⟩:=q;exact hq)];rfl
 obtain ⟨es',e1,e2⟩:=hex es hes.nodup fun q hq=>⟨hes.rd q hq,hget q hq⟩
 have hk:es'.map (·.1)=es.map (·.1):=by
  have:=congrArg (List.map (·.1)) e1
  rw [List.map_map,List.map_map] at this
  exact this
 have hment:ment ek false es'=ment ek false es:=by
  have:=congrArg (List.map fun q:κ×List Value=>(ek q.1,mkV false q.2)) e1
  simpa [ment,mkv,List.map_map,Function.comp_def] using this
 refine ⟨es',⟨by rw [hk];exact hes.nodup,fun q hq=>?_,fun q hq=>(e2 q hq).1,fun k=>?_⟩,?_⟩
 ·have:q.1∈es'.map (·.1):=List.mem_map.2 ⟨q,hq,rfl⟩
  rw [hk] at this
  obtain ⟨r,hr,h9⟩:=List.mem_map.1 this
  rw [← h9];exact hes.ok r hr
 ·cases h5:aget k es' with
  | some u =>
   rw [(e2 (k,u) (aget_mem' h5)).2];rfl
  | none =>
   have hnone:hm k=none:=by
    rw [hes.get k]
    cases h6:aget k es with
    | none=>rfl
    | some u =>
     have:k∈es.map (·.1):=List.mem_map.2 ⟨(k,u),aget_mem' h6,rfl⟩
     rw [← hk] at this
     obtain ⟨r,hr,h9⟩:=List.mem_map.1 this
     have hn':(es'.map (·.1)).Nodup:=by rw [hk];exact hes.nodup
     rw [aget_of_mem hn' (v:=r.2) (by rw [← h9];exact hr)] at h5;cases h5
   have:=hd k
   rw [hnone] at this
   cases h:m k with
   | none=>rfl
   | some x=>rw [h] at this;cases this
 ·cases p with
  | none =>
   simp only at hmp ⊢
   subst hmp
   have:=congrArg List.length hk
   exact List.eq_nil_of_length_eq_zero (by simpa using this)
  | some b=>exact ⟨by rw [hment];exact hmp.1,hmp.2⟩
theorem St.mosFrz {p:Option Nat} {ek:κ→Value} {ok:κ→Prop} (H:St w0 w (HP.mos e hm m noK::HP.mm p ek false rHdr ok hm::l)):St w0 w (HP.mm p ek false (rSl rByte) ok m::l):=by
 have H1:St w0 w (HP.pe (fun B=>(∀ k,(hm k).isSome=(m k).isSome)∧∀ k v x,hm k=some v→m k=some x→(rSl rByte).rd B [hdrV v] x) (fun h hl=>⟨h.1,fun k v x hv hx=>(rSl rByte).mono (h.2 k v x hv hx) hl⟩)::HP.mm p ek false rHdr ok hm::l):=by
  refine H.freezeH fun {B B'} S h hle hw=>?_
  obtain ⟨f,h0,h1,h2,h3⟩:=h
  refine ⟨h0,fun k v x hv hx=>?_⟩
  obtain ⟨hn,ho⟩:=h1 k v x hv hx
  obtain ⟨cs0,r1,r2⟩:=ho (fun h=>h)
  exact ⟨v.1,v.2.2,by unfold hdrV;rw [hn],cs0,r1.mono hle,fun w' hw'=>ownsRow_sl (HP.loc _ r2 (fun b hb=>hw w' hw' b (h3 k b hb))).1⟩
 obtain ⟨B,HB⟩:=H1.out
 obtain ⟨_,hp⟩:=HB.at (i:=0) rfl
 obtain ⟨hd,hp⟩:(∀ k,(hm k).isSome=(m k).isSome)∧∀ k v x,hm k=some v→m k=some x→(rSl rByte).rd B [hdrV v] x:=hp
 exact (HB.set 1 (A:=HP.mm p ek false rHdr ok hm) (C:=HP.mm p ek false (rSl rByte) ok m) rfl fun S h=>mm_ofHdr hd hp h).st.tail
end
section
variable {κ β:Type} [DecidableEq κ]
theorem findI_of {k:κ}:∀ {l:List (κ×Value)} {i q:Nat} {u:Value},(l.map (·.1)).Nodup→l[q]?=some (k,u)→findI k l i=some (i+q,u)
 | [],_,_,_,_,h=>by simp at h
 | (k',v)::r,i,0,u,hn,h=>by
  simp only [List.getElem?_cons_zero,Option.some.injEq,Prod.mk.injEq] at h
  unfold findI
  rw [if_pos h.1,h.2];rfl
 | (k',v)::r,i,q+1,u,hn,h=>by
  simp only [List.getElem?_cons_succ] at h
  simp only [List.map_cons,List.nodup_cons] at hn
  have hne:¬ k'=k:=fun e=>hn.1 (by rw [e];exact List.mem_map.2 ⟨(k,u),List.mem_of_getElem? h,rfl⟩)
  unfold findI
  rw [if_neg hne,findI_of hn.2 h]
  congr 2;omega
structure RawUp (es:List (κ×(List Value×β))) (raw:Array MapEntry) (vis:List Nat) (es':List (κ×(List Value×β))) (raw':Array MapEntry):Prop where
 key:es'.map (·.1)=es.map (·.1)
 born:raw'.toList.map (·.born)=raw.toList.map (·.born)
 off:∀ q,q ∉ vis→es'[q]?=es[q]?
omit [DecidableEq κ] in
theorem RawUp.refl (es:List (κ×(List Value×β))) (raw:Array MapEntry) (vis:List Nat):RawUp es raw vis es raw:=⟨rfl,rfl,fun _ _=>rfl⟩
omit [DecidableEq κ] in
theorem RawUp.at {es es':List (κ×(List Value×β))} {raw raw':Array MapEntry} {vis:List Nat} (h:RawUp es raw vis es' raw') {q:Nat} {x:κ×(List Value×β)} (hq:es'[q]?=some x) (hn:q ∉ vis):es[q]?=some x:=by
 rw [← h.off q hn];exact hq
omit [DecidableEq κ] in
theorem RawUp.next {es es':List (κ×(List Value×β))} {raw raw':Array MapEntry} {vis:List Nat} (h:RawUp es raw vis es' raw') (q:Nat):RawUp es raw (vis++[q]) es' raw' :=
 ⟨h.key,h.born,fun i hi=>h.off i fun hh=>hi (List.mem_append_left _ hh)⟩
omit [DecidableEq κ] in
theorem RawUp.len {es es':List (κ×(List Value×β))} {raw raw':Array MapEntry} {vis:List Nat} (h:RawUp es raw vis es' raw'):es'.length=es.length:=by
 have:=congrArg List.length h.key;simpa using this
omit [DecidableEq κ] in
theorem RawUp.all {es es':List (κ×(List Value×β))} {raw raw':Array MapEntry} {vis:List Nat} (h:RawUp es raw vis es' raw') (ha:∀ q,q<es'.length→q∈vis):∀ q,q<es.length→q∈vis:=fun q hq=>ha q (by rw [h.len];exact hq)
omit [DecidableEq κ] in
theorem RawUp.vok {es es':List (κ×(List Value×β))} {raw raw':Array MapEntry} {vis:List Nat} (h:RawUp es raw vis es' raw') (hv:VisOk es.length vis):VisOk es'.length vis:=by rw [h.len];exact hv
omit [DecidableEq κ] in
theorem borns_eq {raw raw':Array MapEntry} (h:raw'.toList.map (·.born)=raw.toList.map (·.born)) (vis:List Nat):bornsOf raw' vis=bornsOf raw vis:=by
 unfold bornsOf
 congr 1
 refine List.map_congr_left fun i _=>?_
 have:=congrArg (fun l=>l[i]?) h
 simp only [List.getElem?_map,Array.getElem?_toList] at this
 rw [this]
end
section
variable {κ β:Type} [DecidableEq κ] {R:Rp β} {ek:κ→Value} {agg:Bool} {ok:κ→Prop} {P:Program} {w0 w:World} {ls:List HP} {m:κ→Option β} {b:Nat} {es es0:List (κ×(List Value×β))} {raw raw0:Array MapEntry} {c:Nat} {ops:Array Oper} {rest:List Oper} {o:Oper} {a:Act} {W:List Oper→Act→World→Prop} {N:Fs} {sl:List (Nat×Value)} {d:Nat} {x y z:Operand} {T K E:TypeId} {vis:List Nat}
theorem s_moSet (kw:Walk P ops W) (F:Fr N a sl) (hg:o.guard=none) (hd:o.dst=none) (hT:P.underlying T=some (.map K E)) (hK:KeyT P K ek ok) (ho:o.op=.mapUpdate T x y z) (hM:MRaw ek agg es raw c) {q:Nat} (hU:RawUp es0 raw0 (vis++[q]) es raw)
  {k:κ} {cs0:List Value} {v0:β} (hq:es[q]?=some (k,cs0,v0)) (H:St w0 w ls) (i j:Nat) (hi:ls[i]?=some (HP.mo (some b) raw c)) (hj:ls[j]?=some (HP.es R ok es m)) (hij:Nat.beq i j=false)
  (hx:ev sl x=some (.map (some b))) (hy:ev sl y=some (ek k)) {cs:List Value} (hz:ev sl z=some (mkV agg cs)) {v:β} (hrd:∀ {B:Base},(∀ (j:Nat) (C:HP),ls[j]?=some C→∃ S,C.pr B w S)→R.rd B cs v)
  (hk:∀ es' raw' w',MRaw ek agg es' raw' c→RawUp es0 raw0 (vis++[q]) es' raw'→bornsOf raw' (vis++[q])=bornsOf raw (vis++[q])→St w0 w' ((ls.set i (HP.mo (some b) raw' c)).set j (HP.es R ok es' (fset k v m)))→W rest a w'):W (o::rest) a w:=by
 have hne:i≠j:=Nat.ne_of_beq_eq_false hij
 obtain ⟨B,HB⟩:=H.out
 obtain ⟨S1,hmo⟩:=HB.at hi
 obtain ⟨S2,hes⟩:=HB.at hj
 replace hes:EsOk R ok B es m:=hes
 have hil:i<ls.length:=(List.getElem?_eq_some_iff.1 hi).1
 have hjl:j<ls.length:=(List.getElem?_eq_some_iff.1 hj).1
 obtain ⟨hb,hfb⟩:=hmo
 have hbl:b<w.heap.size:=(Array.getElem?_eq_some_iff.1 hb).1
 have hql:=(List.getElem?_eq_some_iff.1 hq).1
 have hl:=hM.len
 have hkk:ok k:=hes.ok _ (List.mem_of_getElem? hq)
 let l:List (κ×Value):=es.map fun p=>(p.1,mkV agg p.2.1)
 have hlk:l.map (·.1)=es.map (·.1):=by simp [l]
 have hlq:l[q]?=some (k,mkV agg cs0):=by simp [l,hq]
 have hfI:findI k l 0=some (q,mkV agg cs0):=by
  have:=findI_of (i:=0) (by rw [hlk];exact hes.nodup) hlq
  simpa using this
 have hf:=hK.find k raw.toList l w hkk (es_ok hes.ok) hM.ent
 rw [hfI] at hf
 obtain ⟨e,he,hek,hev⟩:=hM.at hq
 have hrun:(Instr.mapUpdate T (.map (some b)) (ek k) (mkV agg cs)).run P w=.ok () (w.putObj b (.map (raw.modify q fun e=>{ e with key:=ek k,val:=mkV agg cs }) c)):=by
  unfold Instr.mapUpdate
  rw [Sem.run_bind,Go.run_underlying hT]
  simp only [Result.andThen_ok]
  rw [Sem.run_bind,run_getObj w b raw c hb]
  simp only [Result.andThen_ok]
  rw [Sem.run_bind,hK.check false k w hkk]
  simp only [Result.andThen_ok]
  rw [Sem.run_bind,hf]
  simp only [Result.andThen_ok]
  have hkey:((raw[q]?).map (·.key)).getD (ek k)=ek k:=by rw [he];exact hek
  rw [hkey,Sem.run_bind,hK.stays k w hkk]
  simp only [Result.andThen_ok]
  exact run_setObj w b raw c _ hb
 let es':=es.set q (k,cs,v)
 let raw':=raw.modify q fun e=>{ e with key:=ek k,val:=mkV agg cs }
 have hent:raw'.toList.map (fun e=>(e.key,e.val))=ment ek agg es':=by
  have h0:=hM.ent
  show (raw.modify q _).toList.map _=mkv ek ((es.set q (k,cs,v)).map _)
  simp only [Array.toList_modify,ment,mkv,List.map_set] at h0 ⊢
  apply List.ext_getElem?
  intro t
  have ht:=congrArg (fun l=>l[t]?) h0
  simp only [List.getElem?_map,List.getElem?_modify,List.getElem?_set,List.length_map] at ht ⊢
  by_cases e1:q=t
  ·subst e1
   have:raw.toList[q]?=some e:=by rw [Array.getElem?_toList];exact he
   simp [this,hql]
  ·simp only [e1,if_false]
   cases h5:raw.toList[t]? with
   | none=>rw [h5] at ht;simp at ht ⊢;exact ht
   | some e5=>rw [h5] at ht;simp at ht ⊢;exact ht
 have hborn:raw'.toList.map (·.born)=raw.toList.map (·.born):=by
  show (raw.modify q _).toList.map _=_
  rw [Array.toList_modify]
  apply List.ext_getElem?
  intro t
  simp only [List.getElem?_map,List.getElem?_modify]
  by_cases e1:q=t
  ·subst e1
   cases raw.toList[q]?<;>simp
  ·simp only [e1,if_false]
   cases raw.toList[t]?<;>simp
 have hM':MRaw ek agg es' raw' c:=by
  refine ⟨hent,by rw [hborn];exact hM.nd,fun e5 h5=>?_⟩
  have h6:e5.born∈raw'.toList.map (·.born):=List.mem_map.2 ⟨e5,h5,rfl⟩
  rw [hborn] at h6
  obtain ⟨e7,h7,h8⟩:=List.mem_map.1 h6
  rw [← h8];exact hM.lt e7 h7
 have hkeys:es'.map (·.1)=es.map (·.1):=by
  show (es.set q (k,cs,v)).map _=_
  rw [List.map_set]
  refine set_self ?_
  rw [List.getElem?_map,hq];rfl
 have hU':RawUp es0 raw0 (vis++[q]) es' raw':=by
  refine ⟨hkeys.trans hU.key,hborn.trans hU.born,fun t ht=>?_⟩
  have hqt:q≠t:=fun e=>ht (by rw [← e];simp)
  show (es.set q _)[t]?=_
  rw [List.getElem?_set_ne hqt];exact hU.off t ht
 have hcs:R.rd B cs v:=hrd (B:=B) fun j C hj=>HB.at hj
 have hes':EsOk R ok B es' (fset k v m):=by
  refine ⟨by rw [hkeys];exact hes.nodup,fun p hp=>?_,fun p hp=>?_,fun k'=>?_⟩
  ·have:p.1∈es'.map (·.1):=List.mem_map.2 ⟨p,hp,rfl⟩
   rw [hkeys] at this
   obtain ⟨r,hr,h9⟩:=List.mem_map.1 this
   rw [← h9];exact hes.ok r hr
  ·rcases List.mem_or_eq_of_mem_set hp with hp | rfl
   ·exact hes.rd p hp
   ·exact hcs
  ·have hnd':(es'.map (·.1)).Nodup:=by rw [hkeys];exact hes.nodup
   by_cases e1:k'=k
   ·subst e1
    have:(k',cs,v)∈es':=List.mem_of_getElem? (i:=q) (by show (es.set q _)[q]?=_;simp [hql])
    rw [aget_of_mem hnd' this];simp [fset]
   ·simp only [fset,e1,if_false]
    rw [hes.get k']
    congr 1
    cases h5:aget k' es with
    | some u =>
     have hmem:=aget_mem' h5
     obtain ⟨t,ht1,ht2⟩:=List.getElem_of_mem hmem
     have hqt:q≠t:=fun e=>by subst e;rw [List.getElem?_eq_getElem ht1,ht2] at hq;injection hq with hq;injection hq with hq _;exact e1 hq
     have:(k',u)∈es':=List.mem_of_getElem? (i:=t) (by show (es.set q _)[t]?=_;rw [List.getElem?_set_ne hqt,List.getElem?_eq_getElem ht1,ht2])
     exact (aget_of_mem hnd' this).symm
    | none =>
     cases h6:aget k' es' with
     | none=>rfl
     | some u =>
      have hmem:=aget_mem' h6
      rcases List.mem_or_eq_of_mem_set hmem with hm' | hm'
      ·rw [aget_of_mem hes.nodup hm'] at h5;cases h5
      ·injection hm' with hm' _;exact absurd hm' e1
 have hexec:(execOp a.eval o).run P w=.ok .skip (w.putObj b (.map raw' c)):=by
  unfold execOp
  simp only [ho,F.eval hx,F.eval hy,F.eval hz,Sem.run_bind,hrun,Result.andThen_ok,Sem.run_pure]
  rfl
 refine s_none kw F hg hd (by rw [ho];rfl) hexec (hk es' raw' _ hM' hU' (borns_eq hborn _) ?_)
 have H1:=HB.chg i hi (A':=HP.mo (some b) raw' c) (g:=b) (fun S hA=>hA.2) (chg_putObj _ _ _) fun S hA=>⟨World.putObj_heap_same hbl,hA.2⟩
 exact (H1.set j (C:=HP.es R ok es' (fset k v m)) (by rw [List.getElem?_set_ne hne];exact hj) fun S _=>hes').st
end
section
variable {κ:Type} [DecidableEq κ] {P:Program} {w0 w:World} {l ls:List HP} {e:TypeId} {p:Option Nat} {ek:κ→Value} {ok:κ→Prop} {m:κ→Option (List UInt8)} {hm:κ→Option Hdr} {N:Fs} {a:Act} {sl:List (Nat×Value)} {o:Oper} {x y:Operand} {T K E:TypeId}
def HP.mw (e:TypeId) (p:Option Nat) (ek:κ→Value) (ok:κ→Prop) (m:κ→Option (List UInt8)):HP:=HP.ex fun hm:κ→Option Hdr=>[HP.mos e hm m noK,HP.mm p ek false rHdr ok hm]
theorem St.mwNil (H:St w0 w (HP.mm p ek false rHdr ok (fnil:κ→Option Hdr)::l)) (e:TypeId):St w0 w (HP.mw e p ek ok (fnil:κ→Option (List UInt8))::l):=St.exShut (fnil:κ→Option Hdr) (H.mosNil e)
theorem St.mwTake (H:St w0 w (HP.mw e p ek ok m::l)) (k:κ):∃ hm q c,(hm k).getD (none,0,0)=(q,((m k).getD []).length,c)∧St w0 w (HP.ow rByte e q c ((m k).getD [])::HP.mos e hm m (atK k)::HP.mm p ek false rHdr ok hm::l):=by
 obtain ⟨hm,H⟩:=H.exOpen
 obtain ⟨q,c,h,H⟩:=St.mosTake H k
 exact ⟨hm,q,c,h,H⟩
theorem St.mwPut {k:κ} {q:Option Addr} {c:Nat} {x:List UInt8} (H:St w0 w (HP.ow rByte e q c x::HP.mos e hm m (atK k)::HP.mm p ek false rHdr ok (fset k (q,x.length,c) hm)::l)):St w0 w (HP.mw e p ek ok (fset k x m)::l):=St.exShut (fset k (q,x.length,c) hm) H.mosPut
theorem St.mwFrz (H:St w0 w (HP.mw e p ek ok m::l)):St w0 w (HP.mm p ek false (rSl rByte) ok m::l):=by
 obtain ⟨hm,H⟩:=H.exOpen
 exact H.mosFrz
theorem y_mmGetH (F:Fr N a sl) (hT:P.underlying T=some (.map K E)) (hK:KeyT P K ek ok) (hz:∀ w,(zeroValue E).run P w=.ok (.slice none 0 0) w) (ho:o.op=.lookup T x y false) (H:St w0 w ls) (i:Nat) (hi:ls[i]?=some (HP.mm p ek false rHdr ok hm)) (hx:ev sl x=some (.map p)) {k:κ} (hy:ev sl y=some (ek k)) (hkk:ok k) {q:Option Addr} {n c:Nat} (hh:(hm k).getD (none,0,0)=(q,n,c)) :
  (execOp a.eval o).run P w=.ok (.value (.slice q n c)) w:=by
 obtain ⟨es,H1⟩:=H.mmOpen i hi
 have hil:i<ls.length:=(List.getElem?_eq_some_iff.1 hi).1
 have hi':(ls.set i (HP.mx p ek false rHdr ok es hm))[i]?=some (HP.mx p ek false rHdr ok es hm):=by simp [hil]
 obtain ⟨cs,hcs,H2⟩:=H1.mxGet i hi' k (zc:=[.slice none 0 0]) (z0:=((none,0,0):Hdr)) (fun _=>rfl)
 have hr:cs=[hdrV ((hm k).getD (none,0,0))]:=by
  obtain ⟨_,_,_,h,_⟩:=H2.get 0 rfl
  exact h
 have:=y_mxGet (agg:=false) (zc:=[.slice none 0 0]) F hT hK hz ho H1 i hi' hx hy hkk hcs
 rw [hr,hh] at this
 exact this
end
section
variable {κ β:Type} [DecidableEq κ] {R:Rp β} {ek:κ→Value} {agg:Bool} {ok:κ→Prop} {P:Program} {w0 w:World} {ls:List HP} {m:κ→Option β} {p:Option Nat} {es es0:List (κ×(List Value×β))} {raw raw0:Array MapEntry} {c:Nat} {ops:Array Oper} {rest:List Oper} {o:Oper} {a:Act} {W:List Oper→Act→World→Prop} {N:Fs} {sl:List (Nat×Value)} {d:Nat} {x y z:Operand} {T K E:TypeId} {vis:List Nat} {r:Nat}
def HP.mr (p:Option Nat) (ek:κ→Value) (agg:Bool) (R:Rp β) (ok:κ→Prop) (es0:List (κ×(List Value×β))) (raw0:Array MapEntry) (c:Nat) (vis:List Nat) (m:κ→Option β):HP :=
 HP.ex fun (i:List (κ×(List Value×β))×Array MapEntry)=>[HP.mo p i.2 c,HP.es R ok i.1 m,HP.fact (RawUp es0 raw0 vis i.1 i.2∧MRaw ek agg i.1 i.2 c)]
theorem St.mrStart (H:St w0 w (HP.mo p raw c::HP.es R ok es m::ls)) (hM:MRaw ek agg es raw c):St w0 w (HP.mr p ek agg R ok es raw c [] m::ls):=by
 have H1:=(H.addFact (show RawUp es raw [] es raw∧MRaw ek agg es raw c from ⟨RawUp.refl _ _ _,hM⟩)).pm 3 [1,2,0] rfl
 exact St.exShut (es,raw) H1
theorem St.mrOpen (H:St w0 w (HP.mr p ek agg R ok es0 raw0 c vis m::ls)):∃ es raw,RawUp es0 raw0 vis es raw∧MRaw ek agg es raw c∧St w0 w (HP.mo p raw c::HP.es R ok es m::HP.fact (RawUp es0 raw0 vis es raw∧MRaw ek agg es raw c)::ls):=by
 obtain ⟨⟨es,raw⟩,H⟩:=H.exOpen
 have h:=H.factP 2 rfl
 exact ⟨es,raw,h.1,h.2,H⟩
theorem St.mrShut (hU:RawUp es0 raw0 vis es raw) (hM:MRaw ek agg es raw c) (H:St w0 w (HP.mo p raw c::HP.es R ok es m::ls)):St w0 w (HP.mr p ek agg R ok es0 raw0 c vis m::ls) :=
 St.exShut (es,raw) ((H.addFact (show RawUp es0 raw0 vis es raw∧MRaw ek agg es raw c from ⟨hU,hM⟩)).pm 3 [1,2,0] rfl)
theorem St.mrSkip (H:St w0 w (HP.mr p ek agg R ok es0 raw0 c vis m::ls)) (q:Nat):St w0 w (HP.mr p ek agg R ok es0 raw0 c (vis++[q]) m::ls):=by
 obtain ⟨es,raw,hU,hM,H⟩:=H.mrOpen
 exact St.mrShut (hU.next q) hM ((H.pm 3 [0,1,2] rfl).pm 3 [0,1,2] rfl |>.pm 3 [2,0,1] rfl).tail
theorem St.mrMm (H:St w0 w (HP.mr p ek agg R ok es0 raw0 c vis m::ls)):St w0 w (HP.mm p ek agg R ok m::ls):=by
 obtain ⟨es,raw,hU,hM,H⟩:=H.mrOpen
 have H1:=H.moMm 0 1 hM rfl rfl
 exact (H1.pm 3 [1,2,0] rfl).tail.tail
theorem s_nxtR (kw:Walk P ops W) (F:Fr N a sl) (hg:o.guard=none) (hd:o.dst=some d) (hN:Nat.blt d N.n=true) (ho:o.op=.next x false) (hx:ev sl x=some (.pointer (some ⟨r,0,none⟩))) (hv:VisOk es0.length vis) (H:St w0 w (HP.obj r (mit p c (bornsOf raw0 vis))::HP.mr p ek agg R ok es0 raw0 c vis m::ls))
  (h0:(∀ q,q<es0.length→q∈vis)→∀ w' a',St w0 w' (HP.obj r (mit p c (bornsOf raw0 vis))::HP.mr p ek agg R ok es0 raw0 c vis m::ls)→Fr N a' ((d,.tuple [.bool false].toArray)::sl)→W rest a' w')
  (h1:∀ q k cs v,es0[q]?=some (k,cs,v)→q ∉ vis→∀ w' a',St w0 w' (HP.obj r (mit p c (bornsOf raw0 (vis++[q])))::HP.mr p ek agg R ok es0 raw0 c vis m::ls)→Fr N a' ((d,.tuple [.bool true,ek k,mkV agg cs].toArray)::sl)→W rest a' w'):W (o::rest) a w:=by
 obtain ⟨es,raw,hU,hM,H1⟩:=(H.pm 2 [1,0] rfl).mrOpen
 have hb:∀ v,bornsOf raw v=bornsOf raw0 v:=fun v=>borns_eq hU.born v
 have H2:=H1.pm 4 [3,0,1,2] rfl
 rw [← hb] at H2
 refine s_nxtM kw F hg hd hN ho hx hM (hU.vok hv) H2 1 0 rfl rfl rfl (fun hall w' a' H' F'=>?_) (fun q k cs v hq hn w' a' H' F'=>?_)
 ·rw [hb] at H'
  exact h0 (fun q hq=>hU.all hall q hq) w' a' ((St.mrShut hU hM ((H'.pm 4 [3,1,2,0] rfl).tail)).pm 2 [1,0] rfl) F'
 ·replace H':St w0 w' (HP.obj r (mit p c (bornsOf raw (vis++[q])))::HP.mo p raw c::HP.es R ok es m::HP.fact (RawUp es0 raw0 vis es raw∧MRaw ek agg es raw c)::ls):=H'
  rw [hb] at H'
  exact h1 q k cs v (hU.at hq hn) hn w' a' ((St.mrShut hU hM ((St.pm (l:=HP.obj r (mit p c (bornsOf raw0 (vis++[q])))::HP.mo p raw c::HP.es R ok es m::HP.fact (RawUp es0 raw0 vis es raw∧MRaw ek agg es raw c)::ls) H' 4 [3,1,2,0] rfl).tail)).pm 2 [1,0] rfl) F'
theorem y_entR (F:Fr N a sl) (ho:o.op=.entry x) (hx:ev sl x=some (.pointer (some ⟨r,0,none⟩))) {q:Nat} {k:κ} {cs:List Value} {v:β} (hq:es0[q]?=some (k,cs,v)) (hn:q ∉ vis) (H:St w0 w (HP.obj r (mit p c (bornsOf raw0 (vis++[q])))::HP.mr p ek agg R ok es0 raw0 c vis m::ls)) :
  (execOp a.eval o).run P w=.ok (.value (.tuple [ek k,mkV agg cs].toArray)) w:=by
 obtain ⟨es,raw,hU,hM,H1⟩:=(H.pm 2 [1,0] rfl).mrOpen
 have H2:=H1.pm 4 [3,0,1,2] rfl
 rw [← borns_eq hU.born] at H2
 exact y_entM F ho hx hM (by rw [hU.off q hn];exact hq) H2 1 0 rfl rfl rfl
theorem St.mrEl (H:St w0 w (HP.mr p ek agg R ok es0 raw0 c vis m::ls)) {q:Nat} {k:κ} {cs:List Value} {v:β} (hq:es0[q]?=some (k,cs,v)) (hn:q ∉ vis):ok k∧St w0 w (HP.rc R cs v::HP.mr p ek agg R ok es0 raw0 c vis m::ls):=by
 obtain ⟨es,raw,hU,hM,H1⟩:=H.mrOpen
 obtain ⟨h,H2⟩:=H1.esEl 1 rfl (show es[q]?=some (k,cs,v) by rw [hU.off q hn];exact hq)
 exact ⟨h,(St.mrShut hU hM ((H2.pm 4 [3,1,2,0] rfl).tail)).pm 2 [1,0] rfl⟩
theorem s_mrSet (kw:Walk P ops W) (F:Fr N a sl) (hg:o.guard=none) (hd:o.dst=none) (hT:P.underlying T=some (.map K E)) (hK:KeyT P K ek ok) (ho:o.op=.mapUpdate T x y z) {q:Nat} {k:κ} {cs0:List Value} {v0:β} (hq:es0[q]?=some (k,cs0,v0)) (H:St w0 w (HP.mr p ek agg R ok es0 raw0 c (vis++[q]) m::ls))
  (hx:ev sl x=some (.map p)) (hy:ev sl y=some (ek k)) {cs:List Value} (hz:ev sl z=some (mkV agg cs)) {v:β} (hrd:∀ {B:Base},(∀ (j:Nat) (C:HP),ls[j]?=some C→∃ S,C.pr B w S)→R.rd B cs v)
  (hk:∀ w',St w0 w' (HP.mr p ek agg R ok es0 raw0 c (vis++[q]) (fset k v m)::ls)→W rest a w'):W (o::rest) a w:=by
 obtain ⟨es,raw,hU,hM,H1⟩:=H.mrOpen
 have hkq:(es.map (·.1))[q]?=some k:=by rw [hU.key,List.getElem?_map,hq];rfl
 obtain ⟨u,hu,hu1⟩:∃ u,es[q]?=some u∧u.1=k:=by
  rw [List.getElem?_map] at hkq
  cases h:es[q]? with
  | none=>rw [h] at hkq;cases hkq
  | some u=>rw [h] at hkq;exact ⟨u,rfl,Option.some.inj hkq⟩
 obtain ⟨k',cs1,v1⟩:=u
 simp only at hu1
 subst hu1
 cases p with
 | none =>
  have h00:raw=#[]:=by obtain ⟨_,_,_,h,_⟩:=H1.get 0 rfl;exact h
  have hl:=hM.len
  have:=(List.getElem?_eq_some_iff.1 hu).1
  rw [h00] at hl
  simp at hl;omega
 | some b =>
  refine s_moSet kw F hg hd hT hK ho hM hU hu H1 0 1 rfl rfl rfl hx hy hz (fun gg=>hrd fun j C hj=>gg (j+3) C (by simpa using hj)) fun es' raw' w' hM' hU' _ H'=>hk w' ?_
  exact St.mrShut hU' hM' (St.pm (l:=HP.mo (some b) raw' c::HP.es R ok es' (fset k' v m)::HP.fact (RawUp es0 raw0 (vis++[q]) es raw∧MRaw ek agg es raw c)::ls) H' 3 [2,0,1] rfl).tail
theorem St.mmClone (H:St w0 w (HP.mm p ek agg R ok m::ls)):(p=none∧St w0 w (HP.mm none ek agg R ok m::HP.mm p ek agg R ok m::ls))∨∃ b raw c,p=some b∧w.heap[b]?=some (.map raw c)∧St w0 (w.alloc (.map raw c)) (HP.mm (some w.heap.size) ek agg R ok m::HP.mm p ek agg R ok m::ls):=by
 cases p with
 | none =>
  refine .inl ⟨rfl,H.more fun B hB hp=>?_⟩
  obtain ⟨S,es,hS⟩:=hp 0 _ rfl
  exact ⟨es,hS⟩
 | some b =>
  obtain ⟨raw,c,es,hM,hE,H1⟩:=H.moOpen 0 rfl
  replace H1:St w0 w (HP.es R ok es m::HP.mo (some b) raw c::ls):=H1
  have hh:w.heap[b]?=some (.map raw c):=by obtain ⟨_,_,_,h,_⟩:=H1.get 1 rfl;exact h.1
  refine .inr ⟨b,raw,c,rfl,hh,?_⟩
  have H2:St w0 (w.alloc (.map raw c)) (HP.mo (some w.heap.size) raw c::HP.es R ok es m::HP.mo (some b) raw c::ls):=(H1.newObj (.map raw c)).objMo 0 rfl
  have H3:St w0 (w.alloc (.map raw c)) (HP.mm (some w.heap.size) ek agg R ok m::HP.es R ok es m::HP.mo (some b) raw c::ls):=H2.moMm 0 1 hM rfl rfl
  have H4:St w0 (w.alloc (.map raw c)) (HP.mm (some w.heap.size) ek agg R ok m::HP.es R ok es m::HP.mm (some b) ek agg R ok m::ls):=H3.moMm 2 1 hM rfl rfl
  exact (H4.pm 3 [1,0,2] rfl).tail
end
theorem St.freezeHN {w0 w:World} {l:List HP} {A:HP} (h:St w0 w (A::l)) {C:HP} (hC:∀ {B B':Base} (S:Nat→Prop),A.pr B w S→B.le B'→(∀ b,S b→w0.heap.size≤b∧B' b=w.heap[b]?∧b<w.heap.size)→C.pr B' w (fun _=>False)):St w0 w (C::l):=by
 classical
 obtain ⟨hv,B,f,hs,h1,h2,h3⟩:=h
 let B':Base:=fun b=>if f 0 b then w.heap[b]? else B b
 have hle:B.le B':=by
  intro b o hb
  have:¬ f 0 b:=fun hf=>by have:=(h3 0 b (by simp) hf).2.1;rw [hb] at this;cases this
  show (if f 0 b then _ else _)=_
  rw [if_neg this];exact hb
 have hsub:Sub B' w:=by
  intro b o hb
  have hb':(if f 0 b then w.heap[b]? else B b)=some o:=hb
  split at hb'
  ·exact hb'
  ·exact hs b o hb'
 refine ⟨hv,B',fun i=>match i with | 0=>fun _=>False | i+1=>f (i+1),hsub,?_,?_,?_⟩
 ·intro i D hi
  cases i with
  | zero =>
   simp at hi;subst hi
   refine hC (f 0) (h1 0 A rfl) hle fun b hf=>?_
   have h4:=h3 0 b (by simp) hf
   refine ⟨h4.2.2,?_,h4.1⟩
   show (if f 0 b then _ else _)=_
   rw [if_pos hf]
  | succ i=>exact D.mono (h1 (i+1) D (by simpa using hi)) hle
 ·intro i j b hi hj hfi hfj
  cases i with
  | zero=>exact hfi.elim
  | succ i =>
   cases j with
   | zero=>exact hfj.elim
   | succ j=>exact h2 (i+1) (j+1) b hi hj hfi hfj
 ·intro i b hi hf
  cases i with
  | zero=>exact hf.elim
  | succ i =>
   have h4:=h3 (i+1) b hi hf
   refine ⟨h4.1,?_,h4.2.2⟩
   show (if f 0 b then _ else _)=_
   rw [if_neg (fun h0=>by have:=h2 0 (i+1) b (by simp) hi h0 hf;omega)]
   exact h4.2.1
theorem ow_new {B B':Base} {w:World} {S:Nat→Prop} {e:TypeId} {p:Option Addr} {c n0:Nat} {xs:List UInt8} (h:(HP.ow rByte e p c xs).pr B w S) (hS:∀ b,S b→n0≤b∧B' b=w.heap[b]?∧b<w.heap.size):(HP.nsl n0 rByte p c xs).pr B' default (fun _=>False):=by
 obtain ⟨css,c1,c2⟩:=h
 have hin:∀ b,S b→(B'.ge n0) b=w.heap[b]?:=fun b hf=>by
  unfold Base.ge
  rw [if_pos (hS b hf).1];exact (hS b hf).2.1
 refine ⟨⟨css,rdl_conv (R:=rByte) (R':=rByte) (B:=B) (B':=B'.ge n0) (fun h=>h) c1,fun w' hw'=>?_⟩,fun h0=>?_⟩
 ·refine ownsRow_sl (HP.loc _ c2 (w':=w') fun b hf=>?_).1
  have hlt:=(hS b hf).2.2
  have:(B'.ge n0) b=some w.heap[b]:=by rw [hin b hf];exact Array.getElem?_eq_getElem hlt
  rw [hw' b _ this];exact (Array.getElem?_eq_getElem hlt).symm
 ·obtain ⟨⟨_,⟨hx,hx0⟩ | ⟨g,cap',cur,hx,_,hheap,hm1,hm2,_⟩⟩,hS'⟩:=c2
  ·omega
  ·obtain ⟨rfl,_,_⟩:=Value.slice.inj hx
   exact ⟨g,cur,e,rfl,by rw [hin g (hS' g rfl)];exact hheap,Nat.le_trans hm1 hm2⟩
section
variable {κ:Type} [DecidableEq κ] {w0 w w':World} {l:List HP} {e:TypeId} {p:Option Nat} {ek:κ→Value} {ok:κ→Prop} {m:κ→Option (List UInt8)} {hm:κ→Option Hdr}
theorem St.mosFrzN (H:St w0 w (HP.mos e hm m noK::HP.mm p ek false rHdr ok hm::l)):St w0 w (HP.mm p ek false (rSlN w0.heap.size rByte) ok m::l):=by
 have H1:St w0 w (HP.pe (fun B=>(∀ k,(hm k).isSome=(m k).isSome)∧∀ k v x,hm k=some v→m k=some x→(rSlN w0.heap.size rByte).rd B [hdrV v] x) (fun h hl=>⟨h.1,fun k v x hv hx=>(rSlN w0.heap.size rByte).mono (h.2 k v x hv hx) hl⟩)::HP.mm p ek false rHdr ok hm::l):=by
  refine H.freezeHN fun {B B'} S h hle hw=>?_
  obtain ⟨f,h0,h1,h2,h3⟩:=h
  refine ⟨h0,fun k v x hv hx=>?_⟩
  obtain ⟨hn,ho⟩:=h1 k v x hv hx
  exact ⟨v.1,v.2.2,by unfold hdrV;rw [hn],ow_new (ho (fun h=>h)) (fun b hb=>hw b (h3 k b hb))⟩
 obtain ⟨B,HB⟩:=H1.out
 obtain ⟨_,hp⟩:=HB.at (i:=0) rfl
 obtain ⟨hd,hp⟩:(∀ k,(hm k).isSome=(m k).isSome)∧∀ k v x,hm k=some v→m k=some x→(rSlN w0.heap.size rByte).rd B [hdrV v] x:=hp
 exact (HB.set 1 (A:=HP.mm p ek false rHdr ok hm) (C:=HP.mm p ek false (rSlN w0.heap.size rByte) ok m) rfl fun S h=>mm_ofHdr hd hp h).st.tail
theorem St.mwFrzN (H:St w0 w (HP.mw e p ek ok m::l)):St w0 w (HP.mm p ek false (rSlN w0.heap.size rByte) ok m::l):=by
 obtain ⟨hm,H⟩:=H.exOpen
 exact H.mosFrzN
end
section
variable {w0 w w':World} {l:List HP} {n0:Nat}
theorem St.rcSlN (H:St w0 w l) (i:Nat) {cs:List Value} {x:List UInt8} (hi:l[i]?=some (HP.rc (rSlN n0 rByte) cs x)):∃ p cap,cs=[.slice p x.length cap]∧St w0 w (HP.nsl n0 rByte p cap x::l):=by
 obtain ⟨B,H⟩:=H.out
 obtain ⟨S,p,cap,h,h1⟩:=H.at hi
 exact ⟨p,cap,h,(H.more (A:=HP.nsl n0 rByte p cap x) h1).st⟩
abbrev rFlN (n0:Nat):Rp (Bool×List UInt8):=rPair rBool (rSlN n0 rByte)
abbrev rFl:Rp (Bool×List UInt8):=rPair rBool (rSl rByte)
theorem rFlN_weak {B:Base} {cs:List Value} {x:Bool×List UInt8} (h:(rFlN n0).rd B cs x):rFl.rd B cs x:=by
 obtain ⟨c,d,h1,h2,h3⟩:=h
 exact ⟨c,d,h1,h2,rSlN_weak h3⟩
theorem rFlN_ge {B:Base} {cs:List Value} {x:Bool×List UInt8} (h:(rFlN n0).rd B cs x):rFl.rd (B.ge n0) cs x:=by
 obtain ⟨c,d,h1,h2,h3⟩:=h
 exact ⟨c,d,h1,h2,rSlN_ge h3⟩
theorem St.rcFl {cs:List Value} {x:Bool×List UInt8} (H:St w0 w (HP.rc (rFlN n0) cs x::l)):St w0 w (HP.rc rFl cs x::l) :=
 H.convAt 0 rfl fun S h=>rFlN_weak h
theorem St.unsealF {p:Option Nat} {ek:List UInt8→Value} {ok:List UInt8→Prop} {m:List UInt8→Option (Bool×List UInt8)} (H:St w0 w l) (H':St w w' [HP.mm p ek true (rFlN w.heap.size) ok m,HP.all w]):St w0 w' (HP.mm p ek true rFl ok m::l) :=
 H.unseal1 (A:=HP.mm p ek true (rFlN w.heap.size) ok m) (fun h=>mm_conv (fun h=>rFlN_ge h) h) H'
end
end Go.Tri
