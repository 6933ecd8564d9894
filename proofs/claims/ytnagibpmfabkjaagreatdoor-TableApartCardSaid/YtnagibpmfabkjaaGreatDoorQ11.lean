/- Texts TabC. -/
import Derived.Test.YtnagibpmfabkjaaGreatDoorQ10
set_option linter.unusedSimpArgs false
set_option linter.unusedVariables false
namespace Go.Proofs.YtnagibpmfabkjaaGreatDoor
open Go.RowKit Go.Tri
set_option maxRecDepth 100000
set_option maxHeartbeats 4000000
theorem w_rSameT {a_:List (List UInt8)} {b_:List (List UInt8)} {p1:Option Addr} {c1:Nat} {p2:Option Addr} {c2:Nat} {w0 w:World} {l:List HP}  {r:Bool} (hm:rSameT a_ b_=some r) (H:St w0 w (HP.sl rStr p1 c1 a_::HP.sl rStr p2 c2 b_::l)) :
  Calls Tryz.prog 56 [.slice p1 (a_).length c1,.slice p2 (b_).length c2].toArray w (fun e w'=>∃ v,e=.returned v∧v=.bool (r)∧St w0 w' (l)):=by
 unfold rSameT at hm
 refine x_enter Tryz.func56 rfl rfl rfl ?_
 intro a F
 refine sb [0] F H rfl fun a F=>?_
 refine nl (sq (sr (bk (List.replicate 5 0) F H rfl ⟨⟨_,Tryz.underlying33⟩,⟨_,Tryz.underlying33⟩,trivial⟩ fun a F=>?_)))
 refine nl (cNm F rfl hm (fun hg3 hm=>?_) (fun hg3 hm=>?_))
 refine sb [0] F H rfl fun a F=>?_
 refine nl (wr (tr ?_))
 cases hm
 refine x_ret1 F rfl rfl ?_
 exact ⟨_,rfl,rfl,(H.pm 2 [] rfl:)⟩
 refine sk (ct (sq (sb [0] F H rfl fun a F=>?_)))
 refine nl (xr0 2 [] [] F H hm rfl rfl (fun r29 z=>z) (fun r29 z=>z) (fun o29 hm hm29=>?_) (fun r29 a w hm F H=>?_))
 refine bl (xl0 2 [0,1] [0,1] F H hm rfl rfl (fun (s46:Int) z=>(5,.int .i64 (s46))::z) (fun s46 z=>z) ⟨F.sl rfl,H⟩ (fun s46 a w o F H hm=>?_))
 refine sq (sr (bk [0,0,0,0] F H rfl ⟨⟨_,Tryz.underlying33⟩,trivial⟩ fun a F=>?_))
 refine nl (cPm F rfl hm (fun hg47 hm=>?_) (fun hg47 hm=>?_))
 refine sk (ct (sq (bl (sq ?_))))
 obtain ⟨x48,ex48,hm⟩:=ob hm
 obtain ⟨b49,o49,hp49⟩:=H.slP 0 rfl (idxO_some ex48).2
 obtain ⟨cs50,hcl50,H⟩:=H.slEl 0 rfl hp49 (idxO_some ex48).2
 obtain rfl:=H.rcStr 1 rfl
 replace H:=H.dp 1 rfl
 clear hcl50
 obtain ⟨x51,ex51,hm⟩:=ob hm
 obtain ⟨b52,o52,hp52⟩:=H.slP 2 rfl (idxO_some ex51).2
 obtain ⟨cs53,hcl53,H⟩:=H.slEl 2 rfl hp52 (idxO_some ex51).2
 obtain rfl:=H.rcStr 1 rfl
 replace H:=H.dp 1 rfl
 clear hcl53
 refine qr H (by kernel_rfl) (by kernel_rfl) ?_
 refine qb [0,0] F rfl fun a F=>?_
 refine qv F rfl (fun u hu=>y_idxS F elem33 rfl rfl rfl hp49 ex48) fun a F=>?_
 refine qbk [1000,0,0] F rfl ⟨rfl,plain9,trivial⟩ fun a F=>?_
 refine qv F rfl (fun u hu=>y_idxS F elem33 rfl rfl rfl hp52 ex51) fun a F=>?_
 refine qbk [0] F rfl ⟨rfl,plain9,trivial⟩ fun a F=>?_
 refine qv F rfl (fun u hu=>y_neT (l:=x48) (m:=x51) F rfl rfl rfl) fun a F=>?_
 refine q_nil fun w H=>?_
 refine ct (cNm F rfl hm (fun hg54 hm=>?_) (fun hg54 hm=>?_))
 refine sb [0] F H rfl fun a F=>?_
 refine nl (wr (br (tr (tr ?_))));cases hm;refine ⟨_,rfl,?_⟩;rintro rfl
 refine br (tr ?_)
 replace hm:=elimR hm29
 refine tr ?_
 cases hm
 refine x_ret1 F rfl rfl ?_
 exact ⟨_,rfl,rfl,(H.pm 4 [] rfl:)⟩
 refine sk (bn (ct (rl (bb [0,0,0] F H rfl fun a F=>?_))))
 refine lz (ct ?_);cases hm
 exact ⟨_,rfl,⟨F.sl rfl,(H.pm 4 [2,3] rfl:)⟩⟩
 refine ex (cx (cx ?_));cases hm;refine ⟨_,rfl,?_⟩;rintro rfl
 refine ch (ct ?_)
 exact ⟨_,rfl,F.cut _ trivial,(H.pm 2 [] rfl:)⟩
 refine ct (sb [0] F H rfl fun a F=>?_)
 refine nl (wr ?_)
 cases hm
 refine x_ret1 F rfl rfl ?_
 exact ⟨_,rfl,rfl,H⟩
theorem ent56:En Tryz.prog 56:=enters Tryz.func56 (by kernel_rfl) rfl
theorem w_rSameAns {a_:T_api_Answer} {b_:T_api_Answer} {cs1:List Value} {cs2:List Value} {w0 w:World} {l:List HP}  {r:Bool} (hm:rSameAns a_ b_=some r) (H:St w0 w (HP.rc R_api_Answer cs1 a_::HP.rc R_api_Answer cs2 b_::l)) :
  Calls Tryz.prog 26 [.agg cs1.toArray,.agg cs2.toArray].toArray w (fun e w'=>∃ v,e=.returned v∧v=.bool (r)∧St w0 w' (l)):=by
 unfold rSameAns at hm
 refine x_enter Tryz.func26 rfl rfl rfl ?_
 intro a F
 refine sr (s_boxA wkP F rfl rfl rfl rfl rfl H fun b3 w a H F=>?_)
 refine s_boxA wkP F rfl rfl rfl rfl rfl H fun b4 w a H F=>?_
 refine bb [0] F H rfl fun a F=>?_
 replace H:=H.nf 4 rfl
 refine nl (sr (bk [0] F H rfl ⟨fld35_0,trivial⟩ fun a F=>?_))
 have G:=F;replace H:=rc_api_Answer (H.pk 2 rfl);obtain ⟨p5,c6,p7,c8,rfl,J⟩:=H;have H:=J;have F:=G;clear G J
 refine bk [3000,0] F H rfl ⟨rfl,plain32,fld35_0,trivial⟩ fun a F=>?_
 have G:=F;replace H:=rc_api_Answer (H.pk 4 rfl);obtain ⟨p9,c10,p11,c12,rfl,J⟩:=H;have H:=J;have F:=G;clear G J
 refine bk [4000,0,0] F H rfl ⟨rfl,plain32,trivial⟩ fun a F=>?_
 rcases spP 10 F rfl hm with ⟨hg13,hm,F⟩ | ⟨hg13,hm,F⟩
 refine bk [1,5001,1,4001,0,0,0] F H rfl ⟨fld35_1,rfl,plain3,fld35_1,rfl,plain3,trivial⟩ fun a F=>?_
 rcases spP 17 F rfl hm with ⟨hg14,hm,F⟩ | ⟨hg14,hm,F⟩
 refine bk [2,5002] F H rfl ⟨fld35_2,rfl,plain29,trivial⟩ fun a F=>?_
 refine g_onP F rfl rfl rfl rfl ?_
 refine sv F rfl (y_b2s F Tryz.underlying29 Tryz.underlying9 Tryz.underlying5 rfl rfl (H) 2 rfl) fun a F=>?_
 refine bk [2,4002] F H rfl ⟨fld35_2,rfl,plain29,trivial⟩ fun a F=>?_
 refine g_onP F rfl rfl rfl rfl ?_
 refine sv F rfl (y_b2s F Tryz.underlying29 Tryz.underlying9 Tryz.underlying5 rfl rfl (H) 0 rfl) fun a F=>?_
 refine g_onP F rfl rfl rfl rfl ?_
 refine sv F rfl (y_eqT (l:=a_.2.2.1) (m:=b_.2.2.1) F rfl rfl rfl) fun a F=>?_
 refine bb [0,0] F H rfl fun a F=>?_
 rcases spP 26 F rfl hm with ⟨hg15,hm,F⟩ | ⟨hg15,hm,F⟩
 refine bk [3,5003,3,4003] F H rfl ⟨fld35_3,rfl,plain33,fld35_3,rfl,plain33,trivial⟩ fun a F=>?_
 refine g_onP F rfl rfl rfl rfl ?_
 obtain ⟨x16,ex16,hm⟩:=ob hm
 refine sd F rfl ent56 (w_rSameT ex16 (H.pm 6 [3,1,0,1,2,3,4,5] rfl:):) ?_;rintro _ w a ⟨rfl,H⟩ F
 refine bb [0,0] F H rfl fun a F=>?_
 replace H:=H.nf 6 rfl
 refine nl (wr ?_)
 cases hm
 refine x_ret1 F rfl rfl ?_
 exact ⟨_,rfl,rfl,(H.pm 6 [] rfl:)⟩
 refine bb (List.replicate 7 0) F H rfl fun a F=>?_
 refine nl (wr ?_)
 cases hm
 refine x_ret1 F rfl rfl ?_
 exact ⟨_,rfl,rfl,(H.pm 6 [] rfl:)⟩
 refine bb (List.replicate 16 0) F H rfl fun a F=>?_
 refine nl (wr ?_)
 cases hm
 refine x_ret1 F rfl rfl ?_
 exact ⟨_,rfl,rfl,(H.pm 6 [] rfl:)⟩
 refine bb (List.replicate 23 0) F H rfl fun a F=>?_
 refine nl (wr ?_)
 cases hm
 refine x_ret1 F rfl rfl ?_
 exact ⟨_,rfl,rfl,(H.pm 6 [] rfl:)⟩
theorem ent26:En Tryz.prog 26:=enters Tryz.func26 (by kernel_rfl) rfl
theorem w_rSameSeats {a_:List T_api_Seat} {b_:List T_api_Seat} {p1:Option Addr} {c1:Nat} {p2:Option Addr} {c2:Nat} {w0 w:World} {l:List HP}  {r:Bool} (hm:rSameSeats a_ b_=some r) (H:St w0 w (HP.sl R_api_Seat p1 c1 a_::HP.sl R_api_Seat p2 c2 b_::l)) :
  Calls Tryz.prog 65 [.slice p1 (a_).length c1,.slice p2 (b_).length c2].toArray w (fun e w'=>∃ v,e=.returned v∧v=.bool (r)∧St w0 w' (l)):=by
 unfold rSameSeats at hm
 refine x_enter Tryz.func65 rfl rfl rfl ?_
 intro a F
 refine sb [0] F H rfl fun a F=>?_
 refine nl (sq (sr (bk (List.replicate 5 0) F H rfl ⟨⟨_,Tryz.underlying67⟩,⟨_,Tryz.underlying67⟩,trivial⟩ fun a F=>?_)))
 refine nl (cNm F rfl hm (fun hg3 hm=>?_) (fun hg3 hm=>?_))
 refine sb [0] F H rfl fun a F=>?_
 refine nl (wr (tr ?_))
 cases hm
 refine x_ret1 F rfl rfl ?_
 exact ⟨_,rfl,rfl,(H.pm 2 [] rfl:)⟩
 refine sk (ct (sq (sb [0] F H rfl fun a F=>?_)))
 refine nl (xr0 2 [] [] F H hm rfl rfl (fun r80 z=>z) (fun r80 z=>z) (fun o80 hm hm80=>?_) (fun r80 a w hm F H=>?_))
 refine bl (xl0 2 [0,1] [0,1] F H hm rfl rfl (fun (s131:Int) z=>(5,.int .i64 (s131))::z) (fun s131 z=>z) ⟨F.sl rfl,H⟩ (fun s131 a w o F H hm=>?_))
 refine sq (sr (bk [0,0,0,0] F H rfl ⟨⟨_,Tryz.underlying67⟩,trivial⟩ fun a F=>?_))
 refine nl (cPm F rfl hm (fun hg132 hm=>?_) (fun hg132 hm=>?_))
 refine sk (ct (sq (bl (sq ?_))))
 obtain ⟨x133,ex133,hm⟩:=ob hm
 obtain ⟨b134,o134,hp134⟩:=H.slP 0 rfl (idxO_some ex133).2
 obtain ⟨cs135,hcl135,H⟩:=H.slEl 0 rfl hp134 (idxO_some ex133).2
 clear hcl135
 have G:=F;replace H:=rc_api_Seat (H.pk 1 rfl);obtain ⟨v136,rfl,J⟩:=H;have H:=J;have F:=G;clear G J
 obtain ⟨x137,ex137,hm⟩:=ob hm
 obtain ⟨b138,o138,hp138⟩:=H.slP 3 rfl (idxO_some ex137).2
 obtain ⟨cs139,hcl139,H⟩:=H.slEl 3 rfl hp138 (idxO_some ex137).2
 clear hcl139
 have G:=F;replace H:=rc_api_Seat (H.pk 1 rfl);obtain ⟨v140,rfl,J⟩:=H;have H:=J;have F:=G;clear G J
 by_cases hg141:x133.1=x137.1
 replace hm:=ifT hg141 hm
 obtain ⟨x142,ex142,hm⟩:=ob hm
 obtain ⟨cs143,hcl143,H⟩:=H.slEl 4 rfl hp134 (idxO_some ex142).2
 clear hcl143
 have G:=F;replace H:=rc_api_Seat (H.pk 1 rfl);obtain ⟨v144,rfl,J⟩:=H;have H:=J;have F:=G;clear G J
 obtain ⟨x145,ex145,hm⟩:=ob hm
 obtain ⟨cs146,hcl146,H⟩:=H.slEl 7 rfl hp138 (idxO_some ex145).2
 clear hcl146
 have G:=F;replace H:=rc_api_Seat (H.pk 1 rfl);obtain ⟨v147,rfl,J⟩:=H;have H:=J;have F:=G;clear G J
 by_cases hg148:x142.2.1=x145.2.1
 replace hm:=ifT hg148 hm
 obtain ⟨x149,ex149,hm⟩:=ob hm
 obtain ⟨cs150,hcl150,H⟩:=H.slEl 8 rfl hp134 (idxO_some ex149).2
 clear hcl150
 have G:=F;replace H:=rc_api_Seat (H.pk 1 rfl);obtain ⟨v151,rfl,J⟩:=H;have H:=J;have F:=G;clear G J
 obtain ⟨x152,ex152,hm⟩:=ob hm
 obtain ⟨cs153,hcl153,H⟩:=H.slEl 11 rfl hp138 (idxO_some ex152).2
 clear hcl153
 have G:=F;replace H:=rc_api_Seat (H.pk 1 rfl);obtain ⟨v154,rfl,J⟩:=H;have H:=J;have F:=G;clear G J
 obtain ⟨x155,ex155,hm⟩:=ob hm
 refine qr H (by kernel_rfl) (by kernel_rfl) ?_
 refine qb [0,0] F rfl fun a F=>?_
 refine qv F rfl (fun u hu=>y_idxS F elem67 rfl rfl rfl hp134 ex133) fun a F=>?_
 refine qbk [0,11000,0,0] F rfl ⟨fld75_0,rfl,plain3,trivial⟩ fun a F=>?_
 refine qv F rfl (fun u hu=>y_idxS F elem67 rfl rfl rfl hp138 ex137) fun a F=>?_
 refine qbk [0,9000,0,0] F rfl ⟨fld75_0,rfl,plain3,trivial⟩ fun a F=>?_
 replace F:=F.nT 28 hg141 rfl
 refine qb [0,0] F rfl fun a F=>?_
 refine qg_on F rfl rfl rfl rfl ?_
 refine qv F rfl (fun u hu=>y_idxS F elem67 rfl rfl rfl hp134 ex142) fun a F=>?_
 refine qbk [1,7001,0,0] F rfl ⟨fld75_1,rfl,plain38,trivial⟩ fun a F=>?_
 refine qg_on F rfl rfl rfl rfl ?_
 refine qv F rfl (fun u hu=>y_idxS F elem67 rfl rfl rfl hp138 ex145) fun a F=>?_
 refine qbk [1,5001,0,0,0] F rfl ⟨fld75_1,rfl,plain38,trivial⟩ fun a F=>?_
 replace F:=F.nT 41 hg148 rfl
 refine qb [0,0] F rfl fun a F=>?_
 refine qg_on F rfl rfl rfl rfl ?_
 refine qv F rfl (fun u hu=>y_idxS F elem67 rfl rfl rfl hp134 ex149) fun a F=>?_
 refine qbk [2] F rfl ⟨fld75_2,trivial⟩ fun a F=>?_
 refine qg_on F rfl rfl rfl rfl ?_
 refine qv F rfl (fun u hu=>y_loadA F agg35 rfl rfl (row_midE (A:=[.int .i64 (x149.1),.int .u64 (x149.2.1)]) (X:=v151) (w:=_) (hu.rowAt 3 rfl) (by simp only [List.length_append,List.length_cons,List.length_nil,icells_length,bcells_length])) (H.rcLen 2 rfl)) fun a F=>?_
 refine qb [0,0] F rfl fun a F=>?_
 refine qg_on F rfl rfl rfl rfl ?_
 refine qv F rfl (fun u hu=>y_idxS F elem67 rfl rfl rfl hp138 ex152) fun a F=>?_
 refine qbk [2] F rfl ⟨fld75_2,trivial⟩ fun a F=>?_
 refine qg_on F rfl rfl rfl rfl ?_
 refine qv F rfl (fun u hu=>y_loadA F agg35 rfl rfl (row_midE (A:=[.int .i64 (x152.1),.int .u64 (x152.2.1)]) (X:=v154) (w:=_) (hu.rowAt 1 rfl) (by simp only [List.length_append,List.length_cons,List.length_nil,icells_length,bcells_length])) (H.rcLen 0 rfl)) fun a F=>?_
 refine qg_on F rfl rfl rfl rfl ?_
 refine q_call F rfl rfl rfl (fun u hu=>y_call F rfl rfl ent26) (fun u hu=>(w_rSameAns ex155 (hu.pm 14 [2,0,0,1,2,3,4,5,6,7,8,9,10,11,12,13] rfl:)).mono fun e u2 he=>by obtain ⟨v,rfl,rfl,H⟩:=he;exact ⟨rfl,H⟩) fun a F=>?_
 refine qb [0,0] F rfl fun a F=>?_
 refine q_nil fun w H=>?_
 refine ct (cB F rfl (fun hg156=>?_) (fun hg156=>?_))
 replace hm:=ifT hg156 hm
 refine sb [0] F H rfl fun a F=>?_
 refine nl (wr (br (tr (tr ?_))));cases hm;refine ⟨_,rfl,?_⟩;rintro rfl
 refine br (tr ?_)
 replace hm:=elimR hm80
 refine tr ?_
 cases hm
 refine x_ret1 F rfl rfl ?_
 exact ⟨_,rfl,rfl,(H.pm 14 [] rfl:)⟩
 replace hm:=ifF (nT hg156) hm
 refine sk (bn (ct (rl (bb [0,0,0] F H rfl fun a F=>?_))))
 refine lz (ct ?_);cases hm
 exact ⟨_,rfl,⟨F.sl rfl,(H.pm 14 [12,13] rfl:)⟩⟩
 replace hm:=ifF hg148 hm
 refine qr H (by kernel_rfl) (by kernel_rfl) ?_
 refine qb [0,0] F rfl fun a F=>?_
 refine qv F rfl (fun u hu=>y_idxS F elem67 rfl rfl rfl hp134 ex133) fun a F=>?_
 refine qbk [0,7000,0,0] F rfl ⟨fld75_0,rfl,plain3,trivial⟩ fun a F=>?_
 refine qv F rfl (fun u hu=>y_idxS F elem67 rfl rfl rfl hp138 ex137) fun a F=>?_
 refine qbk [0,5000,0,0] F rfl ⟨fld75_0,rfl,plain3,trivial⟩ fun a F=>?_
 replace F:=F.nT 28 hg141 rfl
 refine qb [0,0] F rfl fun a F=>?_
 refine qg_on F rfl rfl rfl rfl ?_
 refine qv F rfl (fun u hu=>y_idxS F elem67 rfl rfl rfl hp134 ex142) fun a F=>?_
 refine qbk [1,3001,0,0] F rfl ⟨fld75_1,rfl,plain38,trivial⟩ fun a F=>?_
 refine qg_on F rfl rfl rfl rfl ?_
 refine qv F rfl (fun u hu=>y_idxS F elem67 rfl rfl rfl hp138 ex145) fun a F=>?_
 refine qbk [1,1001,0,0,0] F rfl ⟨fld75_1,rfl,plain38,trivial⟩ fun a F=>?_
 replace F:=F.nF 41 hg148 rfl
 refine qb (List.replicate 13 0) F rfl fun a F=>?_
 refine q_nil fun w H=>?_
 refine ct (cT F rfl ?_)
 refine sb [0] F H rfl fun a F=>?_
 refine nl (wr (br (tr (tr ?_))));cases hm;refine ⟨_,rfl,?_⟩;rintro rfl
 refine br (tr ?_)
 replace hm:=elimR hm80
 refine tr ?_
 cases hm
 refine x_ret1 F rfl rfl ?_
 exact ⟨_,rfl,rfl,(H.pm 10 [] rfl:)⟩
 replace hm:=ifF hg141 hm
 refine qr H (by kernel_rfl) (by kernel_rfl) ?_
 refine qb [0,0] F rfl fun a F=>?_
 refine qv F rfl (fun u hu=>y_idxS F elem67 rfl rfl rfl hp134 ex133) fun a F=>?_
 refine qbk [0,3000,0,0] F rfl ⟨fld75_0,rfl,plain3,trivial⟩ fun a F=>?_
 refine qv F rfl (fun u hu=>y_idxS F elem67 rfl rfl rfl hp138 ex137) fun a F=>?_
 refine qbk [0,1000,0,0] F rfl ⟨fld75_0,rfl,plain3,trivial⟩ fun a F=>?_
 replace F:=F.nF 28 hg141 rfl
 refine qb (List.replicate 26 0) F rfl fun a F=>?_
 refine q_nil fun w H=>?_
 refine ct (cT F rfl ?_)
 refine sb [0] F H rfl fun a F=>?_
 refine nl (wr (br (tr (tr ?_))));cases hm;refine ⟨_,rfl,?_⟩;rintro rfl
 refine br (tr ?_)
 replace hm:=elimR hm80
 refine tr ?_
 cases hm
 refine x_ret1 F rfl rfl ?_
 exact ⟨_,rfl,rfl,(H.pm 6 [] rfl:)⟩
 refine ex (cx (cx ?_));cases hm;refine ⟨_,rfl,?_⟩;rintro rfl
 refine ch (ct ?_)
 exact ⟨_,rfl,F.cut _ trivial,(H.pm 2 [] rfl:)⟩
 refine ct (sb [0] F H rfl fun a F=>?_)
 refine nl (wr ?_)
 cases hm
 refine x_ret1 F rfl rfl ?_
 exact ⟨_,rfl,rfl,H⟩
theorem ent65:En Tryz.prog 65:=enters Tryz.func65 (by kernel_rfl) rfl
theorem w_rSameW {a_:T_api_Whole} {b_:T_api_Whole} {cs1:List Value} {cs2:List Value} {w0 w:World} {l:List HP}  {r:Bool} (hm:rSameW a_ b_=some r) (H:St w0 w (HP.rc R_api_Whole cs1 a_::HP.rc R_api_Whole cs2 b_::l)) :
  Calls Tryz.prog 38 [.agg cs1.toArray,.agg cs2.toArray].toArray w (fun e w'=>∃ v,e=.returned v∧v=.bool (r)∧St w0 w' (l)):=by
 unfold rSameW at hm
 refine x_enter Tryz.func38 rfl rfl rfl ?_
 intro a F
 have G:=F;replace H:=rc_api_Whole (H.pk 0 rfl);obtain ⟨u3,p4,c5,rfl,J⟩:=H;have H:=J;have F:=G;clear G J
 have G:=F;replace H:=rc_api_State (H.pk 0 rfl);obtain ⟨p6,c7,p8,c9,rfl,J⟩:=H;have H:=J;have F:=G;clear G J
 have G:=F;replace H:=rc_api_Whole (H.pk 3 rfl);obtain ⟨u10,p11,c12,rfl,J⟩:=H;have H:=J;have F:=G;clear G J
 have G:=F;replace H:=rc_api_State (H.pk 0 rfl);obtain ⟨p13,c14,p15,c16,rfl,J⟩:=H;have H:=J;have F:=G;clear G J
 refine sr (s_boxA wkP F rfl rfl rfl rfl rfl H fun b17 w a H F=>?_)
 refine s_boxA wkP F rfl rfl rfl rfl rfl H fun b18 w a H F=>?_
 refine bb [0] F H rfl fun a F=>?_
 replace H:=H.nf 8 rfl
 refine nl (sr (bk [0] F H rfl ⟨fld69_0,trivial⟩ fun a F=>?_))
 refine sv F rfl (y_loadA F agg27 rfl rfl (row_mid (A:=([]:List Value)) (X:=[.slice p6 (a_.1.1).length c7,.slice p8 (a_.1.2).length c9]) (C:=[.slice p4 (a_.2).length c5]) (w:=_) ((H.blk 1 rfl).row) rfl) rfl) fun a F=>?_
 refine bk [0] F H rfl ⟨fld69_0,trivial⟩ fun a F=>?_
 refine sv F rfl (y_loadA F agg27 rfl rfl (row_mid (A:=([]:List Value)) (X:=[.slice p13 (b_.1.1).length c14,.slice p15 (b_.1.2).length c16]) (C:=[.slice p11 (b_.2).length c12]) (w:=_) ((H.blk 0 rfl).row) rfl) rfl) fun a F=>?_
 replace H:=H.mkRc (R:=R_api_State) (cs:=[.slice p6 (a_.1.1).length c7,.slice p8 (a_.1.2).length c9]) (x:=(a_.1.1,a_.1.2)) (fun gg=>⟨_,_,rfl,⟨_,_,rfl,(gg 5 _ rfl).choose_spec⟩,⟨_,_,rfl,(gg 6 _ rfl).choose_spec⟩⟩)
 replace H:=H.mkRc (R:=R_api_State) (cs:=[.slice p13 (b_.1.1).length c14,.slice p15 (b_.1.2).length c16]) (x:=(b_.1.1,b_.1.2)) (fun gg=>⟨_,_,rfl,⟨_,_,rfl,(gg 3 _ rfl).choose_spec⟩,⟨_,_,rfl,(gg 4 _ rfl).choose_spec⟩⟩)
 obtain ⟨x19,ex19,hm⟩:=ob hm
 refine sd F rfl ent27 (w_rSameS ex19 (H.pm 10 [1,0,0,1,2,3,4,5,6,7,8,9] rfl:):) ?_;rintro _ w a ⟨rfl,H⟩ F
 refine bb [0] F H rfl fun a F=>?_
 by_cases hg20:x19=true
 replace hm:=ifT hg20 hm
 replace F:=F.vT 10 hg20 rfl
 refine bk [2,3002,2,2002] F H rfl ⟨fld69_1,rfl,plain67,fld69_1,rfl,plain67,trivial⟩ fun a F=>?_
 refine g_onP F rfl rfl rfl rfl ?_
 obtain ⟨x21,ex21,hm⟩:=ob hm
 refine sd F rfl ent65 (w_rSameSeats ex21 (H.pm 10 [9,6,0,1,2,3,4,5,6,7,8,9] rfl:):) ?_;rintro _ w a ⟨rfl,H⟩ F
 refine bb [0,0] F H rfl fun a F=>?_
 replace H:=H.nf 10 rfl
 refine nl (wr ?_)
 cases hm
 refine x_ret1 F rfl rfl ?_
 exact ⟨_,rfl,rfl,(H.pm 10 [] rfl:)⟩
 replace hm:=ifF hg20 hm
 replace F:=F.vF 10 hg20 rfl
 refine bb (List.replicate 7 0) F H rfl fun a F=>?_
 replace H:=H.nf 10 rfl
 refine nl (wr ?_)
 cases hm
 refine x_ret1 F rfl rfl ?_
 exact ⟨_,rfl,rfl,(H.pm 10 [] rfl:)⟩
theorem w_rGreatW {w_:T_api_Whole} {cs1:List Value} {w0 w:World} {l:List HP}  {r:Bool} (hm:rGreatW w_=some r) (H:St w0 w (HP.rc R_api_Whole cs1 w_::l)) :
  Calls Tryz.prog 32 [.agg cs1.toArray].toArray w (fun e w'=>∃ v,e=.returned v∧v=.bool (r)∧St w0 w' (l)):=by
 unfold rGreatW at hm
 refine x_enter Tryz.func32 rfl rfl rfl ?_
 intro a F
 have G:=F;replace H:=rc_api_Whole (H.pk 0 rfl);obtain ⟨u2,p3,c4,rfl,J⟩:=H;have H:=J;have F:=G;clear G J
 have G:=F;replace H:=rc_api_State (H.pk 0 rfl);obtain ⟨p5,c6,p7,c8,rfl,J⟩:=H;have H:=J;have F:=G;clear G J
 refine sr (s_boxA wkP F rfl rfl rfl rfl rfl H fun b9 w a H F=>?_)
 refine bb [0] F H rfl fun a F=>?_
 replace H:=H.nf 4 rfl
 refine nl (sr (bk [0] F H rfl ⟨fld69_0,trivial⟩ fun a F=>?_))
 refine sv F rfl (y_loadA F agg27 rfl rfl (row_mid (A:=([]:List Value)) (X:=[.slice p5 (w_.1.1).length c6,.slice p7 (w_.1.2).length c8]) (C:=[.slice p3 (w_.2).length c4]) (w:=_) ((H.blk 0 rfl).row) rfl) rfl) fun a F=>?_
 replace H:=H.mkRc (R:=R_api_State) (cs:=[.slice p5 (w_.1.1).length c6,.slice p7 (w_.1.2).length c8]) (x:=(w_.1.1,w_.1.2)) (fun gg=>⟨_,_,rfl,⟨_,_,rfl,(gg 1 _ rfl).choose_spec⟩,⟨_,_,rfl,(gg 2 _ rfl).choose_spec⟩⟩)
 obtain ⟨x10,ex10,hm⟩:=ob hm
 refine sd F rfl ent18 (w_rGreatS ex10 (H.pm 5 [0,0,1,2,3,4] rfl:):) ?_;rintro _ w a ⟨rfl,H⟩ F
 refine bb [0] F H rfl fun a F=>?_
 by_cases hg11:x10=true
 replace hm:=ifT hg11 hm
 replace F:=F.vT 6 hg11 rfl
 refine bb (List.replicate 6 0) F H rfl fun a F=>?_
 replace H:=H.nf 5 rfl
 refine nl (wr ?_)
 cases hm
 refine x_ret1 F rfl rfl ?_
 exact ⟨_,rfl,rfl,(H.pm 5 [] rfl:)⟩
 replace hm:=ifF hg11 hm
 replace F:=F.vF 6 hg11 rfl
 refine bk [2,1002,0,0,0,0] F H rfl ⟨fld69_1,rfl,plain67,⟨_,Tryz.underlying67⟩,trivial⟩ fun a F=>?_
 replace H:=H.nf 5 rfl
 refine nl (wr ?_)
 cases hm
 refine x_ret1 F rfl rfl ?_
 exact ⟨_,rfl,rfl,(H.pm 5 [] rfl:)⟩
theorem agz71:AggT Tryz.prog 71 8 ([.int .i64 (0),.int .u64 (0),.int .i64 (0),.string (txb ([])),.string (txb ([])),.int .i64 (0),.int .i64 (0),.slice none (([]:List UInt8)).length 0]):=⟨by rw [Tryz.underlying71];rfl,by kernel_rfl,by kernel_rfl⟩
theorem agg71:AggT Tryz.prog 71 8 [.int .i64 0,.int .u64 0,.int .i64 0,.string ByteArray.empty,.string ByteArray.empty,.int .i64 0,.int .i64 0,.slice none 0 0]:=⟨by rw [Tryz.underlying71];rfl,by kernel_rfl,by kernel_rfl⟩
theorem ent40:En Tryz.prog 40:=enters Tryz.func40 (by kernel_rfl) rfl
theorem ent35:En Tryz.prog 35:=enters Tryz.func35 (by kernel_rfl) rfl
theorem zero38:Zero1 Tryz.prog 38 (.int .u64 0):=⟨by kernel_rfl,rfl⟩
theorem w_l3Speaks   {w0 w:World} {l:List HP}  {r:Bool} (hm:l3Speaks =some r) (H:St w0 w (l)) :
  Calls Tryz.prog 31 [].toArray w (fun e w'=>∃ v,e=.returned v∧v=.bool (r)∧St w0 w' (l)):=by
 unfold l3Speaks at hm
 refine x_enter Tryz.func31 rfl rfl rfl ?_
 intro a F
 refine sb [0] F H rfl fun a F=>?_
 refine nl (sr ?_)
 replace H:=H.owNil rByte 5
 refine sv F rfl (y_build F rfl rfl (cs:=[.int .i64 (1),.string (txb ([47,97])),.string (txb ([])),.int .i64 (0),.int .i64 (0),.slice none (([]:List UInt8)).length 0]) (by kernel_rfl)) fun a F=>?_
 refine sv F rfl (y_build F rfl rfl (cs:=[.int .i64 (1),.int .u64 (5),.int .i64 (1),.string (txb ([47,97])),.string (txb ([])),.int .i64 (0),.int .i64 (0),.slice none (([]:List UInt8)).length 0]) (by kernel_rfl)) fun a F=>?_
 replace H:=H.owNil rByte 5
 refine s_allocA wkP F rfl rfl rfl agz71 rfl H fun b1 w a H F=>?_
 refine s_storeA wkP F rfl rfl agg71 rfl rfl rfl H 0 rfl rfl rfl (fl rfl) fun w H=>?_
 replace H:=H.nf 3 rfl
 refine nl (sq ?_)
 obtain ⟨r195,er195,hm195⟩:=ob hm;clear hm;revert er195;intro hm
 refine x_mid (fun aa ww=>∃ (p196:Option Addr) (c196:Nat) (b197:Nat) (p198:Option Addr) (c198:Nat) (p199:Option Addr) (c199:Nat) (p200:Option Addr) (c200:Nat) (b201:Nat) (p202:Option Addr) (c202:Nat) (p203:Option Addr) (c203:Nat),Fr ⟨60,[]⟩ aa [(1,.pointer (some ⟨b1,0,none⟩)),(2,.pointer (some ⟨b197,0,none⟩)),(3,.pointer (some ⟨b201,0,none⟩)),(4,.int .i64 (r195.2.2.2))]∧St w0 ww (HP.blk b1 ([.int .i64 (1),.int .u64 (5),.int .i64 (1),.string (txb ([47,97])),.string (txb ([])),.int .i64 (0),.int .i64 (0),.slice p196 (r195.1).length c196]) 71::HP.ow rByte 5 none 0 ([]:List UInt8)::HP.sl rByte p196 c196 r195.1::HP.blk b197 ([.slice p198 (r195.2.1.1.1).length c198,.slice p199 (r195.2.1.1.2).length c199,.slice p200 (r195.2.1.2).length c200]) 69::HP.sl R_api_Pair p198 c198 r195.2.1.1.1::HP.sl R_api_Snap p199 c199 r195.2.1.1.2::HP.sl R_api_Seat p200 c200 r195.2.1.2::HP.blk b201 ([.int .i64 (r195.2.2.1.1),.int .i64 (r195.2.2.1.2.1),.slice p202 (r195.2.2.1.2.2.1).length c202,.slice p203 (r195.2.2.1.2.2.2).length c203]) 35::HP.sl rByte p202 c202 r195.2.2.1.2.2.1::HP.sl rStr p203 c203 r195.2.2.1.2.2.2::l)) ?_ ?_
 refine mix_region [0,2,7,8,9,10] [] (.step 0 1 (.fork3 0 (.fork3 2 (.step 0 3 (.step 0 4 (.step 0 5 (.step 0 6 (.fork 7 (.step 2 8 (.step 2 9 (.step 2 10 (.step 0 11 .done)))) 8 (.step 2 7 (.step 2 9 (.step 2 10 (.step 0 11 .done))))))))) 7 (.fork 2 (.step 0 3 (.step 0 4 (.step 0 5 (.step 0 6 (.step 2 8 (.step 2 9 (.step 2 10 (.step 0 11 .done)))))))) 8 (.step 2 2 (.step 0 3 (.step 0 4 (.step 0 5 (.step 0 6 (.step 2 9 (.step 2 10 (.step 0 11 .done))))))))) 8 (.fork 2 (.step 0 3 (.step 0 4 (.step 0 5 (.step 0 6 (.step 2 7 (.step 2 9 (.step 2 10 (.step 0 11 .done)))))))) 7 (.step 2 2 (.step 0 3 (.step 0 4 (.step 0 5 (.step 0 6 (.step 2 9 (.step 2 10 (.step 0 11 .done)))))))))) 7 (.fork 0 (.fork 2 (.step 0 3 (.step 0 4 (.step 0 5 (.step 0 6 (.step 2 8 (.step 2 9 (.step 2 10 (.step 0 11 .done)))))))) 8 (.step 2 2 (.step 0 3 (.step 0 4 (.step 0 5 (.step 0 6 (.step 2 9 (.step 2 10 (.step 0 11 .done))))))))) 8 (.step 2 0 (.step 2 2 (.step 0 3 (.step 0 4 (.step 0 5 (.step 0 6 (.step 2 9 (.step 2 10 (.step 0 11 .done)))))))))) 8 (.fork 0 (.fork 2 (.step 0 3 (.step 0 4 (.step 0 5 (.step 0 6 (.step 2 7 (.step 2 9 (.step 2 10 (.step 0 11 .done)))))))) 7 (.step 2 2 (.step 0 3 (.step 0 4 (.step 0 5 (.step 0 6 (.step 2 9 (.step 2 10 (.step 0 11 .done))))))))) 7 (.step 2 0 (.step 2 2 (.step 0 3 (.step 0 4 (.step 0 5 (.step 0 6 (.step 2 9 (.step 2 10 (.step 0 11 .done)))))))))))) (fun u=>∃ ls,St w0 u (HP.blk b1 ([.int .i64 (1),.int .u64 (5),.int .i64 (1),.string (txb ([47,97])),.string (txb ([])),.int .i64 (0),.int .i64 (0),.slice none (([]:List UInt8)).length 0]) 71::ls)) (by kernel_rfl) (by kernel_rfl) ⟨_,H.drew⟩ ?_
 replace H:=H.drew
 generalize w.drew=w at H ⊢
 refine m_pure F rfl rfl rfl rfl (fun u hu=>y_loadA F agg71 rfl rfl ((hu.choose_spec.blk 0 rfl).row) rfl) fun a F=>?_
 refine m_fork3 rfl rfl rfl rfl rfl rfl ?_ ?_ ?_
 refine m_heavy rfl rfl ?_
 obtain ⟨x204,ex204,hm⟩:=ob hm
 refine sd F rfl ent40 (w_tNew ex204 H:) ?_;rintro _ w a ⟨cs205,rfl,H⟩ F
 refine lz ?_;refine ct ⟨⟨_,(H.pm 4 [1,0,2,3] rfl:)⟩,?_⟩
 refine m_fork3 rfl rfl rfl rfl rfl rfl ?_ ?_ ?_
 refine m_heavy rfl rfl ?_
 replace H:=H.frz 3 rfl
 replace H:=H.mkRc (R:=R_api_Call) (cs:=[.int .i64 (1),.int .u64 (5),.int .i64 (1),.string (txb ([47,97])),.string (txb ([])),.int .i64 (0),.int .i64 (0),.slice none (([]:List UInt8)).length 0]) (x:=(1,5,(1,[47,97],[],0,0,([]:List UInt8)))) (fun gg=>⟨[Value.int .i64 (1)],_,rfl,rfl,⟨[Value.int .u64 (5)],_,rfl,rfl,⟨[Value.int .i64 (1)],_,rfl,rfl,⟨[Value.string (txb ([47,97]))],_,rfl,rfl,⟨[Value.string (txb ([]))],_,rfl,rfl,⟨[Value.int .i64 (0)],_,rfl,rfl,⟨[Value.int .i64 (0)],_,rfl,rfl,⟨_,_,rfl,(gg 0 _ rfl).choose_spec⟩⟩⟩⟩⟩⟩⟩⟩)
 obtain ⟨x206,ex206,hm⟩:=ob hm
 refine sd F rfl ent35 (w_tDo ex206 (H.pm 5 [2,0,0,1,2,3,4] rfl:):) ?_;rintro _ w a ⟨cs207,cs208,rfl,H⟩ F
 refine lz ?_;refine ct ⟨⟨_,(H.pm 7 [5,0,1,2,3,4,6] rfl:)⟩,?_⟩
 refine mb [0,0,0,0] F H rfl fun a F=>?_
 refine m_fork rfl rfl rfl rfl ?_ ?_
 refine m_heavy rfl rfl ?_
 replace H:=H.owNil R_api_Pair 103
 replace H:=H.owNil R_api_Snap 41
 replace H:=H.owNil R_api_Seat 75
 refine s_allocA wkP F rfl rfl rfl agz69 rfl H fun b209 w a H F=>?_
 refine lz ?_;refine ct ⟨⟨_,(H.pm 11 [9,0,1,2,3,4,5,6,7,8,10] rfl:)⟩,?_⟩
 refine m_heavy rfl rfl ?_
 replace H:=H.owNil rByte 5
 replace H:=H.owNil rStr 9
 refine s_allocA wkP F rfl rfl rfl agz35 rfl H fun b210 w a H F=>?_
 refine lz ?_;refine ct ⟨⟨_,(H.pm 14 [12,0,1,2,3,4,5,6,7,8,9,10,11,13] rfl:)⟩,?_⟩
 refine m_heavy rfl rfl ?_
 have G:=F;replace H:=rc_api_Whole (H.pk 7 rfl);obtain ⟨u211,p212,c213,rfl,J⟩:=H;have H:=J;have F:=G;clear G J
 have G:=F;replace H:=rc_api_State (H.pk 0 rfl);obtain ⟨p214,c215,p216,c217,rfl,J⟩:=H;have H:=J;have F:=G;clear G J
 refine s_storeA wkP F rfl rfl agg69 rfl rfl rfl H 6 rfl rfl rfl (fl rfl) fun w H=>?_
 refine lz ?_;refine ct ⟨⟨_,(H.pm 16 [14,0,1,2,3,4,5,6,7,8,9,10,11,12,13,15] rfl:)⟩,?_⟩
 refine m_heavy rfl rfl ?_
 have G:=F;replace H:=rc_api_Answer (H.pk 10 rfl);obtain ⟨p218,c219,p220,c221,rfl,J⟩:=H;have H:=J;have F:=G;clear G J
 refine s_storeA wkP F rfl rfl agg35 rfl rfl rfl H 5 rfl rfl rfl (fl rfl) fun w H=>?_
 refine lz ?_;refine ct ⟨⟨_,(H.pm 17 [15,0,1,2,3,4,5,6,7,8,9,10,11,12,13,14,16] rfl:)⟩,?_⟩
 refine mb [0] F H rfl fun a F=>?_
 refine m_nil ?_
 cases hm
 refine ct ?_
 exact ⟨none,0,b209,p214,c215,p216,c217,p212,c213,b210,p218,c219,p220,c221,F.sl rfl,(H.pm 17 [15,16,13,8,2,3,4,5,0,1] rfl:)⟩
 refine m_heavy rfl rfl ?_
 replace H:=H.owNil rByte 5
 replace H:=H.owNil rStr 9
 refine s_allocA wkP F rfl rfl rfl agz35 rfl H fun b222 w a H F=>?_
 refine lz ?_;refine ct ⟨⟨_,(H.pm 10 [8,0,1,2,3,4,5,6,7,9] rfl:)⟩,?_⟩
 refine m_heavy rfl rfl ?_
 replace H:=H.owNil R_api_Pair 103
 replace H:=H.owNil R_api_Snap 41
 replace H:=H.owNil R_api_Seat 75
 refine s_allocA wkP F rfl rfl rfl agz69 rfl H fun b223 w a H F=>?_
 refine lz ?_;refine ct ⟨⟨_,(H.pm 14 [12,0,1,2,3,4,5,6,7,8,9,10,11,13] rfl:)⟩,?_⟩
 refine m_heavy rfl rfl ?_
 have G:=F;replace H:=rc_api_Whole (H.pk 7 rfl);obtain ⟨u224,p225,c226,rfl,J⟩:=H;have H:=J;have F:=G;clear G J
 have G:=F;replace H:=rc_api_State (H.pk 0 rfl);obtain ⟨p227,c228,p229,c230,rfl,J⟩:=H;have H:=J;have F:=G;clear G J
 refine s_storeA wkP F rfl rfl agg69 rfl rfl rfl H 3 rfl rfl rfl (fl rfl) fun w H=>?_
 refine lz ?_;refine ct ⟨⟨_,(H.pm 16 [14,0,1,2,3,4,5,6,7,8,9,10,11,12,13,15] rfl:)⟩,?_⟩
 refine m_heavy rfl rfl ?_
 have G:=F;replace H:=rc_api_Answer (H.pk 10 rfl);obtain ⟨p231,c232,p233,c234,rfl,J⟩:=H;have H:=J;have F:=G;clear G J
 refine s_storeA wkP F rfl rfl agg35 rfl rfl rfl H 9 rfl rfl rfl (fl rfl) fun w H=>?_
 refine lz ?_;refine ct ⟨⟨_,(H.pm 17 [15,0,1,2,3,4,5,6,7,8,9,10,11,12,13,14,16] rfl:)⟩,?_⟩
 refine mb [0] F H rfl fun a F=>?_
 refine m_nil ?_
 cases hm
 refine ct ?_
 exact ⟨none,0,b223,p227,c228,p229,c230,p225,c226,b222,p231,c232,p233,c234,F.sl rfl,(H.pm 17 [15,16,13,5,2,3,4,9,0,1] rfl:)⟩
 refine m_heavy rfl rfl ?_
 replace H:=H.owNil R_api_Pair 103
 replace H:=H.owNil R_api_Snap 41
 replace H:=H.owNil R_api_Seat 75
 refine s_allocA wkP F rfl rfl rfl agz69 rfl H fun b235 w a H F=>?_
 refine lz ?_;refine ct ⟨⟨_,(H.pm 8 [5,0,1,2,3,4,6,7] rfl:)⟩,?_⟩
 refine m_fork rfl rfl rfl rfl ?_ ?_
 refine m_heavy rfl rfl ?_
 replace H:=H.frz 7 rfl
 replace H:=H.mkRc (R:=R_api_Call) (cs:=[.int .i64 (1),.int .u64 (5),.int .i64 (1),.string (txb ([47,97])),.string (txb ([])),.int .i64 (0),.int .i64 (0),.slice none (([]:List UInt8)).length 0]) (x:=(1,5,(1,[47,97],[],0,0,([]:List UInt8)))) (fun gg=>⟨[Value.int .i64 (1)],_,rfl,rfl,⟨[Value.int .u64 (5)],_,rfl,rfl,⟨[Value.int .i64 (1)],_,rfl,rfl,⟨[Value.string (txb ([47,97]))],_,rfl,rfl,⟨[Value.string (txb ([]))],_,rfl,rfl,⟨[Value.int .i64 (0)],_,rfl,rfl,⟨[Value.int .i64 (0)],_,rfl,rfl,⟨_,_,rfl,(gg 0 _ rfl).choose_spec⟩⟩⟩⟩⟩⟩⟩⟩)
 obtain ⟨x236,ex236,hm⟩:=ob hm
 refine sd F rfl ent35 (w_tDo ex236 (H.pm 9 [6,0,0,1,2,3,4,5,6,7,8] rfl:):) ?_;rintro _ w a ⟨cs237,cs238,rfl,H⟩ F
 refine lz ?_;refine ct ⟨⟨_,(H.pm 11 [9,0,1,2,3,4,5,6,7,8,10] rfl:)⟩,?_⟩
 refine mb [0,0,0,0] F H rfl fun a F=>?_
 refine m_heavy rfl rfl ?_
 replace H:=H.owNil rByte 5
 replace H:=H.owNil rStr 9
 refine s_allocA wkP F rfl rfl rfl agz35 rfl H fun b239 w a H F=>?_
 refine lz ?_;refine ct ⟨⟨_,(H.pm 14 [12,0,1,2,3,4,5,6,7,8,9,10,11,13] rfl:)⟩,?_⟩
 refine m_heavy rfl rfl ?_
 have G:=F;replace H:=rc_api_Whole (H.pk 3 rfl);obtain ⟨u240,p241,c242,rfl,J⟩:=H;have H:=J;have F:=G;clear G J
 have G:=F;replace H:=rc_api_State (H.pk 0 rfl);obtain ⟨p243,c244,p245,c246,rfl,J⟩:=H;have H:=J;have F:=G;clear G J
 refine s_storeA wkP F rfl rfl agg69 rfl rfl rfl H 9 rfl rfl rfl (fl rfl) fun w H=>?_
 refine lz ?_;refine ct ⟨⟨_,(H.pm 16 [14,0,1,2,3,4,5,6,7,8,9,10,11,12,13,15] rfl:)⟩,?_⟩
 refine m_heavy rfl rfl ?_
 have G:=F;replace H:=rc_api_Answer (H.pk 6 rfl);obtain ⟨p247,c248,p249,c250,rfl,J⟩:=H;have H:=J;have F:=G;clear G J
 refine s_storeA wkP F rfl rfl agg35 rfl rfl rfl H 5 rfl rfl rfl (fl rfl) fun w H=>?_
 refine lz ?_;refine ct ⟨⟨_,(H.pm 17 [15,0,1,2,3,4,5,6,7,8,9,10,11,12,13,14,16] rfl:)⟩,?_⟩
 refine mb [0] F H rfl fun a F=>?_
 refine m_nil ?_
 cases hm
 refine ct ?_
 exact ⟨none,0,b235,p243,c244,p245,c246,p241,c242,b239,p247,c248,p249,c250,F.sl rfl,(H.pm 17 [15,16,9,10,2,3,4,5,0,1] rfl:)⟩
 refine m_heavy rfl rfl ?_
 replace H:=H.owNil rByte 5
 replace H:=H.owNil rStr 9
 refine s_allocA wkP F rfl rfl rfl agz35 rfl H fun b251 w a H F=>?_
 refine lz ?_;refine ct ⟨⟨_,(H.pm 11 [8,0,1,2,3,4,5,6,7,9,10] rfl:)⟩,?_⟩
 refine m_heavy rfl rfl ?_
 replace H:=H.frz 10 rfl
 replace H:=H.mkRc (R:=R_api_Call) (cs:=[.int .i64 (1),.int .u64 (5),.int .i64 (1),.string (txb ([47,97])),.string (txb ([])),.int .i64 (0),.int .i64 (0),.slice none (([]:List UInt8)).length 0]) (x:=(1,5,(1,[47,97],[],0,0,([]:List UInt8)))) (fun gg=>⟨[Value.int .i64 (1)],_,rfl,rfl,⟨[Value.int .u64 (5)],_,rfl,rfl,⟨[Value.int .i64 (1)],_,rfl,rfl,⟨[Value.string (txb ([47,97]))],_,rfl,rfl,⟨[Value.string (txb ([]))],_,rfl,rfl,⟨[Value.int .i64 (0)],_,rfl,rfl,⟨[Value.int .i64 (0)],_,rfl,rfl,⟨_,_,rfl,(gg 0 _ rfl).choose_spec⟩⟩⟩⟩⟩⟩⟩⟩)
 obtain ⟨x252,ex252,hm⟩:=ob hm
 refine sd F rfl ent35 (w_tDo ex252 (H.pm 12 [9,0,0,1,2,3,4,5,6,7,8,9,10,11] rfl:):) ?_;rintro _ w a ⟨cs253,cs254,rfl,H⟩ F
 refine lz ?_;refine ct ⟨⟨_,(H.pm 14 [12,0,1,2,3,4,5,6,7,8,9,10,11,13] rfl:)⟩,?_⟩
 refine mb [0,0,0,0] F H rfl fun a F=>?_
 refine m_heavy rfl rfl ?_
 have G:=F;replace H:=rc_api_Whole (H.pk 0 rfl);obtain ⟨u255,p256,c257,rfl,J⟩:=H;have H:=J;have F:=G;clear G J
 have G:=F;replace H:=rc_api_State (H.pk 0 rfl);obtain ⟨p258,c259,p260,c261,rfl,J⟩:=H;have H:=J;have F:=G;clear G J
 refine s_storeA wkP F rfl rfl agg69 rfl rfl rfl H 9 rfl rfl rfl (fl rfl) fun w H=>?_
 refine lz ?_;refine ct ⟨⟨_,(H.pm 16 [14,0,1,2,3,4,5,6,7,8,9,10,11,12,13,15] rfl:)⟩,?_⟩
 refine m_heavy rfl rfl ?_
 have G:=F;replace H:=rc_api_Answer (H.pk 3 rfl);obtain ⟨p262,c263,p264,c265,rfl,J⟩:=H;have H:=J;have F:=G;clear G J
 refine s_storeA wkP F rfl rfl agg35 rfl rfl rfl H 7 rfl rfl rfl (fl rfl) fun w H=>?_
 refine lz ?_;refine ct ⟨⟨_,(H.pm 17 [15,0,1,2,3,4,5,6,7,8,9,10,11,12,13,14,16] rfl:)⟩,?_⟩
 refine mb [0] F H rfl fun a F=>?_
 refine m_nil ?_
 cases hm
 refine ct ?_
 exact ⟨none,0,b235,p258,c259,p260,c261,p256,c257,b251,p262,c263,p264,c265,F.sl rfl,(H.pm 17 [15,16,6,10,2,3,4,7,0,1] rfl:)⟩
 refine m_heavy rfl rfl ?_
 replace H:=H.owNil rByte 5
 replace H:=H.owNil rStr 9
 refine s_allocA wkP F rfl rfl rfl agz35 rfl H fun b266 w a H F=>?_
 refine lz ?_;refine ct ⟨⟨_,(H.pm 7 [4,0,1,2,3,5,6] rfl:)⟩,?_⟩
 refine m_fork rfl rfl rfl rfl ?_ ?_
 refine m_heavy rfl rfl ?_
 replace H:=H.frz 6 rfl
 replace H:=H.mkRc (R:=R_api_Call) (cs:=[.int .i64 (1),.int .u64 (5),.int .i64 (1),.string (txb ([47,97])),.string (txb ([])),.int .i64 (0),.int .i64 (0),.slice none (([]:List UInt8)).length 0]) (x:=(1,5,(1,[47,97],[],0,0,([]:List UInt8)))) (fun gg=>⟨[Value.int .i64 (1)],_,rfl,rfl,⟨[Value.int .u64 (5)],_,rfl,rfl,⟨[Value.int .i64 (1)],_,rfl,rfl,⟨[Value.string (txb ([47,97]))],_,rfl,rfl,⟨[Value.string (txb ([]))],_,rfl,rfl,⟨[Value.int .i64 (0)],_,rfl,rfl,⟨[Value.int .i64 (0)],_,rfl,rfl,⟨_,_,rfl,(gg 0 _ rfl).choose_spec⟩⟩⟩⟩⟩⟩⟩⟩)
 obtain ⟨x267,ex267,hm⟩:=ob hm
 refine sd F rfl ent35 (w_tDo ex267 (H.pm 8 [5,0,0,1,2,3,4,5,6,7] rfl:):) ?_;rintro _ w a ⟨cs268,cs269,rfl,H⟩ F
 refine lz ?_;refine ct ⟨⟨_,(H.pm 10 [8,0,1,2,3,4,5,6,7,9] rfl:)⟩,?_⟩
 refine mb [0,0,0,0] F H rfl fun a F=>?_
 refine m_heavy rfl rfl ?_
 replace H:=H.owNil R_api_Pair 103
 replace H:=H.owNil R_api_Snap 41
 replace H:=H.owNil R_api_Seat 75
 refine s_allocA wkP F rfl rfl rfl agz69 rfl H fun b270 w a H F=>?_
 refine lz ?_;refine ct ⟨⟨_,(H.pm 14 [12,0,1,2,3,4,5,6,7,8,9,10,11,13] rfl:)⟩,?_⟩
 refine m_heavy rfl rfl ?_
 have G:=F;replace H:=rc_api_Whole (H.pk 4 rfl);obtain ⟨u271,p272,c273,rfl,J⟩:=H;have H:=J;have F:=G;clear G J
 have G:=F;replace H:=rc_api_State (H.pk 0 rfl);obtain ⟨p274,c275,p276,c277,rfl,J⟩:=H;have H:=J;have F:=G;clear G J
 refine s_storeA wkP F rfl rfl agg69 rfl rfl rfl H 3 rfl rfl rfl (fl rfl) fun w H=>?_
 refine lz ?_;refine ct ⟨⟨_,(H.pm 16 [14,0,1,2,3,4,5,6,7,8,9,10,11,12,13,15] rfl:)⟩,?_⟩
 refine m_heavy rfl rfl ?_
 have G:=F;replace H:=rc_api_Answer (H.pk 7 rfl);obtain ⟨p278,c279,p280,c281,rfl,J⟩:=H;have H:=J;have F:=G;clear G J
 refine s_storeA wkP F rfl rfl agg35 rfl rfl rfl H 11 rfl rfl rfl (fl rfl) fun w H=>?_
 refine lz ?_;refine ct ⟨⟨_,(H.pm 17 [15,0,1,2,3,4,5,6,7,8,9,10,11,12,13,14,16] rfl:)⟩,?_⟩
 refine mb [0] F H rfl fun a F=>?_
 refine m_nil ?_
 cases hm
 refine ct ?_
 exact ⟨none,0,b270,p274,c275,p276,c277,p272,c273,b266,p278,c279,p280,c281,F.sl rfl,(H.pm 17 [15,16,10,5,2,3,4,11,0,1] rfl:)⟩
 refine m_heavy rfl rfl ?_
 replace H:=H.owNil R_api_Pair 103
 replace H:=H.owNil R_api_Snap 41
 replace H:=H.owNil R_api_Seat 75
 refine s_allocA wkP F rfl rfl rfl agz69 rfl H fun b282 w a H F=>?_
 refine lz ?_;refine ct ⟨⟨_,(H.pm 11 [8,0,1,2,3,4,5,6,7,9,10] rfl:)⟩,?_⟩
 refine m_heavy rfl rfl ?_
 replace H:=H.frz 10 rfl
 replace H:=H.mkRc (R:=R_api_Call) (cs:=[.int .i64 (1),.int .u64 (5),.int .i64 (1),.string (txb ([47,97])),.string (txb ([])),.int .i64 (0),.int .i64 (0),.slice none (([]:List UInt8)).length 0]) (x:=(1,5,(1,[47,97],[],0,0,([]:List UInt8)))) (fun gg=>⟨[Value.int .i64 (1)],_,rfl,rfl,⟨[Value.int .u64 (5)],_,rfl,rfl,⟨[Value.int .i64 (1)],_,rfl,rfl,⟨[Value.string (txb ([47,97]))],_,rfl,rfl,⟨[Value.string (txb ([]))],_,rfl,rfl,⟨[Value.int .i64 (0)],_,rfl,rfl,⟨[Value.int .i64 (0)],_,rfl,rfl,⟨_,_,rfl,(gg 0 _ rfl).choose_spec⟩⟩⟩⟩⟩⟩⟩⟩)
 obtain ⟨x283,ex283,hm⟩:=ob hm
 refine sd F rfl ent35 (w_tDo ex283 (H.pm 12 [9,0,0,1,2,3,4,5,6,7,8,9,10,11] rfl:):) ?_;rintro _ w a ⟨cs284,cs285,rfl,H⟩ F
 refine lz ?_;refine ct ⟨⟨_,(H.pm 14 [12,0,1,2,3,4,5,6,7,8,9,10,11,13] rfl:)⟩,?_⟩
 refine mb [0,0,0,0] F H rfl fun a F=>?_
 refine m_heavy rfl rfl ?_
 have G:=F;replace H:=rc_api_Whole (H.pk 0 rfl);obtain ⟨u286,p287,c288,rfl,J⟩:=H;have H:=J;have F:=G;clear G J
 have G:=F;replace H:=rc_api_State (H.pk 0 rfl);obtain ⟨p289,c290,p291,c292,rfl,J⟩:=H;have H:=J;have F:=G;clear G J
 refine s_storeA wkP F rfl rfl agg69 rfl rfl rfl H 6 rfl rfl rfl (fl rfl) fun w H=>?_
 refine lz ?_;refine ct ⟨⟨_,(H.pm 16 [14,0,1,2,3,4,5,6,7,8,9,10,11,12,13,15] rfl:)⟩,?_⟩
 refine m_heavy rfl rfl ?_
 have G:=F;replace H:=rc_api_Answer (H.pk 3 rfl);obtain ⟨p293,c294,p295,c296,rfl,J⟩:=H;have H:=J;have F:=G;clear G J
 refine s_storeA wkP F rfl rfl agg35 rfl rfl rfl H 11 rfl rfl rfl (fl rfl) fun w H=>?_
 refine lz ?_;refine ct ⟨⟨_,(H.pm 17 [15,0,1,2,3,4,5,6,7,8,9,10,11,12,13,14,16] rfl:)⟩,?_⟩
 refine mb [0] F H rfl fun a F=>?_
 refine m_nil ?_
 cases hm
 refine ct ?_
 exact ⟨none,0,b282,p289,c290,p291,c292,p287,c288,b266,p293,c294,p295,c296,F.sl rfl,(H.pm 17 [15,16,6,7,2,3,4,11,0,1] rfl:)⟩
 refine m_heavy rfl rfl ?_
 replace H:=H.owNil R_api_Pair 103
 replace H:=H.owNil R_api_Snap 41
 replace H:=H.owNil R_api_Seat 75
 refine s_allocA wkP F rfl rfl rfl agz69 rfl H fun b297 w a H F=>?_
 refine lz ?_;refine ct ⟨⟨_,(H.pm 7 [4,0,1,2,3,5,6] rfl:)⟩,?_⟩
 refine m_fork rfl rfl rfl rfl ?_ ?_
 refine m_heavy rfl rfl ?_
 obtain ⟨x298,ex298,hm⟩:=ob hm
 refine sd F rfl ent40 (w_tNew ex298 H:) ?_;rintro _ w a ⟨cs299,rfl,H⟩ F
 refine lz ?_;refine ct ⟨⟨_,(H.pm 8 [5,0,1,2,3,4,6,7] rfl:)⟩,?_⟩
 refine m_fork rfl rfl rfl rfl ?_ ?_
 refine m_heavy rfl rfl ?_
 replace H:=H.frz 7 rfl
 replace H:=H.mkRc (R:=R_api_Call) (cs:=[.int .i64 (1),.int .u64 (5),.int .i64 (1),.string (txb ([47,97])),.string (txb ([])),.int .i64 (0),.int .i64 (0),.slice none (([]:List UInt8)).length 0]) (x:=(1,5,(1,[47,97],[],0,0,([]:List UInt8)))) (fun gg=>⟨[Value.int .i64 (1)],_,rfl,rfl,⟨[Value.int .u64 (5)],_,rfl,rfl,⟨[Value.int .i64 (1)],_,rfl,rfl,⟨[Value.string (txb ([47,97]))],_,rfl,rfl,⟨[Value.string (txb ([]))],_,rfl,rfl,⟨[Value.int .i64 (0)],_,rfl,rfl,⟨[Value.int .i64 (0)],_,rfl,rfl,⟨_,_,rfl,(gg 0 _ rfl).choose_spec⟩⟩⟩⟩⟩⟩⟩⟩)
 obtain ⟨x300,ex300,hm⟩:=ob hm
 refine sd F rfl ent35 (w_tDo ex300 (H.pm 9 [2,0,0,1,2,3,4,5,6,7,8] rfl:):) ?_;rintro _ w a ⟨cs301,cs302,rfl,H⟩ F
 refine lz ?_;refine ct ⟨⟨_,(H.pm 11 [9,0,1,2,3,4,5,6,7,8,10] rfl:)⟩,?_⟩
 refine mb [0,0,0,0] F H rfl fun a F=>?_
 refine m_heavy rfl rfl ?_
 replace H:=H.owNil rByte 5
 replace H:=H.owNil rStr 9
 refine s_allocA wkP F rfl rfl rfl agz35 rfl H fun b303 w a H F=>?_
 refine lz ?_;refine ct ⟨⟨_,(H.pm 14 [12,0,1,2,3,4,5,6,7,8,9,10,11,13] rfl:)⟩,?_⟩
 refine m_heavy rfl rfl ?_
 have G:=F;replace H:=rc_api_Whole (H.pk 3 rfl);obtain ⟨u304,p305,c306,rfl,J⟩:=H;have H:=J;have F:=G;clear G J
 have G:=F;replace H:=rc_api_State (H.pk 0 rfl);obtain ⟨p307,c308,p309,c310,rfl,J⟩:=H;have H:=J;have F:=G;clear G J
 refine s_storeA wkP F rfl rfl agg69 rfl rfl rfl H 10 rfl rfl rfl (fl rfl) fun w H=>?_
 refine lz ?_;refine ct ⟨⟨_,(H.pm 16 [14,0,1,2,3,4,5,6,7,8,9,10,11,12,13,15] rfl:)⟩,?_⟩
 refine m_heavy rfl rfl ?_
 have G:=F;replace H:=rc_api_Answer (H.pk 6 rfl);obtain ⟨p311,c312,p313,c314,rfl,J⟩:=H;have H:=J;have F:=G;clear G J
 refine s_storeA wkP F rfl rfl agg35 rfl rfl rfl H 5 rfl rfl rfl (fl rfl) fun w H=>?_
 refine lz ?_;refine ct ⟨⟨_,(H.pm 17 [15,0,1,2,3,4,5,6,7,8,9,10,11,12,13,14,16] rfl:)⟩,?_⟩
 refine mb [0] F H rfl fun a F=>?_
 refine m_nil ?_
 cases hm
 refine ct ?_
 exact ⟨none,0,b297,p307,c308,p309,c310,p305,c306,b303,p311,c312,p313,c314,F.sl rfl,(H.pm 17 [15,16,9,11,2,3,4,5,0,1] rfl:)⟩
 refine m_heavy rfl rfl ?_
 replace H:=H.owNil rByte 5
 replace H:=H.owNil rStr 9
 refine s_allocA wkP F rfl rfl rfl agz35 rfl H fun b315 w a H F=>?_
 refine lz ?_;refine ct ⟨⟨_,(H.pm 11 [8,0,1,2,3,4,5,6,7,9,10] rfl:)⟩,?_⟩
 refine m_heavy rfl rfl ?_
 replace H:=H.frz 10 rfl
 replace H:=H.mkRc (R:=R_api_Call) (cs:=[.int .i64 (1),.int .u64 (5),.int .i64 (1),.string (txb ([47,97])),.string (txb ([])),.int .i64 (0),.int .i64 (0),.slice none (([]:List UInt8)).length 0]) (x:=(1,5,(1,[47,97],[],0,0,([]:List UInt8)))) (fun gg=>⟨[Value.int .i64 (1)],_,rfl,rfl,⟨[Value.int .u64 (5)],_,rfl,rfl,⟨[Value.int .i64 (1)],_,rfl,rfl,⟨[Value.string (txb ([47,97]))],_,rfl,rfl,⟨[Value.string (txb ([]))],_,rfl,rfl,⟨[Value.int .i64 (0)],_,rfl,rfl,⟨[Value.int .i64 (0)],_,rfl,rfl,⟨_,_,rfl,(gg 0 _ rfl).choose_spec⟩⟩⟩⟩⟩⟩⟩⟩)
 obtain ⟨x316,ex316,hm⟩:=ob hm
 refine sd F rfl ent35 (w_tDo ex316 (H.pm 12 [5,0,0,1,2,3,4,5,6,7,8,9,10,11] rfl:):) ?_;rintro _ w a ⟨cs317,cs318,rfl,H⟩ F
 refine lz ?_;refine ct ⟨⟨_,(H.pm 14 [12,0,1,2,3,4,5,6,7,8,9,10,11,13] rfl:)⟩,?_⟩
 refine mb [0,0,0,0] F H rfl fun a F=>?_
 refine m_heavy rfl rfl ?_
 have G:=F;replace H:=rc_api_Whole (H.pk 0 rfl);obtain ⟨u319,p320,c321,rfl,J⟩:=H;have H:=J;have F:=G;clear G J
 have G:=F;replace H:=rc_api_State (H.pk 0 rfl);obtain ⟨p322,c323,p324,c325,rfl,J⟩:=H;have H:=J;have F:=G;clear G J
 refine s_storeA wkP F rfl rfl agg69 rfl rfl rfl H 10 rfl rfl rfl (fl rfl) fun w H=>?_
 refine lz ?_;refine ct ⟨⟨_,(H.pm 16 [14,0,1,2,3,4,5,6,7,8,9,10,11,12,13,15] rfl:)⟩,?_⟩
 refine m_heavy rfl rfl ?_
 have G:=F;replace H:=rc_api_Answer (H.pk 3 rfl);obtain ⟨p326,c327,p328,c329,rfl,J⟩:=H;have H:=J;have F:=G;clear G J
 refine s_storeA wkP F rfl rfl agg35 rfl rfl rfl H 7 rfl rfl rfl (fl rfl) fun w H=>?_
 refine lz ?_;refine ct ⟨⟨_,(H.pm 17 [15,0,1,2,3,4,5,6,7,8,9,10,11,12,13,14,16] rfl:)⟩,?_⟩
 refine mb [0] F H rfl fun a F=>?_
 refine m_nil ?_
 cases hm
 refine ct ?_
 exact ⟨none,0,b297,p322,c323,p324,c325,p320,c321,b315,p326,c327,p328,c329,F.sl rfl,(H.pm 17 [15,16,6,11,2,3,4,7,0,1] rfl:)⟩
 refine m_heavy rfl rfl ?_
 replace H:=H.owNil rByte 5
 replace H:=H.owNil rStr 9
 refine s_allocA wkP F rfl rfl rfl agz35 rfl H fun b330 w a H F=>?_
 refine lz ?_;refine ct ⟨⟨_,(H.pm 10 [7,0,1,2,3,4,5,6,8,9] rfl:)⟩,?_⟩
 refine m_heavy rfl rfl ?_
 obtain ⟨x331,ex331,hm⟩:=ob hm
 refine sd F rfl ent40 (w_tNew ex331 H:) ?_;rintro _ w a ⟨cs332,rfl,H⟩ F
 refine lz ?_;refine ct ⟨⟨_,(H.pm 11 [8,0,1,2,3,4,5,6,7,9,10] rfl:)⟩,?_⟩
 refine m_heavy rfl rfl ?_
 replace H:=H.frz 10 rfl
 replace H:=H.mkRc (R:=R_api_Call) (cs:=[.int .i64 (1),.int .u64 (5),.int .i64 (1),.string (txb ([47,97])),.string (txb ([])),.int .i64 (0),.int .i64 (0),.slice none (([]:List UInt8)).length 0]) (x:=(1,5,(1,[47,97],[],0,0,([]:List UInt8)))) (fun gg=>⟨[Value.int .i64 (1)],_,rfl,rfl,⟨[Value.int .u64 (5)],_,rfl,rfl,⟨[Value.int .i64 (1)],_,rfl,rfl,⟨[Value.string (txb ([47,97]))],_,rfl,rfl,⟨[Value.string (txb ([]))],_,rfl,rfl,⟨[Value.int .i64 (0)],_,rfl,rfl,⟨[Value.int .i64 (0)],_,rfl,rfl,⟨_,_,rfl,(gg 0 _ rfl).choose_spec⟩⟩⟩⟩⟩⟩⟩⟩)
 obtain ⟨x333,ex333,hm⟩:=ob hm
 refine sd F rfl ent35 (w_tDo ex333 (H.pm 12 [2,0,0,1,2,3,4,5,6,7,8,9,10,11] rfl:):) ?_;rintro _ w a ⟨cs334,cs335,rfl,H⟩ F
 refine lz ?_;refine ct ⟨⟨_,(H.pm 14 [12,0,1,2,3,4,5,6,7,8,9,10,11,13] rfl:)⟩,?_⟩
 refine mb [0,0,0,0] F H rfl fun a F=>?_
 refine m_heavy rfl rfl ?_
 have G:=F;replace H:=rc_api_Whole (H.pk 0 rfl);obtain ⟨u336,p337,c338,rfl,J⟩:=H;have H:=J;have F:=G;clear G J
 have G:=F;replace H:=rc_api_State (H.pk 0 rfl);obtain ⟨p339,c340,p341,c342,rfl,J⟩:=H;have H:=J;have F:=G;clear G J
 refine s_storeA wkP F rfl rfl agg69 rfl rfl rfl H 10 rfl rfl rfl (fl rfl) fun w H=>?_
 refine lz ?_;refine ct ⟨⟨_,(H.pm 16 [14,0,1,2,3,4,5,6,7,8,9,10,11,12,13,15] rfl:)⟩,?_⟩
 refine m_heavy rfl rfl ?_
 have G:=F;replace H:=rc_api_Answer (H.pk 3 rfl);obtain ⟨p343,c344,p345,c346,rfl,J⟩:=H;have H:=J;have F:=G;clear G J
 refine s_storeA wkP F rfl rfl agg35 rfl rfl rfl H 8 rfl rfl rfl (fl rfl) fun w H=>?_
 refine lz ?_;refine ct ⟨⟨_,(H.pm 17 [15,0,1,2,3,4,5,6,7,8,9,10,11,12,13,14,16] rfl:)⟩,?_⟩
 refine mb [0] F H rfl fun a F=>?_
 refine m_nil ?_
 cases hm
 refine ct ?_
 exact ⟨none,0,b297,p339,c340,p341,c342,p337,c338,b330,p343,c344,p345,c346,F.sl rfl,(H.pm 17 [15,16,6,11,2,3,4,8,0,1] rfl:)⟩
 refine m_heavy rfl rfl ?_
 replace H:=H.owNil rByte 5
 replace H:=H.owNil rStr 9
 refine s_allocA wkP F rfl rfl rfl agz35 rfl H fun b347 w a H F=>?_
 refine lz ?_;refine ct ⟨⟨_,(H.pm 6 [3,0,1,2,4,5] rfl:)⟩,?_⟩
 refine m_fork rfl rfl rfl rfl ?_ ?_
 refine m_heavy rfl rfl ?_
 obtain ⟨x348,ex348,hm⟩:=ob hm
 refine sd F rfl ent40 (w_tNew ex348 H:) ?_;rintro _ w a ⟨cs349,rfl,H⟩ F
 refine lz ?_;refine ct ⟨⟨_,(H.pm 7 [4,0,1,2,3,5,6] rfl:)⟩,?_⟩
 refine m_fork rfl rfl rfl rfl ?_ ?_
 refine m_heavy rfl rfl ?_
 replace H:=H.frz 6 rfl
 replace H:=H.mkRc (R:=R_api_Call) (cs:=[.int .i64 (1),.int .u64 (5),.int .i64 (1),.string (txb ([47,97])),.string (txb ([])),.int .i64 (0),.int .i64 (0),.slice none (([]:List UInt8)).length 0]) (x:=(1,5,(1,[47,97],[],0,0,([]:List UInt8)))) (fun gg=>⟨[Value.int .i64 (1)],_,rfl,rfl,⟨[Value.int .u64 (5)],_,rfl,rfl,⟨[Value.int .i64 (1)],_,rfl,rfl,⟨[Value.string (txb ([47,97]))],_,rfl,rfl,⟨[Value.string (txb ([]))],_,rfl,rfl,⟨[Value.int .i64 (0)],_,rfl,rfl,⟨[Value.int .i64 (0)],_,rfl,rfl,⟨_,_,rfl,(gg 0 _ rfl).choose_spec⟩⟩⟩⟩⟩⟩⟩⟩)
 obtain ⟨x350,ex350,hm⟩:=ob hm
 refine sd F rfl ent35 (w_tDo ex350 (H.pm 8 [2,0,0,1,2,3,4,5,6,7] rfl:):) ?_;rintro _ w a ⟨cs351,cs352,rfl,H⟩ F
 refine lz ?_;refine ct ⟨⟨_,(H.pm 10 [8,0,1,2,3,4,5,6,7,9] rfl:)⟩,?_⟩
 refine mb [0,0,0,0] F H rfl fun a F=>?_
 refine m_heavy rfl rfl ?_
 replace H:=H.owNil R_api_Pair 103
 replace H:=H.owNil R_api_Snap 41
 replace H:=H.owNil R_api_Seat 75
 refine s_allocA wkP F rfl rfl rfl agz69 rfl H fun b353 w a H F=>?_
 refine lz ?_;refine ct ⟨⟨_,(H.pm 14 [12,0,1,2,3,4,5,6,7,8,9,10,11,13] rfl:)⟩,?_⟩
 refine m_heavy rfl rfl ?_
 have G:=F;replace H:=rc_api_Whole (H.pk 4 rfl);obtain ⟨u354,p355,c356,rfl,J⟩:=H;have H:=J;have F:=G;clear G J
 have G:=F;replace H:=rc_api_State (H.pk 0 rfl);obtain ⟨p357,c358,p359,c360,rfl,J⟩:=H;have H:=J;have F:=G;clear G J
 refine s_storeA wkP F rfl rfl agg69 rfl rfl rfl H 3 rfl rfl rfl (fl rfl) fun w H=>?_
 refine lz ?_;refine ct ⟨⟨_,(H.pm 16 [14,0,1,2,3,4,5,6,7,8,9,10,11,12,13,15] rfl:)⟩,?_⟩
 refine m_heavy rfl rfl ?_
 have G:=F;replace H:=rc_api_Answer (H.pk 7 rfl);obtain ⟨p361,c362,p363,c364,rfl,J⟩:=H;have H:=J;have F:=G;clear G J
 refine s_storeA wkP F rfl rfl agg35 rfl rfl rfl H 12 rfl rfl rfl (fl rfl) fun w H=>?_
 refine lz ?_;refine ct ⟨⟨_,(H.pm 17 [15,0,1,2,3,4,5,6,7,8,9,10,11,12,13,14,16] rfl:)⟩,?_⟩
 refine mb [0] F H rfl fun a F=>?_
 refine m_nil ?_
 cases hm
 refine ct ?_
 exact ⟨none,0,b353,p357,c358,p359,c360,p355,c356,b347,p361,c362,p363,c364,F.sl rfl,(H.pm 17 [15,16,10,5,2,3,4,12,0,1] rfl:)⟩
 refine m_heavy rfl rfl ?_
 replace H:=H.owNil R_api_Pair 103
 replace H:=H.owNil R_api_Snap 41
 replace H:=H.owNil R_api_Seat 75
 refine s_allocA wkP F rfl rfl rfl agz69 rfl H fun b365 w a H F=>?_
 refine lz ?_;refine ct ⟨⟨_,(H.pm 11 [8,0,1,2,3,4,5,6,7,9,10] rfl:)⟩,?_⟩
 refine m_heavy rfl rfl ?_
 replace H:=H.frz 10 rfl
 replace H:=H.mkRc (R:=R_api_Call) (cs:=[.int .i64 (1),.int .u64 (5),.int .i64 (1),.string (txb ([47,97])),.string (txb ([])),.int .i64 (0),.int .i64 (0),.slice none (([]:List UInt8)).length 0]) (x:=(1,5,(1,[47,97],[],0,0,([]:List UInt8)))) (fun gg=>⟨[Value.int .i64 (1)],_,rfl,rfl,⟨[Value.int .u64 (5)],_,rfl,rfl,⟨[Value.int .i64 (1)],_,rfl,rfl,⟨[Value.string (txb ([47,97]))],_,rfl,rfl,⟨[Value.string (txb ([]))],_,rfl,rfl,⟨[Value.int .i64 (0)],_,rfl,rfl,⟨[Value.int .i64 (0)],_,rfl,rfl,⟨_,_,rfl,(gg 0 _ rfl).choose_spec⟩⟩⟩⟩⟩⟩⟩⟩)
 obtain ⟨x366,ex366,hm⟩:=ob hm
 refine sd F rfl ent35 (w_tDo ex366 (H.pm 12 [6,0,0,1,2,3,4,5,6,7,8,9,10,11] rfl:):) ?_;rintro _ w a ⟨cs367,cs368,rfl,H⟩ F
 refine lz ?_;refine ct ⟨⟨_,(H.pm 14 [12,0,1,2,3,4,5,6,7,8,9,10,11,13] rfl:)⟩,?_⟩
 refine mb [0,0,0,0] F H rfl fun a F=>?_
 refine m_heavy rfl rfl ?_
 have G:=F;replace H:=rc_api_Whole (H.pk 0 rfl);obtain ⟨u369,p370,c371,rfl,J⟩:=H;have H:=J;have F:=G;clear G J
 have G:=F;replace H:=rc_api_State (H.pk 0 rfl);obtain ⟨p372,c373,p374,c375,rfl,J⟩:=H;have H:=J;have F:=G;clear G J
 refine s_storeA wkP F rfl rfl agg69 rfl rfl rfl H 6 rfl rfl rfl (fl rfl) fun w H=>?_
 refine lz ?_;refine ct ⟨⟨_,(H.pm 16 [14,0,1,2,3,4,5,6,7,8,9,10,11,12,13,15] rfl:)⟩,?_⟩
 refine m_heavy rfl rfl ?_
 have G:=F;replace H:=rc_api_Answer (H.pk 3 rfl);obtain ⟨p376,c377,p378,c379,rfl,J⟩:=H;have H:=J;have F:=G;clear G J
 refine s_storeA wkP F rfl rfl agg35 rfl rfl rfl H 12 rfl rfl rfl (fl rfl) fun w H=>?_
 refine lz ?_;refine ct ⟨⟨_,(H.pm 17 [15,0,1,2,3,4,5,6,7,8,9,10,11,12,13,14,16] rfl:)⟩,?_⟩
 refine mb [0] F H rfl fun a F=>?_
 refine m_nil ?_
 cases hm
 refine ct ?_
 exact ⟨none,0,b365,p372,c373,p374,c375,p370,c371,b347,p376,c377,p378,c379,F.sl rfl,(H.pm 17 [15,16,6,7,2,3,4,12,0,1] rfl:)⟩
 refine m_heavy rfl rfl ?_
 replace H:=H.owNil R_api_Pair 103
 replace H:=H.owNil R_api_Snap 41
 replace H:=H.owNil R_api_Seat 75
 refine s_allocA wkP F rfl rfl rfl agz69 rfl H fun b380 w a H F=>?_
 refine lz ?_;refine ct ⟨⟨_,(H.pm 10 [7,0,1,2,3,4,5,6,8,9] rfl:)⟩,?_⟩
 refine m_heavy rfl rfl ?_
 obtain ⟨x381,ex381,hm⟩:=ob hm
 refine sd F rfl ent40 (w_tNew ex381 H:) ?_;rintro _ w a ⟨cs382,rfl,H⟩ F
 refine lz ?_;refine ct ⟨⟨_,(H.pm 11 [8,0,1,2,3,4,5,6,7,9,10] rfl:)⟩,?_⟩
 refine m_heavy rfl rfl ?_
 replace H:=H.frz 10 rfl
 replace H:=H.mkRc (R:=R_api_Call) (cs:=[.int .i64 (1),.int .u64 (5),.int .i64 (1),.string (txb ([47,97])),.string (txb ([])),.int .i64 (0),.int .i64 (0),.slice none (([]:List UInt8)).length 0]) (x:=(1,5,(1,[47,97],[],0,0,([]:List UInt8)))) (fun gg=>⟨[Value.int .i64 (1)],_,rfl,rfl,⟨[Value.int .u64 (5)],_,rfl,rfl,⟨[Value.int .i64 (1)],_,rfl,rfl,⟨[Value.string (txb ([47,97]))],_,rfl,rfl,⟨[Value.string (txb ([]))],_,rfl,rfl,⟨[Value.int .i64 (0)],_,rfl,rfl,⟨[Value.int .i64 (0)],_,rfl,rfl,⟨_,_,rfl,(gg 0 _ rfl).choose_spec⟩⟩⟩⟩⟩⟩⟩⟩)
 obtain ⟨x383,ex383,hm⟩:=ob hm
 refine sd F rfl ent35 (w_tDo ex383 (H.pm 12 [2,0,0,1,2,3,4,5,6,7,8,9,10,11] rfl:):) ?_;rintro _ w a ⟨cs384,cs385,rfl,H⟩ F
 refine lz ?_;refine ct ⟨⟨_,(H.pm 14 [12,0,1,2,3,4,5,6,7,8,9,10,11,13] rfl:)⟩,?_⟩
 refine mb [0,0,0,0] F H rfl fun a F=>?_
 refine m_heavy rfl rfl ?_
 have G:=F;replace H:=rc_api_Whole (H.pk 0 rfl);obtain ⟨u386,p387,c388,rfl,J⟩:=H;have H:=J;have F:=G;clear G J
 have G:=F;replace H:=rc_api_State (H.pk 0 rfl);obtain ⟨p389,c390,p391,c392,rfl,J⟩:=H;have H:=J;have F:=G;clear G J
 refine s_storeA wkP F rfl rfl agg69 rfl rfl rfl H 7 rfl rfl rfl (fl rfl) fun w H=>?_
 refine lz ?_;refine ct ⟨⟨_,(H.pm 16 [14,0,1,2,3,4,5,6,7,8,9,10,11,12,13,15] rfl:)⟩,?_⟩
 refine m_heavy rfl rfl ?_
 have G:=F;replace H:=rc_api_Answer (H.pk 3 rfl);obtain ⟨p393,c394,p395,c396,rfl,J⟩:=H;have H:=J;have F:=G;clear G J
 refine s_storeA wkP F rfl rfl agg35 rfl rfl rfl H 12 rfl rfl rfl (fl rfl) fun w H=>?_
 refine lz ?_;refine ct ⟨⟨_,(H.pm 17 [15,0,1,2,3,4,5,6,7,8,9,10,11,12,13,14,16] rfl:)⟩,?_⟩
 refine mb [0] F H rfl fun a F=>?_
 refine m_nil ?_
 cases hm
 refine ct ?_
 exact ⟨none,0,b380,p389,c390,p391,c392,p387,c388,b347,p393,c394,p395,c396,F.sl rfl,(H.pm 17 [15,16,6,8,2,3,4,12,0,1] rfl:)⟩
 clear F H hm
 rintro a w ⟨p196,c196,b197,p198,c198,p199,c199,p200,c200,b201,p202,c202,p203,c203,F,H⟩;have hm:=hm195;clear hm195
 refine ct (sr (bk [3999,999] F H rfl ⟨rfl,(aggn agg69 rfl),rfl,(aggn agg71 rfl),trivial⟩ fun a F=>?_))
 replace H:=H.mkRc (R:=R_api_Whole) (cs:=[.slice p198 (r195.2.1.1.1).length c198,.slice p199 (r195.2.1.1.2).length c199,.slice p200 (r195.2.1.2).length c200]) (x:=((r195.2.1.1.1,r195.2.1.1.2),r195.2.1.2)) (fun gg=>⟨[Value.slice p198 (r195.2.1.1.1).length c198,.slice p199 (r195.2.1.1.2).length c199],_,rfl,⟨[Value.slice p198 (r195.2.1.1.1).length c198],_,rfl,⟨_,_,rfl,(gg 4 _ rfl).choose_spec⟩,⟨_,_,rfl,(gg 5 _ rfl).choose_spec⟩⟩,⟨_,_,rfl,(gg 6 _ rfl).choose_spec⟩⟩)
 replace H:=H.mkRc (R:=R_api_Call) (cs:=[.int .i64 (1),.int .u64 (5),.int .i64 (1),.string (txb ([47,97])),.string (txb ([])),.int .i64 (0),.int .i64 (0),.slice p196 (r195.1).length c196]) (x:=(1,5,(1,[47,97],[],0,0,r195.1))) (fun gg=>⟨[Value.int .i64 (1)],_,rfl,rfl,⟨[Value.int .u64 (5)],_,rfl,rfl,⟨[Value.int .i64 (1)],_,rfl,rfl,⟨[Value.string (txb ([47,97]))],_,rfl,rfl,⟨[Value.string (txb ([]))],_,rfl,rfl,⟨[Value.int .i64 (0)],_,rfl,rfl,⟨[Value.int .i64 (0)],_,rfl,rfl,⟨_,_,rfl,(gg 3 _ rfl).choose_spec⟩⟩⟩⟩⟩⟩⟩⟩)
 obtain ⟨x397,ex397,hm⟩:=ob hm
 refine sd F rfl ent35 (w_tDo ex397 (H.pm 12 [1,0,0,1,2,3,4,5,6,7,8,9,10,11] rfl:):) ?_;rintro _ w a ⟨cs398,cs399,rfl,H⟩ F
 refine bb [0,0,0,0] F H rfl fun a F=>?_
 replace H:=H.owNil rByte 5
 replace H:=H.owNil rStr 9
 refine s_allocA wkP F rfl rfl rfl agz35 rfl H fun b400 w a H F=>?_
 have G:=F;replace H:=rc_api_Whole (H.pk 3 rfl);obtain ⟨u401,p402,c403,rfl,J⟩:=H;have H:=J;have F:=G;clear G J
 have G:=F;replace H:=rc_api_State (H.pk 0 rfl);obtain ⟨p404,c405,p406,c407,rfl,J⟩:=H;have H:=J;have F:=G;clear G J
 refine s_storeA wkP F rfl rfl agg69 rfl rfl rfl H 12 rfl rfl rfl (fl rfl) fun w H=>?_
 have G:=F;replace H:=rc_api_Answer (H.pk 6 rfl);obtain ⟨p408,c409,p410,c411,rfl,J⟩:=H;have H:=J;have F:=G;clear G J
 refine s_storeA wkP F rfl rfl agg35 rfl rfl rfl H 5 rfl rfl rfl (fl rfl) fun w H=>?_
 refine bb [0] F H rfl fun a F=>?_
 replace H:=H.nf 20 rfl
 refine nl (sr (bk [1] F H rfl ⟨fld71_1,trivial⟩ fun a F=>?_))
 refine s_st1 wkP F rfl rfl zero38 rfl rfl rfl rfl rfl H 10 rfl rfl fun w H=>?_
 replace H:=H.nf 20 rfl
 refine nl (sr (bk [13999,10999] F H rfl ⟨rfl,(aggn agg69 rfl),rfl,(aggn agg71 rfl),trivial⟩ fun a F=>?_))
 replace H:=H.mkRc (R:=R_api_Whole) (cs:=[.slice p404 (x397.1.1.1).length c405,.slice p406 (x397.1.1.2).length c407,.slice p402 (x397.1.2).length c403]) (x:=((x397.1.1.1,x397.1.1.2),x397.1.2)) (fun gg=>⟨[Value.slice p404 (x397.1.1.1).length c405,.slice p406 (x397.1.1.2).length c407],_,rfl,⟨[Value.slice p404 (x397.1.1.1).length c405],_,rfl,⟨_,_,rfl,(gg 2 _ rfl).choose_spec⟩,⟨_,_,rfl,(gg 3 _ rfl).choose_spec⟩⟩,⟨_,_,rfl,(gg 4 _ rfl).choose_spec⟩⟩)
 replace H:=H.mkRc (R:=R_api_Call) (cs:=[.int .i64 (1),.int .u64 (4),.int .i64 (1),.string (txb ([47,97])),.string (txb ([])),.int .i64 (0),.int .i64 (0),.slice p196 (r195.1).length c196]) (x:=(1,4,(1,[47,97],[],0,0,r195.1))) (fun gg=>⟨[Value.int .i64 (1)],_,rfl,rfl,⟨[Value.int .u64 (4)],_,rfl,rfl,⟨[Value.int .i64 (1)],_,rfl,rfl,⟨[Value.string (txb ([47,97]))],_,rfl,rfl,⟨[Value.string (txb ([]))],_,rfl,rfl,⟨[Value.int .i64 (0)],_,rfl,rfl,⟨[Value.int .i64 (0)],_,rfl,rfl,⟨_,_,rfl,(gg 13 _ rfl).choose_spec⟩⟩⟩⟩⟩⟩⟩⟩)
 obtain ⟨x412,ex412,hm⟩:=ob hm
 refine sd F rfl ent35 (w_tDo ex412 (H.pm 22 [1,0,0,1,2,3,4,5,6,7,8,9,10,11,12,13,14,15,16,17,18,19,20,21] rfl:):) ?_;rintro _ w a ⟨cs413,cs414,rfl,H⟩ F
 refine bb [0,0,0,0] F H rfl fun a F=>?_
 replace H:=H.owNil R_api_Pair 103
 replace H:=H.owNil R_api_Snap 41
 replace H:=H.owNil R_api_Seat 75
 refine s_allocA wkP F rfl rfl rfl agz69 rfl H fun b415 w a H F=>?_
 replace H:=H.owNil rByte 5
 replace H:=H.owNil rStr 9
 refine s_allocA wkP F rfl rfl rfl agz35 rfl H fun b416 w a H F=>?_
 have G:=F;replace H:=rc_api_Whole (H.pk 7 rfl);obtain ⟨u417,p418,c419,rfl,J⟩:=H;have H:=J;have F:=G;clear G J
 have G:=F;replace H:=rc_api_State (H.pk 0 rfl);obtain ⟨p420,c421,p422,c423,rfl,J⟩:=H;have H:=J;have F:=G;clear G J
 refine s_storeA wkP F rfl rfl agg69 rfl rfl rfl H 6 rfl rfl rfl (fl rfl) fun w H=>?_
 have G:=F;replace H:=rc_api_Answer (H.pk 10 rfl);obtain ⟨p424,c425,p426,c427,rfl,J⟩:=H;have H:=J;have F:=G;clear G J
 refine s_storeA wkP F rfl rfl agg35 rfl rfl rfl H 5 rfl rfl rfl (fl rfl) fun w H=>?_
 refine bb [0] F H rfl fun a F=>?_
 replace H:=H.nf 34 rfl
 refine nl (sr (bk [0,31000,0,0] F H rfl ⟨fld35_0,rfl,plain32,trivial⟩ fun a F=>?_))
 rcases spP 37 F rfl hm with ⟨hg428,hm,F⟩ | ⟨hg428,hm,F⟩
 refine bk [31999,19999] F H rfl ⟨rfl,(aggn agg35 rfl),rfl,(aggn agg35 rfl),trivial⟩ fun a F=>?_
 refine g_onP F rfl rfl rfl rfl ?_
 replace H:=H.mkRc (R:=R_api_Answer) (cs:=[.int .i64 (r195.2.2.1.1),.int .i64 (r195.2.2.1.2.1),.slice p202 (r195.2.2.1.2.2.1).length c202,.slice p203 (r195.2.2.1.2.2.2).length c203]) (x:=(r195.2.2.1.1,r195.2.2.1.2.1,r195.2.2.1.2.2.1,r195.2.2.1.2.2.2)) (fun gg=>⟨_,_,rfl,rfl,⟨_,_,rfl,rfl,⟨_,_,rfl,⟨_,_,rfl,(gg 32 _ rfl).choose_spec⟩,⟨_,_,rfl,(gg 33 _ rfl).choose_spec⟩⟩⟩⟩)
 replace H:=H.mkRc (R:=R_api_Answer) (cs:=[.int .i64 (x397.2.1.1),.int .i64 (x397.2.1.2.1),.slice p408 (x397.2.1.2.2.1).length c409,.slice p410 (x397.2.1.2.2.2).length c411]) (x:=(x397.2.1.1,x397.2.1.2.1,x397.2.1.2.2.1,x397.2.1.2.2.2)) (fun gg=>⟨_,_,rfl,rfl,⟨_,_,rfl,rfl,⟨_,_,rfl,⟨_,_,rfl,(gg 15 _ rfl).choose_spec⟩,⟨_,_,rfl,(gg 16 _ rfl).choose_spec⟩⟩⟩⟩)
 obtain ⟨x429,ex429,hm⟩:=ob hm
 refine sd F rfl ent26 (w_rSameAns ex429 (H.pm 36 [1,0,0,1,2,3,4,5,6,7,8,9,10,11,12,13,14,15,16,17,18,19,20,21,22,23,24,25,26,27,28,29,30,31,32,33,34,35] rfl:):) ?_;rintro _ w a ⟨rfl,H⟩ F
 refine bb [0,0] F H rfl fun a F=>?_
 by_cases hg430:x429=true
 replace hm:=ifT hg430 hm
 replace F:=F.vT 42 hg430 rfl
 refine bb [0,0,0,0] F H rfl fun a F=>?_
 rcases spP 46 F rfl hm with ⟨hg431,hm,F⟩ | ⟨hg431,hm,F⟩
 refine bb [0,0,0,0] F H rfl fun a F=>?_
 rcases spP 50 F rfl hm with ⟨hg432,hm,F⟩ | ⟨hg432,hm,F⟩
 refine bb [0,0,0,0] F H rfl fun a F=>?_
 refine sv F rfl (y_pickI F rfl rfl rfl rfl) fun a F=>?_
 refine bb [0] F H rfl fun a F=>?_
 refine sv F rfl (y_pickI F rfl rfl rfl rfl) fun a F=>?_
 refine bb [0] F H rfl fun a F=>?_
 refine sv F rfl (y_pickI F rfl rfl rfl rfl) fun a F=>?_
 refine bb [0] F H rfl fun a F=>?_
 replace H:=H.nf 36 rfl
 refine nl (wr ?_)
 cases hm
 refine x_ret1 F rfl rfl ?_
 exact ⟨_,rfl,rfl,(H.pm 36 [] rfl:)⟩
 refine bb (List.replicate 10 0) F H rfl fun a F=>?_
 replace H:=H.nf 36 rfl
 refine nl (wr ?_)
 cases hm
 refine x_ret1 F rfl rfl ?_
 exact ⟨_,rfl,rfl,(H.pm 36 [] rfl:)⟩
 refine bb (List.replicate 14 0) F H rfl fun a F=>?_
 replace H:=H.nf 36 rfl
 refine nl (wr ?_)
 cases hm
 refine x_ret1 F rfl rfl ?_
 exact ⟨_,rfl,rfl,(H.pm 36 [] rfl:)⟩
 replace hm:=ifF hg430 hm
 replace F:=F.vF 42 hg430 rfl
 refine bb (List.replicate 18 0) F H rfl fun a F=>?_
 replace H:=H.nf 36 rfl
 refine nl (wr ?_)
 cases hm
 refine x_ret1 F rfl rfl ?_
 exact ⟨_,rfl,rfl,(H.pm 36 [] rfl:)⟩
 refine bb (List.replicate 23 0) F H rfl fun a F=>?_
 refine nl (wr ?_)
 cases hm
 refine x_ret1 F rfl rfl ?_
 exact ⟨_,rfl,rfl,(H.pm 34 [] rfl:)⟩
theorem ent31:En Tryz.prog 31:=enters Tryz.func31 (by kernel_rfl) rfl
theorem elem89:ElemT Tryz.prog 89 71 8 96 (.agg [.int .i64 0,.int .u64 0,.int .i64 0,.string ByteArray.empty,.string ByteArray.empty,.int .i64 0,.int .i64 0,.slice none 0 0].toArray):=⟨Tryz.underlying89,by kernel_rfl,by kernel_rfl,by decide⟩
theorem ent38:En Tryz.prog 38:=enters Tryz.func38 (by kernel_rfl) rfl
theorem ent36:En Tryz.prog 36:=enters Tryz.func36 (by kernel_rfl) rfl
theorem w_lOnce {script:List T_api_Call} {p1:Option Addr} {c1:Nat} {w0 w:World} {l:List HP}  {r:Bool} (hm:lOnce script=some r) (H:St w0 w (HP.sl R_api_Call p1 c1 script::l)) :
  Calls Tryz.prog 11 [.slice p1 (script).length c1].toArray w (fun e w'=>∃ v,e=.returned v∧v=.bool (r)∧St w0 w' (l)):=by
 unfold lOnce at hm
 refine x_enter Tryz.func11 rfl rfl rfl ?_
 intro a F
 refine sb [0] F H rfl fun a F=>?_
 refine nl (sq (sr ?_))
 obtain ⟨x2,ex2,hm⟩:=ob hm
 refine sd F rfl ent31 (w_l3Speaks ex2 H:) ?_;rintro _ w a ⟨rfl,H⟩ F
 refine bb [0] F H rfl fun a F=>?_
 replace H:=H.nf 1 rfl
 refine nl (cB F rfl (fun hg3=>?_) (fun hg3=>?_))
 replace hm:=ifT hg3 hm
 refine sb [0] F H rfl fun a F=>?_
 refine nl (wr (tr ?_))
 cases hm
 refine x_ret1 F rfl rfl ?_
 exact ⟨_,rfl,rfl,(H.pm 1 [] rfl:)⟩
 replace hm:=ifF (nT hg3) hm
 refine sk (ct (sq (sr (bk [0,0,0] F H rfl ⟨⟨_,Tryz.underlying89⟩,trivial⟩ fun a F=>?_))))
 refine nl (cPm F rfl hm (fun hg4 hm=>?_) (fun hg4 hm=>?_))
 refine sb [0] F H rfl fun a F=>?_
 refine nl (wr (tr ?_))
 cases hm
 refine x_ret1 F rfl rfl ?_
 exact ⟨_,rfl,rfl,(H.pm 1 [] rfl:)⟩
 refine sk (ct (sr ?_))
 obtain ⟨x5,ex5,hm⟩:=ob hm
 refine sd F rfl ent40 (w_tNew ex5 H:) ?_;rintro _ w a ⟨cs6,rfl,H⟩ F
 refine s_mmNew (Value.int .i64) false (rInt .u64) (fun _=>True) wkP F rfl rfl rfl rfl H fun m7 w a H F=>?_
 replace H:=H.owNil R_api_Pair 103
 replace H:=H.owNil R_api_Snap 41
 replace H:=H.owNil R_api_Seat 75
 refine s_allocA wkP F rfl rfl rfl agz69 rfl H fun b8 w a H F=>?_
 have G:=F;replace H:=rc_api_Whole (H.pk 5 rfl);obtain ⟨u9,p10,c11,rfl,J⟩:=H;have H:=J;have F:=G;clear G J
 have G:=F;replace H:=rc_api_State (H.pk 0 rfl);obtain ⟨p12,c13,p14,c15,rfl,J⟩:=H;have H:=J;have F:=G;clear G J
 refine s_storeA wkP F rfl rfl agg69 rfl rfl rfl H 3 rfl rfl rfl (fl rfl) fun w H=>?_
 refine bb [0] F H rfl fun a F=>?_
 replace H:=H.nf 9 rfl
 refine nl (sq (sr (bk [0,0,0] F H rfl ⟨⟨_,Tryz.underlying89⟩,trivial⟩ fun a F=>?_)))
 refine nl ?_
 refine xr6 9 [] [4,5,6] F H hm rfl rfl (fun r635 (p636:Option Addr) (c636:Nat) (p637:Option Addr) (c637:Nat) (p638:Option Addr) (c638:Nat) z=>z) (fun r635 p636 c636 p637 c637 p638 c638 z=>HP.blk b8 ([.slice p636 (r635.1.1.1).length c636,.slice p637 (r635.1.1.2).length c637,.slice p638 (r635.1.2).length c638]) 69::HP.mm (some m7) (Value.int .i64) false (rInt .u64) (fun _=>True) r635.2::HP.sl R_api_Pair p636 c636 r635.1.1.1::HP.sl R_api_Snap p637 c637 r635.1.1.2::HP.sl R_api_Seat p638 c638 r635.1.2::z) (fun o635 hm hm635=>?_) (fun r635 a w hm p636 c636 p637 c637 p638 c638 F H=>?_)
 refine bl ?_
 refine xl6 9 [3,4,21,22] [4,5,6,8] F H hm rfl rfl (fun (s1051:(((List T_api_Pair)×(List T_api_Snap))×(List T_api_Seat))×(Int→Option Int)×Int) (p1052:Option Addr) (c1052:Nat) (p1053:Option Addr) (c1053:Nat) (p1054:Option Addr) (c1054:Nat) z=>(23,.int .i64 (s1051.2.2))::z) (fun s1051 p1052 c1052 p1053 c1053 p1054 c1054 z=>HP.blk b8 ([.slice p1052 (s1051.1.1.1).length c1052,.slice p1053 (s1051.1.1.2).length c1053,.slice p1054 (s1051.1.2).length c1054]) 69::HP.mm (some m7) (Value.int .i64) false (rInt .u64) (fun _=>True) s1051.2.1::HP.sl R_api_Pair p1052 c1052 s1051.1.1.1::HP.sl R_api_Snap p1053 c1053 s1051.1.1.2::HP.sl R_api_Seat p1054 c1054 s1051.1.2::z) ⟨p12,c13,p14,c15,p10,c11,F.sl rfl,(H.pm 9 [3,7,0,1,2,4,5,6,8] rfl:)⟩ (fun s1051 a w o p1052 c1052 p1053 c1053 p1054 c1054 F H hm=>?_)
 refine sb [0] F H rfl fun a F=>?_
 refine nl (sq (cPm F rfl hm (fun hg1055 hm=>?_) (fun hg1055 hm=>?_)))
 refine sk (ct (sq ?_))
 refine xr6 9 [3,4,21,22,23] [5,6,7,8] F H hm rfl rfl (fun r1155 (p1156:Option Addr) (c1156:Nat) (p1157:Option Addr) (c1157:Nat) (p1158:Option Addr) (c1158:Nat) z=>z) (fun r1155 p1156 c1156 p1157 c1157 p1158 c1158 z=>HP.blk b8 ([.slice p1156 (r1155.1.1.1).length c1156,.slice p1157 (r1155.1.1.2).length c1157,.slice p1158 (r1155.1.2).length c1158]) 69::HP.mm (some m7) (Value.int .i64) false (rInt .u64) (fun _=>True) r1155.2::HP.sl R_api_Pair p1156 c1156 r1155.1.1.1::HP.sl R_api_Snap p1157 c1157 r1155.1.1.2::HP.sl R_api_Seat p1158 c1158 r1155.1.2::z) (fun o1155 hm hm1155=>?_) (fun r1155 a w hm p1156 c1156 p1157 c1157 p1158 c1158 F H=>?_)
 refine bl (sb [0] F H rfl fun a F=>?_)
 obtain ⟨x1159,ex1159,hm⟩:=ob hm
 obtain ⟨b1160,o1160,hp1160⟩:=H.slP 8 rfl (idxO_some ex1159).2
 obtain ⟨cs1161,hcl1161,H⟩:=H.slEl 8 rfl hp1160 (idxO_some ex1159).2
 clear hcl1161
 refine sv F rfl (y_idxS F elem89 rfl rfl rfl hp1160 ex1159) fun a F=>?_
 refine bk [999] F H rfl ⟨rfl,(aggn agg71 (H.rcLen 1 rfl)),trivial⟩ fun a F=>?_
 replace H:=H.owNil rByte 5
 refine s_allocA wkP F rfl rfl rfl agz71 rfl H fun b1162 w a H F=>?_
 refine bb [0] F H rfl fun a F=>?_
 have G:=F;replace H:=rc_api_Call (H.pk 3 rfl);obtain ⟨v1163,rfl,J⟩:=H;have H:=J;have F:=G;clear G J
 have G:=F;replace H:=rc_api_Op (H.pk 0 rfl);obtain ⟨p1164,c1165,rfl,J⟩:=H;have H:=J;have F:=G;clear G J
 refine s_storeA wkP F rfl rfl agg71 rfl rfl rfl H 1 rfl rfl rfl (fl rfl) fun w H=>?_
 replace H:=H.nf 13 rfl
 refine nl (sq (sr (bk [2] F H rfl ⟨fld71_2,trivial⟩ fun a F=>?_)))
 refine sv F rfl (y_loadA F agg31 rfl rfl (row_midE (A:=[.int .i64 (x1159.1),.int .u64 (x1159.2.1)]) (X:=[.int .i64 (x1159.2.2.1),.string (txb (x1159.2.2.2.1)),.string (txb (x1159.2.2.2.2.1)),.int .i64 (x1159.2.2.2.2.2.1),.int .i64 (x1159.2.2.2.2.2.2.1),.slice p1164 (x1159.2.2.2.2.2.2.2).length c1165]) (w:=_) ((H.blk 1 rfl).row) (by simp only [List.length_append,List.length_cons,List.length_nil,icells_length,bcells_length])) rfl) fun a F=>?_
 replace H:=H.mkRc (R:=R_api_Op) (cs:=[.int .i64 (x1159.2.2.1),.string (txb (x1159.2.2.2.1)),.string (txb (x1159.2.2.2.2.1)),.int .i64 (x1159.2.2.2.2.2.1),.int .i64 (x1159.2.2.2.2.2.2.1),.slice p1164 (x1159.2.2.2.2.2.2.2).length c1165]) (x:=(x1159.2.2.1,x1159.2.2.2.1,x1159.2.2.2.2.1,x1159.2.2.2.2.2.1,x1159.2.2.2.2.2.2.1,x1159.2.2.2.2.2.2.2)) (fun gg=>⟨_,_,rfl,rfl,⟨_,_,rfl,rfl,⟨_,_,rfl,rfl,⟨_,_,rfl,rfl,⟨_,_,rfl,rfl,⟨_,_,rfl,(gg 0 _ rfl).choose_spec⟩⟩⟩⟩⟩⟩)
 obtain ⟨x1166,ex1166,hm⟩:=ob hm
 refine sd F rfl ent19 (w_rGreatOp ex1166 (H.pm 14 [0,0,1,2,3,4,5,6,7,8,9,10,11,12,13] rfl:):) ?_;rintro _ w a ⟨rfl,H⟩ F
 replace H:=H.nf 14 rfl
 refine nl (cB F rfl (fun hg1167=>?_) (fun hg1167=>?_))
 replace hm:=ifT hg1167 hm
 refine sb [0] F H rfl fun a F=>?_
 refine nl (wr (tr (br (tr ?_))))
 cases hm
 replace hm:=elimR hm1155
 refine tr (tr ?_);cases hm;refine ⟨_,rfl,?_⟩;rintro rfl
 refine br (tr ?_)
 replace hm:=elimR hm635
 refine tr ?_
 cases hm
 refine x_ret1 F rfl rfl ?_
 exact ⟨_,rfl,rfl,(H.pm 14 [] rfl:)⟩
 replace hm:=ifF (nT hg1167) hm
 refine sk (ct (sr (bk [5999,2999,0,2] F H rfl ⟨rfl,(aggn agg69 rfl),rfl,(aggn agg71 rfl),Tryz.underlying3,Tryz.underlying38,trivial⟩ fun a F=>?_)))
 replace H:=H.mkRc (R:=R_api_Whole) (cs:=[.slice p1052 (s1051.1.1.1).length c1052,.slice p1053 (s1051.1.1.2).length c1053,.slice p1054 (s1051.1.2).length c1054]) (x:=((s1051.1.1.1,s1051.1.1.2),s1051.1.2)) (fun gg=>⟨[Value.slice p1052 (s1051.1.1.1).length c1052,.slice p1053 (s1051.1.1.2).length c1053],_,rfl,⟨[Value.slice p1052 (s1051.1.1.1).length c1052],_,rfl,⟨_,_,rfl,(gg 7 _ rfl).choose_spec⟩,⟨_,_,rfl,(gg 8 _ rfl).choose_spec⟩⟩,⟨_,_,rfl,(gg 9 _ rfl).choose_spec⟩⟩)
 replace H:=H.mkRc (R:=R_api_Call) (cs:=[.int .i64 (x1159.1),.int .u64 (x1159.2.1),.int .i64 (x1159.2.2.1),.string (txb (x1159.2.2.2.1)),.string (txb (x1159.2.2.2.2.1)),.int .i64 (x1159.2.2.2.2.2.1),.int .i64 (x1159.2.2.2.2.2.2.1),.slice p1164 (x1159.2.2.2.2.2.2.2).length c1165]) (x:=(x1159.1,x1159.2.1,(x1159.2.2.1,x1159.2.2.2.1,x1159.2.2.2.2.1,x1159.2.2.2.2.2.1,x1159.2.2.2.2.2.2.1,x1159.2.2.2.2.2.2.2))) (fun gg=>⟨[Value.int .i64 (x1159.1)],_,rfl,rfl,⟨[Value.int .u64 (x1159.2.1)],_,rfl,rfl,⟨[Value.int .i64 (x1159.2.2.1)],_,rfl,rfl,⟨[Value.string (txb (x1159.2.2.2.1))],_,rfl,rfl,⟨[Value.string (txb (x1159.2.2.2.2.1))],_,rfl,rfl,⟨[Value.int .i64 (x1159.2.2.2.2.2.1)],_,rfl,rfl,⟨[Value.int .i64 (x1159.2.2.2.2.2.2.1)],_,rfl,rfl,⟨_,_,rfl,(gg 2 _ rfl).choose_spec⟩⟩⟩⟩⟩⟩⟩⟩)
 obtain ⟨x1168,ex1168,hm⟩:=ob hm
 refine sd F rfl ent35 (w_tDo ex1168 (H.pm 16 [1,0,0,1,2,3,4,5,6,7,8,9,10,11,12,13,14,15] rfl:):) ?_;rintro _ w a ⟨cs1169,cs1170,rfl,H⟩ F
 refine bb [0,0,0,0] F H rfl fun a F=>?_
 replace H:=H.owNil R_api_Pair 103
 replace H:=H.owNil R_api_Snap 41
 replace H:=H.owNil R_api_Seat 75
 refine s_allocA wkP F rfl rfl rfl agz69 rfl H fun b1171 w a H F=>?_
 replace H:=H.owNil rByte 5
 replace H:=H.owNil rStr 9
 refine s_allocA wkP F rfl rfl rfl agz35 rfl H fun b1172 w a H F=>?_
 have G:=F;replace H:=rc_api_Whole (H.pk 7 rfl);obtain ⟨u1173,p1174,c1175,rfl,J⟩:=H;have H:=J;have F:=G;clear G J
 have G:=F;replace H:=rc_api_State (H.pk 0 rfl);obtain ⟨p1176,c1177,p1178,c1179,rfl,J⟩:=H;have H:=J;have F:=G;clear G J
 refine s_storeA wkP F rfl rfl agg69 rfl rfl rfl H 6 rfl rfl rfl (fl rfl) fun w H=>?_
 have G:=F;replace H:=rc_api_Answer (H.pk 10 rfl);obtain ⟨p1180,c1181,p1182,c1183,rfl,J⟩:=H;have H:=J;have F:=G;clear G J
 refine s_storeA wkP F rfl rfl agg35 rfl rfl rfl H 5 rfl rfl rfl (fl rfl) fun w H=>?_
 refine bb [0] F H rfl fun a F=>?_
 replace H:=H.nf 28 rfl
 refine nl (sr (bk [8999,16999,0,0,2] F H rfl ⟨rfl,(aggn agg69 rfl),rfl,(aggn agg71 rfl),Tryz.underlying3,Tryz.underlying38,trivial⟩ fun a F=>?_))
 replace H:=H.mkRc (R:=R_api_Whole) (cs:=[.slice p1176 (x1168.1.1.1).length c1177,.slice p1178 (x1168.1.1.2).length c1179,.slice p1174 (x1168.1.2).length c1175]) (x:=((x1168.1.1.1,x1168.1.1.2),x1168.1.2)) (fun gg=>⟨[Value.slice p1176 (x1168.1.1.1).length c1177,.slice p1178 (x1168.1.1.2).length c1179],_,rfl,⟨[Value.slice p1176 (x1168.1.1.1).length c1177],_,rfl,⟨_,_,rfl,(gg 2 _ rfl).choose_spec⟩,⟨_,_,rfl,(gg 3 _ rfl).choose_spec⟩⟩,⟨_,_,rfl,(gg 4 _ rfl).choose_spec⟩⟩)
 replace H:=H.mkRc (R:=R_api_Call) (cs:=[.int .i64 (x1159.1),.int .u64 (x1159.2.1),.int .i64 (x1159.2.2.1),.string (txb (x1159.2.2.2.1)),.string (txb (x1159.2.2.2.2.1)),.int .i64 (x1159.2.2.2.2.2.1),.int .i64 (x1159.2.2.2.2.2.2.1),.slice p1164 (x1159.2.2.2.2.2.2.2).length c1165]) (x:=(x1159.1,x1159.2.1,(x1159.2.2.1,x1159.2.2.2.1,x1159.2.2.2.2.1,x1159.2.2.2.2.2.1,x1159.2.2.2.2.2.2.1,x1159.2.2.2.2.2.2.2))) (fun gg=>⟨[Value.int .i64 (x1159.1)],_,rfl,rfl,⟨[Value.int .u64 (x1159.2.1)],_,rfl,rfl,⟨[Value.int .i64 (x1159.2.2.1)],_,rfl,rfl,⟨[Value.string (txb (x1159.2.2.2.1))],_,rfl,rfl,⟨[Value.string (txb (x1159.2.2.2.2.1))],_,rfl,rfl,⟨[Value.int .i64 (x1159.2.2.2.2.2.1)],_,rfl,rfl,⟨[Value.int .i64 (x1159.2.2.2.2.2.2.1)],_,rfl,rfl,⟨_,_,rfl,(gg 16 _ rfl).choose_spec⟩⟩⟩⟩⟩⟩⟩⟩)
 obtain ⟨x1184,ex1184,hm⟩:=ob hm
 refine sd F rfl ent35 (w_tDo ex1184 (H.pm 30 [1,0,0,1,2,3,4,5,6,7,8,9,10,11,12,13,14,15,16,17,18,19,20,21,22,23,24,25,26,27,28,29] rfl:):) ?_;rintro _ w a ⟨cs1185,cs1186,rfl,H⟩ F
 refine bb [0,0,0,0] F H rfl fun a F=>?_
 replace H:=H.owNil R_api_Pair 103
 replace H:=H.owNil R_api_Snap 41
 replace H:=H.owNil R_api_Seat 75
 refine s_allocA wkP F rfl rfl rfl agz69 rfl H fun b1187 w a H F=>?_
 replace H:=H.owNil rByte 5
 replace H:=H.owNil rStr 9
 refine s_allocA wkP F rfl rfl rfl agz35 rfl H fun b1188 w a H F=>?_
 have G:=F;replace H:=rc_api_Whole (H.pk 7 rfl);obtain ⟨u1189,p1190,c1191,rfl,J⟩:=H;have H:=J;have F:=G;clear G J
 have G:=F;replace H:=rc_api_State (H.pk 0 rfl);obtain ⟨p1192,c1193,p1194,c1195,rfl,J⟩:=H;have H:=J;have F:=G;clear G J
 refine s_storeA wkP F rfl rfl agg69 rfl rfl rfl H 6 rfl rfl rfl (fl rfl) fun w H=>?_
 have G:=F;replace H:=rc_api_Answer (H.pk 10 rfl);obtain ⟨p1196,c1197,p1198,c1199,rfl,J⟩:=H;have H:=J;have F:=G;clear G J
 refine s_storeA wkP F rfl rfl agg35 rfl rfl rfl H 5 rfl rfl rfl (fl rfl) fun w H=>?_
 refine bb [0] F H rfl fun a F=>?_
 replace H:=H.nf 42 rfl
 refine nl (sr (bk [0,30000,0,0] F H rfl ⟨fld71_0,rfl,plain3,trivial⟩ fun a F=>?_))
 rcases spP 53 F rfl hm with ⟨hg1200,hm,F⟩ | ⟨hg1200,hm,F⟩
 refine bk [0,30000,0,0,0] F H rfl ⟨fld71_0,rfl,plain3,trivial⟩ fun a F=>?_
 refine nl (sq (sb [0,0,0,0] F H rfl fun a F=>?_))
 rcases spP 61 F rfl hm with ⟨hg1201,hm,F⟩ | ⟨hg1201,hm,F⟩
 refine bk [1,30001,0,0,30000] F H rfl ⟨fld71_1,rfl,plain38,fld71_0,rfl,plain3,trivial⟩ fun a F=>?_
 refine g_onP F rfl rfl rfl rfl ?_
 obtain ⟨es1202,H⟩:=H.mmOpen 34 rfl
 obtain ⟨cs1203,hcs1203,H⟩:=H.mxGet 34 rfl x1159.1 (zc:=[Value.int .u64 0]) (z0:=0) (fun _=>rfl)
 obtain rfl:=H.rcI 0 rfl
 replace H:=H.dp 0 rfl
 refine sv F rfl (y_mxGet (agg:=false) (zc:=[Value.int .u64 0]) F Tryz.underlying91 (keyInt Tryz.underlying3) (fun w=>zero38.run w) rfl H 34 rfl rfl (k:=x1159.1) rfl trivial hcs1203) fun a F=>?_
 refine bb [0,0] F H rfl fun a F=>?_
 refine sv F rfl (y_neqBool (p:=decide (x1168.2.2=0)) (q:=decide (((s1051.2.1 x1159.1).getD 0)<x1159.2.1)) F rfl Tryz.underlying4 rfl rfl) fun a F=>?_
 refine nl ?_
 replace H:=H.mxShut 34 rfl
 refine cNm F rfl hm (fun hg1204 hm=>?_) (fun hg1204 hm=>?_)
 refine sb [0] F H rfl fun a F=>?_
 replace H:=H.nf 42 rfl
 refine nl (wr (tr (br (tr ?_))))
 cases hm
 replace hm:=elimR hm1155
 refine tr (tr ?_);cases hm;refine ⟨_,rfl,?_⟩;rintro rfl
 refine br (tr ?_)
 replace hm:=elimR hm635
 refine tr ?_
 cases hm
 refine x_ret1 F rfl rfl ?_
 exact ⟨_,rfl,rfl,(H.pm 42 [] rfl:)⟩
 refine sk (ct (sq (sb [0,0] F H rfl fun a F=>?_)))
 replace H:=H.nf 42 rfl
 refine nl (xr0 42 [3,4,7,10,21,22,23] [0,1,2,3,4,5,6,7,8,9,10,11,14,15,16,17,18,19,20,21,22,23,24,25,29,30,31,32,33,35,36,37,38,39,40,41] F H hm rfl rfl (fun r1211 z=>z) (fun r1211 z=>HP.mm (some m7) (Value.int .i64) false (rInt .u64) (fun _=>True) r1211::z) (fun o1211 hm hm1211=>?_) (fun r1211 a w hm F H=>?_))
 refine cPm F rfl hm (fun hg1212 hm=>?_) (fun hg1212 hm=>?_)
 refine sr (bk [0,0,30000,1,30001] F H rfl ⟨fld71_0,rfl,plain3,fld71_1,rfl,plain38,trivial⟩ fun a F=>?_)
 refine s_mmSet wkP F rfl rfl Tryz.underlying91 (keyInt Tryz.underlying3) rfl H 34 rfl rfl (k:=x1159.1) rfl (cs:=[.int .u64 (x1159.2.1)]) rfl trivial (v:=x1159.2.1) (fun gg=>rfl) fun w H=>?_
 replace H:=H.nf 42 rfl
 refine nb [0,0,0] F H rfl fun a F=>?_
 rcases spN 80 F rfl hm with ⟨hg1213,hm,F⟩ | ⟨hg1213,hm,F⟩
 refine bk [19999,5999] F H rfl ⟨rfl,(aggn agg35 rfl),rfl,(aggn agg35 rfl),trivial⟩ fun a F=>?_
 refine g_onP F rfl rfl rfl rfl ?_
 replace H:=H.mkRc (R:=R_api_Answer) (cs:=[.int .i64 (x1168.2.1.1),.int .i64 (x1168.2.1.2.1),.slice p1180 (x1168.2.1.2.2.1).length c1181,.slice p1182 (x1168.2.1.2.2.2).length c1183]) (x:=(x1168.2.1.1,x1168.2.1.2.1,x1168.2.1.2.2.1,x1168.2.1.2.2.2)) (fun gg=>⟨_,_,rfl,rfl,⟨_,_,rfl,rfl,⟨_,_,rfl,⟨_,_,rfl,(gg 14 _ rfl).choose_spec⟩,⟨_,_,rfl,(gg 15 _ rfl).choose_spec⟩⟩⟩⟩)
 replace H:=H.mkRc (R:=R_api_Answer) (cs:=[.int .i64 (x1184.2.1.1),.int .i64 (x1184.2.1.2.1),.slice p1196 (x1184.2.1.2.2.1).length c1197,.slice p1198 (x1184.2.1.2.2.2).length c1199]) (x:=(x1184.2.1.1,x1184.2.1.2.1,x1184.2.1.2.2.1,x1184.2.1.2.2.2)) (fun gg=>⟨_,_,rfl,rfl,⟨_,_,rfl,rfl,⟨_,_,rfl,⟨_,_,rfl,(gg 1 _ rfl).choose_spec⟩,⟨_,_,rfl,(gg 2 _ rfl).choose_spec⟩⟩⟩⟩)
 obtain ⟨x1214,ex1214,hm⟩:=ob hm
 refine sd F rfl ent26 (w_rSameAns ex1214 (H.pm 44 [1,0,0,1,2,3,4,5,6,7,8,9,10,11,12,13,14,15,16,17,18,19,20,21,22,23,24,25,26,27,28,29,30,31,32,33,34,35,36,37,38,39,40,41,42,43] rfl:):) ?_;rintro _ w a ⟨rfl,H⟩ F
 refine bb [0,0] F H rfl fun a F=>?_
 replace H:=H.nf 44 rfl
 refine nl (cB F rfl (fun hg1215=>?_) (fun hg1215=>?_))
 replace hm:=ifT hg1215 hm
 refine sb [0] F H rfl fun a F=>?_
 refine nl (wr (tr ?_))
 cases hm
 replace hm:=elimR hm1211
 refine tr (br (tr ?_))
 cases hm
 replace hm:=elimR hm1155
 refine tr (tr ?_);cases hm;refine ⟨_,rfl,?_⟩;rintro rfl
 refine br (tr ?_)
 replace hm:=elimR hm635
 refine tr ?_
 cases hm
 refine x_ret1 F rfl rfl ?_
 exact ⟨_,rfl,rfl,(H.pm 44 [] rfl:)⟩
 replace hm:=ifF (nT hg1215) hm
 refine sk ?_
 cases hm
 refine ct ?_
 exact ⟨_,rfl,F.sl rfl,(H.pm 44 [36,2,3,4,5,6,7,8,9,10,11,12,13,16,17,18,19,20,21,22,23,24,25,26,27,31,32,33,34,35,37,38,39,40,41,42,43] rfl:)⟩
 refine bb (List.replicate 5 0) F H rfl fun a F=>?_
 refine nl (cT F rfl ?_)
 refine sb [0] F H rfl fun a F=>?_
 refine nl (wr (tr ?_))
 cases hm
 replace hm:=elimR hm1211
 refine tr (br (tr ?_))
 cases hm
 replace hm:=elimR hm1155
 refine tr (tr ?_);cases hm;refine ⟨_,rfl,?_⟩;rintro rfl
 refine br (tr ?_)
 replace hm:=elimR hm635
 refine tr ?_
 cases hm
 refine x_ret1 F rfl rfl ?_
 exact ⟨_,rfl,rfl,(H.pm 42 [] rfl:)⟩
 refine sr (bk [22999,33999] F H rfl ⟨rfl,(aggn agg69 rfl),rfl,(aggn agg69 rfl),trivial⟩ fun a F=>?_)
 replace H:=H.mkRc (R:=R_api_Whole) (cs:=[.slice p1176 (x1168.1.1.1).length c1177,.slice p1178 (x1168.1.1.2).length c1179,.slice p1174 (x1168.1.2).length c1175]) (x:=((x1168.1.1.1,x1168.1.1.2),x1168.1.2)) (fun gg=>⟨[Value.slice p1176 (x1168.1.1.1).length c1177,.slice p1178 (x1168.1.1.2).length c1179],_,rfl,⟨[Value.slice p1176 (x1168.1.1.1).length c1177],_,rfl,⟨_,_,rfl,(gg 16 _ rfl).choose_spec⟩,⟨_,_,rfl,(gg 17 _ rfl).choose_spec⟩⟩,⟨_,_,rfl,(gg 18 _ rfl).choose_spec⟩⟩)
 replace H:=H.mkRc (R:=R_api_Whole) (cs:=[.slice p1052 (s1051.1.1.1).length c1052,.slice p1053 (s1051.1.1.2).length c1053,.slice p1054 (s1051.1.2).length c1054]) (x:=((s1051.1.1.1,s1051.1.1.2),s1051.1.2)) (fun gg=>⟨[Value.slice p1052 (s1051.1.1.1).length c1052,.slice p1053 (s1051.1.1.2).length c1053],_,rfl,⟨[Value.slice p1052 (s1051.1.1.1).length c1052],_,rfl,⟨_,_,rfl,(gg 36 _ rfl).choose_spec⟩,⟨_,_,rfl,(gg 37 _ rfl).choose_spec⟩⟩,⟨_,_,rfl,(gg 38 _ rfl).choose_spec⟩⟩)
 obtain ⟨x1216,ex1216,hm⟩:=ob hm
 refine sd F rfl ent38 (w_rSameW ex1216 (H.pm 44 [1,0,0,1,2,3,4,5,6,7,8,9,10,11,12,13,14,15,16,17,18,19,20,21,22,23,24,25,26,27,28,29,30,31,32,33,34,35,36,37,38,39,40,41,42,43] rfl:):) ?_;rintro _ w a ⟨rfl,H⟩ F
 refine bb [0] F H rfl fun a F=>?_
 replace H:=H.nf 44 rfl
 refine nl (cB F rfl (fun hg1217=>?_) (fun hg1217=>?_))
 replace hm:=ifT hg1217 hm
 refine sb [0] F H rfl fun a F=>?_
 refine nl (wr (tr ?_))
 cases hm
 replace hm:=elimR hm1211
 refine tr (br (tr ?_))
 cases hm
 replace hm:=elimR hm1155
 refine tr (tr ?_);cases hm;refine ⟨_,rfl,?_⟩;rintro rfl
 refine br (tr ?_)
 replace hm:=elimR hm635
 refine tr ?_
 cases hm
 refine x_ret1 F rfl rfl ?_
 exact ⟨_,rfl,rfl,(H.pm 44 [] rfl:)⟩
 replace hm:=ifF (nT hg1217) hm
 refine sk ?_
 cases hm
 refine ct ?_
 exact ⟨_,rfl,F.sl rfl,(H.pm 44 [36,2,3,4,5,6,7,8,9,10,11,12,13,16,17,18,19,20,21,22,23,24,25,26,27,31,32,33,34,35,37,38,39,40,41,42,43] rfl:)⟩
 refine ct (sq (sr (bk [9999,21999] F H rfl ⟨rfl,(aggn agg69 rfl),rfl,(aggn agg69 rfl),trivial⟩ fun a F=>?_)))
 replace H:=H.mkRc (R:=R_api_Whole) (cs:=[.slice p1192 (x1184.1.1.1).length c1193,.slice p1194 (x1184.1.1.2).length c1195,.slice p1190 (x1184.1.2).length c1191]) (x:=((x1184.1.1.1,x1184.1.1.2),x1184.1.2)) (fun gg=>⟨[Value.slice p1192 (x1184.1.1.1).length c1193,.slice p1194 (x1184.1.1.2).length c1195],_,rfl,⟨[Value.slice p1192 (x1184.1.1.1).length c1193],_,rfl,⟨_,_,rfl,(gg 3 _ rfl).choose_spec⟩,⟨_,_,rfl,(gg 4 _ rfl).choose_spec⟩⟩,⟨_,_,rfl,(gg 5 _ rfl).choose_spec⟩⟩)
 replace H:=H.mkRc (R:=R_api_Whole) (cs:=[.slice p1176 (x1168.1.1.1).length c1177,.slice p1178 (x1168.1.1.2).length c1179,.slice p1174 (x1168.1.2).length c1175]) (x:=((x1168.1.1.1,x1168.1.1.2),x1168.1.2)) (fun gg=>⟨[Value.slice p1176 (x1168.1.1.1).length c1177,.slice p1178 (x1168.1.1.2).length c1179],_,rfl,⟨[Value.slice p1176 (x1168.1.1.1).length c1177],_,rfl,⟨_,_,rfl,(gg 16 _ rfl).choose_spec⟩,⟨_,_,rfl,(gg 17 _ rfl).choose_spec⟩⟩,⟨_,_,rfl,(gg 18 _ rfl).choose_spec⟩⟩)
 obtain ⟨x1218,ex1218,hm⟩:=ob hm
 refine sd F rfl ent38 (w_rSameW ex1218 (H.pm 39 [1,0,0,1,2,3,4,5,6,7,8,9,10,11,12,13,14,15,16,17,18,19,20,21,22,23,24,25,26,27,28,29,30,31,32,33,34,35,36,37,38] rfl:):) ?_;rintro _ w a ⟨rfl,H⟩ F
 refine bb [0,0] F H rfl fun a F=>?_
 by_cases hg1219:(!x1218)=true
 replace hm:=ifT hg1219 hm
 replace F:=F.vT 94 hg1219 rfl
 refine bb [0,0,0,0] F H rfl fun a F=>?_
 replace H:=H.nf 39 rfl
 refine nl (cT F rfl ?_)
 refine sb [0] F H rfl fun a F=>?_
 refine nl (wr (tr (br (tr ?_))))
 cases hm
 replace hm:=elimR hm1155
 refine tr (tr ?_);cases hm;refine ⟨_,rfl,?_⟩;rintro rfl
 refine br (tr ?_)
 replace hm:=elimR hm635
 refine tr ?_
 cases hm
 refine x_ret1 F rfl rfl ?_
 exact ⟨_,rfl,rfl,(H.pm 39 [] rfl:)⟩
 replace hm:=ifF hg1219 hm
 replace F:=F.vF 94 hg1219 rfl
 refine bk [23999] F H rfl ⟨rfl,(aggn agg69 rfl),trivial⟩ fun a F=>?_
 refine g_onP F rfl rfl rfl rfl ?_
 replace H:=H.mkRc (R:=R_api_Whole) (cs:=[.slice p1176 (x1168.1.1.1).length c1177,.slice p1178 (x1168.1.1.2).length c1179,.slice p1174 (x1168.1.2).length c1175]) (x:=((x1168.1.1.1,x1168.1.1.2),x1168.1.2)) (fun gg=>⟨[Value.slice p1176 (x1168.1.1.1).length c1177,.slice p1178 (x1168.1.1.2).length c1179],_,rfl,⟨[Value.slice p1176 (x1168.1.1.1).length c1177],_,rfl,⟨_,_,rfl,(gg 17 _ rfl).choose_spec⟩,⟨_,_,rfl,(gg 18 _ rfl).choose_spec⟩⟩,⟨_,_,rfl,(gg 19 _ rfl).choose_spec⟩⟩)
 obtain ⟨x1220,ex1220,hm⟩:=ob hm
 refine sd F rfl ent36 (w_tCheck ex1220 (H.pm 40 [0,0,1,2,3,4,5,6,7,8,9,10,11,12,13,14,15,16,17,18,19,20,21,22,23,24,25,26,27,28,29,30,31,32,33,34,35,36,37,38,39] rfl:):) ?_;rintro _ w a ⟨rfl,H⟩ F
 refine bb [0,0] F H rfl fun a F=>?_
 replace H:=H.nf 40 rfl
 refine nl (cNm F rfl hm (fun hg1221 hm=>?_) (fun hg1221 hm=>?_))
 refine sb [0] F H rfl fun a F=>?_
 refine nl (wr (tr (br (tr ?_))))
 cases hm
 replace hm:=elimR hm1155
 refine tr (tr ?_);cases hm;refine ⟨_,rfl,?_⟩;rintro rfl
 refine br (tr ?_)
 replace hm:=elimR hm635
 refine tr ?_
 cases hm
 refine x_ret1 F rfl rfl ?_
 exact ⟨_,rfl,rfl,(H.pm 40 [] rfl:)⟩
 refine sk (ct (rl (bk [24999] F H rfl ⟨rfl,(aggn agg69 rfl),trivial⟩ fun a F=>?_)))
 refine s_storeA wkP F rfl rfl agg69 rfl rfl rfl H 32 rfl rfl rfl (fl rfl) fun w H=>?_
 replace H:=H.nf 40 rfl
 refine lz (bn ?_)
 cases hm
 refine ct ?_
 exact ⟨_,rfl,p1176,c1177,p1178,c1179,p1174,c1175,F.sl rfl,(H.pm 40 [32,3,18,19,20,36,37,38,39] rfl:)⟩
 refine bb (List.replicate 8 0) F H rfl fun a F=>?_
 refine sv F rfl (y_neqBool (p:=decide (x1168.2.2=0)) (q:=false) F rfl Tryz.underlying4 rfl rfl) fun a F=>?_
 refine nl (cNm F rfl hm (fun hg1222 hm=>?_) (fun hg1222 hm=>?_))
 refine sb [0] F H rfl fun a F=>?_
 refine nl (wr (tr (br (tr ?_))))
 cases hm
 replace hm:=elimR hm1155
 refine tr (tr ?_);cases hm;refine ⟨_,rfl,?_⟩;rintro rfl
 refine br (tr ?_)
 replace hm:=elimR hm635
 refine tr ?_
 cases hm
 refine x_ret1 F rfl rfl ?_
 exact ⟨_,rfl,rfl,(H.pm 42 [] rfl:)⟩
 refine sk (ct (sq (sb [0,0] F H rfl fun a F=>?_)))
 refine nl (xr0 42 [3,4,7,10,21,22,23] [0,1,2,3,4,5,6,7,8,9,10,11,14,15,16,17,18,19,20,21,22,23,24,25,29,30,31,32,33,35,36,37,38,39,40,41] F H hm rfl rfl (fun r1229 z=>z) (fun r1229 z=>HP.mm (some m7) (Value.int .i64) false (rInt .u64) (fun _=>True) r1229::z) (fun o1229 hm hm1229=>?_) (fun r1229 a w hm F H=>?_))
 refine cPm F rfl hm (fun hg1230 hm=>?_) (fun hg1230 hm=>?_)
 refine sr (bk [0,0,30000,1,30001] F H rfl ⟨fld71_0,rfl,plain3,fld71_1,rfl,plain38,trivial⟩ fun a F=>?_)
 refine s_mmSet wkP F rfl rfl Tryz.underlying91 (keyInt Tryz.underlying3) rfl H 34 rfl rfl (k:=x1159.1) rfl (cs:=[.int .u64 (x1159.2.1)]) rfl trivial (v:=x1159.2.1) (fun gg=>rfl) fun w H=>?_
 replace H:=H.nf 42 rfl
 refine nb [0,0,0] F H rfl fun a F=>?_
 rcases spN 80 F rfl hm with ⟨hg1231,hm,F⟩ | ⟨hg1231,hm,F⟩
 refine bk [19999,5999] F H rfl ⟨rfl,(aggn agg35 rfl),rfl,(aggn agg35 rfl),trivial⟩ fun a F=>?_
 refine g_onP F rfl rfl rfl rfl ?_
 replace H:=H.mkRc (R:=R_api_Answer) (cs:=[.int .i64 (x1168.2.1.1),.int .i64 (x1168.2.1.2.1),.slice p1180 (x1168.2.1.2.2.1).length c1181,.slice p1182 (x1168.2.1.2.2.2).length c1183]) (x:=(x1168.2.1.1,x1168.2.1.2.1,x1168.2.1.2.2.1,x1168.2.1.2.2.2)) (fun gg=>⟨_,_,rfl,rfl,⟨_,_,rfl,rfl,⟨_,_,rfl,⟨_,_,rfl,(gg 14 _ rfl).choose_spec⟩,⟨_,_,rfl,(gg 15 _ rfl).choose_spec⟩⟩⟩⟩)
 replace H:=H.mkRc (R:=R_api_Answer) (cs:=[.int .i64 (x1184.2.1.1),.int .i64 (x1184.2.1.2.1),.slice p1196 (x1184.2.1.2.2.1).length c1197,.slice p1198 (x1184.2.1.2.2.2).length c1199]) (x:=(x1184.2.1.1,x1184.2.1.2.1,x1184.2.1.2.2.1,x1184.2.1.2.2.2)) (fun gg=>⟨_,_,rfl,rfl,⟨_,_,rfl,rfl,⟨_,_,rfl,⟨_,_,rfl,(gg 1 _ rfl).choose_spec⟩,⟨_,_,rfl,(gg 2 _ rfl).choose_spec⟩⟩⟩⟩)
 obtain ⟨x1232,ex1232,hm⟩:=ob hm
 refine sd F rfl ent26 (w_rSameAns ex1232 (H.pm 44 [1,0,0,1,2,3,4,5,6,7,8,9,10,11,12,13,14,15,16,17,18,19,20,21,22,23,24,25,26,27,28,29,30,31,32,33,34,35,36,37,38,39,40,41,42,43] rfl:):) ?_;rintro _ w a ⟨rfl,H⟩ F
 refine bb [0,0] F H rfl fun a F=>?_
 replace H:=H.nf 44 rfl
 refine nl (cB F rfl (fun hg1233=>?_) (fun hg1233=>?_))
 replace hm:=ifT hg1233 hm
 refine sb [0] F H rfl fun a F=>?_
 refine nl (wr (tr ?_))
 cases hm
 replace hm:=elimR hm1229
 refine tr (br (tr ?_))
 cases hm
 replace hm:=elimR hm1155
 refine tr (tr ?_);cases hm;refine ⟨_,rfl,?_⟩;rintro rfl
 refine br (tr ?_)
 replace hm:=elimR hm635
 refine tr ?_
 cases hm
 refine x_ret1 F rfl rfl ?_
 exact ⟨_,rfl,rfl,(H.pm 44 [] rfl:)⟩
 replace hm:=ifF (nT hg1233) hm
 refine sk ?_
 cases hm
 refine ct ?_
 exact ⟨_,rfl,F.sl rfl,(H.pm 44 [36,2,3,4,5,6,7,8,9,10,11,12,13,16,17,18,19,20,21,22,23,24,25,26,27,31,32,33,34,35,37,38,39,40,41,42,43] rfl:)⟩
 refine bb (List.replicate 5 0) F H rfl fun a F=>?_
 refine nl (cT F rfl ?_)
 refine sb [0] F H rfl fun a F=>?_
 refine nl (wr (tr ?_))
 cases hm
 replace hm:=elimR hm1229
 refine tr (br (tr ?_))
 cases hm
 replace hm:=elimR hm1155
 refine tr (tr ?_);cases hm;refine ⟨_,rfl,?_⟩;rintro rfl
 refine br (tr ?_)
 replace hm:=elimR hm635
 refine tr ?_
 cases hm
 refine x_ret1 F rfl rfl ?_
 exact ⟨_,rfl,rfl,(H.pm 42 [] rfl:)⟩
 refine sr (bk [22999,33999] F H rfl ⟨rfl,(aggn agg69 rfl),rfl,(aggn agg69 rfl),trivial⟩ fun a F=>?_)
 replace H:=H.mkRc (R:=R_api_Whole) (cs:=[.slice p1176 (x1168.1.1.1).length c1177,.slice p1178 (x1168.1.1.2).length c1179,.slice p1174 (x1168.1.2).length c1175]) (x:=((x1168.1.1.1,x1168.1.1.2),x1168.1.2)) (fun gg=>⟨[Value.slice p1176 (x1168.1.1.1).length c1177,.slice p1178 (x1168.1.1.2).length c1179],_,rfl,⟨[Value.slice p1176 (x1168.1.1.1).length c1177],_,rfl,⟨_,_,rfl,(gg 16 _ rfl).choose_spec⟩,⟨_,_,rfl,(gg 17 _ rfl).choose_spec⟩⟩,⟨_,_,rfl,(gg 18 _ rfl).choose_spec⟩⟩)
 replace H:=H.mkRc (R:=R_api_Whole) (cs:=[.slice p1052 (s1051.1.1.1).length c1052,.slice p1053 (s1051.1.1.2).length c1053,.slice p1054 (s1051.1.2).length c1054]) (x:=((s1051.1.1.1,s1051.1.1.2),s1051.1.2)) (fun gg=>⟨[Value.slice p1052 (s1051.1.1.1).length c1052,.slice p1053 (s1051.1.1.2).length c1053],_,rfl,⟨[Value.slice p1052 (s1051.1.1.1).length c1052],_,rfl,⟨_,_,rfl,(gg 36 _ rfl).choose_spec⟩,⟨_,_,rfl,(gg 37 _ rfl).choose_spec⟩⟩,⟨_,_,rfl,(gg 38 _ rfl).choose_spec⟩⟩)
 obtain ⟨x1234,ex1234,hm⟩:=ob hm
 refine sd F rfl ent38 (w_rSameW ex1234 (H.pm 44 [1,0,0,1,2,3,4,5,6,7,8,9,10,11,12,13,14,15,16,17,18,19,20,21,22,23,24,25,26,27,28,29,30,31,32,33,34,35,36,37,38,39,40,41,42,43] rfl:):) ?_;rintro _ w a ⟨rfl,H⟩ F
 refine bb [0] F H rfl fun a F=>?_
 replace H:=H.nf 44 rfl
 refine nl (cB F rfl (fun hg1235=>?_) (fun hg1235=>?_))
 replace hm:=ifT hg1235 hm
 refine sb [0] F H rfl fun a F=>?_
 refine nl (wr (tr ?_))
 cases hm
 replace hm:=elimR hm1229
 refine tr (br (tr ?_))
 cases hm
 replace hm:=elimR hm1155
 refine tr (tr ?_);cases hm;refine ⟨_,rfl,?_⟩;rintro rfl
 refine br (tr ?_)
 replace hm:=elimR hm635
 refine tr ?_
 cases hm
 refine x_ret1 F rfl rfl ?_
 exact ⟨_,rfl,rfl,(H.pm 44 [] rfl:)⟩
 replace hm:=ifF (nT hg1235) hm
 refine sk ?_
 cases hm
 refine ct ?_
 exact ⟨_,rfl,F.sl rfl,(H.pm 44 [36,2,3,4,5,6,7,8,9,10,11,12,13,16,17,18,19,20,21,22,23,24,25,26,27,31,32,33,34,35,37,38,39,40,41,42,43] rfl:)⟩
 refine ct (sq (sr (bk [9999,21999] F H rfl ⟨rfl,(aggn agg69 rfl),rfl,(aggn agg69 rfl),trivial⟩ fun a F=>?_)))
 replace H:=H.mkRc (R:=R_api_Whole) (cs:=[.slice p1192 (x1184.1.1.1).length c1193,.slice p1194 (x1184.1.1.2).length c1195,.slice p1190 (x1184.1.2).length c1191]) (x:=((x1184.1.1.1,x1184.1.1.2),x1184.1.2)) (fun gg=>⟨[Value.slice p1192 (x1184.1.1.1).length c1193,.slice p1194 (x1184.1.1.2).length c1195],_,rfl,⟨[Value.slice p1192 (x1184.1.1.1).length c1193],_,rfl,⟨_,_,rfl,(gg 3 _ rfl).choose_spec⟩,⟨_,_,rfl,(gg 4 _ rfl).choose_spec⟩⟩,⟨_,_,rfl,(gg 5 _ rfl).choose_spec⟩⟩)
 replace H:=H.mkRc (R:=R_api_Whole) (cs:=[.slice p1176 (x1168.1.1.1).length c1177,.slice p1178 (x1168.1.1.2).length c1179,.slice p1174 (x1168.1.2).length c1175]) (x:=((x1168.1.1.1,x1168.1.1.2),x1168.1.2)) (fun gg=>⟨[Value.slice p1176 (x1168.1.1.1).length c1177,.slice p1178 (x1168.1.1.2).length c1179],_,rfl,⟨[Value.slice p1176 (x1168.1.1.1).length c1177],_,rfl,⟨_,_,rfl,(gg 16 _ rfl).choose_spec⟩,⟨_,_,rfl,(gg 17 _ rfl).choose_spec⟩⟩,⟨_,_,rfl,(gg 18 _ rfl).choose_spec⟩⟩)
 obtain ⟨x1236,ex1236,hm⟩:=ob hm
 refine sd F rfl ent38 (w_rSameW ex1236 (H.pm 39 [1,0,0,1,2,3,4,5,6,7,8,9,10,11,12,13,14,15,16,17,18,19,20,21,22,23,24,25,26,27,28,29,30,31,32,33,34,35,36,37,38] rfl:):) ?_;rintro _ w a ⟨rfl,H⟩ F
 refine bb [0,0] F H rfl fun a F=>?_
 by_cases hg1237:(!x1236)=true
 replace hm:=ifT hg1237 hm
 replace F:=F.vT 94 hg1237 rfl
 refine bb [0,0,0,0] F H rfl fun a F=>?_
 replace H:=H.nf 39 rfl
 refine nl (cT F rfl ?_)
 refine sb [0] F H rfl fun a F=>?_
 refine nl (wr (tr (br (tr ?_))))
 cases hm
 replace hm:=elimR hm1155
 refine tr (tr ?_);cases hm;refine ⟨_,rfl,?_⟩;rintro rfl
 refine br (tr ?_)
 replace hm:=elimR hm635
 refine tr ?_
 cases hm
 refine x_ret1 F rfl rfl ?_
 exact ⟨_,rfl,rfl,(H.pm 39 [] rfl:)⟩
 replace hm:=ifF hg1237 hm
 replace F:=F.vF 94 hg1237 rfl
 refine bk [23999] F H rfl ⟨rfl,(aggn agg69 rfl),trivial⟩ fun a F=>?_
 refine g_onP F rfl rfl rfl rfl ?_
 replace H:=H.mkRc (R:=R_api_Whole) (cs:=[.slice p1176 (x1168.1.1.1).length c1177,.slice p1178 (x1168.1.1.2).length c1179,.slice p1174 (x1168.1.2).length c1175]) (x:=((x1168.1.1.1,x1168.1.1.2),x1168.1.2)) (fun gg=>⟨[Value.slice p1176 (x1168.1.1.1).length c1177,.slice p1178 (x1168.1.1.2).length c1179],_,rfl,⟨[Value.slice p1176 (x1168.1.1.1).length c1177],_,rfl,⟨_,_,rfl,(gg 17 _ rfl).choose_spec⟩,⟨_,_,rfl,(gg 18 _ rfl).choose_spec⟩⟩,⟨_,_,rfl,(gg 19 _ rfl).choose_spec⟩⟩)
 obtain ⟨x1238,ex1238,hm⟩:=ob hm
 refine sd F rfl ent36 (w_tCheck ex1238 (H.pm 40 [0,0,1,2,3,4,5,6,7,8,9,10,11,12,13,14,15,16,17,18,19,20,21,22,23,24,25,26,27,28,29,30,31,32,33,34,35,36,37,38,39] rfl:):) ?_;rintro _ w a ⟨rfl,H⟩ F
 refine bb [0,0] F H rfl fun a F=>?_
 replace H:=H.nf 40 rfl
 refine nl (cNm F rfl hm (fun hg1239 hm=>?_) (fun hg1239 hm=>?_))
 refine sb [0] F H rfl fun a F=>?_
 refine nl (wr (tr (br (tr ?_))))
 cases hm
 replace hm:=elimR hm1155
 refine tr (tr ?_);cases hm;refine ⟨_,rfl,?_⟩;rintro rfl
 refine br (tr ?_)
 replace hm:=elimR hm635
 refine tr ?_
 cases hm
 refine x_ret1 F rfl rfl ?_
 exact ⟨_,rfl,rfl,(H.pm 40 [] rfl:)⟩
 refine sk (ct (rl (bk [24999] F H rfl ⟨rfl,(aggn agg69 rfl),trivial⟩ fun a F=>?_)))
 refine s_storeA wkP F rfl rfl agg69 rfl rfl rfl H 32 rfl rfl rfl (fl rfl) fun w H=>?_
 replace H:=H.nf 40 rfl
 refine lz (bn ?_)
 cases hm
 refine ct ?_
 exact ⟨_,rfl,p1176,c1177,p1178,c1179,p1174,c1175,F.sl rfl,(H.pm 40 [32,3,18,19,20,36,37,38,39] rfl:)⟩
 refine bb (List.replicate 5 0) F H rfl fun a F=>?_
 refine nl (sq (sb (List.replicate 12 0) F H rfl fun a F=>?_))
 refine sv F rfl (y_neqBool (p:=decide (x1168.2.2=0)) (q:=false) F rfl Tryz.underlying4 rfl rfl) fun a F=>?_
 refine nl (cNm F rfl hm (fun hg1240 hm=>?_) (fun hg1240 hm=>?_))
 refine sb [0] F H rfl fun a F=>?_
 refine nl (wr (tr (br (tr ?_))))
 cases hm
 replace hm:=elimR hm1155
 refine tr (tr ?_);cases hm;refine ⟨_,rfl,?_⟩;rintro rfl
 refine br (tr ?_)
 replace hm:=elimR hm635
 refine tr ?_
 cases hm
 refine x_ret1 F rfl rfl ?_
 exact ⟨_,rfl,rfl,(H.pm 42 [] rfl:)⟩
 refine sk (ct (sq (sb [0,0] F H rfl fun a F=>?_)))
 refine nl (xr0 42 [3,4,7,10,21,22,23] [0,1,2,3,4,5,6,7,8,9,10,11,14,15,16,17,18,19,20,21,22,23,24,25,29,30,31,32,33,35,36,37,38,39,40,41] F H hm rfl rfl (fun r1247 z=>z) (fun r1247 z=>HP.mm (some m7) (Value.int .i64) false (rInt .u64) (fun _=>True) r1247::z) (fun o1247 hm hm1247=>?_) (fun r1247 a w hm F H=>?_))
 refine cPm F rfl hm (fun hg1248 hm=>?_) (fun hg1248 hm=>?_)
 refine sr (bk [0,0,30000,1,30001] F H rfl ⟨fld71_0,rfl,plain3,fld71_1,rfl,plain38,trivial⟩ fun a F=>?_)
 refine s_mmSet wkP F rfl rfl Tryz.underlying91 (keyInt Tryz.underlying3) rfl H 34 rfl rfl (k:=x1159.1) rfl (cs:=[.int .u64 (x1159.2.1)]) rfl trivial (v:=x1159.2.1) (fun gg=>rfl) fun w H=>?_
 replace H:=H.nf 42 rfl
 refine nb [0,0,0] F H rfl fun a F=>?_
 rcases spN 80 F rfl hm with ⟨hg1249,hm,F⟩ | ⟨hg1249,hm,F⟩
 refine bk [19999,5999] F H rfl ⟨rfl,(aggn agg35 rfl),rfl,(aggn agg35 rfl),trivial⟩ fun a F=>?_
 refine g_onP F rfl rfl rfl rfl ?_
 replace H:=H.mkRc (R:=R_api_Answer) (cs:=[.int .i64 (x1168.2.1.1),.int .i64 (x1168.2.1.2.1),.slice p1180 (x1168.2.1.2.2.1).length c1181,.slice p1182 (x1168.2.1.2.2.2).length c1183]) (x:=(x1168.2.1.1,x1168.2.1.2.1,x1168.2.1.2.2.1,x1168.2.1.2.2.2)) (fun gg=>⟨_,_,rfl,rfl,⟨_,_,rfl,rfl,⟨_,_,rfl,⟨_,_,rfl,(gg 14 _ rfl).choose_spec⟩,⟨_,_,rfl,(gg 15 _ rfl).choose_spec⟩⟩⟩⟩)
 replace H:=H.mkRc (R:=R_api_Answer) (cs:=[.int .i64 (x1184.2.1.1),.int .i64 (x1184.2.1.2.1),.slice p1196 (x1184.2.1.2.2.1).length c1197,.slice p1198 (x1184.2.1.2.2.2).length c1199]) (x:=(x1184.2.1.1,x1184.2.1.2.1,x1184.2.1.2.2.1,x1184.2.1.2.2.2)) (fun gg=>⟨_,_,rfl,rfl,⟨_,_,rfl,rfl,⟨_,_,rfl,⟨_,_,rfl,(gg 1 _ rfl).choose_spec⟩,⟨_,_,rfl,(gg 2 _ rfl).choose_spec⟩⟩⟩⟩)
 obtain ⟨x1250,ex1250,hm⟩:=ob hm
 refine sd F rfl ent26 (w_rSameAns ex1250 (H.pm 44 [1,0,0,1,2,3,4,5,6,7,8,9,10,11,12,13,14,15,16,17,18,19,20,21,22,23,24,25,26,27,28,29,30,31,32,33,34,35,36,37,38,39,40,41,42,43] rfl:):) ?_;rintro _ w a ⟨rfl,H⟩ F
 refine bb [0,0] F H rfl fun a F=>?_
 replace H:=H.nf 44 rfl
 refine nl (cB F rfl (fun hg1251=>?_) (fun hg1251=>?_))
 replace hm:=ifT hg1251 hm
 refine sb [0] F H rfl fun a F=>?_
 refine nl (wr (tr ?_))
 cases hm
 replace hm:=elimR hm1247
 refine tr (br (tr ?_))
 cases hm
 replace hm:=elimR hm1155
 refine tr (tr ?_);cases hm;refine ⟨_,rfl,?_⟩;rintro rfl
 refine br (tr ?_)
 replace hm:=elimR hm635
 refine tr ?_
 cases hm
 refine x_ret1 F rfl rfl ?_
 exact ⟨_,rfl,rfl,(H.pm 44 [] rfl:)⟩
 replace hm:=ifF (nT hg1251) hm
 refine sk ?_
 cases hm
 refine ct ?_
 exact ⟨_,rfl,F.sl rfl,(H.pm 44 [36,2,3,4,5,6,7,8,9,10,11,12,13,16,17,18,19,20,21,22,23,24,25,26,27,31,32,33,34,35,37,38,39,40,41,42,43] rfl:)⟩
 refine bb (List.replicate 5 0) F H rfl fun a F=>?_
 refine nl (cT F rfl ?_)
 refine sb [0] F H rfl fun a F=>?_
 refine nl (wr (tr ?_))
 cases hm
 replace hm:=elimR hm1247
 refine tr (br (tr ?_))
 cases hm
 replace hm:=elimR hm1155
 refine tr (tr ?_);cases hm;refine ⟨_,rfl,?_⟩;rintro rfl
 refine br (tr ?_)
 replace hm:=elimR hm635
 refine tr ?_
 cases hm
 refine x_ret1 F rfl rfl ?_
 exact ⟨_,rfl,rfl,(H.pm 42 [] rfl:)⟩
 refine sr (bk [22999,33999] F H rfl ⟨rfl,(aggn agg69 rfl),rfl,(aggn agg69 rfl),trivial⟩ fun a F=>?_)
 replace H:=H.mkRc (R:=R_api_Whole) (cs:=[.slice p1176 (x1168.1.1.1).length c1177,.slice p1178 (x1168.1.1.2).length c1179,.slice p1174 (x1168.1.2).length c1175]) (x:=((x1168.1.1.1,x1168.1.1.2),x1168.1.2)) (fun gg=>⟨[Value.slice p1176 (x1168.1.1.1).length c1177,.slice p1178 (x1168.1.1.2).length c1179],_,rfl,⟨[Value.slice p1176 (x1168.1.1.1).length c1177],_,rfl,⟨_,_,rfl,(gg 16 _ rfl).choose_spec⟩,⟨_,_,rfl,(gg 17 _ rfl).choose_spec⟩⟩,⟨_,_,rfl,(gg 18 _ rfl).choose_spec⟩⟩)
 replace H:=H.mkRc (R:=R_api_Whole) (cs:=[.slice p1052 (s1051.1.1.1).length c1052,.slice p1053 (s1051.1.1.2).length c1053,.slice p1054 (s1051.1.2).length c1054]) (x:=((s1051.1.1.1,s1051.1.1.2),s1051.1.2)) (fun gg=>⟨[Value.slice p1052 (s1051.1.1.1).length c1052,.slice p1053 (s1051.1.1.2).length c1053],_,rfl,⟨[Value.slice p1052 (s1051.1.1.1).length c1052],_,rfl,⟨_,_,rfl,(gg 36 _ rfl).choose_spec⟩,⟨_,_,rfl,(gg 37 _ rfl).choose_spec⟩⟩,⟨_,_,rfl,(gg 38 _ rfl).choose_spec⟩⟩)
 obtain ⟨x1252,ex1252,hm⟩:=ob hm
 refine sd F rfl ent38 (w_rSameW ex1252 (H.pm 44 [1,0,0,1,2,3,4,5,6,7,8,9,10,11,12,13,14,15,16,17,18,19,20,21,22,23,24,25,26,27,28,29,30,31,32,33,34,35,36,37,38,39,40,41,42,43] rfl:):) ?_;rintro _ w a ⟨rfl,H⟩ F
 refine bb [0] F H rfl fun a F=>?_
 replace H:=H.nf 44 rfl
 refine nl (cB F rfl (fun hg1253=>?_) (fun hg1253=>?_))
 replace hm:=ifT hg1253 hm
 refine sb [0] F H rfl fun a F=>?_
 refine nl (wr (tr ?_))
 cases hm
 replace hm:=elimR hm1247
 refine tr (br (tr ?_))
 cases hm
 replace hm:=elimR hm1155
 refine tr (tr ?_);cases hm;refine ⟨_,rfl,?_⟩;rintro rfl
 refine br (tr ?_)
 replace hm:=elimR hm635
 refine tr ?_
 cases hm
 refine x_ret1 F rfl rfl ?_
 exact ⟨_,rfl,rfl,(H.pm 44 [] rfl:)⟩
 replace hm:=ifF (nT hg1253) hm
 refine sk ?_
 cases hm
 refine ct ?_
 exact ⟨_,rfl,F.sl rfl,(H.pm 44 [36,2,3,4,5,6,7,8,9,10,11,12,13,16,17,18,19,20,21,22,23,24,25,26,27,31,32,33,34,35,37,38,39,40,41,42,43] rfl:)⟩
 refine ct (sq (sr (bk [9999,21999] F H rfl ⟨rfl,(aggn agg69 rfl),rfl,(aggn agg69 rfl),trivial⟩ fun a F=>?_)))
 replace H:=H.mkRc (R:=R_api_Whole) (cs:=[.slice p1192 (x1184.1.1.1).length c1193,.slice p1194 (x1184.1.1.2).length c1195,.slice p1190 (x1184.1.2).length c1191]) (x:=((x1184.1.1.1,x1184.1.1.2),x1184.1.2)) (fun gg=>⟨[Value.slice p1192 (x1184.1.1.1).length c1193,.slice p1194 (x1184.1.1.2).length c1195],_,rfl,⟨[Value.slice p1192 (x1184.1.1.1).length c1193],_,rfl,⟨_,_,rfl,(gg 3 _ rfl).choose_spec⟩,⟨_,_,rfl,(gg 4 _ rfl).choose_spec⟩⟩,⟨_,_,rfl,(gg 5 _ rfl).choose_spec⟩⟩)
 replace H:=H.mkRc (R:=R_api_Whole) (cs:=[.slice p1176 (x1168.1.1.1).length c1177,.slice p1178 (x1168.1.1.2).length c1179,.slice p1174 (x1168.1.2).length c1175]) (x:=((x1168.1.1.1,x1168.1.1.2),x1168.1.2)) (fun gg=>⟨[Value.slice p1176 (x1168.1.1.1).length c1177,.slice p1178 (x1168.1.1.2).length c1179],_,rfl,⟨[Value.slice p1176 (x1168.1.1.1).length c1177],_,rfl,⟨_,_,rfl,(gg 16 _ rfl).choose_spec⟩,⟨_,_,rfl,(gg 17 _ rfl).choose_spec⟩⟩,⟨_,_,rfl,(gg 18 _ rfl).choose_spec⟩⟩)
 obtain ⟨x1254,ex1254,hm⟩:=ob hm
 refine sd F rfl ent38 (w_rSameW ex1254 (H.pm 39 [1,0,0,1,2,3,4,5,6,7,8,9,10,11,12,13,14,15,16,17,18,19,20,21,22,23,24,25,26,27,28,29,30,31,32,33,34,35,36,37,38] rfl:):) ?_;rintro _ w a ⟨rfl,H⟩ F
 refine bb [0,0] F H rfl fun a F=>?_
 by_cases hg1255:(!x1254)=true
 replace hm:=ifT hg1255 hm
 replace F:=F.vT 94 hg1255 rfl
 refine bb [0,0,0,0] F H rfl fun a F=>?_
 replace H:=H.nf 39 rfl
 refine nl (cT F rfl ?_)
 refine sb [0] F H rfl fun a F=>?_
 refine nl (wr (tr (br (tr ?_))))
 cases hm
 replace hm:=elimR hm1155
 refine tr (tr ?_);cases hm;refine ⟨_,rfl,?_⟩;rintro rfl
 refine br (tr ?_)
 replace hm:=elimR hm635
 refine tr ?_
 cases hm
 refine x_ret1 F rfl rfl ?_
 exact ⟨_,rfl,rfl,(H.pm 39 [] rfl:)⟩
 replace hm:=ifF hg1255 hm
 replace F:=F.vF 94 hg1255 rfl
 refine bk [23999] F H rfl ⟨rfl,(aggn agg69 rfl),trivial⟩ fun a F=>?_
 refine g_onP F rfl rfl rfl rfl ?_
 replace H:=H.mkRc (R:=R_api_Whole) (cs:=[.slice p1176 (x1168.1.1.1).length c1177,.slice p1178 (x1168.1.1.2).length c1179,.slice p1174 (x1168.1.2).length c1175]) (x:=((x1168.1.1.1,x1168.1.1.2),x1168.1.2)) (fun gg=>⟨[Value.slice p1176 (x1168.1.1.1).length c1177,.slice p1178 (x1168.1.1.2).length c1179],_,rfl,⟨[Value.slice p1176 (x1168.1.1.1).length c1177],_,rfl,⟨_,_,rfl,(gg 17 _ rfl).choose_spec⟩,⟨_,_,rfl,(gg 18 _ rfl).choose_spec⟩⟩,⟨_,_,rfl,(gg 19 _ rfl).choose_spec⟩⟩)
 obtain ⟨x1256,ex1256,hm⟩:=ob hm
 refine sd F rfl ent36 (w_tCheck ex1256 (H.pm 40 [0,0,1,2,3,4,5,6,7,8,9,10,11,12,13,14,15,16,17,18,19,20,21,22,23,24,25,26,27,28,29,30,31,32,33,34,35,36,37,38,39] rfl:):) ?_;rintro _ w a ⟨rfl,H⟩ F
 refine bb [0,0] F H rfl fun a F=>?_
 replace H:=H.nf 40 rfl
 refine nl (cNm F rfl hm (fun hg1257 hm=>?_) (fun hg1257 hm=>?_))
 refine sb [0] F H rfl fun a F=>?_
 refine nl (wr (tr (br (tr ?_))))
 cases hm
 replace hm:=elimR hm1155
 refine tr (tr ?_);cases hm;refine ⟨_,rfl,?_⟩;rintro rfl
 refine br (tr ?_)
 replace hm:=elimR hm635
 refine tr ?_
 cases hm
 refine x_ret1 F rfl rfl ?_
 exact ⟨_,rfl,rfl,(H.pm 40 [] rfl:)⟩
 refine sk (ct (rl (bk [24999] F H rfl ⟨rfl,(aggn agg69 rfl),trivial⟩ fun a F=>?_)))
 refine s_storeA wkP F rfl rfl agg69 rfl rfl rfl H 32 rfl rfl rfl (fl rfl) fun w H=>?_
 replace H:=H.nf 40 rfl
 refine lz (bn ?_)
 cases hm
 refine ct ?_
 exact ⟨_,rfl,p1176,c1177,p1178,c1179,p1174,c1175,F.sl rfl,(H.pm 40 [32,3,18,19,20,36,37,38,39] rfl:)⟩
 refine ct (rl (bb [0,0] F H rfl fun a F=>?_))
 refine lz (ct ?_);cases hm
 exact ⟨_,rfl,⟨p1156,c1156,p1157,c1157,p1158,c1158,F.sl rfl,H⟩⟩
 refine ex (cx (cx ?_));cases hm;refine ⟨_,rfl,?_⟩;rintro rfl
 refine ch (ct ?_)
 exact ⟨_,rfl,p1052,c1052,p1053,c1053,p1054,c1054,F.cut _ trivial,(H.pm 9 [0,1,2,3,4,5,6,7] rfl:)⟩
 refine ct (sb [0] F H rfl fun a F=>?_)
 refine nl (wr ?_)
 cases hm
 refine x_ret1 F rfl rfl ?_
 exact ⟨_,rfl,rfl,(H.pm 8 [] rfl:)⟩
theorem ent32:En Tryz.prog 32:=enters Tryz.func32 (by kernel_rfl) rfl
theorem w_lApart {w_:T_api_Whole} {c:T_api_Call} {cs1:List Value} {cs2:List Value} {w0 w:World} {l:List HP}  {r:Bool} (hm:lApart w_ c=some r) (H:St w0 w (HP.rc R_api_Whole cs1 w_::HP.rc R_api_Call cs2 c::l)) :
  Calls Tryz.prog 12 [.agg cs1.toArray,.agg cs2.toArray].toArray w (fun e w'=>∃ v,e=.returned v∧v=.bool (r)∧St w0 w' (l)):=by
 unfold lApart at hm
 refine x_enter Tryz.func12 rfl rfl rfl ?_
 intro a F
 have G:=F;replace H:=rc_api_Whole (H.pk 0 rfl);obtain ⟨u3,p4,c5,rfl,J⟩:=H;have H:=J;have F:=G;clear G J
 have G:=F;replace H:=rc_api_State (H.pk 0 rfl);obtain ⟨p6,c7,p8,c9,rfl,J⟩:=H;have H:=J;have F:=G;clear G J
 have G:=F;replace H:=rc_api_Call (H.pk 3 rfl);obtain ⟨v10,rfl,J⟩:=H;have H:=J;have F:=G;clear G J
 have G:=F;replace H:=rc_api_Op (H.pk 0 rfl);obtain ⟨p11,c12,rfl,J⟩:=H;have H:=J;have F:=G;clear G J
 refine sr (s_boxA wkP F rfl rfl rfl rfl rfl H fun b13 w a H F=>?_)
 refine s_boxA wkP F rfl rfl rfl rfl rfl H fun b14 w a H F=>?_
 refine bb [0] F H rfl fun a F=>?_
 replace H:=H.nf 6 rfl
 refine nl (sq (sr ?_))
 obtain ⟨x15,ex15,hm⟩:=ob hm
 refine sd F rfl ent31 (w_l3Speaks ex15 H:) ?_;rintro _ w a ⟨rfl,H⟩ F
 refine bb [0] F H rfl fun a F=>?_
 replace H:=H.nf 6 rfl
 refine nl (cB F rfl (fun hg16=>?_) (fun hg16=>?_))
 replace hm:=ifT hg16 hm
 refine sb [0] F H rfl fun a F=>?_
 refine nl (wr (tr ?_))
 cases hm
 refine x_ret1 F rfl rfl ?_
 exact ⟨_,rfl,rfl,(H.pm 6 [] rfl:)⟩
 replace hm:=ifF (nT hg16) hm
 refine sk (ct (sq (sr (bk [1999] F H rfl ⟨rfl,(aggn agg69 rfl),trivial⟩ fun a F=>?_))))
 replace H:=H.mkRc (R:=R_api_Whole) (cs:=[.slice p6 (w_.1.1).length c7,.slice p8 (w_.1.2).length c9,.slice p4 (w_.2).length c5]) (x:=((w_.1.1,w_.1.2),w_.2)) (fun gg=>⟨[Value.slice p6 (w_.1.1).length c7,.slice p8 (w_.1.2).length c9],_,rfl,⟨[Value.slice p6 (w_.1.1).length c7],_,rfl,⟨_,_,rfl,(gg 3 _ rfl).choose_spec⟩,⟨_,_,rfl,(gg 4 _ rfl).choose_spec⟩⟩,⟨_,_,rfl,(gg 5 _ rfl).choose_spec⟩⟩)
 obtain ⟨x17,ex17,hm⟩:=ob hm
 refine sd F rfl ent32 (w_rGreatW ex17 (H.pm 7 [0,0,1,2,3,4,5,6] rfl:):) ?_;rintro _ w a ⟨rfl,H⟩ F
 refine bb [0] F H rfl fun a F=>?_
 by_cases hg18:x17=true
 replace hm:=ifT hg18 hm
 replace F:=F.vT 18 hg18 rfl
 refine bb (List.replicate 9 0) F H rfl fun a F=>?_
 replace H:=H.nf 7 rfl
 refine nl (cT F rfl ?_)
 refine sb [0] F H rfl fun a F=>?_
 refine nl (wr (tr ?_))
 cases hm
 refine x_ret1 F rfl rfl ?_
 exact ⟨_,rfl,rfl,(H.pm 7 [] rfl:)⟩
 replace hm:=ifF hg18 hm
 replace F:=F.vF 18 hg18 rfl
 refine bk [2] F H rfl ⟨fld71_2,trivial⟩ fun a F=>?_
 refine g_onP F rfl rfl rfl rfl ?_
 refine sv F rfl (y_loadA F agg31 rfl rfl (row_midE (A:=[.int .i64 (c.1),.int .u64 (c.2.1)]) (X:=[.int .i64 (c.2.2.1),.string (txb (c.2.2.2.1)),.string (txb (c.2.2.2.2.1)),.int .i64 (c.2.2.2.2.2.1),.int .i64 (c.2.2.2.2.2.2.1),.slice p11 (c.2.2.2.2.2.2.2).length c12]) (w:=_) ((H.blk 1 rfl).row) (by simp only [List.length_append,List.length_cons,List.length_nil,icells_length,bcells_length])) rfl) fun a F=>?_
 refine g_onP F rfl rfl rfl rfl ?_
 replace H:=H.mkRc (R:=R_api_Op) (cs:=[.int .i64 (c.2.2.1),.string (txb (c.2.2.2.1)),.string (txb (c.2.2.2.2.1)),.int .i64 (c.2.2.2.2.2.1),.int .i64 (c.2.2.2.2.2.2.1),.slice p11 (c.2.2.2.2.2.2.2).length c12]) (x:=(c.2.2.1,c.2.2.2.1,c.2.2.2.2.1,c.2.2.2.2.2.1,c.2.2.2.2.2.2.1,c.2.2.2.2.2.2.2)) (fun gg=>⟨_,_,rfl,rfl,⟨_,_,rfl,rfl,⟨_,_,rfl,rfl,⟨_,_,rfl,rfl,⟨_,_,rfl,rfl,⟨_,_,rfl,(gg 3 _ rfl).choose_spec⟩⟩⟩⟩⟩⟩)
 obtain ⟨x19,ex19,hm⟩:=ob hm
 refine sd F rfl ent19 (w_rGreatOp ex19 (H.pm 8 [0,0,1,2,3,4,5,6,7] rfl:):) ?_;rintro _ w a ⟨rfl,H⟩ F
 refine bb [0,0] F H rfl fun a F=>?_
 by_cases hg20:x19=true
 replace hm:=ifT hg20 hm
 replace F:=F.vT 23 hg20 rfl
 refine bb [0,0,0,0] F H rfl fun a F=>?_
 replace H:=H.nf 8 rfl
 refine nl (cT F rfl ?_)
 refine sb [0] F H rfl fun a F=>?_
 refine nl (wr (tr ?_))
 cases hm
 refine x_ret1 F rfl rfl ?_
 exact ⟨_,rfl,rfl,(H.pm 8 [] rfl:)⟩
 replace hm:=ifF hg20 hm
 replace F:=F.vF 23 hg20 rfl
 refine bk [3999] F H rfl ⟨rfl,(aggn agg69 rfl),trivial⟩ fun a F=>?_
 refine g_onP F rfl rfl rfl rfl ?_
 replace H:=H.mkRc (R:=R_api_Whole) (cs:=[.slice p6 (w_.1.1).length c7,.slice p8 (w_.1.2).length c9,.slice p4 (w_.2).length c5]) (x:=((w_.1.1,w_.1.2),w_.2)) (fun gg=>⟨[Value.slice p6 (w_.1.1).length c7,.slice p8 (w_.1.2).length c9],_,rfl,⟨[Value.slice p6 (w_.1.1).length c7],_,rfl,⟨_,_,rfl,(gg 5 _ rfl).choose_spec⟩,⟨_,_,rfl,(gg 6 _ rfl).choose_spec⟩⟩,⟨_,_,rfl,(gg 7 _ rfl).choose_spec⟩⟩)
 obtain ⟨x21,ex21,hm⟩:=ob hm
 refine sd F rfl ent36 (w_tCheck ex21 (H.pm 9 [0,0,1,2,3,4,5,6,7,8] rfl:):) ?_;rintro _ w a ⟨rfl,H⟩ F
 refine bb [0,0] F H rfl fun a F=>?_
 replace H:=H.nf 9 rfl
 refine nl (cNm F rfl hm (fun hg22 hm=>?_) (fun hg22 hm=>?_))
 refine sb [0] F H rfl fun a F=>?_
 refine nl (wr (tr ?_))
 cases hm
 refine x_ret1 F rfl rfl ?_
 exact ⟨_,rfl,rfl,(H.pm 9 [] rfl:)⟩
 refine sk (ct (sr (bk [4999,3999] F H rfl ⟨rfl,(aggn agg69 rfl),rfl,(aggn agg71 rfl),trivial⟩ fun a F=>?_)))
 replace H:=H.mkRc (R:=R_api_Whole) (cs:=[.slice p6 (w_.1.1).length c7,.slice p8 (w_.1.2).length c9,.slice p4 (w_.2).length c5]) (x:=((w_.1.1,w_.1.2),w_.2)) (fun gg=>⟨[Value.slice p6 (w_.1.1).length c7,.slice p8 (w_.1.2).length c9],_,rfl,⟨[Value.slice p6 (w_.1.1).length c7],_,rfl,⟨_,_,rfl,(gg 6 _ rfl).choose_spec⟩,⟨_,_,rfl,(gg 7 _ rfl).choose_spec⟩⟩,⟨_,_,rfl,(gg 8 _ rfl).choose_spec⟩⟩)
 replace H:=H.mkRc (R:=R_api_Call) (cs:=[.int .i64 (c.1),.int .u64 (c.2.1),.int .i64 (c.2.2.1),.string (txb (c.2.2.2.1)),.string (txb (c.2.2.2.2.1)),.int .i64 (c.2.2.2.2.2.1),.int .i64 (c.2.2.2.2.2.2.1),.slice p11 (c.2.2.2.2.2.2.2).length c12]) (x:=(c.1,c.2.1,(c.2.2.1,c.2.2.2.1,c.2.2.2.2.1,c.2.2.2.2.2.1,c.2.2.2.2.2.2.1,c.2.2.2.2.2.2.2))) (fun gg=>⟨[Value.int .i64 (c.1)],_,rfl,rfl,⟨[Value.int .u64 (c.2.1)],_,rfl,rfl,⟨[Value.int .i64 (c.2.2.1)],_,rfl,rfl,⟨[Value.string (txb (c.2.2.2.1))],_,rfl,rfl,⟨[Value.string (txb (c.2.2.2.2.1))],_,rfl,rfl,⟨[Value.int .i64 (c.2.2.2.2.2.1)],_,rfl,rfl,⟨[Value.int .i64 (c.2.2.2.2.2.2.1)],_,rfl,rfl,⟨_,_,rfl,(gg 6 _ rfl).choose_spec⟩⟩⟩⟩⟩⟩⟩⟩)
 obtain ⟨x23,ex23,hm⟩:=ob hm
 refine sd F rfl ent35 (w_tDo ex23 (H.pm 11 [1,0,0,1,2,3,4,5,6,7,8,9,10] rfl:):) ?_;rintro _ w a ⟨cs24,cs25,rfl,H⟩ F
 refine bb [0,0,0,0] F H rfl fun a F=>?_
 replace H:=H.owNil R_api_Pair 103
 replace H:=H.owNil R_api_Snap 41
 replace H:=H.owNil R_api_Seat 75
 refine s_allocA wkP F rfl rfl rfl agz69 rfl H fun b26 w a H F=>?_
 replace H:=H.owNil rByte 5
 replace H:=H.owNil rStr 9
 refine s_allocA wkP F rfl rfl rfl agz35 rfl H fun b27 w a H F=>?_
 have G:=F;replace H:=rc_api_Whole (H.pk 7 rfl);obtain ⟨u28,p29,c30,rfl,J⟩:=H;have H:=J;have F:=G;clear G J
 have G:=F;replace H:=rc_api_State (H.pk 0 rfl);obtain ⟨p31,c32,p33,c34,rfl,J⟩:=H;have H:=J;have F:=G;clear G J
 refine s_storeA wkP F rfl rfl agg69 rfl rfl rfl H 6 rfl rfl rfl (fl rfl) fun w H=>?_
 have G:=F;replace H:=rc_api_Answer (H.pk 10 rfl);obtain ⟨p35,c36,p37,c38,rfl,J⟩:=H;have H:=J;have F:=G;clear G J
 refine s_storeA wkP F rfl rfl agg35 rfl rfl rfl H 5 rfl rfl rfl (fl rfl) fun w H=>?_
 refine bb [0] F H rfl fun a F=>?_
 replace H:=H.nf 23 rfl
 refine nl (sq (sb [0] F H rfl fun a F=>?_))
 refine nl (xr0 23 [5] [0,1,2,3,4,5,6,7,8,9,10,11,17,18,19,20,21,22] F H hm rfl rfl (fun r718 z=>z) (fun r718 z=>z) (fun o718 hm hm718=>?_) (fun r718 a w hm F H=>?_))
 refine bl (xl0 23 [2,3,5] [0,1,2,3,4,5,6,7,8,9,10,11,17,18,19,20,21,22] F H hm rfl rfl (fun (s1171:Int) z=>(8,.int .i64 (s1171))::z) (fun s1171 z=>z) ⟨F.sl rfl,(H.pm 23 [0,1,2,3,4,5,6,7,8,9,10,11,17,18,19,20,21,22] rfl:)⟩ (fun s1171 a w o F H hm=>?_))
 refine sq (sb [0,0] F H rfl fun a F=>?_)
 refine nl (cPm F rfl hm (fun hg1172 hm=>?_) (fun hg1172 hm=>?_))
 refine sk (ct (sq (xr0 18 [2,3,5,8] [0,1,2,3,4,5,6,7,8,9,10,11,12,13,14,15,16,17] F H hm rfl rfl (fun r1285 z=>z) (fun r1285 z=>z) (fun o1285 hm hm1285=>?_) (fun r1285 a w hm F H=>?_))))
 refine bl (sq (sr (bk [0,0,12000,0] F H rfl ⟨fld71_0,rfl,plain3,trivial⟩ fun a F=>?_)))
 refine nl (cPm F rfl hm (fun hg1286 hm=>?_) (fun hg1286 hm=>?_))
 refine ex (cx (ch ?_))
 cases hm
 refine ct ?_
 exact ⟨_,rfl,F.sl rfl,H⟩
 refine sk (ct (sb [0] F H rfl fun a F=>?_))
 refine nl (xr0 18 [2,3,5,8] [0,1,2,3,4,5,6,7,8,9,10,11,12,13,14,15,16,17] F H hm rfl rfl (fun r1342 z=>z) (fun r1342 z=>z) (fun o1342 hm hm1342=>?_) (fun r1342 a w hm F H=>?_))
 refine bl (xl0 18 [2,3,5,8] [0,1,2,3,4,5,6,7,8,9,10,11,12,13,14,15,16,17] F H hm rfl rfl (fun (s1379:Int) z=>(9,.int .u64 (s1379))::z) (fun s1379 z=>z) ⟨F.sl rfl,H⟩ (fun s1379 a w o F H hm=>?_))
 refine sq (sb [0,0] F H rfl fun a F=>?_)
 refine nl (cPm F rfl hm (fun hg1380 hm=>?_) (fun hg1380 hm=>?_))
 refine sk (ct (sq (bl (sr (bk [2,13002,0,0] F H rfl ⟨fld69_1,rfl,plain67,trivial⟩ fun a F=>?_)))))
 obtain ⟨x1381,ex1381,hm⟩:=ob hm
 refine sd F rfl ent41 (w_tLook ex1381 (H.pm 18 [17,0,1,2,3,4,5,6,7,8,9,10,11,12,13,14,15,16,17] rfl:):) ?_;rintro _ w a ⟨cs1382,rfl,H⟩ F
 refine bb [0,0,0] F H rfl fun a F=>?_
 replace H:=H.owNil rByte 5
 replace H:=H.owNil rStr 9
 refine s_allocA wkP F rfl rfl rfl agz35 rfl H fun b1383 w a H F=>?_
 refine bb [0] F H rfl fun a F=>?_
 have G:=F;replace H:=rc_api_Answer (H.pk 3 rfl);obtain ⟨p1384,c1385,p1386,c1387,rfl,J⟩:=H;have H:=J;have F:=G;clear G J
 refine s_storeA wkP F rfl rfl agg35 rfl rfl rfl H 2 rfl rfl rfl (fl rfl) fun w H=>?_
 replace H:=H.nf 23 rfl
 refine nl (sr (bk [2,13002,0,0] F H rfl ⟨fld69_1,rfl,plain67,trivial⟩ fun a F=>?_))
 obtain ⟨x1388,ex1388,hm⟩:=ob hm
 refine sd F rfl ent41 (w_tLook ex1388 (H.pm 23 [9,0,1,2,3,4,5,6,7,8,9,10,11,12,13,14,15,16,17,18,19,20,21,22] rfl:):) ?_;rintro _ w a ⟨cs1389,rfl,H⟩ F
 refine bb [0,0,0] F H rfl fun a F=>?_
 replace H:=H.owNil rByte 5
 replace H:=H.owNil rStr 9
 refine s_allocA wkP F rfl rfl rfl agz35 rfl H fun b1390 w a H F=>?_
 refine bb [0] F H rfl fun a F=>?_
 have G:=F;replace H:=rc_api_Answer (H.pk 3 rfl);obtain ⟨p1391,c1392,p1393,c1394,rfl,J⟩:=H;have H:=J;have F:=G;clear G J
 refine s_storeA wkP F rfl rfl agg35 rfl rfl rfl H 2 rfl rfl rfl (fl rfl) fun w H=>?_
 replace H:=H.nf 28 rfl
 refine nb [0,0,0,0] F H rfl fun a F=>?_
 rcases spN 66 F rfl hm with ⟨hg1395,hm,F⟩ | ⟨hg1395,hm,F⟩
 refine bk [7999,2999] F H rfl ⟨rfl,(aggn agg35 rfl),rfl,(aggn agg35 rfl),trivial⟩ fun a F=>?_
 refine g_onP F rfl rfl rfl rfl ?_
 replace H:=H.mkRc (R:=R_api_Answer) (cs:=[.int .i64 (x1381.2.1),.int .i64 (x1381.2.2.1),.slice p1384 (x1381.2.2.2.1).length c1385,.slice p1386 (x1381.2.2.2.2).length c1387]) (x:=(x1381.2.1,x1381.2.2.1,x1381.2.2.2.1,x1381.2.2.2.2)) (fun gg=>⟨_,_,rfl,rfl,⟨_,_,rfl,rfl,⟨_,_,rfl,⟨_,_,rfl,(gg 5 _ rfl).choose_spec⟩,⟨_,_,rfl,(gg 6 _ rfl).choose_spec⟩⟩⟩⟩)
 replace H:=H.mkRc (R:=R_api_Answer) (cs:=[.int .i64 (x1388.2.1),.int .i64 (x1388.2.2.1),.slice p1391 (x1388.2.2.2.1).length c1392,.slice p1393 (x1388.2.2.2.2).length c1394]) (x:=(x1388.2.1,x1388.2.2.1,x1388.2.2.2.1,x1388.2.2.2.2)) (fun gg=>⟨_,_,rfl,rfl,⟨_,_,rfl,rfl,⟨_,_,rfl,⟨_,_,rfl,(gg 1 _ rfl).choose_spec⟩,⟨_,_,rfl,(gg 2 _ rfl).choose_spec⟩⟩⟩⟩)
 obtain ⟨x1396,ex1396,hm⟩:=ob hm
 refine sd F rfl ent26 (w_rSameAns ex1396 (H.pm 30 [1,0,0,1,2,3,4,5,6,7,8,9,10,11,12,13,14,15,16,17,18,19,20,21,22,23,24,25,26,27,28,29] rfl:):) ?_;rintro _ w a ⟨rfl,H⟩ F
 refine bb [0,0] F H rfl fun a F=>?_
 replace H:=H.nf 30 rfl
 refine nl (cB F rfl (fun hg1397=>?_) (fun hg1397=>?_))
 replace hm:=ifT hg1397 hm
 refine sb [0] F H rfl fun a F=>?_
 refine nl (wr (br (tr (tr ?_))));cases hm;refine ⟨_,rfl,?_⟩;rintro rfl
 refine br (tr ?_)
 replace hm:=elimR hm1342
 refine br (tr ?_)
 cases hm
 replace hm:=elimR hm1285
 refine tr (tr ?_);cases hm;refine ⟨_,rfl,?_⟩;rintro rfl
 refine br (tr ?_)
 replace hm:=elimR hm718
 refine tr ?_
 cases hm
 refine x_ret1 F rfl rfl ?_
 exact ⟨_,rfl,rfl,(H.pm 30 [] rfl:)⟩
 replace hm:=ifF (nT hg1397) hm
 refine sk (bn (ct (rl (bb [0,0,0] F H rfl fun a F=>?_))))
 refine lz (ct ?_);cases hm
 exact ⟨_,rfl,⟨F.sl rfl,(H.pm 30 [12,13,14,15,16,17,18,19,20,21,22,23,24,25,26,27,28,29] rfl:)⟩⟩
 refine bb (List.replicate 5 0) F H rfl fun a F=>?_
 refine nl (cT F rfl ?_)
 refine sb [0] F H rfl fun a F=>?_
 refine nl (wr (br (tr (tr ?_))));cases hm;refine ⟨_,rfl,?_⟩;rintro rfl
 refine br (tr ?_)
 replace hm:=elimR hm1342
 refine br (tr ?_)
 cases hm
 replace hm:=elimR hm1285
 refine tr (tr ?_);cases hm;refine ⟨_,rfl,?_⟩;rintro rfl
 refine br (tr ?_)
 replace hm:=elimR hm718
 refine tr ?_
 cases hm
 refine x_ret1 F rfl rfl ?_
 exact ⟨_,rfl,rfl,(H.pm 28 [] rfl:)⟩
 refine ex (cx (cx ?_));cases hm;refine ⟨_,rfl,?_⟩;rintro rfl
 refine ch (ct ?_)
 exact ⟨_,rfl,F.sl rfl,H⟩
 refine bn ?_
 cases hm
 refine ct ?_
 exact ⟨_,rfl,F.sl rfl,H⟩
 refine ct (rl (bb [0,0,0] F H rfl fun a F=>?_))
 refine lz (ct ?_);cases hm
 exact ⟨_,rfl,⟨F.sl rfl,H⟩⟩
 refine ex (cx (cx ?_));cases hm;refine ⟨_,rfl,?_⟩;rintro rfl
 refine ch (ct ?_)
 exact ⟨_,rfl,F.sl rfl,H⟩
 refine ct (sr (bk [8999] F H rfl ⟨rfl,(aggn agg69 rfl),trivial⟩ fun a F=>?_))
 replace H:=H.mkRc (R:=R_api_Whole) (cs:=[.slice p31 (x23.1.1.1).length c32,.slice p33 (x23.1.1.2).length c34,.slice p29 (x23.1.2).length c30]) (x:=((x23.1.1.1,x23.1.1.2),x23.1.2)) (fun gg=>⟨[Value.slice p31 (x23.1.1.1).length c32,.slice p33 (x23.1.1.2).length c34],_,rfl,⟨[Value.slice p31 (x23.1.1.1).length c32],_,rfl,⟨_,_,rfl,(gg 2 _ rfl).choose_spec⟩,⟨_,_,rfl,(gg 3 _ rfl).choose_spec⟩⟩,⟨_,_,rfl,(gg 4 _ rfl).choose_spec⟩⟩)
 obtain ⟨x1398,ex1398,hm⟩:=ob hm
 refine sd F rfl ent36 (w_tCheck ex1398 (H.pm 19 [0,0,1,2,3,4,5,6,7,8,9,10,11,12,13,14,15,16,17,18] rfl:):) ?_;rintro _ w a ⟨rfl,H⟩ F
 refine bb [0,0] F H rfl fun a F=>?_
 replace H:=H.nf 19 rfl
 refine nl (wr ?_)
 cases hm
 refine x_ret1 F rfl rfl ?_
 exact ⟨_,rfl,rfl,(H.pm 19 [] rfl:)⟩
end Go.Proofs.YtnagibpmfabkjaaGreatDoor
