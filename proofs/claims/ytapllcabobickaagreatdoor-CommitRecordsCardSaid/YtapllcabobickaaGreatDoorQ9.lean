/- Texts TabA, TabB. -/
import Derived.Test.YtapllcabobickaaGreatDoorQ8
import Derived.Test.YtapllcabobickaaGreatDoorQ4
set_option linter.unusedSimpArgs false
set_option linter.unusedVariables false
namespace Go.Proofs.YtapllcabobickaaGreatDoor
open Go.RowKit Go.Tri
set_option maxRecDepth 100000
set_option maxHeartbeats 4000000
theorem w_isNaNi {x:Int}  {w0 w:World} {l:List HP}  {r:Bool} (hm:isNaNi x=some r) (H:St w0 w (l)) :
  Calls Tryz.prog 145 [.int .i64 (x)].toArray w (fun e w'=>∃ v,e=.returned v∧v=.bool (r)∧St w0 w' (l)):=by
 unfold isNaNi at hm
 refine x_enter Tryz.func145 rfl rfl rfl ?_
 intro a F
 refine sb [0] F H rfl fun a F=>nb [0,0,0,0] F H rfl fun a F=>nl (wr ?_)
 cases hm
 refine x_ret1 F rfl rfl ?_
 exact ⟨_,rfl,rfl,H⟩
theorem ent145:En Tryz.prog 145:=enters Tryz.func145 (by kernel_rfl) rfl
theorem w_cmpInt {x:Int} {y:Int}  {w0 w:World} {l:List HP}  {r:Int} (hm:cmpInt x y=some r) (H:St w0 w (l)) :
  Calls Tryz.prog 114 [.int .i64 (x),.int .i64 (y)].toArray w (fun e w'=>∃ v,e=.returned v∧v=.int .i64 (r)∧St w0 w' (l)):=by
 unfold cmpInt at hm
 refine x_enter Tryz.func114 rfl rfl rfl ?_
 intro a F
 refine sb [0] F H rfl fun a F=>nb [0] F H rfl fun a F=>?_
 obtain ⟨x1,ex1,hm⟩:=ob hm
 refine sd F rfl ent145 (w_isNaNi ex1 H:) ?_;rintro _ w a ⟨rfl,H⟩ F
 refine bb [0] F H rfl fun a F=>nb [0] F H rfl fun a F=>?_
 obtain ⟨x2,ex2,hm⟩:=ob hm
 refine sd F rfl ent145 (w_isNaNi ex2 H:) ?_;rintro _ w a ⟨rfl,H⟩ F
 refine bb [0] F H rfl fun a F=>nl (sq (sb [0] F H rfl fun a F=>?_))
 refine nl (cB F rfl (fun hg3=>?_) (fun hg3=>?_))
 replace hm:=ifT hg3 hm
 refine sq (sb [0] F H rfl fun a F=>?_)
 refine nl (cB F rfl (fun hg4=>?_) (fun hg4=>?_))
 replace hm:=ifT hg4 hm
 refine sb [0] F H rfl fun a F=>nl (wr (tr (tr ?_)))
 cases hm
 refine x_ret1 F rfl rfl ?_
 exact ⟨_,rfl,rfl,H⟩
 replace hm:=ifF (nT hg4) hm
 refine sk (ct (sb [0] F H rfl fun a F=>nl (wr (tr ?_))))
 cases hm
 refine x_ret1 F rfl rfl ?_
 exact ⟨_,rfl,rfl,H⟩
 replace hm:=ifF (nT hg3) hm
 refine sk (ct (sq (sb [0] F H rfl fun a F=>?_)))
 refine nl (cB F rfl (fun hg5=>?_) (fun hg5=>?_))
 replace hm:=ifT hg5 hm
 refine sb [0] F H rfl fun a F=>nl (wr (tr ?_))
 cases hm
 refine x_ret1 F rfl rfl ?_
 exact ⟨_,rfl,rfl,H⟩
 replace hm:=ifF (nT hg5) hm
 refine sk (ct (sq (sb [0,0,0] F H rfl fun a F=>?_)))
 refine nl (cPm F rfl hm (fun hg6 hm=>?_) (fun hg6 hm=>?_))
 refine sb [0] F H rfl fun a F=>nl (wr (tr ?_))
 cases hm
 refine x_ret1 F rfl rfl ?_
 exact ⟨_,rfl,rfl,H⟩
 refine sk (ct (sq (sb [0,0,0] F H rfl fun a F=>?_)))
 refine nl (cPm F rfl hm (fun hg7 hm=>?_) (fun hg7 hm=>?_))
 refine sb [0] F H rfl fun a F=>nl (wr (tr ?_))
 cases hm
 refine x_ret1 F rfl rfl ?_
 exact ⟨_,rfl,rfl,H⟩
 refine sk (ct (sb [0] F H rfl fun a F=>nl (wr ?_)))
 cases hm
 refine x_ret1 F rfl rfl ?_
 exact ⟨_,rfl,rfl,H⟩
theorem fld110_0:FieldT Tryz.prog 110 0 0:=by unfold FieldT;rw [Tryz.underlying110];kernel_rfl
theorem ent114:En Tryz.prog 114:=enters Tryz.func114 (by kernel_rfl) rfl
theorem w_tCompare {a_:T_api_Seat} {b_:T_api_Seat} {cs1:List Value} {cs2:List Value} {w0 w:World} {l:List HP}  {r:Int} (hm:tCompare a_ b_=some r) (H:St w0 w (HP.rc R_api_Seat cs1 a_::HP.rc R_api_Seat cs2 b_::l)) :
  Calls Tryz.prog 84 [.agg cs1.toArray,.agg cs2.toArray].toArray w (fun e w'=>∃ v,e=.returned v∧v=.int .i64 (r)∧St w0 w' (l)):=by
 unfold tCompare at hm
 refine x_enter Tryz.func84 rfl rfl rfl ?_
 intro a F
 refine sr (s_boxA wkP F rfl rfl rfl rfl rfl H fun b3 w a H F=>s_boxA wkP F rfl rfl rfl rfl rfl H fun b4 w a H F=>bb [0] F H rfl fun a F=>?_)
 replace H:=H.nf 4 rfl
 refine nl (sr (bk [0] F H rfl ⟨fld110_0,trivial⟩ fun a F=>?_))
 have G:=F;replace H:=rc_api_Seat (H.pk 2 rfl);obtain ⟨v5,rfl,J⟩:=H;have H:=J;have F:=G;clear G J
 refine bk [2000,0] F H rfl ⟨rfl,plain3,fld110_0,trivial⟩ fun a F=>?_
 have G:=F;replace H:=rc_api_Seat (H.pk 3 rfl);obtain ⟨v6,rfl,J⟩:=H;have H:=J;have F:=G;clear G J
 refine bk [2000] F H rfl ⟨rfl,plain3,trivial⟩ fun a F=>?_
 obtain ⟨x7,ex7,hm⟩:=ob hm
 refine sd F rfl ent114 (w_cmpInt ex7 H:) ?_;rintro _ w a ⟨rfl,H⟩ F
 refine bb [0] F H rfl fun a F=>?_
 replace H:=H.nf 4 rfl
 refine nl (wr ?_)
 cases hm
 refine x_ret1 F rfl rfl ?_
 exact ⟨_,rfl,rfl,(H.pm 4 [] rfl:)⟩
theorem elem65:ElemT Tryz.prog 65 110 6 80 (.agg [.int .i64 0,.int .u64 0,.int .i64 0,.int .i64 0,.slice none 0 0,.slice none 0 0].toArray):=⟨Tryz.underlying65,by kernel_rfl,by kernel_rfl,by decide⟩
theorem agg110:AggT Tryz.prog 110 6 [.int .i64 0,.int .u64 0,.int .i64 0,.int .i64 0,.slice none 0 0,.slice none 0 0]:=⟨by rw [Tryz.underlying110];rfl,by kernel_rfl,by kernel_rfl⟩
theorem ent84:En Tryz.prog 84:=enters Tryz.func84 (by kernel_rfl) rfl
theorem w_bsSeatO {xs:List T_api_Seat} {t_:T_api_Seat} {p1:Option Addr} {c1:Nat} {cs2:List Value} {w0 w:World} {l:List HP}  {r:Int×Bool} (hm:bsSeatO xs t_=some r) (H:St w0 w (HP.ow R_api_Seat 110 p1 c1 xs::HP.rc R_api_Seat cs2 t_::l)) :
  Calls Tryz.prog 129 [.slice p1 (xs).length c1,.agg cs2.toArray,.func (.func 84) #[] #[]].toArray w (fun e w'=>∃ v,e=.returned v∧v=.tuple [.int .i64 (r.1),.bool (r.2)].toArray∧St w0 w' (HP.ow R_api_Seat 110 p1 c1 xs::l)):=by
 unfold bsSeatO at hm
 refine x_enter Tryz.func129 rfl rfl rfl ?_
 intro a F
 refine sr (s_boxA wkP F rfl rfl rfl rfl rfl H fun b3 w a H F=>bb [0,0] F H rfl fun a F=>?_)
 replace H:=H.nf 3 rfl
 refine nl (sr (bk [0,0,0] F H rfl ⟨⟨_,Tryz.underlying65⟩,trivial⟩ fun a F=>nb [0,0,0] F H rfl fun a F=>?_))
 refine nl (sq (xm0 3 [0,2,4,8] [0,1,2] F H hm rfl rfl (fun r53 z=>(9,.int .i64 (r53))::z) (fun r53 z=>z) (fun r53 hm=>?_) (fun r53 a w hm F H=>?_)))
 refine bl (xl0 3 [0,2,4,8] [0,1,2] F H hm rfl rfl (fun (s86:Int×Int) z=>(9,.int .i64 (s86.1))::(10,.int .i64 (s86.2))::z) (fun s86 z=>z) ⟨F.sl rfl,H⟩ (fun s86 a w o F H hm=>sq (sb [0,0,0] F H rfl fun a F=>?_)))
 refine nl (cPm F rfl hm (fun hg87 hm=>?_) (fun hg87 hm=>?_))
 refine sk (ct (xm0 3 [0,2,4,8] [0,1,2] F H hm rfl rfl (fun r95 z=>(9,.int .i64 (r95.1))::(10,.int .i64 (r95.2))::z) (fun r95 z=>z) (fun r95 hm=>?_) (fun r95 a w hm F H=>?_)))
 refine bl (sr (bk [0,0,0,2] F H rfl ⟨Tryz.underlying3,Tryz.underlying141,trivial⟩ fun a F=>sv F rfl (i_shr F rfl rfl rfl (by decide)) fun a F=>bk [0,0] F H rfl ⟨Tryz.underlying141,Tryz.underlying3,trivial⟩ fun a F=>nl (sq ?_)))
 obtain ⟨x96,ex96,hm⟩:=ob hm
 obtain ⟨b97,hp97⟩:=H.owP 1 rfl (idxO_some ex96).2
 obtain ⟨css98,H⟩:=H.oxOpen 1 rfl
 obtain ⟨cs98,hcs98,hcl98,H⟩:=H.oxEl 1 rfl (idxO_some ex96).2
 refine mix_regionK [6] [] (scL [0,1,2,3,1004,1005,2006,7]) [] H rfl rfl (by kernel_rfl) (by kernel_rfl) fun w H=>?_
 refine mb [0,0,0] F H rfl fun a F=>?_
 refine m_pure F rfl rfl rfl rfl (fun u hu=>y_idxS F elem65 rfl rfl rfl hp97 ex96) fun a F=>?_
 refine m_read F rfl rfl rfl rfl (y_loadA F agg110 rfl rfl (H.oxRow 2 rfl hp97 hcs98 hcl98) (H.rcLen 0 rfl)) fun a F=>?_
 refine mbk [1999] F H rfl ⟨rfl,(aggn agg110 (H.rcLen 3 rfl)),trivial⟩ fun a F=>m_heavy rfl rfl ?_
 obtain ⟨x99,ex99,hm⟩:=ob hm
 refine s_call wkP F rfl rfl rfl rfl (y_callV0 F rfl rfl rfl ent84) (w_tCompare ex99 (H.pm 4 [0,3,0,1,2,3] rfl:):) ?_;rintro _ w a ⟨rfl,H⟩ F
 refine lz ?_;refine ct ⟨⟨_,H⟩,?_⟩
 refine mb [0] F H rfl fun a F=>m_nil ?_
 replace H:=H.oxShut 2 rfl
 refine ct (xm0 4 [0,2,4,8] [1,2,3] F H hm rfl rfl (fun r101 z=>(9,.int .i64 (r101.1))::(10,.int .i64 (r101.2))::z) (fun r101 z=>z) (fun r101 hm=>?_) (fun r101 a w hm F H=>?_))
 refine cPm F rfl hm (fun hg102 hm=>?_) (fun hg102 hm=>?_)
 refine rl (bb [0,0,0] F H rfl fun a F=>?_)
 replace H:=H.nf 4 rfl
 refine lz ?_
 cases hm
 refine ct ?_
 exact ⟨F.sl rfl,(H.pm 4 [1,2,3] rfl:)⟩
 refine rl (bb [0,0] F H rfl fun a F=>?_)
 replace H:=H.nf 4 rfl
 refine lz ?_
 cases hm
 refine ct ?_
 exact ⟨F.sl rfl,(H.pm 4 [1,2,3] rfl:)⟩
 refine bn ?_
 cases hm
 refine ct ?_
 exact ⟨F.sl rfl,H⟩
 refine ct ?_;cases hm
 exact ⟨_,rfl,⟨F.sl rfl,H⟩⟩
 refine ex (cx (cx ?_));cases hm;refine ⟨_,rfl,?_⟩;rintro rfl
 refine ch (ct ?_)
 exact ⟨F.sl rfl,H⟩
 refine ct (sq ?_)
 by_cases hg103:r53<((xs).length:Int)
 replace hm:=ifT hg103 hm
 obtain ⟨x104,ex104,hm⟩:=ob hm
 obtain ⟨b105,hp105⟩:=H.owP 1 rfl (idxO_some ex104).2
 obtain ⟨css106,H⟩:=H.oxOpen 1 rfl
 obtain ⟨cs106,hcs106,hcl106,H⟩:=H.oxEl 1 rfl (idxO_some ex104).2
 refine mix_regionK [11] [] (scL [0,1,2,3,4,5,6,7,8,1009,1010,2011,12,13,14,15]) [] H rfl rfl (by kernel_rfl) (by kernel_rfl) fun w H=>?_
 refine mb (List.replicate 5 0) F H rfl fun a F=>?_
 replace F:=F.bT 39 hg103 rfl
 refine mb [0,0,0] F H rfl fun a F=>?_
 refine m_on (k:=0) F rfl rfl rfl rfl rfl rfl rfl (fun u hu=>y_idxS F elem65 rfl rfl rfl hp105 ex104) fun a F=>?_
 refine m_on1 (k:=0) F rfl rfl rfl rfl rfl rfl rfl (y_loadA F agg110 rfl rfl (H.oxRow 2 rfl hp105 hcs106 hcl106) (H.rcLen 0 rfl)) fun a F=>?_
 refine mbk [1999] F H rfl ⟨rfl,(aggn agg110 (H.rcLen 3 rfl)),trivial⟩ fun a F=>?_
 refine m_heavyOn F rfl rfl rfl rfl rfl ?_;refine g_onP F rfl rfl rfl rfl ?_
 obtain ⟨x107,ex107,hm⟩:=ob hm
 refine s_call wkP F rfl rfl rfl rfl (y_callV0 F rfl rfl rfl ent84) (w_tCompare ex107 (H.pm 4 [0,3,0,1,2,3] rfl:):) ?_;rintro _ w a ⟨rfl,H⟩ F
 refine lz ?_;refine ct ⟨⟨_,H⟩,?_⟩
 refine mb [0,0,0,0] F H rfl fun a F=>m_nil ?_
 replace H:=H.oxShut 2 rfl
 refine ct (wr ?_)
 cases hm
 refine x_ret2 F rfl rfl rfl ?_
 exact ⟨_,rfl,rfl,(H.pm 4 [2] rfl:)⟩
 replace hm:=ifF hg103 hm
 refine mix_regionK [11] [] (scL [0,1,2,3,4,5,6,7,8,1009,1010,2011,12,13,14,15]) [] H rfl rfl (by kernel_rfl) (by kernel_rfl) fun w H=>?_
 refine mb (List.replicate 5 0) F H rfl fun a F=>?_
 replace F:=F.bF 39 hg103 rfl
 refine mb (List.replicate 11 0) F H rfl fun a F=>m_nil (ct (wr ?_))
 cases hm
 refine x_ret2 F rfl rfl rfl ?_
 exact ⟨_,rfl,rfl,(H.pm 3 [1] rfl:)⟩
theorem ent129:En Tryz.prog 129:=enters Tryz.func129 (by kernel_rfl) rfl
theorem w_tFindO {seats:List T_api_Seat} {client:Int} {p1:Option Addr} {c1:Nat} {w0 w:World} {l:List HP}  {r:Int×Bool} (hm:tFindO seats client=some r) (H:St w0 w (HP.ow R_api_Seat 110 p1 c1 seats::l)) :
  Calls Tryz.prog 102 [.slice p1 (seats).length c1,.int .i64 (client)].toArray w (fun e w'=>∃ v,e=.returned v∧v=.tuple [.int .i64 (r.1),.bool (r.2)].toArray∧St w0 w' (HP.ow R_api_Seat 110 p1 c1 seats::l)):=by
 unfold tFindO at hm
 refine x_enter Tryz.func102 rfl rfl rfl ?_
 intro a F
 refine sb [0,0] F H rfl fun a F=>nb [0,0] F H rfl fun a F=>?_
 replace H:=H.owNil rByte 5
 replace H:=H.owNil rStr 9
 refine sv F rfl (y_build F rfl rfl (cs:=[.int .i64 (client),.int .u64 (0),.int .i64 (0),.int .i64 (0),.slice none (([]:List UInt8)).length 0,.slice none (([]:List (List UInt8))).length 0]) (by kernel_rfl)) fun a F=>?_
 replace H:=H.frz 1 rfl
 replace H:=H.frz 1 rfl
 replace H:=H.mkRc (R:=R_api_Seat) (cs:=[.int .i64 (client),.int .u64 (0),.int .i64 (0),.int .i64 (0),.slice none (([]:List UInt8)).length 0,.slice none (([]:List (List UInt8))).length 0]) (x:=(client,0,(0,0,([]:List UInt8),([]:List (List UInt8))))) (fun gg=>⟨[Value.int .i64 (client)],_,rfl,rfl,⟨[Value.int .u64 (0)],_,rfl,rfl,⟨[Value.int .i64 (0)],_,rfl,rfl,⟨[Value.int .i64 (0)],_,rfl,rfl,⟨[Value.slice none (([]:List UInt8)).length 0],_,rfl,⟨_,_,rfl,(gg 1 _ rfl).choose_spec⟩,⟨_,_,rfl,(gg 0 _ rfl).choose_spec⟩⟩⟩⟩⟩⟩)
 obtain ⟨x2,ex2,hm⟩:=ob hm
 refine sd F rfl ent129 (w_bsSeatO ex2 (H.pm 4 [3,0,0,1,2] rfl:):) ?_;rintro _ w a ⟨rfl,H⟩ F
 refine bb [0,0,0,0] F H rfl fun a F=>?_
 replace H:=H.nf 4 rfl
 refine nl (wr ?_)
 cases hm
 refine x_ret2 F rfl rfl rfl ?_
 exact ⟨_,rfl,rfl,(H.pm 4 [0] rfl:)⟩
theorem w_oShort {n:Int}  {w0 w:World} {l:List HP}  {r:Bool} (hm:oShort n=some r) (H:St w0 w (l)) :
  Calls Tryz.prog 75 [.int .i64 (n)].toArray w (fun e w'=>∃ v,e=.returned v∧v=.bool (r)∧St w0 w' (l)):=by
 unfold oShort at hm
 refine x_enter Tryz.func75 rfl rfl rfl ?_
 intro a F
 refine sb [0] F H rfl fun a F=>nb [0,0,0] F H rfl fun a F=>?_
 rcases spP 5 F rfl hm with ⟨hg1,hm,F⟩ | ⟨hg1,hm,F⟩
 refine bb [0,0,0,0] F H rfl fun a F=>nl (wr ?_)
 cases hm
 refine x_ret1 F rfl rfl ?_
 exact ⟨_,rfl,rfl,H⟩
 refine bb [0,0,0,0] F H rfl fun a F=>nl (wr ?_)
 cases hm
 refine x_ret1 F rfl rfl ?_
 exact ⟨_,rfl,rfl,H⟩
theorem w_oWrong {s:List UInt8}  {w0 w:World} {l:List HP}  {r:Bool} (hm:oWrong s=some r) (H:St w0 w (l)) :
  Calls Tryz.prog 88 [.string (txb (s))].toArray w (fun e w'=>∃ v,e=.returned v∧v=.bool (r)∧St w0 w' (l)):=by
 unfold oWrong at hm
 refine x_enter Tryz.func88 rfl rfl rfl ?_
 intro a F
 refine sb [0] F H rfl fun a F=>nb [0] F H rfl fun a F=>sv F rfl (y_eqT (l:=s) (m:=[]) F rfl rfl rfl) fun a F=>bb [0] F H rfl fun a F=>?_
 rcases spP 5 F rfl hm with ⟨hg1,hm,F⟩ | ⟨hg1,hm,F⟩
 refine bb (List.replicate 5 0) F H rfl fun a F=>nl (wr ?_)
 cases hm
 refine x_ret1 F rfl rfl ?_
 exact ⟨_,rfl,rfl,H⟩
 refine bb [0] F H rfl fun a F=>g_onP F rfl rfl rfl rfl (sv F rfl (y_lenT (l:=s) F rfl Tryz.underlying9 rfl) fun a F=>bb [0,0,0] F H rfl fun a F=>nl (wr ?_))
 cases hm
 refine x_ret1 F rfl rfl ?_
 exact ⟨_,rfl,rfl,H⟩
theorem ent88:En Tryz.prog 88:=enters Tryz.func88 (by kernel_rfl) rfl
theorem w_ixWrong {s:List (List UInt8)} {p1:Option Addr} {c1:Nat} {w0 w:World} {l:List HP}  {r:Int} (hm:ixWrong s=some r) (H:St w0 w (HP.sl rStr p1 c1 s::l)) :
  Calls Tryz.prog 121 [.slice p1 (s).length c1,.func (.func 88) #[] #[]].toArray w (fun e w'=>∃ v,e=.returned v∧v=.int .i64 (r)∧St w0 w' (l)):=by
 unfold ixWrong at hm
 refine x_enter Tryz.func121 rfl rfl rfl ?_
 intro a F
 refine sb [0] F H rfl fun a F=>nl (sq (sr (bk [0,0,0] F H rfl ⟨⟨_,Tryz.underlying56⟩,trivial⟩ fun a F=>?_)))
 refine nl (xr0 1 [] [] F H hm rfl rfl (fun r21 z=>z) (fun r21 z=>z) (fun o21 hm hm21=>?_) (fun r21 a w hm F H=>?_))
 refine bl (xl0 1 [0,1,7] [0] F H hm rfl rfl (fun (s34:Int) z=>(8,.int .i64 (s34))::z) (fun s34 z=>z) ⟨F.sl rfl,H⟩ (fun s34 a w o F H hm=>sb [0] F H rfl fun a F=>?_))
 refine nl (sq (cPm F rfl hm (fun hg35 hm=>?_) (fun hg35 hm=>?_)))
 refine sk (ct (sq (bl (sb [0,0] F H rfl fun a F=>nb [0,0,0] F H rfl fun a F=>?_))))
 obtain ⟨x36,ex36,hm⟩:=ob hm
 obtain ⟨b37,o37,hp37,cs38,H⟩:=H.slE 0 rfl ex36
 obtain rfl:=H.rcStr 1 rfl
 replace H:=H.dp 1 rfl
 refine sv F rfl (y_idxS F elem56 rfl rfl rfl hp37 ex36) fun a F=>bk [0] F H rfl ⟨rfl,plain9,trivial⟩ fun a F=>?_
 obtain ⟨x39,ex39,hm⟩:=ob hm
 refine s_call wkP F rfl rfl rfl rfl (y_callV0 F rfl rfl rfl ent88) (w_oWrong ex39 H:) ?_;rintro _ w a ⟨rfl,H⟩ F
 replace H:=H.nf 2 rfl
 refine nl (cB F rfl (fun hg40=>?_) (fun hg40=>?_))
 replace hm:=ifT hg40 hm
 refine sb [0,0] F H rfl fun a F=>?_
 refine nl (wr (br (tr (tr ?_))));cases hm;refine ⟨_,rfl,?_⟩;rintro rfl
 refine br (tr ?_)
 replace hm:=elimR hm21
 refine tr ?_
 cases hm
 refine x_ret1 F rfl rfl ?_
 exact ⟨_,rfl,rfl,(H.pm 2 [] rfl:)⟩
 replace hm:=ifF (nT hg40) hm
 refine sk (bn (ct (rl (bb [0,0] F H rfl fun a F=>?_))))
 refine lz (ct ?_);cases hm
 exact ⟨_,rfl,⟨F.sl rfl,(H.pm 2 [1] rfl:)⟩⟩
 refine ex (cx (cx ?_));cases hm;refine ⟨_,rfl,?_⟩;rintro rfl
 refine ch (ct ?_)
 exact ⟨_,rfl,F.cut _ trivial,(H.pm 1 [] rfl:)⟩
 refine ct (sb [0] F H rfl fun a F=>nl (wr ?_))
 cases hm
 refine x_ret1 F rfl rfl ?_
 exact ⟨_,rfl,rfl,H⟩
theorem w_anyWrong {s:List (List UInt8)} {p1:Option Addr} {c1:Nat} {w0 w:World} {l:List HP}  {r:Bool} (hm:anyWrong s=some r) (H:St w0 w (HP.sl rStr p1 c1 s::l)) :
  Calls Tryz.prog 89 [.slice p1 (s).length c1,.func (.func 88) #[] #[]].toArray w (fun e w'=>∃ v,e=.returned v∧v=.bool (r)∧St w0 w' (l)):=by
 unfold anyWrong at hm
 refine x_enter Tryz.func89 rfl rfl rfl ?_
 intro a F
 refine sb [0] F H rfl fun a F=>nb [0,0] F H rfl fun a F=>?_
 obtain ⟨x2,ex2,hm⟩:=ob hm
 refine sd F rfl ent121 (w_ixWrong ex2 (H.pm 1 [0,0] rfl:):) ?_;rintro _ w a ⟨rfl,H⟩ F
 refine bb [0,0] F H rfl fun a F=>?_
 replace H:=H.nf 1 rfl
 refine nl (wr ?_)
 cases hm
 refine x_ret1 F rfl rfl ?_
 exact ⟨_,rfl,rfl,(H.pm 1 [] rfl:)⟩
theorem ent75:En Tryz.prog 75:=enters Tryz.func75 (by kernel_rfl) rfl
theorem fld58_1:FieldT Tryz.prog 58 1 1:=by unfold FieldT;rw [Tryz.underlying58];kernel_rfl
theorem fld58_2:FieldT Tryz.prog 58 2 2:=by unfold FieldT;rw [Tryz.underlying58];kernel_rfl
theorem fld58_3:FieldT Tryz.prog 58 3 3:=by unfold FieldT;rw [Tryz.underlying58];kernel_rfl
theorem plain56:Plain Tryz.prog 56:=by unfold Plain;rw [Tryz.underlying56];rfl
theorem w_oWriteA {a_:T_api_Answer} {cs1:List Value} {w0 w:World} {l:List HP}  {r:(List UInt8)×Int} (hm:oWriteA a_=some r) (H:St w0 w (HP.rc R_api_Answer cs1 a_::l)) :
  Calls Tryz.prog 66 [.agg cs1.toArray].toArray w (fun e w'=>∃ v,e=.returned v∧∃ (p2:Option Addr) (c2:Nat),v=.tuple [.slice p2 (r.1).length c2,.int .i64 (r.2)].toArray∧St w0 w' (HP.sl rByte p2 c2 r.1::l)):=by
 unfold oWriteA at hm
 refine x_enter Tryz.func66 rfl rfl rfl ?_
 intro a F
 refine sr (s_boxA wkP F rfl rfl rfl rfl rfl H fun b3 w a H F=>bb [0,0] F H rfl fun a F=>?_)
 replace H:=H.nf 2 rfl
 refine nb [0] F H rfl fun a F=>nl (sq (sr (bk [0] F H rfl ⟨fld58_0,trivial⟩ fun a F=>?_)))
 have G:=F;replace H:=rc_api_Answer (H.pk 1 rfl);obtain ⟨p4,c5,p6,c7,rfl,J⟩:=H;have H:=J;have F:=G;clear G J
 refine bk [2000] F H rfl ⟨rfl,plain34,trivial⟩ fun a F=>?_
 obtain ⟨x8,ex8,hm⟩:=ob hm
 refine sd F rfl ent75 (w_oShort ex8 H:) ?_;rintro _ w a ⟨rfl,H⟩ F
 refine bb [0,0] F H rfl fun a F=>?_
 by_cases hg9:(!x8)=true
 replace hm:=ifT hg9 hm
 replace F:=F.vT 12 hg9 rfl
 refine bb (List.replicate 23 0) F H rfl fun a F=>?_
 replace H:=H.nf 3 rfl
 refine nl (cT F rfl (sb [0,0] F H rfl fun a F=>nl (wr (tr ?_))))
 replace H:=H.slNil rByte
 cases hm
 refine x_ret2 F rfl rfl rfl ?_
 exact ⟨_,rfl,none,0,rfl,(H.pm 4 [0] rfl:)⟩
 replace hm:=ifF hg9 hm
 replace F:=F.vF 12 hg9 rfl
 refine bk [1,2001] F H rfl ⟨fld58_1,rfl,plain3,trivial⟩ fun a F=>g_onP F rfl rfl rfl rfl ?_
 obtain ⟨x10,ex10,hm⟩:=ob hm
 refine sd F rfl ent75 (w_oShort ex10 H:) ?_;rintro _ w a ⟨rfl,H⟩ F
 refine bb [0,0,0] F H rfl fun a F=>?_
 by_cases hg11:(!x10)=true
 replace hm:=ifT hg11 hm
 replace F:=F.vT 18 hg11 rfl
 refine bb (List.replicate 17 0) F H rfl fun a F=>?_
 replace H:=H.nf 3 rfl
 refine nl (cT F rfl (sb [0,0] F H rfl fun a F=>nl (wr (tr ?_))))
 replace H:=H.slNil rByte
 cases hm
 refine x_ret2 F rfl rfl rfl ?_
 exact ⟨_,rfl,none,0,rfl,(H.pm 4 [0] rfl:)⟩
 replace hm:=ifF hg11 hm
 replace F:=F.vF 18 hg11 rfl
 refine bk [2,2002,0,0,0,0] F H rfl ⟨fld58_2,rfl,plain25,⟨_,Tryz.underlying25⟩,trivial⟩ fun a F=>?_
 rcases spP 24 F rfl hm with ⟨hg12,hm,F⟩ | ⟨hg12,hm,F⟩
 refine bb (List.replicate 11 0) F H rfl fun a F=>?_
 replace H:=H.nf 3 rfl
 refine nl (cT F rfl (sb [0,0] F H rfl fun a F=>nl (wr (tr ?_))))
 replace H:=H.slNil rByte
 cases hm
 refine x_ret2 F rfl rfl rfl ?_
 exact ⟨_,rfl,none,0,rfl,(H.pm 4 [0] rfl:)⟩
 refine bk [3,2003,0,0,0,0] F H rfl ⟨fld58_3,rfl,plain56,⟨_,Tryz.underlying56⟩,trivial⟩ fun a F=>?_
 rcases spP 30 F rfl hm with ⟨hg13,hm,F⟩ | ⟨hg13,hm,F⟩
 refine bb (List.replicate 5 0) F H rfl fun a F=>?_
 replace H:=H.nf 3 rfl
 refine nl (cT F rfl (sb [0,0] F H rfl fun a F=>nl (wr (tr ?_))))
 replace H:=H.slNil rByte
 cases hm
 refine x_ret2 F rfl rfl rfl ?_
 exact ⟨_,rfl,none,0,rfl,(H.pm 4 [0] rfl:)⟩
 refine bk [3,2003,0] F H rfl ⟨fld58_3,rfl,plain56,trivial⟩ fun a F=>g_onP F rfl rfl rfl rfl ?_
 obtain ⟨x14,ex14,hm⟩:=ob hm
 refine sd F rfl ent89 (w_anyWrong ex14 (H.pm 3 [1,0,1,2] rfl:):) ?_;rintro _ w a ⟨rfl,H⟩ F
 refine bb [0] F H rfl fun a F=>?_
 replace H:=H.nf 3 rfl
 refine nl (cB F rfl (fun hg15=>?_) (fun hg15=>?_))
 replace hm:=ifT hg15 hm
 refine sb [0,0] F H rfl fun a F=>nl (wr (tr ?_))
 replace H:=H.slNil rByte
 cases hm
 refine x_ret2 F rfl rfl rfl ?_
 exact ⟨_,rfl,none,0,rfl,(H.pm 4 [0] rfl:)⟩
 replace hm:=ifF (nT hg15) hm
 refine sk (ct (sr ?_))
 replace H:=H.owNil rByte 5
 refine sv F rfl (y_build F rfl rfl (cs:=[.slice none (([]:List UInt8)).length 0]) (by kernel_rfl)) fun a F=>s_boxA wkP F rfl rfl rfl rfl rfl H fun b16 w a H F=>bb [0] F H rfl fun a F=>?_
 replace H:=H.nf 5 rfl
 refine nl (sr (bk [0,0,4000,2] F H rfl ⟨fld58_0,rfl,plain34,Tryz.underlying34,Tryz.underlying22,trivial⟩ fun a F=>?_))
 replace H:=O_pack_Pen_s (x0:=([]:List UInt8)) H
 obtain ⟨x17,ex17,hm⟩:=ob hm
 refine sd F rfl ent19 (w_penUint ex17 H:) ?_;rintro _ w a ⟨rfl,H⟩ F
 replace H:=H.nf 4 rfl
 refine nl (sr (bk [0,1,3001,2] F H rfl ⟨fld58_1,rfl,plain3,Tryz.underlying3,Tryz.underlying22,trivial⟩ fun a F=>?_))
 obtain ⟨x18,ex18,hm⟩:=ob hm
 refine sd F rfl ent19 (w_penUint ex18 H:) ?_;rintro _ w a ⟨rfl,H⟩ F
 replace H:=H.nf 4 rfl
 refine nl (sr (bk [0,2,3002] F H rfl ⟨fld58_2,rfl,plain25,trivial⟩ fun a F=>?_))
 obtain ⟨x19,ex19,hm⟩:=ob hm
 refine sd F rfl ent20 (w_penText ex19 (H.pm 4 [0,1,1,2,3] rfl:):) ?_;rintro _ w a ⟨rfl,H⟩ F
 replace H:=H.nf 4 rfl
 refine nl (sr (bk [0,3,3003,0,2] F H rfl ⟨fld58_3,rfl,plain56,⟨_,Tryz.underlying56⟩,Tryz.underlying3,Tryz.underlying22,trivial⟩ fun a F=>?_))
 obtain ⟨x20,ex20,hm⟩:=ob hm
 refine sd F rfl ent19 (w_penUint ex20 H:) ?_;rintro _ w a ⟨rfl,H⟩ F
 replace H:=H.nf 4 rfl
 refine nl (sq (sr (bk [3,3003,0,0] F H rfl ⟨fld58_3,rfl,plain56,⟨_,Tryz.underlying56⟩,trivial⟩ fun a F=>?_)))
 refine nl (xm0 4 [5] [1,2,3] F H hm rfl rfl (fun r40 z=>z) (fun r40 z=>O_pack_Pen b16 r40::z) (fun r40 hm=>?_) (fun r40 a w hm F H=>?_))
 refine bl (xl0 4 [5,59,60] [1,2,3] F H hm rfl rfl (fun (s53:T_pack_Pen_o×Int) z=>(61,.int .i64 (s53.2))::z) (fun s53 z=>O_pack_Pen b16 s53.1::z) ⟨F.sl rfl,H⟩ (fun s53 a w o F H hm=>sb [0] F H rfl fun a F=>?_))
 refine nl (sq (cPm F rfl hm (fun hg54 hm=>?_) (fun hg54 hm=>?_)))
 refine sk (ct (sq (bl (sr ?_))))
 obtain ⟨x55,ex55,hm⟩:=ob hm
 obtain ⟨b56,o56,hp56,cs57,H⟩:=H.slE 2 rfl ex55
 obtain rfl:=H.rcStr 1 rfl
 replace H:=H.dp 1 rfl
 refine sv F rfl (y_idxS F elem56 rfl rfl rfl hp56 ex55) fun a F=>bk [0,0] F H rfl ⟨rfl,plain9,trivial⟩ fun a F=>nl (rl (bb [0,0] F H rfl fun a F=>?_))
 refine s_cvT (e:=5) (xs:=x55) wkP F rfl rfl rfl Tryz.underlying9 Tryz.underlying25 Tryz.underlying5 rfl rfl H fun b58 c58 w a H F=>?_
 replace H:=H.cvFrz 0 rfl
 obtain ⟨x59,ex59,hm⟩:=ob hm
 refine sd F rfl ent20 (w_penText ex59 (H.pm 6 [2,0,0,1,3,4,5] rfl:):) ?_;rintro _ w a ⟨rfl,H⟩ F
 replace H:=H.nf 6 rfl
 refine lz (bn (ct (rl (bb [0,0] F H rfl fun a F=>?_))))
 refine lz (ct ?_);cases hm
 exact ⟨_,rfl,⟨F.sl rfl,(H.pm 6 [0,3,4,5] rfl:)⟩⟩
 refine ex (cx (cx ?_));cases hm;refine ⟨_,rfl,?_⟩;rintro rfl
 refine ch (ct ?_)
 exact ⟨F.sl rfl,H⟩
 refine ct (sb [0] F H rfl fun a F=>?_)
 obtain ⟨x60,ex60,hm⟩:=ob hm
 refine sd F rfl ent21 (w_penData ex60 H:) ?_;rintro _ w a ⟨p61,c61,rfl,H⟩ F
 refine bb [0,0] F H rfl fun a F=>?_
 replace H:=H.nf 5 rfl
 refine nl (wr ?_)
 replace H:=H.frz 0 rfl
 cases hm
 refine x_ret2 F rfl rfl rfl ?_
 exact ⟨_,rfl,p61,c61,rfl,(H.pm 5 [0] rfl:)⟩
section
open Go.ChangeShapes Go.WideShapes Go.ChangeAt
set_option maxHeartbeats 1000000 in
theorem ins109_end {w0 w:World} {l:List HP} {s:Value} {n:Nat} {xs:List Value} (H:St w0 w l) (i:Nat) (hi:l[i]?=some (HP.own 110 6 s n xs)) (hn:n≤1000) (bv cv:Nat) (cs:List Value) (hv:Row w bv 0 cs) (hcs:cs.length=6) (hfc:Flat cs) :
  Calls Tryz.prog 109 #[s,.int .i64 n,.slice (some ⟨bv,0,none⟩) 1 (cv+1)] w (InsSt 110 6 w0 l i n n xs cs):=by
 have hown:=H.owns i hi
 have HS:=Lib.hid (And.intro H hi)
 have hsl:∃ p cap,s=.slice p n cap∧n≤cap∧(p=none→n=0):=by
  obtain ⟨_,⟨rfl,rfl⟩ | ⟨g,cap,cur,rfl,hb,hg,hc,hm,hs,ht⟩⟩:=hown
  ·exact ⟨none,0,rfl,Nat.le_refl _,fun _=>rfl⟩
  ·exact ⟨_,_,rfl,hc,fun h=>by cases h⟩
 have hxl:=hown.1
 clear hown H hi
 obtain ⟨p,cap,rfl,hc,hp⟩:=hsl
 have HV:=Lib.hid (show Sl w (.slice (some ⟨bv,0,none⟩) 1 (cv+1)) 1 cs from .inr (.inr ⟨_,_,_,rfl,by omega,hv⟩))
 have HX:=Lib.hid hxl
 have HCS:=Lib.hid (show cs.length=1 * 6 from hcs)
 have HP:=Lib.hid hp
 have hc':(n:Int)≤(cap:Int):=by omega
 clear hxl hp hv hcs
 have hne:((n:Int)==(n:Int))=true:=by simp
 by_cases hcn:cap=n
 all_goals
  go_enter Tryz.func109,Tryz.ntmps109
  go_wp2_with ((with_reducible refine wl_appendSt elem65 rfl ?_ ?_ ?_ HS.out.1 i HS.out.2 HV.out HCS.out hfc (by unfold maxLen;omega) (by omega) ?_);exact rfl;exact rfl;exact rfl;intro v' w2 h2;have H2:=Lib.hid h2;clear h2)
  go_ret
  refine ⟨_,rfl,?_⟩
  rw [← HX.out,List.take_length,List.drop_length,List.append_nil]
  exact H2.out
set_option maxHeartbeats 2000000 in
theorem ins109_room {w0 w:World} {l:List HP} {g cap n q:Nat} {xs cur:List Value} (H:St w0 w l) (i:Nat) (hi:l[i]?=some (HP.own 110 6 (.slice (some ⟨g,0,none⟩) n cap) n xs)) (hb:Blk w g cur 110) (hcur:cur.length=cap * 6) (hxs:cur.take (n * 6)=xs) (hfx:Flat xs) (hm:cap≤maxLen) (hn:n≤1000) (hq:q<n) (hroom:n+1≤cap)
  (bv cv:Nat) (cs cb:List Value) (hv:Blk w bv cb 110) (hvr:Row w bv 0 cs) (hcs:cs.length=6) (hfc:Flat cs) (hcn:cb≠[]) (hne:bv≠g) :
  Calls Tryz.prog 109 #[.slice (some ⟨g,0,none⟩) n cap,.int .i64 q,.slice (some ⟨bv,0,none⟩) 1 (cv+1)] w (InsSt 110 6 w0 l i n q xs cs):=by
 have HS:=Lib.hid (And.intro H hi)
 have HB:=Lib.hid hb;have HC:=Lib.hid hcur;have HXS:=Lib.hid hxs;have HV:=Lib.hid hv;have HVR:=Lib.hid hvr;have HCS:=Lib.hid hcs;have HM:=Lib.hid hm;have HCN:=Lib.hid hcn
 clear hb hcur hxs hv hvr hcs hm hcn H hi
 have e1:((q:Int)==(n:Int))=false:=by simp;omega
 have e2:decide ((cap:Int)<(n:Int)+1)=false:=by simp;omega
 have hci:¬ cap=q:=by omega
 have hci1:¬ cap=q+1:=by omega
 have hic:(q:Int)≤(n:Int):=by omega
 have hnc:(n:Int)+1≤(cap:Int):=by omega
 go_enter Tryz.func109,Tryz.ntmps109
 go_wp2
 have hun:cur≠[]:=fun h=>by have:=HC.out;rw [h] at this;simp at this;omega
 rw [run_callFunc_extern Tryz.func138 (by kernel_rfl) (by kernel_rfl) (by kernel_rfl) (e:=Extern.SlicesOverlaps.overlaps #[65,65] #[4]) (by kernel_rfl),
  run_overlaps elem65 HV.out HB.out hne HCN.out hun 4]
 clear hun
 simp only [Result.andThen]
 rw [Oper.upon_value]
 go_wp2
 refine wp_region_quiet_tail 8 (by kernel_rfl) (by kernel_rfl) ?_
 simp only [List.take_succ_cons,List.take_zero,List.drop_succ_cons,List.drop_zero]
 repeat (go_big_quiet_step (fail))
 refine wpQuiet_nil ?_
 intro _ hw'
 obtain ⟨nq,hw''⟩:=hw'
 subst hw''
 have HB1:=Lib.hid (show Blk (w.drewN nq) g cur 110 from HB.out)
 have HV1:=Lib.hid (show Row (w.drewN nq) bv 0 cs from HVR.out)
 have HG:=Lib.hid (Chg.drewN g w nq)
 generalize w.drewN nq=w1 at *
 have hl1:xs.length=n * 6:=by rw [← HXS.out,List.length_take,HC.out];omega
 have hdl:(xs.drop (q * 6)).length=(n - q) * 6:=by rw [List.length_drop,hl1,Nat.sub_mul]
 have hrow:Row w1 g (q * 6) (xs.drop (q * 6)):=by
  have h0:Row w1 g 0 (xs.take (q * 6)++xs.drop (q * 6)):=by
   rw [List.take_append_drop,← HXS.out]
   have:=HB1.out.row
   rw [← List.take_append_drop (n * 6) cur] at this
   exact this.left
  have h1:=h0.right
  rw [List.length_take,hl1,Nat.min_eq_left (Nat.mul_le_mul_right 6 (by omega)),Nat.zero_add] at h1
  exact h1
 have HL1:=Lib.hid hl1;have HDL:=Lib.hid hdl;have HROW:=Lib.hid hrow
 clear hl1 hdl hrow
 have HSP:=Lib.hid (splice_room cur xs cs (q * 6) (n * 6) 6 HXS.out (by rw [HC.out];omega) (by omega) HCS.out)
 refine wl_copy elem65 rfl rfl rfl rfl HB1.out HROW.out ?_ ?_ ?_ ?_
 ·rw [HDL.out];congr 1;exact (Nat.min_eq_right (by omega)).symm
 ·rw [HDL.out,HC.out,← Nat.add_mul];exact Nat.mul_le_mul_right 6 (by omega)
 ·exact fun v hv=>hfx v (List.mem_of_mem_drop hv)
 intro w2 hb2 hc2
 rw [show (q+1) * 6=q * 6+6 by omega] at hb2
 obtain ⟨C1,hC1⟩:∃ C1,C1=cur.take (q * 6+6)++xs.drop (q * 6)++cur.drop (q * 6+6+(xs.drop (q * 6)).length):=⟨_,rfl⟩
 rw [← hC1] at hb2
 have hsp:=HSP.out
 simp only [← hC1] at hsp
 have H2:=Lib.hid (And.intro hb2 (And.intro hc2 (HV1.out.chg hc2 hne)))
 have HSP2:=Lib.hid hsp
 have HN2:=Lib.hid (show cs.length=Nat.min 1 (n+1 - q) * 6 by rw [HCS.out,show Nat.min 1 (n+1 - q)=1 from Nat.min_eq_left (by omega)])
 have HF2:=Lib.hid (show q * 6+cs.length≤C1.length by rw [hsp.1,HC.out,HCS.out];omega)
 clear hb2 hc2 hsp hC1
 go_wp2_with ((with_reducible refine wl_copy (dCap:=cap - q) (sCap:=cv+1) elem65 rfl ?_ ?_ ?_ H2.out.1 H2.out.2.2 HN2.out HF2.out hfc ?_);exact rfl;exact rfl;exact rfl;intro w3 hb3 hc3;have H3:=Lib.hid (And.intro hb3 hc3);clear hb3 hc3)
 go_ret
 refine ⟨_,rfl,HS.out.1.chg i HS.out.2 (g:=g) (fun S hA=>hA.2 g rfl) ((HG.out.trans H2.out.2.1).trans H3.out.2) fun S hA=>⟨⟨?_,.inr ⟨g,cap,_,rfl,Nat.zero_le _,H3.out.1,hroom,HM.out,?_,?_⟩⟩,hA.2⟩⟩
 ·simp only [List.length_append,List.length_take,List.length_drop,HL1.out,HCS.out];omega
 ·rw [List.size_toArray,HSP2.out.2.1,HC.out]
 ·rw [show (n+1) * 6=n * 6+6 by omega];exact HSP2.out.2.2
set_option maxHeartbeats 2000000 in
theorem ins109_grow {w0 w:World} {l:List HP} {g cap q:Nat} {xs:List Value} (H:St w0 w l) (i:Nat) (hi:l[i]?=some (HP.own 110 6 (.slice (some ⟨g,0,none⟩) cap cap) cap xs)) (hrx:Row w g 0 xs) (hxl:xs.length=cap * 6) (hfx:Flat xs) (hgw:g<w.heap.size) (hn:cap≤1000) (hq:q<cap)
    (bv cv:Nat) (cs:List Value) (hv:Row w bv 0 cs) (hcs:cs.length=6) (hfc:Flat cs) (hvw:bv<w.heap.size) :
    Calls Tryz.prog 109 #[.slice (some ⟨g,0,none⟩) cap cap,.int .i64 q,.slice (some ⟨bv,0,none⟩) 1 (cv+1)] w (InsSt 110 6 w0 l i cap q xs cs):=by
  have HS:=Lib.hid (And.intro H hi)
  have hd0:Row w g 0 (xs.take (q * 6)):=by
    have:=hrx;rw [← List.take_append_drop (q * 6) xs] at this;exact this.left
  have hd1:Row w g (q * 6) (xs.drop (q * 6)):=by
    have:=hrx;rw [← List.take_append_drop (q * 6) xs] at this
    have h1:=this.right
    rw [List.length_take,hxl,Nat.min_eq_left (Nat.mul_le_mul_right 6 (by omega)),Nat.zero_add] at h1
    exact h1
  have HD0:=Lib.hid hd0;have HD1:=Lib.hid hd1;have HXL:=Lib.hid hxl;have HV:=Lib.hid hv;have HCS:=Lib.hid hcs
  have HLO:=Lib.hid (show (xs.take (q * 6)).length=q * 6 by rw [List.length_take,hxl];exact Nat.min_eq_left (Nat.mul_le_mul_right 6 (by omega)))
  have HDL:=Lib.hid (show (xs.drop (q * 6)).length=(cap - q) * 6 by rw [List.length_drop,hxl,Nat.sub_mul])
  clear hd0 hd1 hxl hv hcs hrx H hi
  have e1:((q:Int)==(cap:Int))=false:=by simp;omega
  have e2:decide ((cap:Int)<(cap:Int)+1)=true:=by simp;omega
  have hci:¬ cap=q:=by omega
  have hc0:¬ cap=0:=by omega
  have hic:(q:Int)≤(cap:Int):=by omega
  go_enter Tryz.func109,Tryz.ntmps109
  go_wp2_with (first
    | ((with_reducible refine wl_appendZeros (n:=q) (cap:=cap) (k:=cap+1 - q) (m:=cap+1) (kk:=(cap:Int)+1 - (q:Int)) elem65 Tryz.underlying3 rfl ?_ (by omega) (by omega) ?_ ?_ HD0.out HLO.out (by omega) (by omega) (by unfold maxLen;omega) (by omega) ?_);exact rfl;exact rfl;exact rfl;intro c rs hc1 hc2 hc3;have hci2:¬ c=q:=(by omega);have hci3:¬ c=q+1:=(by omega);have hcc:(q:Int)≤(c:Int):=(by omega);
        have HC:=Lib.hid (And.intro hc2 (splice_grow xs cs rs (q * 6) (cap * 6) 6 (c * 6) HXL.out (by omega) (by omega) HCS.out hc3));
        have HB0:=Lib.hid (show Blk ((w.alloc (.cells (xs.take (q * 6)++rs).toArray 110)).drew) w.heap.size (xs.take (q * 6)++rs) 110 from Blk.new w _ _);
        have HVR:=Lib.hid (show Row ((w.alloc (.cells (xs.take (q * 6)++rs).toArray 110)).drew) bv 0 cs from HV.out.alloc _);
        have HGR:=Lib.hid (show Row ((w.alloc (.cells (xs.take (q * 6)++rs).toArray 110)).drew) g (q * 6) (xs.drop (q * 6)) from HD1.out.alloc _);
        have HBL:=Lib.hid (show Below w.heap.size w ((w.alloc (.cells (xs.take (q * 6)++rs).toArray 110)).drew) from ((Below.refl _ _).alloc (Nat.le_refl _) _).drew);
        have HN2:=Lib.hid (show cs.length=Nat.min 1 (cap+1 - q) * 6 by rw [HCS.out,show Nat.min 1 (cap+1 - q)=1 from Nat.min_eq_left (by omega)]);
        have HF2:=Lib.hid (show q * 6+cs.length≤(xs.take (q * 6)++rs).length by rw [HC.out.2.1,HCS.out];omega);
        clear hc2 hc3)
    | ((with_reducible refine wl_copy (dCap:=c - q) (sCap:=cv+1) elem65 rfl ?_ ?_ ?_ HB0.out HVR.out HN2.out HF2.out hfc ?_);exact rfl;exact rfl;exact rfl;intro w2 hb2 hc2;have H2:=Lib.hid (And.intro hb2 (And.intro (HGR.out.chg hc2 (by omega)) (HBL.out.chg hc2 (Nat.le_refl _))));clear hb2 hc2))
  refine wp_region_quiet_tail 8 (by kernel_rfl) (by kernel_rfl) ?_
  simp only [List.take_succ_cons,List.take_zero,List.drop_succ_cons,List.drop_zero]
  repeat (go_big_quiet_step (fail))
  refine wpQuiet_nil ?_
  intro _ hw'
  obtain ⟨nq,hw''⟩:=hw'
  subst hw''
  refine wl_copy elem65 rfl rfl rfl rfl (show Blk (w2.drewN nq) _ _ _ from H2.out.1) (show Row (w2.drewN nq) _ _ _ from H2.out.2.1) ?_ ?_ ?_ ?_
  · rw [HDL.out];congr 1;exact (Nat.min_eq_left (by omega)).symm
  · rw [HC.out.2.2.1,HDL.out,← Nat.add_mul];exact Nat.mul_le_mul_right 6 (by omega)
  · exact fun v hv=>hfx v (List.mem_of_mem_drop hv)
  intro w3 hb3 hc3
  rw [show (q+1) * 6=q * 6+6 by omega] at hb3
  have H3:=Lib.hid (And.intro hb3 ((H2.out.2.2.drewN nq).chg hc3 (Nat.le_refl _)))
  clear hb3 hc3
  go_wp2
  go_ret
  have hlt:=H3.out.1.lt
  refine ⟨_,rfl,HS.out.1.upd i HS.out.2 (fun S hA hS=>⟨fun b=>b=w.heap.size,⟨⟨?_,.inr ⟨w.heap.size,c,_,rfl,Nat.zero_le _,H3.out.1,by omega,HC.out.1,?_,?_⟩⟩,fun b hb=>by simp [Value.ownBlock] at hb;exact hb.symm⟩,fun b hb=>.inr (by omega),fun b hb=>by rw [hb];exact hlt,fun b hb _=>H3.out.2.block b hb⟩) H3.out.2.os H3.out.2.tape H3.out.2.output H3.out.2.size⟩
  · simp only [List.length_append,HLO.out,HDL.out,HCS.out];omega
  · rw [List.size_toArray,HC.out.2.2.2.1]
  · rw [show (cap+1) * 6=cap * 6+6 by omega];exact HC.out.2.2.2.2
end
theorem w_insSeat {s:List T_api_Seat} {i_:Int} {v:List T_api_Seat} {p1:Option Addr} {c1:Nat} {p2:Option Addr} {c2:Nat} {w0 w:World} {l:List HP}  {r:(List T_api_Seat)} (hm:insSeat s i_ v=some r) (H:St w0 w (HP.ow R_api_Seat 110 p1 c1 s::HP.ow R_api_Seat 110 p2 c2 v::l)) :
  Calls Tryz.prog 109 [.slice p1 (s).length c1,.int .i64 (i_),.slice p2 (v).length c2].toArray w (fun e w'=>∃ v,e=.returned v∧∃ (p3:Option Addr) (c3:Nat),v=.slice p3 (r).length c3∧St w0 w' (HP.ow R_api_Seat 110 p3 c3 r::l)):=by
 unfold insSeat at hm
 exact ins_st (k:=6) rfl (by decide) ins109_end ins109_room ins109_grow hm H
set_option maxRecDepth 100000
set_option maxHeartbeats 4000000
theorem w_cloneT {s:List (List UInt8)} {p1:Option Addr} {c1:Nat} {w0 w:World} {l:List HP}  {r:(List (List UInt8))} (hm:cloneT s=some r) (H:St w0 w (HP.sl rStr p1 c1 s::l)) :
  Calls Tryz.prog 130 [.slice p1 (s).length c1].toArray w (fun e w'=>∃ v,e=.returned v∧∃ (p2:Option Addr) (c2:Nat),v=.slice p2 (r).length c2∧St w0 w' (HP.ow rStr 9 p2 c2 r::l)):=by
 unfold cloneT at hm
 refine x_enter Tryz.func130 rfl rfl rfl ?_
 intro a F
 refine sb [0] F H rfl fun a F=>nl (sq (sb [0] F H rfl fun a F=>?_))
 obtain _ | ad:=p1
 obtain ⟨hx0,hc0⟩:=H.slNone 0 rfl;subst hc0;try subst hx0
 replace H:=H.dp 0 rfl
 refine sv F rfl (y_eqNil F rfl Tryz.underlying56 rfl rfl (by simp)) fun a F=>nl (cT F rfl (sb [0] F H rfl fun a F=>nl (wr (tr ?_))))
 replace H:=H.owNil rStr 9
 cases hm
 refine x_ret1 F rfl rfl ?_
 exact ⟨_,rfl,none,0,rfl,H⟩
 refine sv F rfl (y_eqSome F rfl Tryz.underlying56 rfl rfl (by simp)) fun a F=>nl (cF F rfl (sk (ct (sr (s_build0O (R:=rStr) wkP F rfl rfl rfl elem56 rfl H fun b3 w a H F=>bb [0] F H rfl fun a F=>?_)))))
 obtain ⟨x5,ex5,hm⟩:=ob hm
 refine s_app wkP F rfl rfl rfl rfl rfl rfl elem56 rfl ex5 H 0 1 rfl rfl fun p4 c4 w a H F=>?_
 refine bb [0] F H rfl fun a F=>?_
 replace H:=H.nf 2 rfl
 refine nl (wr ?_)
 cases hm
 refine x_ret1 F rfl rfl ?_
 exact ⟨_,rfl,p4,c4,rfl,(H.pm 2 [0] rfl:)⟩
theorem w_bsSeat {xs:List T_api_Seat} {t_:T_api_Seat} {p1:Option Addr} {c1:Nat} {cs2:List Value} {w0 w:World} {l:List HP}  {r:Int×Bool} (hm:bsSeat xs t_=some r) (H:St w0 w (HP.sl R_api_Seat p1 c1 xs::HP.rc R_api_Seat cs2 t_::l)) :
  Calls Tryz.prog 129 [.slice p1 (xs).length c1,.agg cs2.toArray,.func (.func 84) #[] #[]].toArray w (fun e w'=>∃ v,e=.returned v∧v=.tuple [.int .i64 (r.1),.bool (r.2)].toArray∧St w0 w' (l)):=by
 unfold bsSeat at hm
 refine x_enter Tryz.func129 rfl rfl rfl ?_
 intro a F
 refine sr (s_boxA wkP F rfl rfl rfl rfl rfl H fun b3 w a H F=>bb [0,0] F H rfl fun a F=>?_)
 replace H:=H.nf 3 rfl
 refine nl (sr (bk [0,0,0] F H rfl ⟨⟨_,Tryz.underlying65⟩,trivial⟩ fun a F=>nb [0,0,0] F H rfl fun a F=>?_))
 refine nl (sq (xm0 3 [0,2,4,8] [0,1,2] F H hm rfl rfl (fun r53 z=>(9,.int .i64 (r53))::z) (fun r53 z=>z) (fun r53 hm=>?_) (fun r53 a w hm F H=>?_)))
 refine bl (xl0 3 [0,2,4,8] [0,1,2] F H hm rfl rfl (fun (s86:Int×Int) z=>(9,.int .i64 (s86.1))::(10,.int .i64 (s86.2))::z) (fun s86 z=>z) ⟨F.sl rfl,H⟩ (fun s86 a w o F H hm=>sq (sb [0,0,0] F H rfl fun a F=>?_)))
 refine nl (cPm F rfl hm (fun hg87 hm=>?_) (fun hg87 hm=>?_))
 refine sk (ct (xm0 3 [0,2,4,8] [0,1,2] F H hm rfl rfl (fun r95 z=>(9,.int .i64 (r95.1))::(10,.int .i64 (r95.2))::z) (fun r95 z=>z) (fun r95 hm=>?_) (fun r95 a w hm F H=>?_)))
 refine bl (sr (bk [0,0,0,2] F H rfl ⟨Tryz.underlying3,Tryz.underlying141,trivial⟩ fun a F=>sv F rfl (i_shr F rfl rfl rfl (by decide)) fun a F=>bk [0,0] F H rfl ⟨Tryz.underlying141,Tryz.underlying3,trivial⟩ fun a F=>nl (sq ?_)))
 obtain ⟨x96,ex96,hm⟩:=ob hm
 obtain ⟨b97,o97,hp97,cs98,H⟩:=H.slE 1 rfl ex96
 refine mix_regionK [6] [] (scL [0,1,2,3,1004,1005,2006,7]) [] H rfl rfl (by kernel_rfl) (by kernel_rfl) fun w H=>?_
 refine mb [0,0,0] F H rfl fun a F=>?_
 refine m_pure F rfl rfl rfl rfl (fun u hu=>y_idxS F elem65 rfl rfl rfl hp97 ex96) fun a F=>?_
 refine mbk [999,2999] F H rfl ⟨rfl,(aggn agg110 (H.rcLen 1 rfl)),rfl,(aggn agg110 (H.rcLen 4 rfl)),trivial⟩ fun a F=>m_heavy rfl rfl ?_
 obtain ⟨x99,ex99,hm⟩:=ob hm
 refine s_call wkP F rfl rfl rfl rfl (y_callV0 F rfl rfl rfl ent84) (w_tCompare ex99 (H.pm 5 [1,4,0,1,2,3,4] rfl:):) ?_;rintro _ w a ⟨rfl,H⟩ F
 refine lz ?_;refine ct ⟨⟨_,H⟩,?_⟩
 refine mb [0] F H rfl fun a F=>m_nil ?_
 refine ct (xm0 5 [0,2,4,8] [0,2,3,4] F H hm rfl rfl (fun r101 z=>(9,.int .i64 (r101.1))::(10,.int .i64 (r101.2))::z) (fun r101 z=>z) (fun r101 hm=>?_) (fun r101 a w hm F H=>?_))
 refine cPm F rfl hm (fun hg102 hm=>?_) (fun hg102 hm=>?_)
 refine rl (bb [0,0,0] F H rfl fun a F=>?_)
 replace H:=H.nf 5 rfl
 refine lz ?_
 cases hm
 refine ct ?_
 exact ⟨F.sl rfl,(H.pm 5 [0,2,3,4] rfl:)⟩
 refine rl (bb [0,0] F H rfl fun a F=>?_)
 replace H:=H.nf 5 rfl
 refine lz ?_
 cases hm
 refine ct ?_
 exact ⟨F.sl rfl,(H.pm 5 [0,2,3,4] rfl:)⟩
 refine bn ?_
 cases hm
 refine ct ?_
 exact ⟨F.sl rfl,(H.pm 4 [1,2,3] rfl:)⟩
 refine ct ?_;cases hm
 exact ⟨_,rfl,⟨F.sl rfl,H⟩⟩
 refine ex (cx (cx ?_));cases hm;refine ⟨_,rfl,?_⟩;rintro rfl
 refine ch (ct ?_)
 exact ⟨F.sl rfl,H⟩
 refine ct (sq ?_)
 by_cases hg103:r53<((xs).length:Int)
 replace hm:=ifT hg103 hm
 obtain ⟨x104,ex104,hm⟩:=ob hm
 obtain ⟨b105,o105,hp105,cs106,H⟩:=H.slE 1 rfl ex104
 refine mix_regionK [11] [] (scL [0,1,2,3,4,5,6,7,8,1009,1010,2011,12,13,14,15]) [] H rfl rfl (by kernel_rfl) (by kernel_rfl) fun w H=>?_
 refine mb (List.replicate 5 0) F H rfl fun a F=>?_
 replace F:=F.bT 39 hg103 rfl
 refine mb [0,0,0] F H rfl fun a F=>?_
 refine m_on (k:=0) F rfl rfl rfl rfl rfl rfl rfl (fun u hu=>y_idxS F elem65 rfl rfl rfl hp105 ex104) fun a F=>?_
 refine mbk [999,2999] F H rfl ⟨rfl,(aggn agg110 (H.rcLen 1 rfl)),rfl,(aggn agg110 (H.rcLen 4 rfl)),trivial⟩ fun a F=>?_
 refine m_heavyOn F rfl rfl rfl rfl rfl ?_;refine g_onP F rfl rfl rfl rfl ?_
 obtain ⟨x107,ex107,hm⟩:=ob hm
 refine s_call wkP F rfl rfl rfl rfl (y_callV0 F rfl rfl rfl ent84) (w_tCompare ex107 (H.pm 5 [1,4,0,1,2,3,4] rfl:):) ?_;rintro _ w a ⟨rfl,H⟩ F
 refine lz ?_;refine ct ⟨⟨_,H⟩,?_⟩
 refine mb [0,0,0,0] F H rfl fun a F=>m_nil (ct (wr ?_))
 cases hm
 refine x_ret2 F rfl rfl rfl ?_
 exact ⟨_,rfl,rfl,(H.pm 5 [] rfl:)⟩
 replace hm:=ifF hg103 hm
 refine mix_regionK [11] [] (scL [0,1,2,3,4,5,6,7,8,1009,1010,2011,12,13,14,15]) [] H rfl rfl (by kernel_rfl) (by kernel_rfl) fun w H=>?_
 refine mb (List.replicate 5 0) F H rfl fun a F=>?_
 replace F:=F.bF 39 hg103 rfl
 refine mb (List.replicate 11 0) F H rfl fun a F=>m_nil (ct (wr ?_))
 cases hm
 refine x_ret2 F rfl rfl rfl ?_
 exact ⟨_,rfl,rfl,(H.pm 3 [] rfl:)⟩
theorem w_tFind {seats:List T_api_Seat} {client:Int} {p1:Option Addr} {c1:Nat} {w0 w:World} {l:List HP}  {r:Int×Bool} (hm:tFind seats client=some r) (H:St w0 w (HP.sl R_api_Seat p1 c1 seats::l)) :
  Calls Tryz.prog 102 [.slice p1 (seats).length c1,.int .i64 (client)].toArray w (fun e w'=>∃ v,e=.returned v∧v=.tuple [.int .i64 (r.1),.bool (r.2)].toArray∧St w0 w' (l)):=by
 unfold tFind at hm
 refine x_enter Tryz.func102 rfl rfl rfl ?_
 intro a F
 refine sb [0,0] F H rfl fun a F=>nb [0,0] F H rfl fun a F=>?_
 replace H:=H.owNil rByte 5
 replace H:=H.owNil rStr 9
 refine sv F rfl (y_build F rfl rfl (cs:=[.int .i64 (client),.int .u64 (0),.int .i64 (0),.int .i64 (0),.slice none (([]:List UInt8)).length 0,.slice none (([]:List (List UInt8))).length 0]) (by kernel_rfl)) fun a F=>?_
 replace H:=H.frz 1 rfl
 replace H:=H.frz 1 rfl
 replace H:=H.mkRc (R:=R_api_Seat) (cs:=[.int .i64 (client),.int .u64 (0),.int .i64 (0),.int .i64 (0),.slice none (([]:List UInt8)).length 0,.slice none (([]:List (List UInt8))).length 0]) (x:=(client,0,(0,0,([]:List UInt8),([]:List (List UInt8))))) (fun gg=>⟨[Value.int .i64 (client)],_,rfl,rfl,⟨[Value.int .u64 (0)],_,rfl,rfl,⟨[Value.int .i64 (0)],_,rfl,rfl,⟨[Value.int .i64 (0)],_,rfl,rfl,⟨[Value.slice none (([]:List UInt8)).length 0],_,rfl,⟨_,_,rfl,(gg 1 _ rfl).choose_spec⟩,⟨_,_,rfl,(gg 0 _ rfl).choose_spec⟩⟩⟩⟩⟩⟩)
 obtain ⟨x2,ex2,hm⟩:=ob hm
 refine sd F rfl ent129 (w_bsSeat ex2 (H.pm 4 [3,0,0,1,2,3] rfl:):) ?_;rintro _ w a ⟨rfl,H⟩ F
 refine bb [0,0,0,0] F H rfl fun a F=>?_
 replace H:=H.nf 4 rfl
 refine nl (wr ?_)
 cases hm
 refine x_ret2 F rfl rfl rfl ?_
 exact ⟨_,rfl,rfl,(H.pm 4 [] rfl:)⟩
theorem ent130:En Tryz.prog 130:=enters Tryz.func130 (by kernel_rfl) rfl
theorem zero56:Zero1 Tryz.prog 56 (.slice none 0 0):=⟨by kernel_rfl,rfl⟩
theorem w_tAnswer {a_:T_api_Answer} {cs1:List Value} {w0 w:World} {l:List HP}  {r:T_api_Answer} (hm:tAnswer a_=some r) (H:St w0 w (HP.rc R_api_Answer cs1 a_::l)) :
  Calls Tryz.prog 103 [.agg cs1.toArray].toArray w (fun e w'=>∃ v,e=.returned v∧∃ (cs2:List Value),v=.agg cs2.toArray∧St w0 w' (HP.rc R_api_Answer cs2 r::l)):=by
 unfold tAnswer at hm
 refine x_enter Tryz.func103 rfl rfl rfl ?_
 intro a F
 refine sr (s_boxA wkP F rfl rfl rfl rfl rfl H fun b3 w a H F=>?_)
 replace H:=H.owNil rByte 5
 replace H:=H.owNil rStr 9
 refine s_allocA wkP F rfl rfl rfl agz58 rfl H fun b4 w a H F=>?_
 replace H:=H.nf 5 rfl
 refine nl (sq ?_)
 have G:=F;replace H:=rc_api_Answer (H.pk 4 rfl);obtain ⟨p5,c6,p7,c8,rfl,J⟩:=H;have H:=J;have F:=G;clear G J
 refine mix_region [2,5,7,9] [9] (.step 0 0 (.step 1 1 (.step 0 3 (.step 0 4 (.step 2 2 (.step 0 6 (.step 2 5 (.step 2 7 (.step 0 8 (.step 3 9 .done)))))))))) (fun u=>∃ y ls,St w0 u (HP.blk b3 ([.int .i64 (a_.1),.int .i64 (a_.2.1),y,.slice p7 (a_.2.2.2).length c8]) 58::ls)) (by kernel_rfl) (by kernel_rfl) ⟨_,_,(H.drew.pm 6 [5,0,1,2,3,4] rfl:)⟩ ?_
 replace H:=H.drew
 generalize w.drew=w at H ⊢
 refine mbk [2,5002,3] F H rfl ⟨fld58_2,rfl,plain25,fld58_3,trivial⟩ fun a F=>?_
 refine m_pure F rfl rfl rfl rfl (fun u hu=>y_load1 F plain56 rfl rfl (row_at (v:=.slice p7 (a_.2.2.2).length c8) ((hu.choose_spec.choose_spec.blk 0 rfl).row) rfl)) fun a F=>?_
 refine m_heavy rfl rfl ?_
 obtain ⟨x9,ex9,hm⟩:=ob hm
 refine sd F rfl ent44 (w_cloneBy ex9 (H.pm 6 [0,0,1,2,3,4,5] rfl:):) ?_;rintro _ w a ⟨p10,c10,rfl,H⟩ F
 refine lz ?_;refine ct ⟨⟨_,_,(H.pm 7 [6,0,1,2,3,4,5] rfl:)⟩,?_⟩
 refine mbk [2] F H rfl ⟨fld58_2,trivial⟩ fun a F=>m_heavy rfl rfl ?_
 obtain ⟨x11,ex11,hm⟩:=ob hm
 refine sd F rfl ent130 (w_cloneT ex11 (H.pm 7 [2,0,1,2,3,4,5,6] rfl:):) ?_;rintro _ w a ⟨p12,c12,rfl,H⟩ F
 refine lz ?_;refine ct ⟨⟨_,_,(H.pm 8 [7,0,1,2,3,4,5,6] rfl:)⟩,?_⟩
 refine m_heavy rfl rfl (s_st1 wkP F rfl rfl zero25 rfl rfl rfl rfl rfl H 7 rfl rfl fun w H=>?_)
 refine lz ?_;refine ct ⟨⟨_,_,(H.pm 8 [7,0,1,2,3,4,5,6] rfl:)⟩,?_⟩
 refine mbk [3] F H rfl ⟨fld58_3,trivial⟩ fun a F=>m_last rfl rfl (s_st1 wkP F rfl rfl zero56 rfl rfl rfl rfl rfl H 7 rfl rfl fun w H=>?_)
 refine lz ?_;refine ct ?_
 refine m_nil (ct (sr (bk [7999] F H rfl ⟨rfl,(aggn agg58 rfl),trivial⟩ fun a F=>s_storeA wkP F rfl rfl agg58 rfl rfl rfl H 4 rfl rfl rfl (fl rfl) fun w H=>?_)))
 replace H:=H.nf 8 rfl
 refine nl (wr ?_)
 replace H:=H.frz 1 rfl
 replace H:=H.frz 1 rfl
 replace H:=mk_api_Answer H a_.1 a_.2.1 1 rfl 0 rfl
 cases hm
 refine x_resC1 F rfl (⟨_,rfl,agg58.run_load (H.blk 5 rfl).row rfl⟩) ?_
 exact ⟨_,rfl,[.int .i64 (a_.1),.int .i64 (a_.2.1),.slice p10 (x9).length c10,.slice p12 (x11).length c12],rfl,(H.pm 9 [0] rfl:)⟩
theorem agz110:AggT Tryz.prog 110 6 ([.int .i64 (0),.int .u64 (0),.int .i64 (0),.int .i64 (0),.slice none (([]:List UInt8)).length 0,.slice none (([]:List (List UInt8))).length 0]):=⟨by rw [Tryz.underlying110];rfl,by kernel_rfl,by kernel_rfl⟩
theorem w_tCopied {seats:List T_api_Seat} {p1:Option Addr} {c1:Nat} {w0 w:World} {l:List HP}  {r:(List T_api_Seat)} (hm:tCopied seats=some r) (H:St w0 w (HP.sl R_api_Seat p1 c1 seats::l)) :
  Calls Tryz.prog 101 [.slice p1 (seats).length c1].toArray w (fun e w'=>∃ v,e=.returned v∧∃ (p2:Option Addr) (c2:Nat),v=.slice p2 (r).length c2∧St w0 w' (HP.ow R_api_Seat 110 p2 c2 r::l)):=by
 unfold tCopied at hm
 refine x_enter Tryz.func101 rfl rfl rfl ?_
 intro a F
 refine sb [0] F H rfl fun a F=>nl (sq (sr (bk [0,0,0] F H rfl ⟨⟨_,Tryz.underlying65⟩,trivial⟩ fun a F=>?_)))
 refine nl (xm0 1 [2] [] F H hm rfl rfl (fun r34 z=>z) (fun r34 z=>z) (fun r34 hm=>?_) (fun r34 a w hm F H=>?_))
 refine bl (xl0 1 [2,5,6,7] [0] F H hm rfl rfl (fun (s55:Unit) z=>z) (fun s55 z=>z) ⟨F.sl rfl,H⟩ (fun s55 a w o F H hm=>sb [0] F H rfl fun a F=>?_))
 refine nl (sq (cPm F rfl hm (fun hg56 hm=>?_) (fun hg56 hm=>?_)))
 refine sk (ct (sq (bl (sr ?_))))
 obtain ⟨x57,ex57,hm⟩:=ob hm
 obtain ⟨b58,o58,hp58,cs59,H⟩:=H.slE 0 rfl ex57
 refine sv F rfl (y_idxS F elem65 rfl rfl rfl hp58 ex57) fun a F=>bk [999] F H rfl ⟨rfl,(aggn agg110 (H.rcLen 1 rfl)),trivial⟩ fun a F=>?_
 replace H:=H.owNil rByte 5
 replace H:=H.owNil rStr 9
 refine s_allocA wkP F rfl rfl rfl agz110 rfl H fun b60 w a H F=>?_
 have G:=F;replace H:=rc_api_Seat (H.pk 4 rfl);obtain ⟨v61,rfl,J⟩:=H;have H:=J;have F:=G;clear G J
 have G:=F;replace H:=rc_api_Answer (H.pk 0 rfl);obtain ⟨p62,c63,p64,c65,rfl,J⟩:=H;have H:=J;have F:=G;clear G J
 refine s_storeA wkP F rfl rfl agg110 rfl rfl rfl H 2 rfl rfl rfl (fl rfl) fun w H=>?_
 replace H:=H.nf 7 rfl
 refine nl ?_
 cases hm
 refine ex (cx (cx ?_));cases hm;refine ⟨_,rfl,?_⟩;rintro rfl
 refine ch (ct ?_)
 exact ⟨F.sl rfl,(H.pm 1 [] rfl:)⟩
 refine ct (sb [0,0] F H rfl fun a F=>nl (wr ?_))
 replace H:=H.owNil R_api_Seat 110
 cases hm
 refine x_ret1 F rfl rfl ?_
 exact ⟨_,rfl,none,0,rfl,H⟩
theorem ent102:En Tryz.prog 102:=enters Tryz.func102 (by kernel_rfl) rfl
theorem w_tLook {seats:List T_api_Seat} {client:Int} {number:Int} {p1:Option Addr} {c1:Nat} {w0 w:World} {l:List HP}  {r:Int×T_api_Answer} (hm:tLook seats client number=some r) (H:St w0 w (HP.sl R_api_Seat p1 c1 seats::l)) :
  Calls Tryz.prog 78 [.slice p1 (seats).length c1,.int .i64 (client),.int .u64 (number)].toArray w (fun e w'=>∃ v,e=.returned v∧∃ (cs2:List Value),v=.tuple [.int .i64 (r.1),.agg cs2.toArray].toArray∧St w0 w' (HP.rc R_api_Answer cs2 r.2::l)):=by
 unfold tLook at hm
 refine x_enter Tryz.func78 rfl rfl rfl ?_
 intro a F
 refine sb [0] F H rfl fun a F=>?_
 replace H:=H.owNil rByte 5
 replace H:=H.owNil rStr 9
 refine s_allocA wkP F rfl rfl rfl agz58 rfl H fun b3 w a H F=>?_
 replace H:=H.nf 4 rfl
 refine nb [0,0] F H rfl fun a F=>?_
 obtain ⟨x4,ex4,hm⟩:=ob hm
 refine sd F rfl ent102 (w_tFind ex4 (H.pm 4 [3,0,1,2,3] rfl:):) ?_;rintro _ w a ⟨rfl,H⟩ F
 refine bb (List.replicate 5 0) F H rfl fun a F=>?_
 replace H:=H.nf 4 rfl
 refine nb [0] F H rfl fun a F=>nl (sq (sb [0] F H rfl fun a F=>?_))
 refine nl (cB F rfl (fun hg5=>?_) (fun hg5=>?_))
 replace hm:=ifT hg5 hm
 cases hm
 replace hm:=ifF (nT hg5) hm
 refine sk (ct (sq (bl (sb [0,0,0,0] F H rfl fun a F=>?_))))
 refine nl (cPm F rfl hm (fun hg6 hm=>?_) (fun hg6 hm=>?_))
 refine sr ?_
 replace H:=H.owNil rByte 5
 replace H:=H.owNil rStr 9
 refine sv F rfl (y_build F rfl rfl (cs:=[.int .i64 (0),.int .i64 (0),.slice none (([]:List UInt8)).length 0,.slice none (([]:List (List UInt8))).length 0]) (by kernel_rfl)) fun a F=>bb [0] F H rfl fun a F=>s_storeA wkP F rfl rfl agg58 rfl rfl rfl H 2 rfl rfl rfl (fl rfl) fun w H=>?_
 replace H:=H.nf 6 rfl
 refine nl (wr (br (tr ?_)))
 replace H:=H.frz 1 rfl
 replace H:=H.frz 1 rfl
 replace H:=mk_api_Answer H 0 0 1 rfl 0 rfl
 cases hm
 refine x_resC2 F rfl rfl (⟨_,rfl,agg58.run_load (H.blk 3 rfl).row rfl⟩) ?_
 exact ⟨_,rfl,[.int .i64 (0),.int .i64 (0),.slice none (([]:List UInt8)).length 0,.slice none (([]:List (List UInt8))).length 0],rfl,(H.pm 7 [0] rfl:)⟩
 refine sb [0,0] F H rfl fun a F=>?_
 by_cases hg7:x4.2=true
 replace hm:=ifT hg7 hm
 replace F:=F.vT 30 hg7 rfl
 refine bb (List.replicate 5 0) F H rfl fun a F=>?_
 refine nl (cPm F rfl hm (fun hg8 hm=>?_) (fun hg8 hm=>?_))
 cases hm
 refine sk (bn (ct ?_))
 cases hm
 replace hm:=ifF hg7 hm
 replace F:=F.vF 30 hg7 rfl
 refine bb (List.replicate 5 0) F H rfl fun a F=>nl (cF F rfl (sk (bn (ct ?_))))
 cases hm
theorem ent101:En Tryz.prog 101:=enters Tryz.func101 (by kernel_rfl) rfl
theorem fld110_2:FieldT Tryz.prog 110 2 2:=by unfold FieldT;rw [Tryz.underlying110];kernel_rfl
theorem ent103:En Tryz.prog 103:=enters Tryz.func103 (by kernel_rfl) rfl
theorem ent109:En Tryz.prog 109:=enters Tryz.func109 (by kernel_rfl) rfl
theorem w_tPut {seats:List T_api_Seat} {s:T_api_Seat} {p1:Option Addr} {c1:Nat} {cs2:List Value} {w0 w:World} {l:List HP}  {r:(List T_api_Seat)} (hm:tPut seats s=some r) (H:St w0 w (HP.sl R_api_Seat p1 c1 seats::HP.rc R_api_Seat cs2 s::l)) :
  Calls Tryz.prog 80 [.slice p1 (seats).length c1,.agg cs2.toArray].toArray w (fun e w'=>∃ v,e=.returned v∧∃ (p3:Option Addr) (c3:Nat),v=.slice p3 (r).length c3∧St w0 w' (HP.sl R_api_Seat p3 c3 r::l)):=by
 unfold tPut at hm
 refine x_enter Tryz.func80 rfl rfl rfl ?_
 intro a F
 have G:=F;replace H:=rc_api_Seat (H.pk 1 rfl);obtain ⟨v4,rfl,J⟩:=H;have H:=J;have F:=G;clear G J
 have G:=F;replace H:=rc_api_Answer (H.pk 0 rfl);obtain ⟨p5,c6,p7,c8,rfl,J⟩:=H;have H:=J;have F:=G;clear G J
 refine sr (s_boxA wkP F rfl rfl rfl rfl rfl H fun b9 w a H F=>bb [0] F H rfl fun a F=>?_)
 replace H:=H.nf 4 rfl
 refine nb [0] F H rfl fun a F=>?_
 obtain ⟨x10,ex10,hm⟩:=ob hm
 refine sd F rfl ent101 (w_tCopied ex10 (H.pm 4 [3,0,1,2,3] rfl:):) ?_;rintro _ w a ⟨p11,c11,rfl,H⟩ F
 refine bb [0] F H rfl fun a F=>?_
 replace H:=H.nf 5 rfl
 refine nl (sr (bk [2] F H rfl ⟨fld110_2,trivial⟩ fun a F=>sv F rfl (y_loadA F agg58 rfl rfl (row_midE (A:=[.int .i64 (s.1),.int .u64 (s.2.1)]) (X:=[.int .i64 (s.2.2.1),.int .i64 (s.2.2.2.1),.slice p5 (s.2.2.2.2.1).length c6,.slice p7 (s.2.2.2.2.2).length c8]) (w:=_) ((H.blk 1 rfl).row) (by simp only [List.length_append,List.length_cons,List.length_nil,icells_length,bcells_length])) rfl) fun a F=>?_))
 replace H:=mk_api_Answer H s.2.2.1 s.2.2.2.1 2 rfl 3 rfl
 obtain ⟨x12,ex12,hm⟩:=ob hm
 refine sd F rfl ent103 (w_tAnswer ex12 (H.pm 6 [0,0,1,2,3,4,5] rfl:):) ?_;rintro _ w a ⟨cs13,rfl,H⟩ F
 refine bk [2] F H rfl ⟨fld110_2,trivial⟩ fun a F=>?_
 have G:=F;replace H:=rc_api_Answer (H.pk 0 rfl);obtain ⟨p14,c15,p16,c17,rfl,J⟩:=H;have H:=J;have F:=G;clear G J
 refine s_storeFE wkP F rfl rfl agg58 rfl rfl rfl H 4 rfl (A:=[.int .i64 (s.1),.int .u64 (s.2.1)]) (X:=[.int .i64 (s.2.2.1),.int .i64 (s.2.2.2.1),.slice p5 (s.2.2.2.2.1).length c6,.slice p7 (s.2.2.2.2.2).length c8]) rfl (by simp only [List.length_append,List.length_cons,List.length_nil,icells_length,bcells_length]) rfl rfl (fl rfl) fun w H=>?_
 replace H:=H.nf 8 rfl
 refine nl (sr (bk [0,0,4000] F H rfl ⟨fld110_0,rfl,plain3,trivial⟩ fun a F=>?_))
 obtain ⟨x18,ex18,hm⟩:=ob hm
 refine sd F rfl ent102 (w_tFindO ex18 (H.pm 8 [3,0,1,2,4,5,6,7] rfl:):) ?_;rintro _ w a ⟨rfl,H⟩ F
 refine bb (List.replicate 5 0) F H rfl fun a F=>?_
 replace H:=H.nf 8 rfl
 refine nl (sq (sb [0] F H rfl fun a F=>?_))
 refine nl (cB F rfl (fun hg19=>?_) (fun hg19=>?_))
 replace hm:=ifT hg19 hm
 cases hm
 replace hm:=ifF (nT hg19) hm
 refine sk (ct (sr (bk [0,0,4999] F H rfl ⟨rfl,(aggn agg110 rfl),trivial⟩ fun a F=>?_)))
 refine s_build1 wkP F rfl rfl rfl agg110 elem65 rfl rfl rfl (by decide) H fun b20 w a H F=>?_
 replace H:=H.blkOw1 (R:=R_api_Seat) (x:=(s.1,s.2.1,(x12.1,x12.2.1,x12.2.2.1,x12.2.2.2))) (fun gg=>⟨[Value.int .i64 (s.1)],_,rfl,rfl,⟨[Value.int .u64 (s.2.1)],_,rfl,rfl,⟨[Value.int .i64 (x12.1)],_,rfl,rfl,⟨[Value.int .i64 (x12.2.1)],_,rfl,rfl,⟨[Value.slice p14 (x12.2.2.1).length c15],_,rfl,⟨_,_,rfl,(gg 2 _ rfl).choose_spec⟩,⟨_,_,rfl,(gg 3 _ rfl).choose_spec⟩⟩⟩⟩⟩⟩)
 obtain ⟨x21,ex21,hm⟩:=ob hm
 refine sd F rfl ent109 (w_insSeat ex21 (H.pm 9 [1,0,2,3,4,5,6,7,8] rfl:):) ?_;rintro _ w a ⟨p22,c22,rfl,H⟩ F
 refine bb [0] F H rfl fun a F=>?_
 replace H:=H.nf 8 rfl
 refine nl (wr ?_)
 replace H:=H.frz 0 rfl
 cases hm
 refine x_ret1 F rfl rfl ?_
 exact ⟨_,rfl,p22,c22,rfl,(H.pm 8 [0] rfl:)⟩
theorem agz67:AggT Tryz.prog 67 3 ([.slice none (([]:List T_api_Pair)).length 0,.slice none (([]:List T_api_Snap)).length 0,.slice none (([]:List T_api_Seat)).length 0]):=⟨by rw [Tryz.underlying67];rfl,by kernel_rfl,by kernel_rfl⟩
theorem ent68:En Tryz.prog 68:=enters Tryz.func68 (by kernel_rfl) rfl
theorem agg67:AggT Tryz.prog 67 3 [.slice none 0 0,.slice none 0 0,.slice none 0 0]:=⟨by rw [Tryz.underlying67];rfl,by kernel_rfl,by kernel_rfl⟩
theorem w_tNew   {w0 w:World} {l:List HP}  {r:T_api_Whole} (hm:tNew =some r) (H:St w0 w (l)) :
  Calls Tryz.prog 37 [].toArray w (fun e w'=>∃ v,e=.returned v∧∃ (cs1:List Value),v=.agg cs1.toArray∧St w0 w' (HP.rc R_api_Whole cs1 r::l)):=by
 unfold tNew at hm
 refine x_enter Tryz.func37 rfl rfl rfl ?_
 intro a F
 refine sr ?_
 replace H:=H.owNil R_api_Pair 129
 replace H:=H.owNil R_api_Snap 131
 replace H:=H.owNil R_api_Seat 110
 refine s_allocA wkP F rfl rfl rfl agz67 rfl H fun b2 w a H F=>?_
 replace H:=H.nf 4 rfl
 refine nl (sr ?_)
 obtain ⟨x3,ex3,hm⟩:=ob hm
 refine sd F rfl ent68 (w_nNew ex3 H:) ?_;rintro _ w a ⟨cs4,rfl,H⟩ F
 have G:=F;replace H:=rc_api_State (H.pk 0 rfl);obtain ⟨p5,c6,p7,c8,rfl,J⟩:=H;have H:=J;have F:=G;clear G J
 replace H:=H.owNil R_api_Seat 110
 refine sv F rfl (y_build F rfl rfl (cs:=[.slice p5 (x3.1).length c6,.slice p7 (x3.2).length c8,.slice none (([]:List T_api_Seat)).length 0]) (by kernel_rfl)) fun a F=>s_storeA wkP F rfl rfl agg67 rfl rfl rfl H 3 rfl rfl rfl (fl rfl) fun w H=>?_
 replace H:=H.nf 7 rfl
 refine nl (wr ?_)
 replace H:=H.frz 0 rfl
 replace H:=H.mkRc (R:=R_api_Whole) (cs:=[.slice p5 (x3.1).length c6,.slice p7 (x3.2).length c8,.slice none (([]:List T_api_Seat)).length 0]) (x:=((x3.1,x3.2),([]:List T_api_Seat))) (fun gg=>⟨[Value.slice p5 (x3.1).length c6,.slice p7 (x3.2).length c8],_,rfl,⟨[Value.slice p5 (x3.1).length c6],_,rfl,⟨_,_,rfl,(gg 1 _ rfl).choose_spec⟩,⟨_,_,rfl,(gg 2 _ rfl).choose_spec⟩⟩,⟨_,_,rfl,(gg 0 _ rfl).choose_spec⟩⟩)
 cases hm
 refine x_resC1 F rfl (⟨_,rfl,agg67.run_load (H.blk 4 rfl).row rfl⟩) ?_
 exact ⟨_,rfl,[.slice p5 (x3.1).length c6,.slice p7 (x3.2).length c8,.slice none (([]:List T_api_Seat)).length 0],rfl,(H.pm 8 [0] rfl:)⟩
theorem w_tValid {client:Int}  {w0 w:World} {l:List HP}  {r:Bool} (hm:tValid client=some r) (H:St w0 w (l)) :
  Calls Tryz.prog 76 [.int .i64 (client)].toArray w (fun e w'=>∃ v,e=.returned v∧v=.bool (r)∧St w0 w' (l)):=by
 unfold tValid at hm
 refine x_enter Tryz.func76 rfl rfl rfl ?_
 intro a F
 refine sb [0] F H rfl fun a F=>nb [0,0,0] F H rfl fun a F=>?_
 rcases spP 5 F rfl hm with ⟨hg1,hm,F⟩ | ⟨hg1,hm,F⟩
 refine bb [0,0,0,0] F H rfl fun a F=>nl (wr ?_)
 cases hm
 refine x_ret1 F rfl rfl ?_
 exact ⟨_,rfl,rfl,H⟩
 refine bb [0,0,0,0] F H rfl fun a F=>nl (wr ?_)
 cases hm
 refine x_ret1 F rfl rfl ?_
 exact ⟨_,rfl,rfl,H⟩
theorem fld67_0:FieldT Tryz.prog 67 0 0:=by unfold FieldT;rw [Tryz.underlying67];kernel_rfl
theorem ent83:En Tryz.prog 83:=enters Tryz.func83 (by kernel_rfl) rfl
theorem fld67_1:FieldT Tryz.prog 67 1 2:=by unfold FieldT;rw [Tryz.underlying67];kernel_rfl
theorem plain65:Plain Tryz.prog 65:=by unfold Plain;rw [Tryz.underlying65];rfl
theorem ent66:En Tryz.prog 66:=enters Tryz.func66 (by kernel_rfl) rfl
theorem ent76:En Tryz.prog 76:=enters Tryz.func76 (by kernel_rfl) rfl
theorem fld110_1:FieldT Tryz.prog 110 1 1:=by unfold FieldT;rw [Tryz.underlying110];kernel_rfl
theorem w_tCheck {w_:T_api_Whole} {cs1:List Value} {w0 w:World} {l:List HP}  {r:Int} (hm:tCheck w_=some r) (H:St w0 w (HP.rc R_api_Whole cs1 w_::l)) :
  Calls Tryz.prog 52 [.agg cs1.toArray].toArray w (fun e w'=>∃ v,e=.returned v∧v=.int .i64 (r)∧St w0 w' (l)):=by
 unfold tCheck at hm
 refine x_enter Tryz.func52 rfl rfl rfl ?_
 intro a F
 have G:=F;replace H:=rc_api_Whole (H.pk 0 rfl);obtain ⟨u2,p3,c4,rfl,J⟩:=H;have H:=J;have F:=G;clear G J
 have G:=F;replace H:=rc_api_State (H.pk 0 rfl);obtain ⟨p5,c6,p7,c8,rfl,J⟩:=H;have H:=J;have F:=G;clear G J
 refine sr (s_boxA wkP F rfl rfl rfl rfl rfl H fun b9 w a H F=>bb [0] F H rfl fun a F=>?_)
 replace H:=H.nf 4 rfl
 refine nl (sr (bk [0] F H rfl ⟨fld67_0,trivial⟩ fun a F=>sv F rfl (y_loadA F agg64 rfl rfl (row_mid (A:=([]:List Value)) (X:=[.slice p5 (w_.1.1).length c6,.slice p7 (w_.1.2).length c8]) (C:=[.slice p3 (w_.2).length c4]) (w:=_) ((H.blk 0 rfl).row) rfl) rfl) fun a F=>?_))
 replace H:=mk_api_State H 1 rfl 2 rfl
 obtain ⟨x10,ex10,hm⟩:=ob hm
 refine sd F rfl ent83 (w_nCheck ex10 (H.pm 5 [0,0,1,2,3,4] rfl:):) ?_;rintro _ w a ⟨rfl,H⟩ F
 refine bb [0,0] F H rfl fun a F=>?_
 replace H:=H.nf 5 rfl
 refine nl (sq (sr (bk [2,1002,0,0] F H rfl ⟨fld67_1,rfl,plain65,⟨_,Tryz.underlying65⟩,trivial⟩ fun a F=>?_)))
 refine nl (xm0 5 [] [1,2,3,4] F H hm rfl rfl (fun r75 z=>(3,.bool (r75))::z) (fun r75 z=>z) (fun r75 hm=>?_) (fun r75 a w hm F H=>?_))
 refine bl (xl0 5 [1,13,14] [1,2,3,4] F H hm rfl rfl (fun (s118:Bool×Int) z=>(3,.bool (s118.1))::(15,.int .i64 (s118.2))::z) (fun s118 z=>z) ⟨F.sl rfl,(H.pm 5 [1,2,3,4] rfl:)⟩ (fun s118 a w o F H hm=>sb [0] F H rfl fun a F=>?_))
 refine nl (sq (cPm F rfl hm (fun hg119 hm=>?_) (fun hg119 hm=>?_)))
 refine sk (ct (sq (bl (sb [0] F H rfl fun a F=>?_))))
 obtain ⟨x120,ex120,hm⟩:=ob hm
 obtain ⟨b121,o121,hp121,cs122,H⟩:=H.slE 3 rfl ex120
 refine sv F rfl (y_idxS F elem65 rfl rfl rfl hp121 ex120) fun a F=>bk [999] F H rfl ⟨rfl,(aggn agg110 (H.rcLen 1 rfl)),trivial⟩ fun a F=>?_
 replace H:=H.owNil rByte 5
 replace H:=H.owNil rStr 9
 refine s_allocA wkP F rfl rfl rfl agz110 rfl H fun b123 w a H F=>bb [0] F H rfl fun a F=>?_
 have G:=F;replace H:=rc_api_Seat (H.pk 4 rfl);obtain ⟨v124,rfl,J⟩:=H;have H:=J;have F:=G;clear G J
 have G:=F;replace H:=rc_api_Answer (H.pk 0 rfl);obtain ⟨p125,c126,p127,c128,rfl,J⟩:=H;have H:=J;have F:=G;clear G J
 refine s_storeA wkP F rfl rfl agg110 rfl rfl rfl H 2 rfl rfl rfl (fl rfl) fun w H=>?_
 replace H:=H.nf 10 rfl
 refine nl (sr (bk [2] F H rfl ⟨fld110_2,trivial⟩ fun a F=>sv F rfl (y_loadA F agg58 rfl rfl (row_midE (A:=[.int .i64 (x120.1),.int .u64 (x120.2.1)]) (X:=[.int .i64 (x120.2.2.1),.int .i64 (x120.2.2.2.1),.slice p125 (x120.2.2.2.2.1).length c126,.slice p127 (x120.2.2.2.2.2).length c128]) (w:=_) ((H.blk 2 rfl).row) (by simp only [List.length_append,List.length_cons,List.length_nil,icells_length,bcells_length])) rfl) fun a F=>?_))
 replace H:=mk_api_Answer H x120.2.2.1 x120.2.2.2.1 0 rfl 1 rfl
 obtain ⟨x129,ex129,hm⟩:=ob hm
 refine sd F rfl ent66 (w_oWriteA ex129 (H.pm 11 [0,0,1,2,3,4,5,6,7,8,9,10] rfl:):) ?_;rintro _ w a ⟨p130,c130,rfl,H⟩ F
 refine bb (List.replicate 5 0) F H rfl fun a F=>?_
 replace H:=H.nf 12 rfl
 refine nl ?_
 by_cases hg131:s118.1=true
 replace hm:=ifT hg131 hm
 refine qr H (by kernel_rfl) (by kernel_rfl) ?_
 refine qb [0,0] F rfl fun a F=>?_
 replace F:=F.vT 27 hg131 rfl
 refine qb (List.replicate 30 0) F rfl fun a F=>?_
 refine q_nil fun w H=>?_
 refine bn (ct (rl (bb [0,0] F H rfl fun a F=>?_)))
 refine lz (ct ?_);cases hm
 exact ⟨_,rfl,⟨F.sl rfl,(H.pm 12 [8,9,10,11] rfl:)⟩⟩
 replace hm:=ifF hg131 hm
 by_cases hg132:x129.2=0
 replace hm:=ifT hg132 hm
 obtain ⟨x133,ex133,hm⟩:=ob hm
 by_cases hg134:(!x133)=true
 replace hm:=ifT hg134 hm
 refine qr H (by kernel_rfl) (by kernel_rfl) ?_
 refine qb [0,0] F rfl fun a F=>?_
 replace F:=F.vF 27 hg131 rfl
 refine qb [0,0,0,0] F rfl fun a F=>?_
 replace F:=F.nT 31 hg132 rfl
 refine qbk [0,4000] F rfl ⟨fld110_0,rfl,plain3,trivial⟩ fun a F=>?_
 refine qg_on F rfl rfl rfl rfl ?_
 refine q_call F rfl rfl rfl (fun u hu=>y_call F rfl rfl ent76) (fun u hu=>(w_tValid ex133 hu).mono fun e u2 he=>by obtain ⟨v,rfl,rfl,H⟩:=he;exact ⟨rfl,H⟩) fun a F=>?_
 refine qb [0,0,0] F rfl fun a F=>?_
 replace F:=F.vT 37 hg134 rfl
 refine qb (List.replicate 20 0) F rfl fun a F=>?_
 refine q_nil fun w H=>?_
 refine bn (ct (rl (bb [0,0] F H rfl fun a F=>?_)))
 refine lz (ct ?_);cases hm
 exact ⟨_,rfl,⟨F.sl rfl,(H.pm 12 [8,9,10,11] rfl:)⟩⟩
 replace hm:=ifF hg134 hm
 by_cases hg135:x120.2.1=0
 replace hm:=ifT hg135 hm
 refine qr H (by kernel_rfl) (by kernel_rfl) ?_
 refine qb [0,0] F rfl fun a F=>?_
 replace F:=F.vF 27 hg131 rfl
 refine qb [0,0,0,0] F rfl fun a F=>?_
 replace F:=F.nT 31 hg132 rfl
 refine qbk [0,4000] F rfl ⟨fld110_0,rfl,plain3,trivial⟩ fun a F=>?_
 refine qg_on F rfl rfl rfl rfl ?_
 refine q_call F rfl rfl rfl (fun u hu=>y_call F rfl rfl ent76) (fun u hu=>(w_tValid ex133 hu).mono fun e u2 he=>by obtain ⟨v,rfl,rfl,H⟩:=he;exact ⟨rfl,H⟩) fun a F=>?_
 refine qb [0,0,0] F rfl fun a F=>?_
 replace F:=F.vF 37 hg134 rfl
 refine qbk [1,4001,0,0,0] F rfl ⟨fld110_1,rfl,plain22,trivial⟩ fun a F=>?_
 replace F:=F.bT 42 hg135 rfl
 refine qb (List.replicate 15 0) F rfl fun a F=>?_
 refine q_nil fun w H=>?_
 refine bn (ct (rl (bb [0,0] F H rfl fun a F=>?_)))
 refine lz (ct ?_);cases hm
 exact ⟨_,rfl,⟨F.sl rfl,(H.pm 12 [8,9,10,11] rfl:)⟩⟩
 replace hm:=ifF hg135 hm
 by_cases hg136:0<s118.2
 replace hm:=ifT hg136 hm
 obtain ⟨x137,ex137,hm⟩:=ob hm
 obtain ⟨cs138,H⟩:=H.slF 11 rfl hp121 ex137
 replace H:=H.mkRc (R:=R_api_Seat) (cs:=[.int .i64 (x120.1),.int .u64 (x120.2.1),.int .i64 (x120.2.2.1),.int .i64 (x120.2.2.2.1),.slice p125 (x120.2.2.2.2.1).length c126,.slice p127 (x120.2.2.2.2.2).length c128]) (x:=(x120.1,x120.2.1,(x120.2.2.1,x120.2.2.2.1,x120.2.2.2.2.1,x120.2.2.2.2.2))) (fun gg=>⟨[Value.int .i64 (x120.1)],_,rfl,rfl,⟨[Value.int .u64 (x120.2.1)],_,rfl,rfl,⟨[Value.int .i64 (x120.2.2.1)],_,rfl,rfl,⟨[Value.int .i64 (x120.2.2.2.1)],_,rfl,rfl,⟨[Value.slice p125 (x120.2.2.2.2.1).length c126],_,rfl,⟨_,_,rfl,(gg 4 _ rfl).choose_spec⟩,⟨_,_,rfl,(gg 5 _ rfl).choose_spec⟩⟩⟩⟩⟩⟩)
 obtain ⟨x139,ex139,hm⟩:=ob hm
 refine qr H (by kernel_rfl) (by kernel_rfl) ?_
 refine qb [0,0] F rfl fun a F=>?_
 replace F:=F.vF 27 hg131 rfl
 refine qb [0,0,0,0] F rfl fun a F=>?_
 replace F:=F.nT 31 hg132 rfl
 refine qbk [0,7000] F rfl ⟨fld110_0,rfl,plain3,trivial⟩ fun a F=>?_
 refine qg_on F rfl rfl rfl rfl ?_
 refine q_call F rfl rfl rfl (fun u hu=>y_call F rfl rfl ent76) (fun u hu=>(w_tValid ex133 hu).mono fun e u2 he=>by obtain ⟨v,rfl,rfl,H⟩:=he;exact ⟨rfl,H⟩) fun a F=>?_
 refine qb [0,0,0] F rfl fun a F=>?_
 replace F:=F.vF 37 hg134 rfl
 refine qbk [1,7001,0,0,0] F rfl ⟨fld110_1,rfl,plain22,trivial⟩ fun a F=>?_
 replace F:=F.bF 42 hg135 rfl
 refine qb [0,0,0] F rfl fun a F=>?_
 replace F:=F.bT 45 hg136 rfl
 refine qbk [2,11002,0,0] F rfl ⟨fld67_1,rfl,plain65,trivial⟩ fun a F=>?_
 refine qg_on F rfl rfl rfl rfl ?_
 refine qv F rfl (fun u hu=>y_idxS F elem65 rfl rfl rfl hp121 ex137) fun a F=>qbk [1999,7999] F rfl ⟨rfl,(aggn agg110 (H.rcLen 2 rfl)),rfl,(aggn agg110 rfl),trivial⟩ fun a F=>?_
 refine qg_on F rfl rfl rfl rfl ?_
 refine q_call F rfl rfl rfl (fun u hu=>y_call F rfl rfl ent84) (fun u hu=>(w_tCompare ex139 (hu.pm 15 [2,0,0,1,2,3,4,5,6,7,8,9,10,11,12,13,14] rfl:)).mono fun e u2 he=>by obtain ⟨v,rfl,rfl,H⟩:=he;exact ⟨rfl,H⟩) fun a F=>?_
 refine qb [0,0,0,0] F rfl fun a F=>?_
 refine q_nil fun w H=>?_
 refine bn (ct (rl (bb [0,0] F H rfl fun a F=>?_)))
 refine lz (ct ?_);cases hm
 exact ⟨_,rfl,⟨F.sl rfl,(H.pm 15 [11,12,13,14] rfl:)⟩⟩
 replace hm:=ifF hg136 hm
 refine qr H (by kernel_rfl) (by kernel_rfl) ?_
 refine qb [0,0] F rfl fun a F=>?_
 replace F:=F.vF 27 hg131 rfl
 refine qb [0,0,0,0] F rfl fun a F=>?_
 replace F:=F.nT 31 hg132 rfl
 refine qbk [0,4000] F rfl ⟨fld110_0,rfl,plain3,trivial⟩ fun a F=>?_
 refine qg_on F rfl rfl rfl rfl ?_
 refine q_call F rfl rfl rfl (fun u hu=>y_call F rfl rfl ent76) (fun u hu=>(w_tValid ex133 hu).mono fun e u2 he=>by obtain ⟨v,rfl,rfl,H⟩:=he;exact ⟨rfl,H⟩) fun a F=>?_
 refine qb [0,0,0] F rfl fun a F=>?_
 replace F:=F.vF 37 hg134 rfl
 refine qbk [1,4001,0,0,0] F rfl ⟨fld110_1,rfl,plain22,trivial⟩ fun a F=>?_
 replace F:=F.bF 42 hg135 rfl
 refine qb [0,0,0] F rfl fun a F=>?_
 replace F:=F.bF 45 hg136 rfl
 refine qb (List.replicate 12 0) F rfl fun a F=>?_
 refine q_nil fun w H=>?_
 refine bn (ct (rl (bb [0,0] F H rfl fun a F=>?_)))
 refine lz (ct ?_);cases hm
 exact ⟨_,rfl,⟨F.sl rfl,(H.pm 12 [8,9,10,11] rfl:)⟩⟩
 replace hm:=ifF hg132 hm
 refine qr H (by kernel_rfl) (by kernel_rfl) ?_
 refine qb [0,0] F rfl fun a F=>?_
 replace F:=F.vF 27 hg131 rfl
 refine qb [0,0,0,0] F rfl fun a F=>?_
 replace F:=F.nF 31 hg132 rfl
 refine qb (List.replicate 26 0) F rfl fun a F=>?_
 refine q_nil fun w H=>?_
 refine bn (ct (rl (bb [0,0] F H rfl fun a F=>?_)))
 refine lz (ct ?_);cases hm
 exact ⟨_,rfl,⟨F.sl rfl,(H.pm 12 [8,9,10,11] rfl:)⟩⟩
 refine ex (cx (cx ?_));cases hm;refine ⟨_,rfl,?_⟩;rintro rfl
 refine ch (ct ?_)
 exact ⟨F.sl rfl,H⟩
 refine ct (sq (sb [0] F H rfl fun a F=>?_))
 refine nl (cB F rfl (fun hg140=>?_) (fun hg140=>?_))
 replace hm:=ifT hg140 hm
 cases hm
 replace hm:=ifF (nT hg140) hm
 refine sk (ct (sb [0] F H rfl fun a F=>nl (wr ?_)))
 cases hm
 refine x_ret1 F rfl rfl ?_
 exact ⟨_,rfl,rfl,(H.pm 4 [] rfl:)⟩
theorem fld29_0:FieldT Tryz.prog 29 0 0:=by unfold FieldT;rw [Tryz.underlying29];kernel_rfl
theorem fld29_1:FieldT Tryz.prog 29 1 1:=by unfold FieldT;rw [Tryz.underlying29];kernel_rfl
theorem ent78:En Tryz.prog 78:=enters Tryz.func78 (by kernel_rfl) rfl
theorem fld29_2:FieldT Tryz.prog 29 2 2:=by unfold FieldT;rw [Tryz.underlying29];kernel_rfl
theorem ent79:En Tryz.prog 79:=enters Tryz.func79 (by kernel_rfl) rfl
theorem ent80:En Tryz.prog 80:=enters Tryz.func80 (by kernel_rfl) rfl
theorem w_tDo {w_:T_api_Whole} {c:T_api_Call} {gen:Int} {cs1:List Value} {cs2:List Value} {w0 w:World} {l:List HP}  {r:T_api_Whole×T_api_Answer×Int} (hm:tDo w_ c gen=some r) (H:St w0 w (HP.rc R_api_Whole cs1 w_::HP.rc R_api_Call cs2 c::l)) :
  Calls Tryz.prog 43 [.agg cs1.toArray,.agg cs2.toArray,.int .u64 (gen)].toArray w (fun e w'=>∃ v,e=.returned v∧∃ (cs3:List Value) (cs4:List Value),v=.tuple [.agg cs3.toArray,.agg cs4.toArray,.int .i64 (r.2.2)].toArray∧St w0 w' (HP.rc R_api_Whole cs3 r.1::HP.rc R_api_Answer cs4 r.2.1::l)):=by
 unfold tDo at hm
 refine x_enter Tryz.func43 rfl rfl rfl ?_
 intro a F
 have G:=F;replace H:=rc_api_Whole (H.pk 0 rfl);obtain ⟨u5,p6,c7,rfl,J⟩:=H;have H:=J;have F:=G;clear G J
 have G:=F;replace H:=rc_api_State (H.pk 0 rfl);obtain ⟨p8,c9,p10,c11,rfl,J⟩:=H;have H:=J;have F:=G;clear G J
 have G:=F;replace H:=rc_api_Call (H.pk 3 rfl);obtain ⟨v12,rfl,J⟩:=H;have H:=J;have F:=G;clear G J
 have G:=F;replace H:=rc_api_Op (H.pk 0 rfl);obtain ⟨p13,c14,rfl,J⟩:=H;have H:=J;have F:=G;clear G J
 refine sr (s_boxA wkP F rfl rfl rfl rfl rfl H fun b15 w a H F=>s_boxA wkP F rfl rfl rfl rfl rfl H fun b16 w a H F=>?_)
 replace H:=H.owNil R_api_Pair 129
 replace H:=H.owNil R_api_Snap 131
 replace H:=H.owNil R_api_Seat 110
 refine s_allocA wkP F rfl rfl rfl agz67 rfl H fun b17 w a H F=>?_
 replace H:=H.owNil rByte 5
 replace H:=H.owNil rStr 9
 refine s_allocA wkP F rfl rfl rfl agz58 rfl H fun b18 w a H F=>bb [0] F H rfl fun a F=>?_
 replace H:=H.nf 13 rfl
 refine nl (sq (sr (bk [0,7000] F H rfl ⟨fld29_0,rfl,plain3,trivial⟩ fun a F=>?_)))
 obtain ⟨x19,ex19,hm⟩:=ob hm
 refine sd F rfl ent76 (w_tValid ex19 H:) ?_;rintro _ w a ⟨rfl,H⟩ F
 refine bb [0] F H rfl fun a F=>?_
 replace H:=H.nf 13 rfl
 refine nl (cB F rfl (fun hg20=>?_) (fun hg20=>?_))
 replace hm:=ifT hg20 hm
 cases hm
 replace hm:=ifF (nT hg20) hm
 refine sk (ct (sr (bk [2,8002,0,7000,1,7001] F H rfl ⟨fld67_1,rfl,plain65,fld29_0,rfl,plain3,fld29_1,rfl,plain22,trivial⟩ fun a F=>?_)))
 obtain ⟨x21,ex21,hm⟩:=ob hm
 refine sd F rfl ent78 (w_tLook ex21 (H.pm 13 [12,0,1,2,3,4,5,6,7,8,9,10,11,12] rfl:):) ?_;rintro _ w a ⟨cs22,rfl,H⟩ F
 refine bb [0,0,0] F H rfl fun a F=>?_
 replace H:=H.owNil rByte 5
 replace H:=H.owNil rStr 9
 refine s_allocA wkP F rfl rfl rfl agz58 rfl H fun b23 w a H F=>bb [0] F H rfl fun a F=>?_
 have G:=F;replace H:=rc_api_Answer (H.pk 3 rfl);obtain ⟨p24,c25,p26,c27,rfl,J⟩:=H;have H:=J;have F:=G;clear G J
 refine s_storeA wkP F rfl rfl agg58 rfl rfl rfl H 2 rfl rfl rfl (fl rfl) fun w H=>?_
 replace H:=H.nf 18 rfl
 refine nl (sq (sb [0,0] F H rfl fun a F=>?_))
 refine nl (cNm F rfl hm (fun hg28 hm=>?_) (fun hg28 hm=>?_))
 cases hm
 refine sk (ct (sr (bk [0] F H rfl ⟨fld67_0,trivial⟩ fun a F=>sv F rfl (y_loadA F agg64 rfl rfl (row_mid (A:=([]:List Value)) (X:=[.slice p8 (w_.1.1).length c9,.slice p10 (w_.1.2).length c11]) (C:=[.slice p6 (w_.2).length c7]) (w:=_) ((H.blk 13 rfl).row) rfl) rfl) fun a F=>bk [2] F H rfl ⟨fld29_2,trivial⟩ fun a F=>sv F rfl (y_loadA F agg27 rfl rfl (row_midE (A:=[.int .i64 (c.1),.int .u64 (c.2.1)]) (X:=[.int .i64 (c.2.2.1),.string (txb (c.2.2.2.1)),.string (txb (c.2.2.2.2.1)),.int .i64 (c.2.2.2.2.2.1),.int .i64 (c.2.2.2.2.2.2.1),.slice p13 (c.2.2.2.2.2.2.2).length c14]) (w:=_) ((H.blk 12 rfl).row) (by simp only [List.length_append,List.length_cons,List.length_nil,icells_length,bcells_length])) rfl) fun a F=>bb [0] F H rfl fun a F=>?_)))
 replace H:=mk_api_State H 15 rfl 16 rfl
 replace H:=mk_api_Op H c.2.2.1 c.2.2.2.1 c.2.2.2.2.1 c.2.2.2.2.2.1 c.2.2.2.2.2.2.1 15 rfl
 obtain ⟨x29,ex29,hm⟩:=ob hm
 refine sd F rfl ent79 (w_nDo ex29 (H.pm 20 [1,0,0,1,2,3,4,5,6,7,8,9,10,11,12,13,14,15,16,17,18,19] rfl:):) ?_;rintro _ w a ⟨cs30,cs31,rfl,H⟩ F
 refine bb [0,0,0] F H rfl fun a F=>?_
 replace H:=H.owNil R_api_Pair 129
 replace H:=H.owNil R_api_Snap 131
 refine s_allocA wkP F rfl rfl rfl agz64 rfl H fun b32 w a H F=>?_
 have G:=F;replace H:=rc_api_State (H.pk 3 rfl);obtain ⟨p33,c34,p35,c36,rfl,J⟩:=H;have H:=J;have F:=G;clear G J
 refine s_storeA wkP F rfl rfl agg64 rfl rfl rfl H 2 rfl rfl rfl (fl rfl) fun w H=>?_
 have G:=F;replace H:=rc_api_Answer (H.pk 5 rfl);obtain ⟨p37,c38,p39,c40,rfl,J⟩:=H;have H:=J;have F:=G;clear G J
 refine s_storeA wkP F rfl rfl agg58 rfl rfl rfl H 11 rfl rfl rfl (fl rfl) fun w H=>?_
 replace H:=H.nf 27 rfl
 refine nl (sq (mix_regionK [9,13,14] [] (scL [0,1,1002,3,1004,5,1006,1007,8,11,12,2009,10,2013,2014,15]) [4,11] H rfl rfl (by kernel_rfl) (by kernel_rfl) fun w H=>?_))
 refine m_pure F rfl rfl rfl rfl (fun u hu=>y_loadA F agg64 rfl rfl ((hu.choose_spec.blk 0 rfl).row) rfl) fun a F=>?_
 refine mbk [2,22002,0,21000,1,21001,11999] F H rfl ⟨fld67_1,rfl,plain65,fld29_0,rfl,plain3,fld29_1,rfl,plain22,rfl,(aggn agg58 rfl),trivial⟩ fun a F=>?_
 refine m_pure F rfl rfl rfl rfl (fun u hu=>y_build F rfl rfl (cs:=[.int .i64 (c.1),.int .u64 (c.2.1),.int .i64 (x29.2.1),.int .i64 (x29.2.2.1),.slice p37 (x29.2.2.2.1).length c38,.slice p39 (x29.2.2.2.2).length c40]) (by kernel_rfl)) fun a F=>?_
 refine m_pure F rfl rfl rfl rfl (fun u hu=>y_loadA F agg58 rfl rfl ((hu.choose_spec.blk 1 rfl).row) rfl) fun a F=>?_
 refine mb [0] F H rfl fun a F=>m_heavy rfl rfl ?_
 replace H:=H.mkRc (R:=R_api_Seat) (cs:=[.int .i64 (c.1),.int .u64 (c.2.1),.int .i64 (x29.2.1),.int .i64 (x29.2.2.1),.slice p37 (x29.2.2.2.1).length c38,.slice p39 (x29.2.2.2.2).length c40]) (x:=(c.1,c.2.1,(x29.2.1,x29.2.2.1,x29.2.2.2.1,x29.2.2.2.2))) (fun gg=>⟨[Value.int .i64 (c.1)],_,rfl,rfl,⟨[Value.int .u64 (c.2.1)],_,rfl,rfl,⟨[Value.int .i64 (x29.2.1)],_,rfl,rfl,⟨[Value.int .i64 (x29.2.2.1)],_,rfl,rfl,⟨[Value.slice p37 (x29.2.2.2.1).length c38],_,rfl,⟨_,_,rfl,(gg 0 _ rfl).choose_spec⟩,⟨_,_,rfl,(gg 1 _ rfl).choose_spec⟩⟩⟩⟩⟩⟩)
 obtain ⟨x41,ex41,hm⟩:=ob hm
 refine sd F rfl ent80 (w_tPut ex41 (H.pm 28 [27,0,0,1,2,3,4,5,6,7,8,9,10,11,12,13,14,15,16,17,18,19,20,21,22,23,24,25,26,27] rfl:):) ?_;rintro _ w a ⟨p42,c42,rfl,H⟩ F
 refine lz ?_;refine ct ⟨⟨_,(H.pm 29 [6,13,0,1,2,3,4,5,7,8,9,10,11,12,14,15,16,17,18,19,20,21,22,23,24,25,26,27,28] rfl:)⟩,?_⟩
 refine m_pure F rfl rfl rfl rfl (fun u hu=>y_build F rfl rfl (cs:=[.slice p33 (x29.1.1).length c34,.slice p35 (x29.1.2).length c36,.slice p42 (x41).length c42]) (by kernel_rfl)) fun a F=>?_
 refine m_heavy rfl rfl (s_storeA wkP F rfl rfl agg67 rfl rfl rfl H 19 rfl rfl rfl (fl rfl) fun w H=>?_)
 refine lz ?_;refine ct ⟨⟨_,(H.pm 29 [6,13,0,1,2,3,4,5,7,8,9,10,11,12,14,15,16,17,18,19,20,21,22,23,24,25,26,27,28] rfl:)⟩,?_⟩
 refine m_heavy rfl rfl (s_storeA wkP F rfl rfl agg58 rfl rfl rfl H 16 rfl rfl rfl (fl rfl) fun w H=>?_)
 refine lz ?_;refine ct ⟨⟨_,(H.pm 29 [6,13,0,1,2,3,4,5,7,8,9,10,11,12,14,15,16,17,18,19,20,21,22,23,24,25,26,27,28] rfl:)⟩,?_⟩
 refine mb [0] F H rfl fun a F=>m_nil (ct (wr ?_))
 replace H:=H.mkRc (R:=R_api_Whole) (cs:=[.slice p33 (x29.1.1).length c34,.slice p35 (x29.1.2).length c36,.slice p42 (x41).length c42]) (x:=((x29.1.1,x29.1.2),x41)) (fun gg=>⟨[Value.slice p33 (x29.1.1).length c34,.slice p35 (x29.1.2).length c36],_,rfl,⟨[Value.slice p33 (x29.1.1).length c34],_,rfl,⟨_,_,rfl,(gg 4 _ rfl).choose_spec⟩,⟨_,_,rfl,(gg 5 _ rfl).choose_spec⟩⟩,⟨_,_,rfl,(gg 0 _ rfl).choose_spec⟩⟩)
 replace H:=mk_api_Answer H x29.2.1 x29.2.2.1 3 rfl 4 rfl
 cases hm
 refine x_resC3 F rfl (⟨_,rfl,agg67.run_load (H.blk 21 rfl).row rfl⟩) (⟨_,rfl,agg58.run_load (H.blk 18 rfl).row rfl⟩) rfl ?_
 exact ⟨_,rfl,[.slice p33 (x29.1.1).length c34,.slice p35 (x29.1.2).length c36,.slice p42 (x41).length c42],[.int .i64 (x29.2.1),.int .i64 (x29.2.2.1),.slice p37 (x29.2.2.2.1).length c38,.slice p39 (x29.2.2.2.2).length c40],rfl,(H.pm 31 [1,0] rfl:)⟩
end Go.Proofs.YtapllcabobickaaGreatDoor
