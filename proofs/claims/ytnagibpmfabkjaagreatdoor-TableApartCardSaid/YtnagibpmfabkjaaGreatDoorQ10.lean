/- Texts TabA, TabB. -/
import Derived.Test.YtnagibpmfabkjaaGreatDoorQ9
set_option linter.unusedSimpArgs false
set_option linter.unusedVariables false
namespace Go.Proofs.YtnagibpmfabkjaaGreatDoor
open Go.RowKit Go.Tri
set_option maxRecDepth 100000
set_option maxHeartbeats 4000000
theorem w_penText {p:T_pack_Pen_o} {b:List UInt8} {bo0:Nat} {p1:Option Addr} {c1:Nat} {w0 w:World} {l:List HP}  {r:Int×T_pack_Pen_o} (hm:penText p b=some r) (H:St w0 w (O_pack_Pen bo0 p::HP.sl rByte p1 c1 b::l)) :
  Calls Tryz.prog 98 [.pointer (some ⟨bo0,0,none⟩),.slice p1 (b).length c1].toArray w (fun e w'=>∃ v,e=.returned v∧v=.int .i64 (r.1)∧St w0 w' (O_pack_Pen bo0 r.2::l)):=by
 unfold penText at hm
 refine x_enter Tryz.func98 rfl rfl rfl ?_
 intro a F
 refine sb [0] F H rfl fun a F=>?_
 refine nl (sq (sr (bk [0,0,0,2] F H rfl ⟨⟨_,Tryz.underlying29⟩,Tryz.underlying3,Tryz.underlying38,trivial⟩ fun a F=>?_)))
 obtain ⟨x2,ex2,hm⟩:=ob hm
 refine sd F rfl ent97 (w_penUint ex2 H:) ?_;rintro _ w a ⟨rfl,H⟩ F
 refine bb [0] F H rfl fun a F=>?_
 replace H:=H.nf 2 rfl
 refine nl (cNm F rfl hm (fun hg3 hm=>?_) (fun hg3 hm=>?_))
 refine sb [0] F H rfl fun a F=>?_
 refine nl (wr (tr ?_))
 cases hm
 refine x_ret1 F rfl rfl ?_
 exact ⟨_,rfl,rfl,(H.pm 2 [0] rfl:)⟩
 refine sk (ct (sb [0,0] F H rfl fun a F=>?_))
 obtain ⟨x4,ex4,hm⟩:=ob hm
 refine sd F rfl ent104 (w_penRaw ex4 (H.pm 2 [0,1,1] rfl:):) ?_;rintro _ w a ⟨rfl,H⟩ F
 replace H:=H.nf 2 rfl
 refine nb [0] F H rfl fun a F=>?_
 refine nl (wr ?_)
 cases hm
 refine x_ret1 F rfl rfl ?_
 exact ⟨_,rfl,rfl,(H.pm 2 [0] rfl:)⟩
theorem w_isNaNi {x:Int}  {w0 w:World} {l:List HP}  {r:Bool} (hm:isNaNi x=some r) (H:St w0 w (l)) :
  Calls Tryz.prog 133 [.int .i64 (x)].toArray w (fun e w'=>∃ v,e=.returned v∧v=.bool (r)∧St w0 w' (l)):=by
 unfold isNaNi at hm
 refine x_enter Tryz.func133 rfl rfl rfl ?_
 intro a F
 refine sb [0] F H rfl fun a F=>?_
 refine nb [0,0,0,0] F H rfl fun a F=>?_
 refine nl (wr ?_)
 cases hm
 refine x_ret1 F rfl rfl ?_
 exact ⟨_,rfl,rfl,H⟩
theorem ent133:En Tryz.prog 133:=enters Tryz.func133 (by kernel_rfl) rfl
theorem w_cmpInt {x:Int} {y:Int}  {w0 w:World} {l:List HP}  {r:Int} (hm:cmpInt x y=some r) (H:St w0 w (l)) :
  Calls Tryz.prog 100 [.int .i64 (x),.int .i64 (y)].toArray w (fun e w'=>∃ v,e=.returned v∧v=.int .i64 (r)∧St w0 w' (l)):=by
 unfold cmpInt at hm
 refine x_enter Tryz.func100 rfl rfl rfl ?_
 intro a F
 refine sb [0] F H rfl fun a F=>?_
 refine nb [0] F H rfl fun a F=>?_
 obtain ⟨x1,ex1,hm⟩:=ob hm
 refine sd F rfl ent133 (w_isNaNi ex1 H:) ?_;rintro _ w a ⟨rfl,H⟩ F
 refine bb [0] F H rfl fun a F=>?_
 refine nb [0] F H rfl fun a F=>?_
 obtain ⟨x2,ex2,hm⟩:=ob hm
 refine sd F rfl ent133 (w_isNaNi ex2 H:) ?_;rintro _ w a ⟨rfl,H⟩ F
 refine bb [0] F H rfl fun a F=>?_
 refine nl (sq (sb [0] F H rfl fun a F=>?_))
 refine nl (cB F rfl (fun hg3=>?_) (fun hg3=>?_))
 replace hm:=ifT hg3 hm
 refine sq (sb [0] F H rfl fun a F=>?_)
 refine nl (cB F rfl (fun hg4=>?_) (fun hg4=>?_))
 replace hm:=ifT hg4 hm
 refine sb [0] F H rfl fun a F=>?_
 refine nl (wr (tr (tr ?_)))
 cases hm
 refine x_ret1 F rfl rfl ?_
 exact ⟨_,rfl,rfl,H⟩
 replace hm:=ifF (nT hg4) hm
 refine sk (ct (sb [0] F H rfl fun a F=>?_))
 refine nl (wr (tr ?_))
 cases hm
 refine x_ret1 F rfl rfl ?_
 exact ⟨_,rfl,rfl,H⟩
 replace hm:=ifF (nT hg3) hm
 refine sk (ct (sq (sb [0] F H rfl fun a F=>?_)))
 refine nl (cB F rfl (fun hg5=>?_) (fun hg5=>?_))
 replace hm:=ifT hg5 hm
 refine sb [0] F H rfl fun a F=>?_
 refine nl (wr (tr ?_))
 cases hm
 refine x_ret1 F rfl rfl ?_
 exact ⟨_,rfl,rfl,H⟩
 replace hm:=ifF (nT hg5) hm
 refine sk (ct (sq (sb [0,0,0] F H rfl fun a F=>?_)))
 refine nl (cPm F rfl hm (fun hg6 hm=>?_) (fun hg6 hm=>?_))
 refine sb [0] F H rfl fun a F=>?_
 refine nl (wr (tr ?_))
 cases hm
 refine x_ret1 F rfl rfl ?_
 exact ⟨_,rfl,rfl,H⟩
 refine sk (ct (sq (sb [0,0,0] F H rfl fun a F=>?_)))
 refine nl (cPm F rfl hm (fun hg7 hm=>?_) (fun hg7 hm=>?_))
 refine sb [0] F H rfl fun a F=>?_
 refine nl (wr (tr ?_))
 cases hm
 refine x_ret1 F rfl rfl ?_
 exact ⟨_,rfl,rfl,H⟩
 refine sk (ct (sb [0] F H rfl fun a F=>?_))
 refine nl (wr ?_)
 cases hm
 refine x_ret1 F rfl rfl ?_
 exact ⟨_,rfl,rfl,H⟩
theorem fld75_0:FieldT Tryz.prog 75 0 0:=by unfold FieldT;rw [Tryz.underlying75];kernel_rfl
theorem ent100:En Tryz.prog 100:=enters Tryz.func100 (by kernel_rfl) rfl
theorem w_tCompare {a_:T_api_Seat} {b_:T_api_Seat} {cs1:List Value} {cs2:List Value} {w0 w:World} {l:List HP}  {r:Int} (hm:tCompare a_ b_=some r) (H:St w0 w (HP.rc R_api_Seat cs1 a_::HP.rc R_api_Seat cs2 b_::l)) :
  Calls Tryz.prog 64 [.agg cs1.toArray,.agg cs2.toArray].toArray w (fun e w'=>∃ v,e=.returned v∧v=.int .i64 (r)∧St w0 w' (l)):=by
 unfold tCompare at hm
 refine x_enter Tryz.func64 rfl rfl rfl ?_
 intro a F
 refine sr (s_boxA wkP F rfl rfl rfl rfl rfl H fun b3 w a H F=>?_)
 refine s_boxA wkP F rfl rfl rfl rfl rfl H fun b4 w a H F=>?_
 refine bb [0] F H rfl fun a F=>?_
 replace H:=H.nf 4 rfl
 refine nl (sr (bk [0] F H rfl ⟨fld75_0,trivial⟩ fun a F=>?_))
 have G:=F;replace H:=rc_api_Seat (H.pk 2 rfl);obtain ⟨v5,rfl,J⟩:=H;have H:=J;have F:=G;clear G J
 refine bk [2000,0] F H rfl ⟨rfl,plain3,fld75_0,trivial⟩ fun a F=>?_
 have G:=F;replace H:=rc_api_Seat (H.pk 3 rfl);obtain ⟨v6,rfl,J⟩:=H;have H:=J;have F:=G;clear G J
 refine bk [2000] F H rfl ⟨rfl,plain3,trivial⟩ fun a F=>?_
 obtain ⟨x7,ex7,hm⟩:=ob hm
 refine sd F rfl ent100 (w_cmpInt ex7 H:) ?_;rintro _ w a ⟨rfl,H⟩ F
 refine bb [0] F H rfl fun a F=>?_
 replace H:=H.nf 4 rfl
 refine nl (wr ?_)
 cases hm
 refine x_ret1 F rfl rfl ?_
 exact ⟨_,rfl,rfl,(H.pm 4 [] rfl:)⟩
theorem elem67:ElemT Tryz.prog 67 75 6 80 (.agg [.int .i64 0,.int .u64 0,.int .i64 0,.int .i64 0,.slice none 0 0,.slice none 0 0].toArray):=⟨Tryz.underlying67,by kernel_rfl,by kernel_rfl,by decide⟩
theorem agg75:AggT Tryz.prog 75 6 [.int .i64 0,.int .u64 0,.int .i64 0,.int .i64 0,.slice none 0 0,.slice none 0 0]:=⟨by rw [Tryz.underlying75];rfl,by kernel_rfl,by kernel_rfl⟩
theorem ent64:En Tryz.prog 64:=enters Tryz.func64 (by kernel_rfl) rfl
theorem w_bsSeatO {xs:List T_api_Seat} {t_:T_api_Seat} {p1:Option Addr} {c1:Nat} {cs2:List Value} {w0 w:World} {l:List HP}  {r:Int×Bool} (hm:bsSeatO xs t_=some r) (H:St w0 w (HP.ow R_api_Seat 75 p1 c1 xs::HP.rc R_api_Seat cs2 t_::l)) :
  Calls Tryz.prog 101 [.slice p1 (xs).length c1,.agg cs2.toArray,.func (.func 64) #[] #[]].toArray w (fun e w'=>∃ v,e=.returned v∧v=.tuple [.int .i64 (r.1),.bool (r.2)].toArray∧St w0 w' (HP.ow R_api_Seat 75 p1 c1 xs::l)):=by
 unfold bsSeatO at hm
 refine x_enter Tryz.func101 rfl rfl rfl ?_
 intro a F
 refine sr (s_boxA wkP F rfl rfl rfl rfl rfl H fun b3 w a H F=>?_)
 refine bb [0,0] F H rfl fun a F=>?_
 replace H:=H.nf 3 rfl
 refine nl (sr (bk [0,0,0] F H rfl ⟨⟨_,Tryz.underlying67⟩,trivial⟩ fun a F=>?_))
 refine nb [0,0,0] F H rfl fun a F=>?_
 refine nl (sq (xm0 3 [0,2,4,8] [0,1,2] F H hm rfl rfl (fun r53 z=>(9,.int .i64 (r53))::z) (fun r53 z=>z) (fun r53 hm=>?_) (fun r53 a w hm F H=>?_)))
 refine bl (xl0 3 [0,2,4,8] [0,1,2] F H hm rfl rfl (fun (s86:Int×Int) z=>(9,.int .i64 (s86.1))::(10,.int .i64 (s86.2))::z) (fun s86 z=>z) ⟨F.sl rfl,H⟩ (fun s86 a w o F H hm=>?_))
 refine sq (sb [0,0,0] F H rfl fun a F=>?_)
 refine nl (cPm F rfl hm (fun hg87 hm=>?_) (fun hg87 hm=>?_))
 refine sk (ct (xm0 3 [0,2,4,8] [0,1,2] F H hm rfl rfl (fun r95 z=>(9,.int .i64 (r95.1))::(10,.int .i64 (r95.2))::z) (fun r95 z=>z) (fun r95 hm=>?_) (fun r95 a w hm F H=>?_)))
 refine bl (sr (bk [0,0,0,2] F H rfl ⟨Tryz.underlying3,Tryz.underlying172,trivial⟩ fun a F=>?_))
 refine sv F rfl (i_shr F rfl rfl rfl (by decide)) fun a F=>?_
 refine bk [0,0] F H rfl ⟨Tryz.underlying172,Tryz.underlying3,trivial⟩ fun a F=>?_
 refine nl (sq ?_)
 obtain ⟨x96,ex96,hm⟩:=ob hm
 obtain ⟨b97,hp97⟩:=H.owP 1 rfl (idxO_some ex96).2
 obtain ⟨css98,H⟩:=H.oxOpen 1 rfl
 obtain ⟨cs98,hcs98,hcl98,H⟩:=H.oxEl 1 rfl (idxO_some ex96).2
 refine mix_region [6] [] (.step 0 0 (.step 0 1 (.step 0 2 (.step 0 3 (.step 1 4 (.step 1 5 (.step 2 6 (.step 0 7 .done)))))))) (fun u=>∃ ls,St w0 u (ls)) (by kernel_rfl) (by kernel_rfl) ⟨_,H.drew⟩ ?_
 replace H:=H.drew
 generalize w.drew=w at H ⊢
 refine mb [0,0,0] F H rfl fun a F=>?_
 refine m_pure F rfl rfl rfl rfl (fun u hu=>y_idxS F elem67 rfl rfl rfl hp97 ex96) fun a F=>?_
 refine m_read F rfl rfl rfl rfl (y_loadA F agg75 rfl rfl (H.oxRow 2 rfl hp97 hcs98 hcl98) (H.rcLen 0 rfl)) fun a F=>?_
 refine mbk [1999] F H rfl ⟨rfl,(aggn agg75 (H.rcLen 3 rfl)),trivial⟩ fun a F=>?_
 refine m_heavy rfl rfl ?_
 obtain ⟨x99,ex99,hm⟩:=ob hm
 refine s_call wkP F rfl rfl rfl rfl (y_callV0 F rfl rfl rfl ent64) (w_tCompare ex99 (H.pm 4 [0,3,0,1,2,3] rfl:):) ?_;rintro _ w a ⟨rfl,H⟩ F
 refine lz ?_;refine ct ⟨⟨_,H⟩,?_⟩
 refine mb [0] F H rfl fun a F=>?_
 refine m_nil ?_
 replace H:=H.oxShut 2 rfl
 refine ct (xm0 4 [0,2,4,8] [1,2,3] F H hm rfl rfl (fun r101 z=>(9,.int .i64 (r101.1))::(10,.int .i64 (r101.2))::z) (fun r101 z=>z) (fun r101 hm=>?_) (fun r101 a w hm F H=>?_))
 refine cPm F rfl hm (fun hg102 hm=>?_) (fun hg102 hm=>?_)
 refine rl (bb [0,0,0] F H rfl fun a F=>?_)
 replace H:=H.nf 4 rfl
 refine lz ?_
 cases hm
 refine ct ?_
 exact ⟨F.sl rfl,(H.pm 4 [1,2,3] rfl:)⟩
 refine rl (bb [0,0] F H rfl fun a F=>?_)
 replace H:=H.nf 4 rfl
 refine lz ?_
 cases hm
 refine ct ?_
 exact ⟨F.sl rfl,(H.pm 4 [1,2,3] rfl:)⟩
 refine bn ?_
 cases hm
 refine ct ?_
 exact ⟨F.sl rfl,H⟩
 refine ct ?_;cases hm
 exact ⟨_,rfl,⟨F.sl rfl,H⟩⟩
 refine ex (cx (cx ?_));cases hm;refine ⟨_,rfl,?_⟩;rintro rfl
 refine ch (ct ?_)
 exact ⟨F.sl rfl,H⟩
 refine ct (sq ?_)
 by_cases hg103:r53<((xs).length:Int)
 replace hm:=ifT hg103 hm
 obtain ⟨x104,ex104,hm⟩:=ob hm
 obtain ⟨b105,hp105⟩:=H.owP 1 rfl (idxO_some ex104).2
 obtain ⟨css106,H⟩:=H.oxOpen 1 rfl
 obtain ⟨cs106,hcs106,hcl106,H⟩:=H.oxEl 1 rfl (idxO_some ex104).2
 refine mix_region [11] [] (.step 0 0 (.step 0 1 (.step 0 2 (.step 0 3 (.step 0 4 (.step 0 5 (.step 0 6 (.step 0 7 (.step 0 8 (.step 1 9 (.step 1 10 (.step 2 11 (.step 0 12 (.step 0 13 (.step 0 14 (.step 0 15 .done)))))))))))))))) (fun u=>∃ ls,St w0 u (ls)) (by kernel_rfl) (by kernel_rfl) ⟨_,H.drew⟩ ?_
 replace H:=H.drew
 generalize w.drew=w at H ⊢
 refine mb (List.replicate 5 0) F H rfl fun a F=>?_
 replace F:=F.bT 39 hg103 rfl
 refine mb [0,0,0] F H rfl fun a F=>?_
 refine m_on (k:=0) F rfl rfl rfl rfl rfl rfl rfl (fun u hu=>y_idxS F elem67 rfl rfl rfl hp105 ex104) fun a F=>?_
 refine m_on1 (k:=0) F rfl rfl rfl rfl rfl rfl rfl (y_loadA F agg75 rfl rfl (H.oxRow 2 rfl hp105 hcs106 hcl106) (H.rcLen 0 rfl)) fun a F=>?_
 refine mbk [1999] F H rfl ⟨rfl,(aggn agg75 (H.rcLen 3 rfl)),trivial⟩ fun a F=>?_
 refine m_heavyOn F rfl rfl rfl rfl rfl ?_;refine g_onP F rfl rfl rfl rfl ?_
 obtain ⟨x107,ex107,hm⟩:=ob hm
 refine s_call wkP F rfl rfl rfl rfl (y_callV0 F rfl rfl rfl ent64) (w_tCompare ex107 (H.pm 4 [0,3,0,1,2,3] rfl:):) ?_;rintro _ w a ⟨rfl,H⟩ F
 refine lz ?_;refine ct ⟨⟨_,H⟩,?_⟩
 refine mb [0,0,0,0] F H rfl fun a F=>?_
 refine m_nil ?_
 replace H:=H.oxShut 2 rfl
 refine ct (wr ?_)
 cases hm
 refine x_ret2 F rfl rfl rfl ?_
 exact ⟨_,rfl,rfl,(H.pm 4 [2] rfl:)⟩
 replace hm:=ifF hg103 hm
 refine mix_region [11] [] (.step 0 0 (.step 0 1 (.step 0 2 (.step 0 3 (.step 0 4 (.step 0 5 (.step 0 6 (.step 0 7 (.step 0 8 (.step 1 9 (.step 1 10 (.step 2 11 (.step 0 12 (.step 0 13 (.step 0 14 (.step 0 15 .done)))))))))))))))) (fun u=>∃ ls,St w0 u (ls)) (by kernel_rfl) (by kernel_rfl) ⟨_,H.drew⟩ ?_
 replace H:=H.drew
 generalize w.drew=w at H ⊢
 refine mb (List.replicate 5 0) F H rfl fun a F=>?_
 replace F:=F.bF 39 hg103 rfl
 refine mb (List.replicate 11 0) F H rfl fun a F=>?_
 refine m_nil ?_
 refine ct (wr ?_)
 cases hm
 refine x_ret2 F rfl rfl rfl ?_
 exact ⟨_,rfl,rfl,(H.pm 3 [1] rfl:)⟩
theorem ent101:En Tryz.prog 101:=enters Tryz.func101 (by kernel_rfl) rfl
theorem w_tFindO {seats:List T_api_Seat} {client:Int} {p1:Option Addr} {c1:Nat} {w0 w:World} {l:List HP}  {r:Int×Bool} (hm:tFindO seats client=some r) (H:St w0 w (HP.ow R_api_Seat 75 p1 c1 seats::l)) :
  Calls Tryz.prog 66 [.slice p1 (seats).length c1,.int .i64 (client)].toArray w (fun e w'=>∃ v,e=.returned v∧v=.tuple [.int .i64 (r.1),.bool (r.2)].toArray∧St w0 w' (HP.ow R_api_Seat 75 p1 c1 seats::l)):=by
 unfold tFindO at hm
 refine x_enter Tryz.func66 rfl rfl rfl ?_
 intro a F
 refine sb [0,0] F H rfl fun a F=>?_
 refine nb [0,0] F H rfl fun a F=>?_
 replace H:=H.owNil rByte 5
 replace H:=H.owNil rStr 9
 refine sv F rfl (y_build F rfl rfl (cs:=[.int .i64 (client),.int .u64 (0),.int .i64 (0),.int .i64 (0),.slice none (([]:List UInt8)).length 0,.slice none (([]:List (List UInt8))).length 0]) (by kernel_rfl)) fun a F=>?_
 replace H:=H.frz 1 rfl
 replace H:=H.frz 1 rfl
 replace H:=H.mkRc (R:=R_api_Seat) (cs:=[.int .i64 (client),.int .u64 (0),.int .i64 (0),.int .i64 (0),.slice none (([]:List UInt8)).length 0,.slice none (([]:List (List UInt8))).length 0]) (x:=(client,0,(0,0,([]:List UInt8),([]:List (List UInt8))))) (fun gg=>⟨[Value.int .i64 (client)],_,rfl,rfl,⟨[Value.int .u64 (0)],_,rfl,rfl,⟨[Value.int .i64 (0)],_,rfl,rfl,⟨[Value.int .i64 (0)],_,rfl,rfl,⟨[Value.slice none (([]:List UInt8)).length 0],_,rfl,⟨_,_,rfl,(gg 1 _ rfl).choose_spec⟩,⟨_,_,rfl,(gg 0 _ rfl).choose_spec⟩⟩⟩⟩⟩⟩)
 obtain ⟨x2,ex2,hm⟩:=ob hm
 refine sd F rfl ent101 (w_bsSeatO ex2 (H.pm 4 [3,0,0,1,2] rfl:):) ?_;rintro _ w a ⟨rfl,H⟩ F
 refine bb [0,0,0,0] F H rfl fun a F=>?_
 replace H:=H.nf 4 rfl
 refine nl (wr ?_)
 cases hm
 refine x_ret2 F rfl rfl rfl ?_
 exact ⟨_,rfl,rfl,(H.pm 4 [0] rfl:)⟩
theorem w_oShort {n:Int}  {w0 w:World} {l:List HP}  {r:Bool} (hm:oShort n=some r) (H:St w0 w (l)) :
  Calls Tryz.prog 95 [.int .i64 (n)].toArray w (fun e w'=>∃ v,e=.returned v∧v=.bool (r)∧St w0 w' (l)):=by
 unfold oShort at hm
 refine x_enter Tryz.func95 rfl rfl rfl ?_
 intro a F
 refine sb [0] F H rfl fun a F=>?_
 refine nb [0,0,0] F H rfl fun a F=>?_
 rcases spP 5 F rfl hm with ⟨hg1,hm,F⟩ | ⟨hg1,hm,F⟩
 refine bb [0,0,0,0] F H rfl fun a F=>?_
 refine nl (wr ?_)
 cases hm
 refine x_ret1 F rfl rfl ?_
 exact ⟨_,rfl,rfl,H⟩
 refine bb [0,0,0,0] F H rfl fun a F=>?_
 refine nl (wr ?_)
 cases hm
 refine x_ret1 F rfl rfl ?_
 exact ⟨_,rfl,rfl,H⟩
theorem w_oWrong {s:List UInt8}  {w0 w:World} {l:List HP}  {r:Bool} (hm:oWrong s=some r) (H:St w0 w (l)) :
  Calls Tryz.prog 94 [.string (txb (s))].toArray w (fun e w'=>∃ v,e=.returned v∧v=.bool (r)∧St w0 w' (l)):=by
 unfold oWrong at hm
 refine x_enter Tryz.func94 rfl rfl rfl ?_
 intro a F
 refine sb [0] F H rfl fun a F=>?_
 refine nb [0] F H rfl fun a F=>?_
 refine sv F rfl (y_eqT (l:=s) (m:=[]) F rfl rfl rfl) fun a F=>?_
 refine bb [0] F H rfl fun a F=>?_
 rcases spP 5 F rfl hm with ⟨hg1,hm,F⟩ | ⟨hg1,hm,F⟩
 refine bb (List.replicate 5 0) F H rfl fun a F=>?_
 refine nl (wr ?_)
 cases hm
 refine x_ret1 F rfl rfl ?_
 exact ⟨_,rfl,rfl,H⟩
 refine bb [0] F H rfl fun a F=>?_
 refine g_onP F rfl rfl rfl rfl ?_
 refine sv F rfl (y_lenT (l:=s) F rfl Tryz.underlying9 rfl) fun a F=>?_
 refine bb [0,0,0] F H rfl fun a F=>?_
 refine nl (wr ?_)
 cases hm
 refine x_ret1 F rfl rfl ?_
 exact ⟨_,rfl,rfl,H⟩
theorem ent94:En Tryz.prog 94:=enters Tryz.func94 (by kernel_rfl) rfl
theorem w_ixWrong {s:List (List UInt8)} {p1:Option Addr} {c1:Nat} {w0 w:World} {l:List HP}  {r:Int} (hm:ixWrong s=some r) (H:St w0 w (HP.sl rStr p1 c1 s::l)) :
  Calls Tryz.prog 132 [.slice p1 (s).length c1,.func (.func 94) #[] #[]].toArray w (fun e w'=>∃ v,e=.returned v∧v=.int .i64 (r)∧St w0 w' (l)):=by
 unfold ixWrong at hm
 refine x_enter Tryz.func132 rfl rfl rfl ?_
 intro a F
 refine sb [0] F H rfl fun a F=>?_
 refine nl (sq (sr (bk [0,0,0] F H rfl ⟨⟨_,Tryz.underlying33⟩,trivial⟩ fun a F=>?_)))
 refine nl (xr0 1 [] [] F H hm rfl rfl (fun r21 z=>z) (fun r21 z=>z) (fun o21 hm hm21=>?_) (fun r21 a w hm F H=>?_))
 refine bl (xl0 1 [0,1,7] [0] F H hm rfl rfl (fun (s34:Int) z=>(8,.int .i64 (s34))::z) (fun s34 z=>z) ⟨F.sl rfl,H⟩ (fun s34 a w o F H hm=>?_))
 refine sb [0] F H rfl fun a F=>?_
 refine nl (sq (cPm F rfl hm (fun hg35 hm=>?_) (fun hg35 hm=>?_)))
 refine sk (ct (sq (bl (sb [0,0] F H rfl fun a F=>?_))))
 refine nb [0,0,0] F H rfl fun a F=>?_
 obtain ⟨x36,ex36,hm⟩:=ob hm
 obtain ⟨b37,o37,hp37⟩:=H.slP 0 rfl (idxO_some ex36).2
 obtain ⟨cs38,hcl38,H⟩:=H.slEl 0 rfl hp37 (idxO_some ex36).2
 obtain rfl:=H.rcStr 1 rfl
 replace H:=H.dp 1 rfl
 clear hcl38
 refine sv F rfl (y_idxS F elem33 rfl rfl rfl hp37 ex36) fun a F=>?_
 refine bk [0] F H rfl ⟨rfl,plain9,trivial⟩ fun a F=>?_
 obtain ⟨x39,ex39,hm⟩:=ob hm
 refine s_call wkP F rfl rfl rfl rfl (y_callV0 F rfl rfl rfl ent94) (w_oWrong ex39 H:) ?_;rintro _ w a ⟨rfl,H⟩ F
 replace H:=H.nf 2 rfl
 refine nl (cB F rfl (fun hg40=>?_) (fun hg40=>?_))
 replace hm:=ifT hg40 hm
 refine sb [0,0] F H rfl fun a F=>?_
 refine nl (wr (br (tr (tr ?_))));cases hm;refine ⟨_,rfl,?_⟩;rintro rfl
 refine br (tr ?_)
 replace hm:=elimR hm21
 refine tr ?_
 cases hm
 refine x_ret1 F rfl rfl ?_
 exact ⟨_,rfl,rfl,(H.pm 2 [] rfl:)⟩
 replace hm:=ifF (nT hg40) hm
 refine sk (bn (ct (rl (bb [0,0] F H rfl fun a F=>?_))))
 refine lz (ct ?_);cases hm
 exact ⟨_,rfl,⟨F.sl rfl,(H.pm 2 [1] rfl:)⟩⟩
 refine ex (cx (cx ?_));cases hm;refine ⟨_,rfl,?_⟩;rintro rfl
 refine ch (ct ?_)
 exact ⟨_,rfl,F.cut _ trivial,(H.pm 1 [] rfl:)⟩
 refine ct (sb [0] F H rfl fun a F=>?_)
 refine nl (wr ?_)
 cases hm
 refine x_ret1 F rfl rfl ?_
 exact ⟨_,rfl,rfl,H⟩
theorem w_anyWrong {s:List (List UInt8)} {p1:Option Addr} {c1:Nat} {w0 w:World} {l:List HP}  {r:Bool} (hm:anyWrong s=some r) (H:St w0 w (HP.sl rStr p1 c1 s::l)) :
  Calls Tryz.prog 96 [.slice p1 (s).length c1,.func (.func 94) #[] #[]].toArray w (fun e w'=>∃ v,e=.returned v∧v=.bool (r)∧St w0 w' (l)):=by
 unfold anyWrong at hm
 refine x_enter Tryz.func96 rfl rfl rfl ?_
 intro a F
 refine sb [0] F H rfl fun a F=>?_
 refine nb [0,0] F H rfl fun a F=>?_
 obtain ⟨x2,ex2,hm⟩:=ob hm
 refine sd F rfl ent132 (w_ixWrong ex2 (H.pm 1 [0,0] rfl:):) ?_;rintro _ w a ⟨rfl,H⟩ F
 refine bb [0,0] F H rfl fun a F=>?_
 replace H:=H.nf 1 rfl
 refine nl (wr ?_)
 cases hm
 refine x_ret1 F rfl rfl ?_
 exact ⟨_,rfl,rfl,(H.pm 1 [] rfl:)⟩
theorem ent95:En Tryz.prog 95:=enters Tryz.func95 (by kernel_rfl) rfl
theorem ent98:En Tryz.prog 98:=enters Tryz.func98 (by kernel_rfl) rfl
theorem w_oWriteA {a_:T_api_Answer} {cs1:List Value} {w0 w:World} {l:List HP}  {r:(List UInt8)×Int} (hm:oWriteA a_=some r) (H:St w0 w (HP.rc R_api_Answer cs1 a_::l)) :
  Calls Tryz.prog 63 [.agg cs1.toArray].toArray w (fun e w'=>∃ v,e=.returned v∧∃ (p2:Option Addr) (c2:Nat),v=.tuple [.slice p2 (r.1).length c2,.int .i64 (r.2)].toArray∧St w0 w' (HP.sl rByte p2 c2 r.1::l)):=by
 unfold oWriteA at hm
 refine x_enter Tryz.func63 rfl rfl rfl ?_
 intro a F
 refine sr (s_boxA wkP F rfl rfl rfl rfl rfl H fun b3 w a H F=>?_)
 refine bb [0,0] F H rfl fun a F=>?_
 replace H:=H.nf 2 rfl
 refine nb [0] F H rfl fun a F=>?_
 refine nl (sq (sr (bk [0] F H rfl ⟨fld35_0,trivial⟩ fun a F=>?_)))
 have G:=F;replace H:=rc_api_Answer (H.pk 1 rfl);obtain ⟨p4,c5,p6,c7,rfl,J⟩:=H;have H:=J;have F:=G;clear G J
 refine bk [2000] F H rfl ⟨rfl,plain32,trivial⟩ fun a F=>?_
 obtain ⟨x8,ex8,hm⟩:=ob hm
 refine sd F rfl ent95 (w_oShort ex8 H:) ?_;rintro _ w a ⟨rfl,H⟩ F
 refine bb [0,0] F H rfl fun a F=>?_
 by_cases hg9:(!x8)=true
 replace hm:=ifT hg9 hm
 replace F:=F.vT 12 hg9 rfl
 refine bb (List.replicate 23 0) F H rfl fun a F=>?_
 replace H:=H.nf 3 rfl
 refine nl (cT F rfl ?_)
 refine sb [0,0] F H rfl fun a F=>?_
 refine nl (wr (tr ?_))
 replace H:=H.slNil rByte
 cases hm
 refine x_ret2 F rfl rfl rfl ?_
 exact ⟨_,rfl,none,0,rfl,(H.pm 4 [0] rfl:)⟩
 replace hm:=ifF hg9 hm
 replace F:=F.vF 12 hg9 rfl
 refine bk [1,2001] F H rfl ⟨fld35_1,rfl,plain3,trivial⟩ fun a F=>?_
 refine g_onP F rfl rfl rfl rfl ?_
 obtain ⟨x10,ex10,hm⟩:=ob hm
 refine sd F rfl ent95 (w_oShort ex10 H:) ?_;rintro _ w a ⟨rfl,H⟩ F
 refine bb [0,0,0] F H rfl fun a F=>?_
 by_cases hg11:(!x10)=true
 replace hm:=ifT hg11 hm
 replace F:=F.vT 18 hg11 rfl
 refine bb (List.replicate 17 0) F H rfl fun a F=>?_
 replace H:=H.nf 3 rfl
 refine nl (cT F rfl ?_)
 refine sb [0,0] F H rfl fun a F=>?_
 refine nl (wr (tr ?_))
 replace H:=H.slNil rByte
 cases hm
 refine x_ret2 F rfl rfl rfl ?_
 exact ⟨_,rfl,none,0,rfl,(H.pm 4 [0] rfl:)⟩
 replace hm:=ifF hg11 hm
 replace F:=F.vF 18 hg11 rfl
 refine bk [2,2002,0,0,0,0] F H rfl ⟨fld35_2,rfl,plain29,⟨_,Tryz.underlying29⟩,trivial⟩ fun a F=>?_
 rcases spP 24 F rfl hm with ⟨hg12,hm,F⟩ | ⟨hg12,hm,F⟩
 refine bb (List.replicate 11 0) F H rfl fun a F=>?_
 replace H:=H.nf 3 rfl
 refine nl (cT F rfl ?_)
 refine sb [0,0] F H rfl fun a F=>?_
 refine nl (wr (tr ?_))
 replace H:=H.slNil rByte
 cases hm
 refine x_ret2 F rfl rfl rfl ?_
 exact ⟨_,rfl,none,0,rfl,(H.pm 4 [0] rfl:)⟩
 refine bk [3,2003,0,0,0,0] F H rfl ⟨fld35_3,rfl,plain33,⟨_,Tryz.underlying33⟩,trivial⟩ fun a F=>?_
 rcases spP 30 F rfl hm with ⟨hg13,hm,F⟩ | ⟨hg13,hm,F⟩
 refine bb (List.replicate 5 0) F H rfl fun a F=>?_
 replace H:=H.nf 3 rfl
 refine nl (cT F rfl ?_)
 refine sb [0,0] F H rfl fun a F=>?_
 refine nl (wr (tr ?_))
 replace H:=H.slNil rByte
 cases hm
 refine x_ret2 F rfl rfl rfl ?_
 exact ⟨_,rfl,none,0,rfl,(H.pm 4 [0] rfl:)⟩
 refine bk [3,2003,0] F H rfl ⟨fld35_3,rfl,plain33,trivial⟩ fun a F=>?_
 refine g_onP F rfl rfl rfl rfl ?_
 obtain ⟨x14,ex14,hm⟩:=ob hm
 refine sd F rfl ent96 (w_anyWrong ex14 (H.pm 3 [1,0,1,2] rfl:):) ?_;rintro _ w a ⟨rfl,H⟩ F
 refine bb [0] F H rfl fun a F=>?_
 replace H:=H.nf 3 rfl
 refine nl (cB F rfl (fun hg15=>?_) (fun hg15=>?_))
 replace hm:=ifT hg15 hm
 refine sb [0,0] F H rfl fun a F=>?_
 refine nl (wr (tr ?_))
 replace H:=H.slNil rByte
 cases hm
 refine x_ret2 F rfl rfl rfl ?_
 exact ⟨_,rfl,none,0,rfl,(H.pm 4 [0] rfl:)⟩
 replace hm:=ifF (nT hg15) hm
 refine sk (ct (sr ?_))
 replace H:=H.owNil rByte 5
 refine sv F rfl (y_build F rfl rfl (cs:=[.slice none (([]:List UInt8)).length 0]) (by kernel_rfl)) fun a F=>?_
 refine s_boxA wkP F rfl rfl rfl rfl rfl H fun b16 w a H F=>?_
 refine bb [0] F H rfl fun a F=>?_
 replace H:=H.nf 5 rfl
 refine nl (sr (bk [0,0,4000,2] F H rfl ⟨fld35_0,rfl,plain32,Tryz.underlying32,Tryz.underlying38,trivial⟩ fun a F=>?_))
 replace H:=O_pack_Pen_s (x0:=([]:List UInt8)) H
 obtain ⟨x17,ex17,hm⟩:=ob hm
 refine sd F rfl ent97 (w_penUint ex17 H:) ?_;rintro _ w a ⟨rfl,H⟩ F
 replace H:=H.nf 4 rfl
 refine nl (sr (bk [0,1,3001,2] F H rfl ⟨fld35_1,rfl,plain3,Tryz.underlying3,Tryz.underlying38,trivial⟩ fun a F=>?_))
 obtain ⟨x18,ex18,hm⟩:=ob hm
 refine sd F rfl ent97 (w_penUint ex18 H:) ?_;rintro _ w a ⟨rfl,H⟩ F
 replace H:=H.nf 4 rfl
 refine nl (sr (bk [0,2,3002] F H rfl ⟨fld35_2,rfl,plain29,trivial⟩ fun a F=>?_))
 obtain ⟨x19,ex19,hm⟩:=ob hm
 refine sd F rfl ent98 (w_penText ex19 (H.pm 4 [0,1,1,2,3] rfl:):) ?_;rintro _ w a ⟨rfl,H⟩ F
 replace H:=H.nf 4 rfl
 refine nl (sr (bk [0,3,3003,0,2] F H rfl ⟨fld35_3,rfl,plain33,⟨_,Tryz.underlying33⟩,Tryz.underlying3,Tryz.underlying38,trivial⟩ fun a F=>?_))
 obtain ⟨x20,ex20,hm⟩:=ob hm
 refine sd F rfl ent97 (w_penUint ex20 H:) ?_;rintro _ w a ⟨rfl,H⟩ F
 replace H:=H.nf 4 rfl
 refine nl (sq (sr (bk [3,3003,0,0] F H rfl ⟨fld35_3,rfl,plain33,⟨_,Tryz.underlying33⟩,trivial⟩ fun a F=>?_)))
 refine nl (xm0 4 [5] [1,2,3] F H hm rfl rfl (fun r40 z=>z) (fun r40 z=>O_pack_Pen b16 r40::z) (fun r40 hm=>?_) (fun r40 a w hm F H=>?_))
 refine bl (xl0 4 [5,59,60] [1,2,3] F H hm rfl rfl (fun (s53:T_pack_Pen_o×Int) z=>(61,.int .i64 (s53.2))::z) (fun s53 z=>O_pack_Pen b16 s53.1::z) ⟨F.sl rfl,H⟩ (fun s53 a w o F H hm=>?_))
 refine sb [0] F H rfl fun a F=>?_
 refine nl (sq (cPm F rfl hm (fun hg54 hm=>?_) (fun hg54 hm=>?_)))
 refine sk (ct (sq (bl (sr ?_))))
 obtain ⟨x55,ex55,hm⟩:=ob hm
 obtain ⟨b56,o56,hp56⟩:=H.slP 2 rfl (idxO_some ex55).2
 obtain ⟨cs57,hcl57,H⟩:=H.slEl 2 rfl hp56 (idxO_some ex55).2
 obtain rfl:=H.rcStr 1 rfl
 replace H:=H.dp 1 rfl
 clear hcl57
 refine sv F rfl (y_idxS F elem33 rfl rfl rfl hp56 ex55) fun a F=>?_
 refine bk [0,0] F H rfl ⟨rfl,plain9,trivial⟩ fun a F=>?_
 refine nl (rl (bb [0,0] F H rfl fun a F=>?_))
 refine s_cvT (e:=5) (xs:=x55) wkP F rfl rfl rfl Tryz.underlying9 Tryz.underlying29 Tryz.underlying5 rfl rfl H fun b58 c58 w a H F=>?_
 replace H:=H.cvFrz 0 rfl
 obtain ⟨x59,ex59,hm⟩:=ob hm
 refine sd F rfl ent98 (w_penText ex59 (H.pm 6 [2,0,0,1,3,4,5] rfl:):) ?_;rintro _ w a ⟨rfl,H⟩ F
 replace H:=H.nf 6 rfl
 refine lz (bn (ct (rl (bb [0,0] F H rfl fun a F=>?_))))
 refine lz (ct ?_);cases hm
 exact ⟨_,rfl,⟨F.sl rfl,(H.pm 6 [0,3,4,5] rfl:)⟩⟩
 refine ex (cx (cx ?_));cases hm;refine ⟨_,rfl,?_⟩;rintro rfl
 refine ch (ct ?_)
 exact ⟨F.sl rfl,H⟩
 refine ct (sb [0] F H rfl fun a F=>?_)
 obtain ⟨x60,ex60,hm⟩:=ob hm
 refine sd F rfl ent99 (w_penData ex60 H:) ?_;rintro _ w a ⟨p61,c61,rfl,H⟩ F
 refine bb [0,0] F H rfl fun a F=>?_
 replace H:=H.nf 5 rfl
 refine nl (wr ?_)
 replace H:=H.frz 0 rfl
 cases hm
 refine x_ret2 F rfl rfl rfl ?_
 exact ⟨_,rfl,p61,c61,rfl,(H.pm 5 [0] rfl:)⟩
section
open Go.ChangeShapes Go.WideShapes Go.ChangeAt
set_option maxHeartbeats 1000000 in
theorem ins93_end {w0 w:World} {l:List HP} {s:Value} {n:Nat} {xs:List Value} (H:St w0 w l) (i:Nat) (hi:l[i]?=some (HP.own 75 6 s n xs)) (hn:n≤1000) (bv cv:Nat) (cs:List Value) (hv:Row w bv 0 cs) (hcs:cs.length=6) (hfc:Flat cs) :
    Calls Tryz.prog 93 #[s,.int .i64 n,.slice (some ⟨bv,0,none⟩) 1 (cv+1)] w (InsSt 75 6 w0 l i n n xs cs):=by
  have hown:=H.owns i hi
  have HS:=Lib.hid (And.intro H hi)
  have hsl:∃ p cap,s=.slice p n cap∧n≤cap∧(p=none→n=0):=by
    obtain ⟨_,⟨rfl,rfl⟩ | ⟨g,cap,cur,rfl,hb,hg,hc,hm,hs,ht⟩⟩:=hown
    · exact ⟨none,0,rfl,Nat.le_refl _,fun _=>rfl⟩
    · exact ⟨_,_,rfl,hc,fun h=>by cases h⟩
  have hxl:=hown.1
  clear hown H hi
  obtain ⟨p,cap,rfl,hc,hp⟩:=hsl
  have HV:=Lib.hid (show Sl w (.slice (some ⟨bv,0,none⟩) 1 (cv+1)) 1 cs from .inr (.inr ⟨_,_,_,rfl,by omega,hv⟩))
  have HX:=Lib.hid hxl
  have HCS:=Lib.hid (show cs.length=1 * 6 from hcs)
  have HP:=Lib.hid hp
  have hc':(n:Int)≤(cap:Int):=by omega
  clear hxl hp hv hcs
  have hne:((n:Int)==(n:Int))=true:=by simp
  by_cases hcn:cap=n
  all_goals
    go_enter Tryz.func93,Tryz.ntmps93
    go_wp2_with ((with_reducible refine wl_appendSt elem67 rfl ?_ ?_ ?_ HS.out.1 i HS.out.2 HV.out HCS.out hfc (by unfold maxLen;omega) (by omega) ?_);exact rfl;exact rfl;exact rfl;intro v' w2 h2;have H2:=Lib.hid h2;clear h2)
    go_ret
    refine ⟨_,rfl,?_⟩
    rw [← HX.out,List.take_length,List.drop_length,List.append_nil]
    exact H2.out
set_option maxHeartbeats 2000000 in
theorem ins93_room {w0 w:World} {l:List HP} {g cap n q:Nat} {xs cur:List Value} (H:St w0 w l) (i:Nat) (hi:l[i]?=some (HP.own 75 6 (.slice (some ⟨g,0,none⟩) n cap) n xs)) (hb:Blk w g cur 75) (hcur:cur.length=cap * 6) (hxs:cur.take (n * 6)=xs) (hfx:Flat xs) (hm:cap≤maxLen) (hn:n≤1000) (hq:q<n) (hroom:n+1≤cap)
    (bv cv:Nat) (cs cb:List Value) (hv:Blk w bv cb 75) (hvr:Row w bv 0 cs) (hcs:cs.length=6) (hfc:Flat cs) (hcn:cb≠[]) (hne:bv≠g) :
    Calls Tryz.prog 93 #[.slice (some ⟨g,0,none⟩) n cap,.int .i64 q,.slice (some ⟨bv,0,none⟩) 1 (cv+1)] w (InsSt 75 6 w0 l i n q xs cs):=by
  have HS:=Lib.hid (And.intro H hi)
  have HB:=Lib.hid hb;have HC:=Lib.hid hcur;have HXS:=Lib.hid hxs;have HV:=Lib.hid hv;have HVR:=Lib.hid hvr;have HCS:=Lib.hid hcs;have HM:=Lib.hid hm;have HCN:=Lib.hid hcn
  clear hb hcur hxs hv hvr hcs hm hcn H hi
  have e1:((q:Int)==(n:Int))=false:=by simp;omega
  have e2:decide ((cap:Int)<(n:Int)+1)=false:=by simp;omega
  have hci:¬ cap=q:=by omega
  have hci1:¬ cap=q+1:=by omega
  have hic:(q:Int)≤(n:Int):=by omega
  have hnc:(n:Int)+1≤(cap:Int):=by omega
  go_enter Tryz.func93,Tryz.ntmps93
  go_wp2
  have hun:cur≠[]:=fun h=>by have:=HC.out;rw [h] at this;simp at this;omega
  rw [run_callFunc_extern Tryz.func130 (by kernel_rfl) (by kernel_rfl) (by kernel_rfl) (e:=Extern.SlicesOverlaps.overlaps #[67,67] #[4]) (by kernel_rfl),
    run_overlaps elem67 HV.out HB.out hne HCN.out hun 4]
  clear hun
  simp only [Result.andThen]
  rw [Oper.upon_value]
  go_wp2
  refine wp_region_quiet_tail 8 (by kernel_rfl) (by kernel_rfl) ?_
  simp only [List.take_succ_cons,List.take_zero,List.drop_succ_cons,List.drop_zero]
  repeat (go_big_quiet_step (fail))
  refine wpQuiet_nil ?_
  intro _ hw'
  obtain ⟨nq,hw''⟩:=hw'
  subst hw''
  have HB1:=Lib.hid (show Blk (w.drewN nq) g cur 75 from HB.out)
  have HV1:=Lib.hid (show Row (w.drewN nq) bv 0 cs from HVR.out)
  have HG:=Lib.hid (Chg.drewN g w nq)
  generalize w.drewN nq=w1 at *
  have hl1:xs.length=n * 6:=by rw [← HXS.out,List.length_take,HC.out];omega
  have hdl:(xs.drop (q * 6)).length=(n - q) * 6:=by rw [List.length_drop,hl1,Nat.sub_mul]
  have hrow:Row w1 g (q * 6) (xs.drop (q * 6)):=by
    have h0:Row w1 g 0 (xs.take (q * 6)++xs.drop (q * 6)):=by
      rw [List.take_append_drop,← HXS.out]
      have:=HB1.out.row
      rw [← List.take_append_drop (n * 6) cur] at this
      exact this.left
    have h1:=h0.right
    rw [List.length_take,hl1,Nat.min_eq_left (Nat.mul_le_mul_right 6 (by omega)),Nat.zero_add] at h1
    exact h1
  have HL1:=Lib.hid hl1;have HDL:=Lib.hid hdl;have HROW:=Lib.hid hrow
  clear hl1 hdl hrow
  have HSP:=Lib.hid (splice_room cur xs cs (q * 6) (n * 6) 6 HXS.out (by rw [HC.out];omega) (by omega) HCS.out)
  refine wl_copy elem67 rfl rfl rfl rfl HB1.out HROW.out ?_ ?_ ?_ ?_
  · rw [HDL.out];congr 1;exact (Nat.min_eq_right (by omega)).symm
  · rw [HDL.out,HC.out,← Nat.add_mul];exact Nat.mul_le_mul_right 6 (by omega)
  · exact fun v hv=>hfx v (List.mem_of_mem_drop hv)
  intro w2 hb2 hc2
  rw [show (q+1) * 6=q * 6+6 by omega] at hb2
  obtain ⟨C1,hC1⟩:∃ C1,C1=cur.take (q * 6+6)++xs.drop (q * 6)++cur.drop (q * 6+6+(xs.drop (q * 6)).length):=⟨_,rfl⟩
  rw [← hC1] at hb2
  have hsp:=HSP.out
  simp only [← hC1] at hsp
  have H2:=Lib.hid (And.intro hb2 (And.intro hc2 (HV1.out.chg hc2 hne)))
  have HSP2:=Lib.hid hsp
  have HN2:=Lib.hid (show cs.length=Nat.min 1 (n+1 - q) * 6 by rw [HCS.out,show Nat.min 1 (n+1 - q)=1 from Nat.min_eq_left (by omega)])
  have HF2:=Lib.hid (show q * 6+cs.length≤C1.length by rw [hsp.1,HC.out,HCS.out];omega)
  clear hb2 hc2 hsp hC1
  go_wp2_with ((with_reducible refine wl_copy (dCap:=cap - q) (sCap:=cv+1) elem67 rfl ?_ ?_ ?_ H2.out.1 H2.out.2.2 HN2.out HF2.out hfc ?_);exact rfl;exact rfl;exact rfl;intro w3 hb3 hc3;have H3:=Lib.hid (And.intro hb3 hc3);clear hb3 hc3)
  go_ret
  refine ⟨_,rfl,HS.out.1.chg i HS.out.2 (g:=g) (fun S hA=>hA.2 g rfl) ((HG.out.trans H2.out.2.1).trans H3.out.2) fun S hA=>⟨⟨?_,.inr ⟨g,cap,_,rfl,Nat.zero_le _,H3.out.1,hroom,HM.out,?_,?_⟩⟩,hA.2⟩⟩
  · simp only [List.length_append,List.length_take,List.length_drop,HL1.out,HCS.out];omega
  · rw [List.size_toArray,HSP2.out.2.1,HC.out]
  · rw [show (n+1) * 6=n * 6+6 by omega];exact HSP2.out.2.2
set_option maxHeartbeats 2000000 in
theorem ins93_grow {w0 w:World} {l:List HP} {g cap q:Nat} {xs:List Value} (H:St w0 w l) (i:Nat) (hi:l[i]?=some (HP.own 75 6 (.slice (some ⟨g,0,none⟩) cap cap) cap xs)) (hrx:Row w g 0 xs) (hxl:xs.length=cap * 6) (hfx:Flat xs) (hgw:g<w.heap.size) (hn:cap≤1000) (hq:q<cap)
    (bv cv:Nat) (cs:List Value) (hv:Row w bv 0 cs) (hcs:cs.length=6) (hfc:Flat cs) (hvw:bv<w.heap.size) :
    Calls Tryz.prog 93 #[.slice (some ⟨g,0,none⟩) cap cap,.int .i64 q,.slice (some ⟨bv,0,none⟩) 1 (cv+1)] w (InsSt 75 6 w0 l i cap q xs cs):=by
  have HS:=Lib.hid (And.intro H hi)
  have hd0:Row w g 0 (xs.take (q * 6)):=by
    have:=hrx;rw [← List.take_append_drop (q * 6) xs] at this;exact this.left
  have hd1:Row w g (q * 6) (xs.drop (q * 6)):=by
    have:=hrx;rw [← List.take_append_drop (q * 6) xs] at this
    have h1:=this.right
    rw [List.length_take,hxl,Nat.min_eq_left (Nat.mul_le_mul_right 6 (by omega)),Nat.zero_add] at h1
    exact h1
  have HD0:=Lib.hid hd0;have HD1:=Lib.hid hd1;have HXL:=Lib.hid hxl;have HV:=Lib.hid hv;have HCS:=Lib.hid hcs
  have HLO:=Lib.hid (show (xs.take (q * 6)).length=q * 6 by rw [List.length_take,hxl];exact Nat.min_eq_left (Nat.mul_le_mul_right 6 (by omega)))
  have HDL:=Lib.hid (show (xs.drop (q * 6)).length=(cap - q) * 6 by rw [List.length_drop,hxl,Nat.sub_mul])
  clear hd0 hd1 hxl hv hcs hrx H hi
  have e1:((q:Int)==(cap:Int))=false:=by simp;omega
  have e2:decide ((cap:Int)<(cap:Int)+1)=true:=by simp;omega
  have hci:¬ cap=q:=by omega
  have hc0:¬ cap=0:=by omega
  have hic:(q:Int)≤(cap:Int):=by omega
  go_enter Tryz.func93,Tryz.ntmps93
  go_wp2_with (first
    | ((with_reducible refine wl_appendZeros (n:=q) (cap:=cap) (k:=cap+1 - q) (m:=cap+1) (kk:=(cap:Int)+1 - (q:Int)) elem67 Tryz.underlying3 rfl ?_ (by omega) (by omega) ?_ ?_ HD0.out HLO.out (by omega) (by omega) (by unfold maxLen;omega) (by omega) ?_);exact rfl;exact rfl;exact rfl;intro c rs hc1 hc2 hc3;have hci2:¬ c=q:=(by omega);have hci3:¬ c=q+1:=(by omega);have hcc:(q:Int)≤(c:Int):=(by omega);
        have HC:=Lib.hid (And.intro hc2 (splice_grow xs cs rs (q * 6) (cap * 6) 6 (c * 6) HXL.out (by omega) (by omega) HCS.out hc3));
        have HB0:=Lib.hid (show Blk ((w.alloc (.cells (xs.take (q * 6)++rs).toArray 75)).drew) w.heap.size (xs.take (q * 6)++rs) 75 from Blk.new w _ _);
        have HVR:=Lib.hid (show Row ((w.alloc (.cells (xs.take (q * 6)++rs).toArray 75)).drew) bv 0 cs from HV.out.alloc _);
        have HGR:=Lib.hid (show Row ((w.alloc (.cells (xs.take (q * 6)++rs).toArray 75)).drew) g (q * 6) (xs.drop (q * 6)) from HD1.out.alloc _);
        have HBL:=Lib.hid (show Below w.heap.size w ((w.alloc (.cells (xs.take (q * 6)++rs).toArray 75)).drew) from ((Below.refl _ _).alloc (Nat.le_refl _) _).drew);
        have HN2:=Lib.hid (show cs.length=Nat.min 1 (cap+1 - q) * 6 by rw [HCS.out,show Nat.min 1 (cap+1 - q)=1 from Nat.min_eq_left (by omega)]);
        have HF2:=Lib.hid (show q * 6+cs.length≤(xs.take (q * 6)++rs).length by rw [HC.out.2.1,HCS.out];omega);
        clear hc2 hc3)
    | ((with_reducible refine wl_copy (dCap:=c - q) (sCap:=cv+1) elem67 rfl ?_ ?_ ?_ HB0.out HVR.out HN2.out HF2.out hfc ?_);exact rfl;exact rfl;exact rfl;intro w2 hb2 hc2;have H2:=Lib.hid (And.intro hb2 (And.intro (HGR.out.chg hc2 (by omega)) (HBL.out.chg hc2 (Nat.le_refl _))));clear hb2 hc2))
  refine wp_region_quiet_tail 8 (by kernel_rfl) (by kernel_rfl) ?_
  simp only [List.take_succ_cons,List.take_zero,List.drop_succ_cons,List.drop_zero]
  repeat (go_big_quiet_step (fail))
  refine wpQuiet_nil ?_
  intro _ hw'
  obtain ⟨nq,hw''⟩:=hw'
  subst hw''
  refine wl_copy elem67 rfl rfl rfl rfl (show Blk (w2.drewN nq) _ _ _ from H2.out.1) (show Row (w2.drewN nq) _ _ _ from H2.out.2.1) ?_ ?_ ?_ ?_
  · rw [HDL.out];congr 1;exact (Nat.min_eq_left (by omega)).symm
  · rw [HC.out.2.2.1,HDL.out,← Nat.add_mul];exact Nat.mul_le_mul_right 6 (by omega)
  · exact fun v hv=>hfx v (List.mem_of_mem_drop hv)
  intro w3 hb3 hc3
  rw [show (q+1) * 6=q * 6+6 by omega] at hb3
  have H3:=Lib.hid (And.intro hb3 ((H2.out.2.2.drewN nq).chg hc3 (Nat.le_refl _)))
  clear hb3 hc3
  go_wp2
  go_ret
  have hlt:=H3.out.1.lt
  refine ⟨_,rfl,HS.out.1.upd i HS.out.2 (fun S hA hS=>⟨fun b=>b=w.heap.size,⟨⟨?_,.inr ⟨w.heap.size,c,_,rfl,Nat.zero_le _,H3.out.1,by omega,HC.out.1,?_,?_⟩⟩,fun b hb=>by simp [Value.ownBlock] at hb;exact hb.symm⟩,fun b hb=>.inr (by omega),fun b hb=>by rw [hb];exact hlt,fun b hb _=>H3.out.2.block b hb⟩) H3.out.2.os H3.out.2.tape H3.out.2.output H3.out.2.size⟩
  · simp only [List.length_append,HLO.out,HDL.out,HCS.out];omega
  · rw [List.size_toArray,HC.out.2.2.2.1]
  · rw [show (cap+1) * 6=cap * 6+6 by omega];exact HC.out.2.2.2.2
end
theorem w_insSeat {s:List T_api_Seat} {i_:Int} {v:List T_api_Seat} {p1:Option Addr} {c1:Nat} {p2:Option Addr} {c2:Nat} {w0 w:World} {l:List HP}  {r:(List T_api_Seat)} (hm:insSeat s i_ v=some r) (H:St w0 w (HP.ow R_api_Seat 75 p1 c1 s::HP.ow R_api_Seat 75 p2 c2 v::l)) :
  Calls Tryz.prog 93 [.slice p1 (s).length c1,.int .i64 (i_),.slice p2 (v).length c2].toArray w (fun e w'=>∃ v,e=.returned v∧∃ (p3:Option Addr) (c3:Nat),v=.slice p3 (r).length c3∧St w0 w' (HP.ow R_api_Seat 75 p3 c3 r::l)):=by
 unfold insSeat at hm
 exact ins_st (k:=6) rfl (by decide) ins93_end ins93_room ins93_grow hm H
end Go.Proofs.YtnagibpmfabkjaaGreatDoor
set_option linter.unusedSimpArgs false
set_option linter.unusedVariables false
namespace Go.Proofs.YtnagibpmfabkjaaGreatDoor
open Go.RowKit Go.Tri
set_option maxRecDepth 100000
set_option maxHeartbeats 4000000
theorem w_bsSeat {xs:List T_api_Seat} {t_:T_api_Seat} {p1:Option Addr} {c1:Nat} {cs2:List Value} {w0 w:World} {l:List HP}  {r:Int×Bool} (hm:bsSeat xs t_=some r) (H:St w0 w (HP.sl R_api_Seat p1 c1 xs::HP.rc R_api_Seat cs2 t_::l)) :
  Calls Tryz.prog 101 [.slice p1 (xs).length c1,.agg cs2.toArray,.func (.func 64) #[] #[]].toArray w (fun e w'=>∃ v,e=.returned v∧v=.tuple [.int .i64 (r.1),.bool (r.2)].toArray∧St w0 w' (l)):=by
 unfold bsSeat at hm
 refine x_enter Tryz.func101 rfl rfl rfl ?_
 intro a F
 refine sr (s_boxA wkP F rfl rfl rfl rfl rfl H fun b3 w a H F=>?_)
 refine bb [0,0] F H rfl fun a F=>?_
 replace H:=H.nf 3 rfl
 refine nl (sr (bk [0,0,0] F H rfl ⟨⟨_,Tryz.underlying67⟩,trivial⟩ fun a F=>?_))
 refine nb [0,0,0] F H rfl fun a F=>?_
 refine nl (sq (xm0 3 [0,2,4,8] [0,1,2] F H hm rfl rfl (fun r53 z=>(9,.int .i64 (r53))::z) (fun r53 z=>z) (fun r53 hm=>?_) (fun r53 a w hm F H=>?_)))
 refine bl (xl0 3 [0,2,4,8] [0,1,2] F H hm rfl rfl (fun (s86:Int×Int) z=>(9,.int .i64 (s86.1))::(10,.int .i64 (s86.2))::z) (fun s86 z=>z) ⟨F.sl rfl,H⟩ (fun s86 a w o F H hm=>?_))
 refine sq (sb [0,0,0] F H rfl fun a F=>?_)
 refine nl (cPm F rfl hm (fun hg87 hm=>?_) (fun hg87 hm=>?_))
 refine sk (ct (xm0 3 [0,2,4,8] [0,1,2] F H hm rfl rfl (fun r95 z=>(9,.int .i64 (r95.1))::(10,.int .i64 (r95.2))::z) (fun r95 z=>z) (fun r95 hm=>?_) (fun r95 a w hm F H=>?_)))
 refine bl (sr (bk [0,0,0,2] F H rfl ⟨Tryz.underlying3,Tryz.underlying172,trivial⟩ fun a F=>?_))
 refine sv F rfl (i_shr F rfl rfl rfl (by decide)) fun a F=>?_
 refine bk [0,0] F H rfl ⟨Tryz.underlying172,Tryz.underlying3,trivial⟩ fun a F=>?_
 refine nl (sq ?_)
 obtain ⟨x96,ex96,hm⟩:=ob hm
 obtain ⟨b97,o97,hp97⟩:=H.slP 1 rfl (idxO_some ex96).2
 obtain ⟨cs98,hcl98,H⟩:=H.slEl 1 rfl hp97 (idxO_some ex96).2
 clear hcl98
 refine mix_region [6] [] (.step 0 0 (.step 0 1 (.step 0 2 (.step 0 3 (.step 1 4 (.step 1 5 (.step 2 6 (.step 0 7 .done)))))))) (fun u=>∃ ls,St w0 u (ls)) (by kernel_rfl) (by kernel_rfl) ⟨_,H.drew⟩ ?_
 replace H:=H.drew
 generalize w.drew=w at H ⊢
 refine mb [0,0,0] F H rfl fun a F=>?_
 refine m_pure F rfl rfl rfl rfl (fun u hu=>y_idxS F elem67 rfl rfl rfl hp97 ex96) fun a F=>?_
 refine mbk [999,2999] F H rfl ⟨rfl,(aggn agg75 (H.rcLen 1 rfl)),rfl,(aggn agg75 (H.rcLen 4 rfl)),trivial⟩ fun a F=>?_
 refine m_heavy rfl rfl ?_
 obtain ⟨x99,ex99,hm⟩:=ob hm
 refine s_call wkP F rfl rfl rfl rfl (y_callV0 F rfl rfl rfl ent64) (w_tCompare ex99 (H.pm 5 [1,4,0,1,2,3,4] rfl:):) ?_;rintro _ w a ⟨rfl,H⟩ F
 refine lz ?_;refine ct ⟨⟨_,H⟩,?_⟩
 refine mb [0] F H rfl fun a F=>?_
 refine m_nil ?_
 refine ct (xm0 5 [0,2,4,8] [0,2,3,4] F H hm rfl rfl (fun r101 z=>(9,.int .i64 (r101.1))::(10,.int .i64 (r101.2))::z) (fun r101 z=>z) (fun r101 hm=>?_) (fun r101 a w hm F H=>?_))
 refine cPm F rfl hm (fun hg102 hm=>?_) (fun hg102 hm=>?_)
 refine rl (bb [0,0,0] F H rfl fun a F=>?_)
 replace H:=H.nf 5 rfl
 refine lz ?_
 cases hm
 refine ct ?_
 exact ⟨F.sl rfl,(H.pm 5 [0,2,3,4] rfl:)⟩
 refine rl (bb [0,0] F H rfl fun a F=>?_)
 replace H:=H.nf 5 rfl
 refine lz ?_
 cases hm
 refine ct ?_
 exact ⟨F.sl rfl,(H.pm 5 [0,2,3,4] rfl:)⟩
 refine bn ?_
 cases hm
 refine ct ?_
 exact ⟨F.sl rfl,(H.pm 4 [1,2,3] rfl:)⟩
 refine ct ?_;cases hm
 exact ⟨_,rfl,⟨F.sl rfl,H⟩⟩
 refine ex (cx (cx ?_));cases hm;refine ⟨_,rfl,?_⟩;rintro rfl
 refine ch (ct ?_)
 exact ⟨F.sl rfl,H⟩
 refine ct (sq ?_)
 by_cases hg103:r53<((xs).length:Int)
 replace hm:=ifT hg103 hm
 obtain ⟨x104,ex104,hm⟩:=ob hm
 obtain ⟨b105,o105,hp105⟩:=H.slP 1 rfl (idxO_some ex104).2
 obtain ⟨cs106,hcl106,H⟩:=H.slEl 1 rfl hp105 (idxO_some ex104).2
 clear hcl106
 refine mix_region [11] [] (.step 0 0 (.step 0 1 (.step 0 2 (.step 0 3 (.step 0 4 (.step 0 5 (.step 0 6 (.step 0 7 (.step 0 8 (.step 1 9 (.step 1 10 (.step 2 11 (.step 0 12 (.step 0 13 (.step 0 14 (.step 0 15 .done)))))))))))))))) (fun u=>∃ ls,St w0 u (ls)) (by kernel_rfl) (by kernel_rfl) ⟨_,H.drew⟩ ?_
 replace H:=H.drew
 generalize w.drew=w at H ⊢
 refine mb (List.replicate 5 0) F H rfl fun a F=>?_
 replace F:=F.bT 39 hg103 rfl
 refine mb [0,0,0] F H rfl fun a F=>?_
 refine m_on (k:=0) F rfl rfl rfl rfl rfl rfl rfl (fun u hu=>y_idxS F elem67 rfl rfl rfl hp105 ex104) fun a F=>?_
 refine mbk [999,2999] F H rfl ⟨rfl,(aggn agg75 (H.rcLen 1 rfl)),rfl,(aggn agg75 (H.rcLen 4 rfl)),trivial⟩ fun a F=>?_
 refine m_heavyOn F rfl rfl rfl rfl rfl ?_;refine g_onP F rfl rfl rfl rfl ?_
 obtain ⟨x107,ex107,hm⟩:=ob hm
 refine s_call wkP F rfl rfl rfl rfl (y_callV0 F rfl rfl rfl ent64) (w_tCompare ex107 (H.pm 5 [1,4,0,1,2,3,4] rfl:):) ?_;rintro _ w a ⟨rfl,H⟩ F
 refine lz ?_;refine ct ⟨⟨_,H⟩,?_⟩
 refine mb [0,0,0,0] F H rfl fun a F=>?_
 refine m_nil ?_
 refine ct (wr ?_)
 cases hm
 refine x_ret2 F rfl rfl rfl ?_
 exact ⟨_,rfl,rfl,(H.pm 5 [] rfl:)⟩
 replace hm:=ifF hg103 hm
 refine mix_region [11] [] (.step 0 0 (.step 0 1 (.step 0 2 (.step 0 3 (.step 0 4 (.step 0 5 (.step 0 6 (.step 0 7 (.step 0 8 (.step 1 9 (.step 1 10 (.step 2 11 (.step 0 12 (.step 0 13 (.step 0 14 (.step 0 15 .done)))))))))))))))) (fun u=>∃ ls,St w0 u (ls)) (by kernel_rfl) (by kernel_rfl) ⟨_,H.drew⟩ ?_
 replace H:=H.drew
 generalize w.drew=w at H ⊢
 refine mb (List.replicate 5 0) F H rfl fun a F=>?_
 replace F:=F.bF 39 hg103 rfl
 refine mb (List.replicate 11 0) F H rfl fun a F=>?_
 refine m_nil ?_
 refine ct (wr ?_)
 cases hm
 refine x_ret2 F rfl rfl rfl ?_
 exact ⟨_,rfl,rfl,(H.pm 3 [] rfl:)⟩
theorem w_tFind {seats:List T_api_Seat} {client:Int} {p1:Option Addr} {c1:Nat} {w0 w:World} {l:List HP}  {r:Int×Bool} (hm:tFind seats client=some r) (H:St w0 w (HP.sl R_api_Seat p1 c1 seats::l)) :
  Calls Tryz.prog 66 [.slice p1 (seats).length c1,.int .i64 (client)].toArray w (fun e w'=>∃ v,e=.returned v∧v=.tuple [.int .i64 (r.1),.bool (r.2)].toArray∧St w0 w' (l)):=by
 unfold tFind at hm
 refine x_enter Tryz.func66 rfl rfl rfl ?_
 intro a F
 refine sb [0,0] F H rfl fun a F=>?_
 refine nb [0,0] F H rfl fun a F=>?_
 replace H:=H.owNil rByte 5
 replace H:=H.owNil rStr 9
 refine sv F rfl (y_build F rfl rfl (cs:=[.int .i64 (client),.int .u64 (0),.int .i64 (0),.int .i64 (0),.slice none (([]:List UInt8)).length 0,.slice none (([]:List (List UInt8))).length 0]) (by kernel_rfl)) fun a F=>?_
 replace H:=H.frz 1 rfl
 replace H:=H.frz 1 rfl
 replace H:=H.mkRc (R:=R_api_Seat) (cs:=[.int .i64 (client),.int .u64 (0),.int .i64 (0),.int .i64 (0),.slice none (([]:List UInt8)).length 0,.slice none (([]:List (List UInt8))).length 0]) (x:=(client,0,(0,0,([]:List UInt8),([]:List (List UInt8))))) (fun gg=>⟨[Value.int .i64 (client)],_,rfl,rfl,⟨[Value.int .u64 (0)],_,rfl,rfl,⟨[Value.int .i64 (0)],_,rfl,rfl,⟨[Value.int .i64 (0)],_,rfl,rfl,⟨[Value.slice none (([]:List UInt8)).length 0],_,rfl,⟨_,_,rfl,(gg 1 _ rfl).choose_spec⟩,⟨_,_,rfl,(gg 0 _ rfl).choose_spec⟩⟩⟩⟩⟩⟩)
 obtain ⟨x2,ex2,hm⟩:=ob hm
 refine sd F rfl ent101 (w_bsSeat ex2 (H.pm 4 [3,0,0,1,2,3] rfl:):) ?_;rintro _ w a ⟨rfl,H⟩ F
 refine bb [0,0,0,0] F H rfl fun a F=>?_
 replace H:=H.nf 4 rfl
 refine nl (wr ?_)
 cases hm
 refine x_ret2 F rfl rfl rfl ?_
 exact ⟨_,rfl,rfl,(H.pm 4 [] rfl:)⟩
theorem w_tAnswer {a_:T_api_Answer} {cs1:List Value} {w0 w:World} {l:List HP}  {r:T_api_Answer} (hm:tAnswer a_=some r) (H:St w0 w (HP.rc R_api_Answer cs1 a_::l)) :
  Calls Tryz.prog 67 [.agg cs1.toArray].toArray w (fun e w'=>∃ v,e=.returned v∧∃ (cs2:List Value),v=.agg cs2.toArray∧St w0 w' (HP.rc R_api_Answer cs2 r::l)):=by
 unfold tAnswer at hm
 refine x_enter Tryz.func67 rfl rfl rfl ?_
 intro a F
 refine sr (s_boxA wkP F rfl rfl rfl rfl rfl H fun b3 w a H F=>?_)
 replace H:=H.owNil rByte 5
 replace H:=H.owNil rStr 9
 refine s_allocA wkP F rfl rfl rfl agz35 rfl H fun b4 w a H F=>?_
 replace H:=H.nf 5 rfl
 refine nl (sq ?_)
 have G:=F;replace H:=rc_api_Answer (H.pk 4 rfl);obtain ⟨p5,c6,p7,c8,rfl,J⟩:=H;have H:=J;have F:=G;clear G J
 refine mix_region [2,5,7,9] [9] (.step 0 0 (.step 1 1 (.step 0 3 (.step 0 4 (.step 2 2 (.step 0 6 (.step 2 5 (.step 2 7 (.step 0 8 (.step 3 9 .done)))))))))) (fun u=>∃ y ls,St w0 u (HP.blk b3 ([.int .i64 (a_.1),.int .i64 (a_.2.1),y,.slice p7 (a_.2.2.2).length c8]) 35::ls)) (by kernel_rfl) (by kernel_rfl) ⟨_,_,(H.drew.pm 6 [5,0,1,2,3,4] rfl:)⟩ ?_
 replace H:=H.drew
 generalize w.drew=w at H ⊢
 refine mbk [2,5002,3] F H rfl ⟨fld35_2,rfl,plain29,fld35_3,trivial⟩ fun a F=>?_
 refine m_pure F rfl rfl rfl rfl (fun u hu=>y_load1 F plain33 rfl rfl (row_at (v:=.slice p7 (a_.2.2.2).length c8) ((hu.choose_spec.choose_spec.blk 0 rfl).row) rfl)) fun a F=>?_
 refine m_heavy rfl rfl ?_
 obtain ⟨x9,ex9,hm⟩:=ob hm
 refine sd F rfl ent102 (w_cloneBy ex9 (H.pm 6 [0,0,1,2,3,4,5] rfl:):) ?_;rintro _ w a ⟨p10,c10,rfl,H⟩ F
 refine lz ?_;refine ct ⟨⟨_,_,(H.pm 7 [6,0,1,2,3,4,5] rfl:)⟩,?_⟩
 refine mbk [2] F H rfl ⟨fld35_2,trivial⟩ fun a F=>?_
 refine m_heavy rfl rfl ?_
 obtain ⟨x11,ex11,hm⟩:=ob hm
 refine sd F rfl ent103 (w_cloneT ex11 (H.pm 7 [2,0,1,2,3,4,5,6] rfl:):) ?_;rintro _ w a ⟨p12,c12,rfl,H⟩ F
 refine lz ?_;refine ct ⟨⟨_,_,(H.pm 8 [7,0,1,2,3,4,5,6] rfl:)⟩,?_⟩
 refine m_heavy rfl rfl ?_
 refine s_st1 wkP F rfl rfl zero29 rfl rfl rfl rfl rfl H 7 rfl rfl fun w H=>?_
 refine lz ?_;refine ct ⟨⟨_,_,(H.pm 8 [7,0,1,2,3,4,5,6] rfl:)⟩,?_⟩
 refine mbk [3] F H rfl ⟨fld35_3,trivial⟩ fun a F=>?_
 refine m_last rfl rfl ?_
 refine s_st1 wkP F rfl rfl zero33 rfl rfl rfl rfl rfl H 7 rfl rfl fun w H=>?_
 refine lz ?_;refine ct ?_
 refine m_nil ?_
 refine ct (sr (bk [7999] F H rfl ⟨rfl,(aggn agg35 rfl),trivial⟩ fun a F=>?_))
 refine s_storeA wkP F rfl rfl agg35 rfl rfl rfl H 4 rfl rfl rfl (fl rfl) fun w H=>?_
 replace H:=H.nf 8 rfl
 refine nl (wr ?_)
 replace H:=H.frz 1 rfl
 replace H:=H.frz 1 rfl
 replace H:=H.mkRc (R:=R_api_Answer) (cs:=[.int .i64 (a_.1),.int .i64 (a_.2.1),.slice p10 (x9).length c10,.slice p12 (x11).length c12]) (x:=(a_.1,a_.2.1,x9,x11)) (fun gg=>⟨_,_,rfl,rfl,⟨_,_,rfl,rfl,⟨_,_,rfl,⟨_,_,rfl,(gg 1 _ rfl).choose_spec⟩,⟨_,_,rfl,(gg 0 _ rfl).choose_spec⟩⟩⟩⟩)
 cases hm
 refine x_resC1 F rfl (⟨_,rfl,agg35.run_load (H.blk 5 rfl).row rfl⟩) ?_
 exact ⟨_,rfl,[.int .i64 (a_.1),.int .i64 (a_.2.1),.slice p10 (x9).length c10,.slice p12 (x11).length c12],rfl,(H.pm 9 [0] rfl:)⟩
theorem agz75:AggT Tryz.prog 75 6 ([.int .i64 (0),.int .u64 (0),.int .i64 (0),.int .i64 (0),.slice none (([]:List UInt8)).length 0,.slice none (([]:List (List UInt8))).length 0]):=⟨by rw [Tryz.underlying75];rfl,by kernel_rfl,by kernel_rfl⟩
theorem fld75_2:FieldT Tryz.prog 75 2 2:=by unfold FieldT;rw [Tryz.underlying75];kernel_rfl
theorem ent67:En Tryz.prog 67:=enters Tryz.func67 (by kernel_rfl) rfl
theorem w_tCopied {seats:List T_api_Seat} {p1:Option Addr} {c1:Nat} {w0 w:World} {l:List HP}  {r:(List T_api_Seat)} (hm:tCopied seats=some r) (H:St w0 w (HP.sl R_api_Seat p1 c1 seats::l)) :
  Calls Tryz.prog 92 [.slice p1 (seats).length c1].toArray w (fun e w'=>∃ v,e=.returned v∧∃ (p2:Option Addr) (c2:Nat),v=.slice p2 (r).length c2∧St w0 w' (HP.ow R_api_Seat 75 p2 c2 r::l)):=by
 unfold tCopied at hm
 refine x_enter Tryz.func92 rfl rfl rfl ?_
 intro a F
 refine sb [0] F H rfl fun a F=>?_
 refine nl (sq (sr (bk [0,0,0] F H rfl ⟨⟨_,Tryz.underlying67⟩,trivial⟩ fun a F=>?_)))
 refine nl (xm2 1 [] [] F H hm rfl rfl (fun r64 (p65:Option Addr) (c65:Nat) z=>(2,.slice p65 (r64).length c65)::z) (fun r64 p65 c65 z=>HP.ow R_api_Seat 75 p65 c65 r64::z) (fun r64 hm=>?_) (fun r64 a w hm p65 c65 F H=>?_))
 refine bl ?_
 replace H:=H.owNil R_api_Seat 75
 refine xl2 2 [5,6] [1] F H hm rfl rfl (fun (s106:(List T_api_Seat)×Int) (p107:Option Addr) (c107:Nat) z=>(2,.slice p107 (s106.1).length c107)::(7,.int .i64 (s106.2))::z) (fun s106 p107 c107 z=>HP.ow R_api_Seat 75 p107 c107 s106.1::z) ⟨none,0,F.sl rfl,H⟩ (fun s106 a w o p107 c107 F H hm=>?_)
 refine sb [0] F H rfl fun a F=>?_
 refine nl (sq (cPm F rfl hm (fun hg108 hm=>?_) (fun hg108 hm=>?_)))
 refine sk (ct (sq (bl (sr ?_))))
 obtain ⟨x109,ex109,hm⟩:=ob hm
 obtain ⟨b110,o110,hp110⟩:=H.slP 1 rfl (idxO_some ex109).2
 obtain ⟨cs111,hcl111,H⟩:=H.slEl 1 rfl hp110 (idxO_some ex109).2
 clear hcl111
 refine sv F rfl (y_idxS F elem67 rfl rfl rfl hp110 ex109) fun a F=>?_
 refine bk [999] F H rfl ⟨rfl,(aggn agg75 (H.rcLen 1 rfl)),trivial⟩ fun a F=>?_
 replace H:=H.owNil rByte 5
 replace H:=H.owNil rStr 9
 refine s_allocA wkP F rfl rfl rfl agz75 rfl H fun b112 w a H F=>?_
 have G:=F;replace H:=rc_api_Seat (H.pk 4 rfl);obtain ⟨v113,rfl,J⟩:=H;have H:=J;have F:=G;clear G J
 have G:=F;replace H:=rc_api_Answer (H.pk 0 rfl);obtain ⟨p114,c115,p116,c117,rfl,J⟩:=H;have H:=J;have F:=G;clear G J
 refine s_storeA wkP F rfl rfl agg75 rfl rfl rfl H 2 rfl rfl rfl (fl rfl) fun w H=>?_
 replace H:=H.nf 8 rfl
 refine nl (sr (bk [2] F H rfl ⟨fld75_2,trivial⟩ fun a F=>?_))
 refine sv F rfl (y_loadA F agg35 rfl rfl (row_midE (A:=[.int .i64 (x109.1),.int .u64 (x109.2.1)]) (X:=[.int .i64 (x109.2.2.1),.int .i64 (x109.2.2.2.1),.slice p114 (x109.2.2.2.2.1).length c115,.slice p116 (x109.2.2.2.2.2).length c117]) (w:=_) ((H.blk 2 rfl).row) (by simp only [List.length_append,List.length_cons,List.length_nil,icells_length,bcells_length])) rfl) fun a F=>?_
 replace H:=H.mkRc (R:=R_api_Answer) (cs:=[.int .i64 (x109.2.2.1),.int .i64 (x109.2.2.2.1),.slice p114 (x109.2.2.2.2.1).length c115,.slice p116 (x109.2.2.2.2.2).length c117]) (x:=(x109.2.2.1,x109.2.2.2.1,x109.2.2.2.2.1,x109.2.2.2.2.2)) (fun gg=>⟨_,_,rfl,rfl,⟨_,_,rfl,rfl,⟨_,_,rfl,⟨_,_,rfl,(gg 0 _ rfl).choose_spec⟩,⟨_,_,rfl,(gg 1 _ rfl).choose_spec⟩⟩⟩⟩)
 obtain ⟨x118,ex118,hm⟩:=ob hm
 refine sd F rfl ent67 (w_tAnswer ex118 (H.pm 9 [0,0,1,2,3,4,5,6,7,8] rfl:):) ?_;rintro _ w a ⟨cs119,rfl,H⟩ F
 refine bk [2] F H rfl ⟨fld75_2,trivial⟩ fun a F=>?_
 have G:=F;replace H:=rc_api_Answer (H.pk 0 rfl);obtain ⟨p120,c121,p122,c123,rfl,J⟩:=H;have H:=J;have F:=G;clear G J
 refine s_storeFE wkP F rfl rfl agg35 rfl rfl rfl H 5 rfl (A:=[.int .i64 (x109.1),.int .u64 (x109.2.1)]) (X:=[.int .i64 (x109.2.2.1),.int .i64 (x109.2.2.2.1),.slice p114 (x109.2.2.2.2.1).length c115,.slice p116 (x109.2.2.2.2.2).length c117]) rfl (by simp only [List.length_append,List.length_cons,List.length_nil,icells_length,bcells_length]) rfl rfl (fl rfl) fun w H=>?_
 replace H:=H.nf 11 rfl
 refine nl (rl (bk [0,5999] F H rfl ⟨rfl,(aggn agg75 rfl),trivial⟩ fun a F=>?_))
 refine s_build1 wkP F rfl rfl rfl agg75 elem67 rfl rfl rfl (by decide) H fun b124 w a H F=>?_
 replace H:=H.blkOw1 (R:=R_api_Seat) (x:=(x109.1,x109.2.1,(x118.1,x118.2.1,x118.2.2.1,x118.2.2.2))) (fun gg=>⟨[Value.int .i64 (x109.1)],_,rfl,rfl,⟨[Value.int .u64 (x109.2.1)],_,rfl,rfl,⟨[Value.int .i64 (x118.1)],_,rfl,rfl,⟨[Value.int .i64 (x118.2.1)],_,rfl,rfl,⟨[Value.slice p120 (x118.2.2.1).length c121],_,rfl,⟨_,_,rfl,(gg 1 _ rfl).choose_spec⟩,⟨_,_,rfl,(gg 2 _ rfl).choose_spec⟩⟩⟩⟩⟩⟩)
 replace H:=H.frz 0 rfl
 obtain ⟨x126,ex126,hm⟩:=ob hm
 refine s_app wkP F rfl rfl rfl rfl rfl rfl elem67 rfl ex126 H 10 0 rfl rfl fun p125 c125 w a H F=>?_
 refine bb [0] F H rfl fun a F=>?_
 replace H:=H.nf 12 rfl
 refine lz (bn (ct (rl (bb [0,0] F H rfl fun a F=>?_))))
 refine lz (ct ?_);cases hm
 exact ⟨_,rfl,⟨p125,c125,F.sl rfl,(H.pm 12 [10,11] rfl:)⟩⟩
 refine ex (cx (cx ?_));cases hm;refine ⟨_,rfl,?_⟩;rintro rfl
 refine ch (ct ?_)
 exact ⟨p107,c107,F.sl rfl,(H.pm 2 [0] rfl:)⟩
 refine ct (sb [0,0] F H rfl fun a F=>?_)
 refine nl (wr ?_)
 cases hm
 refine x_ret1 F rfl rfl ?_
 exact ⟨_,rfl,p65,c65,rfl,H⟩
theorem ent66:En Tryz.prog 66:=enters Tryz.func66 (by kernel_rfl) rfl
theorem fld75_1:FieldT Tryz.prog 75 1 1:=by unfold FieldT;rw [Tryz.underlying75];kernel_rfl
theorem w_tLook {seats:List T_api_Seat} {client:Int} {number:Int} {p1:Option Addr} {c1:Nat} {w0 w:World} {l:List HP}  {r:Int×T_api_Answer} (hm:tLook seats client number=some r) (H:St w0 w (HP.sl R_api_Seat p1 c1 seats::l)) :
  Calls Tryz.prog 41 [.slice p1 (seats).length c1,.int .i64 (client),.int .u64 (number)].toArray w (fun e w'=>∃ v,e=.returned v∧∃ (cs2:List Value),v=.tuple [.int .i64 (r.1),.agg cs2.toArray].toArray∧St w0 w' (HP.rc R_api_Answer cs2 r.2::l)):=by
 unfold tLook at hm
 refine x_enter Tryz.func41 rfl rfl rfl ?_
 intro a F
 refine sb [0] F H rfl fun a F=>?_
 replace H:=H.owNil rByte 5
 replace H:=H.owNil rStr 9
 refine s_allocA wkP F rfl rfl rfl agz35 rfl H fun b3 w a H F=>?_
 replace H:=H.nf 4 rfl
 refine nb [0,0] F H rfl fun a F=>?_
 obtain ⟨x4,ex4,hm⟩:=ob hm
 refine sd F rfl ent66 (w_tFind ex4 (H.pm 4 [3,0,1,2,3] rfl:):) ?_;rintro _ w a ⟨rfl,H⟩ F
 refine bb (List.replicate 5 0) F H rfl fun a F=>?_
 replace H:=H.nf 4 rfl
 refine nb [0] F H rfl fun a F=>?_
 refine nl (sq (sb [0] F H rfl fun a F=>?_))
 refine nl (xm0 4 [0,2,7,8,9] [0,1,2,3] F H hm rfl rfl (fun r10 z=>(10,.int .u64 (r10))::z) (fun r10 z=>z) (fun r10 hm=>?_) (fun r10 a w hm F H=>?_))
 refine cB F rfl (fun hg11=>?_) (fun hg11=>?_)
 replace hm:=ifT hg11 hm
 refine rl (bb [0,0] F H rfl fun a F=>?_)
 obtain ⟨x12,ex12,hm⟩:=ob hm
 obtain ⟨b13,o13,hp13⟩:=H.slP 3 rfl (idxO_some ex12).2
 obtain ⟨cs14,hcl14,H⟩:=H.slEl 3 rfl hp13 (idxO_some ex12).2
 clear hcl14
 refine sv F rfl (y_idxS F elem67 rfl rfl rfl hp13 ex12) fun a F=>?_
 refine bk [1] F H rfl ⟨fld75_1,trivial⟩ fun a F=>?_
 have G:=F;replace H:=rc_api_Seat (H.pk 1 rfl);obtain ⟨v15,rfl,J⟩:=H;have H:=J;have F:=G;clear G J
 refine bk [1001,0] F H rfl ⟨rfl,plain38,trivial⟩ fun a F=>?_
 refine lz ?_
 cases hm
 refine ct ?_
 exact ⟨F.sl rfl,(H.pm 6 [2,3,4,5] rfl:)⟩
 replace hm:=ifF (nT hg11) hm
 refine sk ?_
 cases hm
 refine ct ?_
 exact ⟨F.sl rfl,H⟩
 refine ct (sq (bl (sb [0,0,0,0] F H rfl fun a F=>?_)))
 refine nl (cPm F rfl hm (fun hg16 hm=>?_) (fun hg16 hm=>?_))
 refine sr ?_
 replace H:=H.owNil rByte 5
 replace H:=H.owNil rStr 9
 refine sv F rfl (y_build F rfl rfl (cs:=[.int .i64 (0),.int .i64 (0),.slice none (([]:List UInt8)).length 0,.slice none (([]:List (List UInt8))).length 0]) (by kernel_rfl)) fun a F=>?_
 refine bb [0] F H rfl fun a F=>?_
 refine s_storeA wkP F rfl rfl agg35 rfl rfl rfl H 2 rfl rfl rfl (fl rfl) fun w H=>?_
 replace H:=H.nf 6 rfl
 refine nl (wr (br (tr ?_)))
 replace H:=H.frz 1 rfl
 replace H:=H.frz 1 rfl
 replace H:=H.mkRc (R:=R_api_Answer) (cs:=[.int .i64 (0),.int .i64 (0),.slice none (([]:List UInt8)).length 0,.slice none (([]:List (List UInt8))).length 0]) (x:=(0,0,([]:List UInt8),([]:List (List UInt8)))) (fun gg=>⟨_,_,rfl,rfl,⟨_,_,rfl,rfl,⟨_,_,rfl,⟨_,_,rfl,(gg 1 _ rfl).choose_spec⟩,⟨_,_,rfl,(gg 0 _ rfl).choose_spec⟩⟩⟩⟩)
 cases hm
 refine x_resC2 F rfl rfl (⟨_,rfl,agg35.run_load (H.blk 3 rfl).row rfl⟩) ?_
 exact ⟨_,rfl,[.int .i64 (0),.int .i64 (0),.slice none (([]:List UInt8)).length 0,.slice none (([]:List (List UInt8))).length 0],rfl,(H.pm 7 [0] rfl:)⟩
 refine sb [0,0] F H rfl fun a F=>?_
 by_cases hg17:x4.2=true
 replace hm:=ifT hg17 hm
 replace F:=F.vT 30 hg17 rfl
 refine bb (List.replicate 5 0) F H rfl fun a F=>?_
 refine nl (cPm F rfl hm (fun hg18 hm=>?_) (fun hg18 hm=>?_))
 refine sb [0,0] F H rfl fun a F=>?_
 obtain ⟨x19,ex19,hm⟩:=ob hm
 obtain ⟨b20,o20,hp20⟩:=H.slP 3 rfl (idxO_some ex19).2
 obtain ⟨cs21,hcl21,H⟩:=H.slEl 3 rfl hp20 (idxO_some ex19).2
 clear hcl21
 refine sv F rfl (y_idxS F elem67 rfl rfl rfl hp20 ex19) fun a F=>?_
 refine bk [2] F H rfl ⟨fld75_2,trivial⟩ fun a F=>?_
 have G:=F;replace H:=rc_api_Seat (H.pk 1 rfl);obtain ⟨v22,rfl,J⟩:=H;have H:=J;have F:=G;clear G J
 refine sv F rfl (y_loadA F agg35 rfl rfl (row_midE (A:=[.int .i64 (x19.1),.int .u64 (x19.2.1)]) (X:=v22) (w:=_) (H.rowAt 1 rfl) (by simp only [List.length_append,List.length_cons,List.length_nil,icells_length,bcells_length])) (H.rcLen 0 rfl)) fun a F=>?_
 obtain ⟨x23,ex23,hm⟩:=ob hm
 refine sd F rfl ent67 (w_tAnswer ex23 (H.pm 6 [0,0,1,2,3,4,5] rfl:):) ?_;rintro _ w a ⟨cs24,rfl,H⟩ F
 refine bb [0] F H rfl fun a F=>?_
 refine s_storeA wkP F rfl rfl agg35 rfl rfl rfl H 3 rfl (H.rcLen 0 rfl) rfl (H.rcFlat 0 rfl) fun w H=>?_
 replace H:=H.nf 7 rfl
 refine nl (wr (br (tr ?_)))
 cases hm
 refine x_resC2 F rfl rfl (⟨_,rfl,agg35.run_load (H.blk 3 rfl).row (H.rcLen 0 rfl)⟩) ?_
 exact ⟨_,rfl,cs24,rfl,(H.pm 7 [0] rfl:)⟩
 refine sk (bn (ct (sr ?_)))
 replace H:=H.owNil rByte 5
 replace H:=H.owNil rStr 9
 refine sv F rfl (y_build F rfl rfl (cs:=[.int .i64 (0),.int .i64 (0),.slice none (([]:List UInt8)).length 0,.slice none (([]:List (List UInt8))).length 0]) (by kernel_rfl)) fun a F=>?_
 refine bb [0] F H rfl fun a F=>?_
 refine s_storeA wkP F rfl rfl agg35 rfl rfl rfl H 2 rfl rfl rfl (fl rfl) fun w H=>?_
 replace H:=H.nf 6 rfl
 refine nl (wr ?_)
 replace H:=H.frz 1 rfl
 replace H:=H.frz 1 rfl
 replace H:=H.mkRc (R:=R_api_Answer) (cs:=[.int .i64 (0),.int .i64 (0),.slice none (([]:List UInt8)).length 0,.slice none (([]:List (List UInt8))).length 0]) (x:=(0,0,([]:List UInt8),([]:List (List UInt8)))) (fun gg=>⟨_,_,rfl,rfl,⟨_,_,rfl,rfl,⟨_,_,rfl,⟨_,_,rfl,(gg 1 _ rfl).choose_spec⟩,⟨_,_,rfl,(gg 0 _ rfl).choose_spec⟩⟩⟩⟩)
 cases hm
 refine x_resC2 F rfl rfl (⟨_,rfl,agg35.run_load (H.blk 3 rfl).row rfl⟩) ?_
 exact ⟨_,rfl,[.int .i64 (0),.int .i64 (0),.slice none (([]:List UInt8)).length 0,.slice none (([]:List (List UInt8))).length 0],rfl,(H.pm 7 [0] rfl:)⟩
 replace hm:=ifF hg17 hm
 replace F:=F.vF 30 hg17 rfl
 refine bb (List.replicate 5 0) F H rfl fun a F=>?_
 refine nl (cF F rfl ?_)
 refine sk (bn (ct (sr ?_)))
 replace H:=H.owNil rByte 5
 replace H:=H.owNil rStr 9
 refine sv F rfl (y_build F rfl rfl (cs:=[.int .i64 (0),.int .i64 (0),.slice none (([]:List UInt8)).length 0,.slice none (([]:List (List UInt8))).length 0]) (by kernel_rfl)) fun a F=>?_
 refine bb [0] F H rfl fun a F=>?_
 refine s_storeA wkP F rfl rfl agg35 rfl rfl rfl H 2 rfl rfl rfl (fl rfl) fun w H=>?_
 replace H:=H.nf 6 rfl
 refine nl (wr ?_)
 replace H:=H.frz 1 rfl
 replace H:=H.frz 1 rfl
 replace H:=H.mkRc (R:=R_api_Answer) (cs:=[.int .i64 (0),.int .i64 (0),.slice none (([]:List UInt8)).length 0,.slice none (([]:List (List UInt8))).length 0]) (x:=(0,0,([]:List UInt8),([]:List (List UInt8)))) (fun gg=>⟨_,_,rfl,rfl,⟨_,_,rfl,rfl,⟨_,_,rfl,⟨_,_,rfl,(gg 1 _ rfl).choose_spec⟩,⟨_,_,rfl,(gg 0 _ rfl).choose_spec⟩⟩⟩⟩)
 cases hm
 refine x_resC2 F rfl rfl (⟨_,rfl,agg35.run_load (H.blk 3 rfl).row rfl⟩) ?_
 exact ⟨_,rfl,[.int .i64 (0),.int .i64 (0),.slice none (([]:List UInt8)).length 0,.slice none (([]:List (List UInt8))).length 0],rfl,(H.pm 7 [0] rfl:)⟩
theorem ent92:En Tryz.prog 92:=enters Tryz.func92 (by kernel_rfl) rfl
theorem ent93:En Tryz.prog 93:=enters Tryz.func93 (by kernel_rfl) rfl
theorem w_tPut {seats:List T_api_Seat} {s:T_api_Seat} {p1:Option Addr} {c1:Nat} {cs2:List Value} {w0 w:World} {l:List HP}  {r:(List T_api_Seat)} (hm:tPut seats s=some r) (H:St w0 w (HP.sl R_api_Seat p1 c1 seats::HP.rc R_api_Seat cs2 s::l)) :
  Calls Tryz.prog 62 [.slice p1 (seats).length c1,.agg cs2.toArray].toArray w (fun e w'=>∃ v,e=.returned v∧∃ (p3:Option Addr) (c3:Nat),v=.slice p3 (r).length c3∧St w0 w' (HP.sl R_api_Seat p3 c3 r::l)):=by
 unfold tPut at hm
 refine x_enter Tryz.func62 rfl rfl rfl ?_
 intro a F
 have G:=F;replace H:=rc_api_Seat (H.pk 1 rfl);obtain ⟨v4,rfl,J⟩:=H;have H:=J;have F:=G;clear G J
 have G:=F;replace H:=rc_api_Answer (H.pk 0 rfl);obtain ⟨p5,c6,p7,c8,rfl,J⟩:=H;have H:=J;have F:=G;clear G J
 refine sr (s_boxA wkP F rfl rfl rfl rfl rfl H fun b9 w a H F=>?_)
 refine bb [0] F H rfl fun a F=>?_
 replace H:=H.nf 4 rfl
 refine nb [0] F H rfl fun a F=>?_
 obtain ⟨x10,ex10,hm⟩:=ob hm
 refine sd F rfl ent92 (w_tCopied ex10 (H.pm 4 [3,0,1,2,3] rfl:):) ?_;rintro _ w a ⟨p11,c11,rfl,H⟩ F
 refine bb [0] F H rfl fun a F=>?_
 replace H:=H.nf 5 rfl
 refine nl (sr (bk [2] F H rfl ⟨fld75_2,trivial⟩ fun a F=>?_))
 refine sv F rfl (y_loadA F agg35 rfl rfl (row_midE (A:=[.int .i64 (s.1),.int .u64 (s.2.1)]) (X:=[.int .i64 (s.2.2.1),.int .i64 (s.2.2.2.1),.slice p5 (s.2.2.2.2.1).length c6,.slice p7 (s.2.2.2.2.2).length c8]) (w:=_) ((H.blk 1 rfl).row) (by simp only [List.length_append,List.length_cons,List.length_nil,icells_length,bcells_length])) rfl) fun a F=>?_
 replace H:=H.mkRc (R:=R_api_Answer) (cs:=[.int .i64 (s.2.2.1),.int .i64 (s.2.2.2.1),.slice p5 (s.2.2.2.2.1).length c6,.slice p7 (s.2.2.2.2.2).length c8]) (x:=(s.2.2.1,s.2.2.2.1,s.2.2.2.2.1,s.2.2.2.2.2)) (fun gg=>⟨_,_,rfl,rfl,⟨_,_,rfl,rfl,⟨_,_,rfl,⟨_,_,rfl,(gg 2 _ rfl).choose_spec⟩,⟨_,_,rfl,(gg 3 _ rfl).choose_spec⟩⟩⟩⟩)
 obtain ⟨x12,ex12,hm⟩:=ob hm
 refine sd F rfl ent67 (w_tAnswer ex12 (H.pm 6 [0,0,1,2,3,4,5] rfl:):) ?_;rintro _ w a ⟨cs13,rfl,H⟩ F
 refine bk [2] F H rfl ⟨fld75_2,trivial⟩ fun a F=>?_
 have G:=F;replace H:=rc_api_Answer (H.pk 0 rfl);obtain ⟨p14,c15,p16,c17,rfl,J⟩:=H;have H:=J;have F:=G;clear G J
 refine s_storeFE wkP F rfl rfl agg35 rfl rfl rfl H 4 rfl (A:=[.int .i64 (s.1),.int .u64 (s.2.1)]) (X:=[.int .i64 (s.2.2.1),.int .i64 (s.2.2.2.1),.slice p5 (s.2.2.2.2.1).length c6,.slice p7 (s.2.2.2.2.2).length c8]) rfl (by simp only [List.length_append,List.length_cons,List.length_nil,icells_length,bcells_length]) rfl rfl (fl rfl) fun w H=>?_
 replace H:=H.nf 8 rfl
 refine nl (sr (bk [0,0,4000] F H rfl ⟨fld75_0,rfl,plain3,trivial⟩ fun a F=>?_))
 obtain ⟨x18,ex18,hm⟩:=ob hm
 refine sd F rfl ent66 (w_tFindO ex18 (H.pm 8 [3,0,1,2,4,5,6,7] rfl:):) ?_;rintro _ w a ⟨rfl,H⟩ F
 refine bb (List.replicate 5 0) F H rfl fun a F=>?_
 replace H:=H.nf 8 rfl
 refine nl (sq (sb [0] F H rfl fun a F=>?_))
 refine nl (cB F rfl (fun hg19=>?_) (fun hg19=>?_))
 replace hm:=ifT hg19 hm
 refine sr (bk [0,0,4999] F H rfl ⟨rfl,(aggn agg75 rfl),trivial⟩ fun a F=>?_)
 obtain ⟨x20,ex20,hm⟩:=ob hm
 obtain ⟨b21,hp21⟩:=H.owP 0 rfl (idxO_some ex20).2
 obtain ⟨css22,H⟩:=H.oxOpen 0 rfl
 obtain ⟨cs22,hcs22,hcl22,H⟩:=H.oxEl 0 rfl (idxO_some ex20).2
 refine sv F rfl (y_idxS F elem67 rfl rfl rfl hp21 ex20) fun a F=>?_
 replace H:=H.oxShut 1 rfl
 refine s_owSetA wkP F rfl rfl agg75 rfl rfl rfl rfl H 1 rfl hp21 ex20 (zz:=(s.1,s.2.1,(x12.1,x12.2.1,x12.2.2.1,x12.2.2.2))) (fun gg=>⟨[Value.int .i64 (s.1)],_,rfl,rfl,⟨[Value.int .u64 (s.2.1)],_,rfl,rfl,⟨[Value.int .i64 (x12.1)],_,rfl,rfl,⟨[Value.int .i64 (x12.2.1)],_,rfl,rfl,⟨[Value.slice p14 (x12.2.2.1).length c15],_,rfl,⟨_,_,rfl,(gg 2 _ rfl).choose_spec⟩,⟨_,_,rfl,(gg 3 _ rfl).choose_spec⟩⟩⟩⟩⟩⟩) (fl rfl) rfl fun w H=>?_
 replace H:St w0 w (HP.rc R_api_Seat cs22 x20::HP.ow R_api_Seat 75 p11 c11 ((x10).set (x18.1:Int).toNat (s.1,s.2.1,(x12.1,x12.2.1,x12.2.2.1,x12.2.2.2)))::HP.sl rByte p14 c15 x12.2.2.1::HP.sl rStr p16 c17 x12.2.2.2::HP.rc R_api_Answer ([.int .i64 (s.2.2.1),.int .i64 (s.2.2.2.1),.slice p5 (s.2.2.2.2.1).length c6,.slice p7 (s.2.2.2.2.2).length c8]) (s.2.2.1,s.2.2.2.1,s.2.2.2.2.1,s.2.2.2.2.2)::HP.blk b9 ([.int .i64 (s.1),.int .u64 (s.2.1),.int .i64 (x12.1),.int .i64 (x12.2.1),.slice p14 (x12.2.2.1).length c15,.slice p16 (x12.2.2.2).length c17]) 75::HP.sl rByte p5 c6 s.2.2.2.2.1::HP.sl rStr p7 c8 s.2.2.2.2.2::HP.sl R_api_Seat p1 c1 seats::l):=(by have h:=H;first | exact h | (simp only [List.length_set] at h ⊢;exact h))
 replace F:=F.bool (k:=9) (u:=.slice p11 ((x10).set (x18.1:Int).toNat (s.1,s.2.1,(x12.1,x12.2.1,x12.2.2.1,x12.2.2.2))).length c11) rfl (by simp only [List.length_set])
 replace F:=F.bool (k:=5) (u:=.slice p11 ((x10).set (x18.1:Int).toNat (s.1,s.2.1,(x12.1,x12.2.1,x12.2.2.1,x12.2.2.2))).length c11) rfl (by simp only [List.length_set])
 replace F:=F.bool (k:=15) (u:=.slice p11 ((x10).set (x18.1:Int).toNat (s.1,s.2.1,(x12.1,x12.2.1,x12.2.2.1,x12.2.2.2))).length c11) rfl (by simp only [List.length_set])
 replace F:=F.bool (k:=22) (u:=.slice p11 ((x10).set (x18.1:Int).toNat (s.1,s.2.1,(x12.1,x12.2.1,x12.2.2.1,x12.2.2.2))).length c11) rfl (by simp only [List.length_set])
 refine nb [0,0] F H rfl fun a F=>?_
 refine nl (wr (tr ?_))
 replace H:=H.frz 1 rfl
 cases hm
 refine x_ret1 F rfl rfl ?_
 exact ⟨_,rfl,p11,c11,rfl,(H.pm 9 [0] rfl:)⟩
 replace hm:=ifF (nT hg19) hm
 refine sk (ct (sr (bk [0,0,4999] F H rfl ⟨rfl,(aggn agg75 rfl),trivial⟩ fun a F=>?_)))
 refine s_build1 wkP F rfl rfl rfl agg75 elem67 rfl rfl rfl (by decide) H fun b23 w a H F=>?_
 replace H:=H.blkOw1 (R:=R_api_Seat) (x:=(s.1,s.2.1,(x12.1,x12.2.1,x12.2.2.1,x12.2.2.2))) (fun gg=>⟨[Value.int .i64 (s.1)],_,rfl,rfl,⟨[Value.int .u64 (s.2.1)],_,rfl,rfl,⟨[Value.int .i64 (x12.1)],_,rfl,rfl,⟨[Value.int .i64 (x12.2.1)],_,rfl,rfl,⟨[Value.slice p14 (x12.2.2.1).length c15],_,rfl,⟨_,_,rfl,(gg 2 _ rfl).choose_spec⟩,⟨_,_,rfl,(gg 3 _ rfl).choose_spec⟩⟩⟩⟩⟩⟩)
 obtain ⟨x24,ex24,hm⟩:=ob hm
 refine sd F rfl ent93 (w_insSeat ex24 (H.pm 9 [1,0,2,3,4,5,6,7,8] rfl:):) ?_;rintro _ w a ⟨p25,c25,rfl,H⟩ F
 refine bb [0] F H rfl fun a F=>?_
 replace H:=H.nf 8 rfl
 refine nl (wr ?_)
 replace H:=H.frz 0 rfl
 cases hm
 refine x_ret1 F rfl rfl ?_
 exact ⟨_,rfl,p25,c25,rfl,(H.pm 8 [0] rfl:)⟩
theorem agz69:AggT Tryz.prog 69 3 ([.slice none (([]:List T_api_Pair)).length 0,.slice none (([]:List T_api_Snap)).length 0,.slice none (([]:List T_api_Seat)).length 0]):=⟨by rw [Tryz.underlying69];rfl,by kernel_rfl,by kernel_rfl⟩
theorem agg69:AggT Tryz.prog 69 3 [.slice none 0 0,.slice none 0 0,.slice none 0 0]:=⟨by rw [Tryz.underlying69];rfl,by kernel_rfl,by kernel_rfl⟩
theorem w_tNew   {w0 w:World} {l:List HP}  {r:T_api_Whole} (hm:tNew =some r) (H:St w0 w (l)) :
  Calls Tryz.prog 40 [].toArray w (fun e w'=>∃ v,e=.returned v∧∃ (cs1:List Value),v=.agg cs1.toArray∧St w0 w' (HP.rc R_api_Whole cs1 r::l)):=by
 unfold tNew at hm
 refine x_enter Tryz.func40 rfl rfl rfl ?_
 intro a F
 refine sr ?_
 replace H:=H.owNil R_api_Pair 103
 replace H:=H.owNil R_api_Snap 41
 replace H:=H.owNil R_api_Seat 75
 refine s_allocA wkP F rfl rfl rfl agz69 rfl H fun b2 w a H F=>?_
 replace H:=H.nf 4 rfl
 refine nl (sr ?_)
 obtain ⟨x3,ex3,hm⟩:=ob hm
 refine sd F rfl ent14 (w_nNew ex3 H:) ?_;rintro _ w a ⟨cs4,rfl,H⟩ F
 have G:=F;replace H:=rc_api_State (H.pk 0 rfl);obtain ⟨p5,c6,p7,c8,rfl,J⟩:=H;have H:=J;have F:=G;clear G J
 replace H:=H.owNil R_api_Seat 75
 refine sv F rfl (y_build F rfl rfl (cs:=[.slice p5 (x3.1).length c6,.slice p7 (x3.2).length c8,.slice none (([]:List T_api_Seat)).length 0]) (by kernel_rfl)) fun a F=>?_
 refine s_storeA wkP F rfl rfl agg69 rfl rfl rfl H 3 rfl rfl rfl (fl rfl) fun w H=>?_
 replace H:=H.nf 7 rfl
 refine nl (wr ?_)
 replace H:=H.frz 0 rfl
 replace H:=H.mkRc (R:=R_api_Whole) (cs:=[.slice p5 (x3.1).length c6,.slice p7 (x3.2).length c8,.slice none (([]:List T_api_Seat)).length 0]) (x:=((x3.1,x3.2),([]:List T_api_Seat))) (fun gg=>⟨[Value.slice p5 (x3.1).length c6,.slice p7 (x3.2).length c8],_,rfl,⟨[Value.slice p5 (x3.1).length c6],_,rfl,⟨_,_,rfl,(gg 1 _ rfl).choose_spec⟩,⟨_,_,rfl,(gg 2 _ rfl).choose_spec⟩⟩,⟨_,_,rfl,(gg 0 _ rfl).choose_spec⟩⟩)
 cases hm
 refine x_resC1 F rfl (⟨_,rfl,agg69.run_load (H.blk 4 rfl).row rfl⟩) ?_
 exact ⟨_,rfl,[.slice p5 (x3.1).length c6,.slice p7 (x3.2).length c8,.slice none (([]:List T_api_Seat)).length 0],rfl,(H.pm 8 [0] rfl:)⟩
theorem w_tValid {client:Int}  {w0 w:World} {l:List HP}  {r:Bool} (hm:tValid client=some r) (H:St w0 w (l)) :
  Calls Tryz.prog 60 [.int .i64 (client)].toArray w (fun e w'=>∃ v,e=.returned v∧v=.bool (r)∧St w0 w' (l)):=by
 unfold tValid at hm
 refine x_enter Tryz.func60 rfl rfl rfl ?_
 intro a F
 refine sb [0] F H rfl fun a F=>?_
 refine nb [0,0,0] F H rfl fun a F=>?_
 rcases spP 5 F rfl hm with ⟨hg1,hm,F⟩ | ⟨hg1,hm,F⟩
 refine bb [0,0,0,0] F H rfl fun a F=>?_
 refine nl (wr ?_)
 cases hm
 refine x_ret1 F rfl rfl ?_
 exact ⟨_,rfl,rfl,H⟩
 refine bb [0,0,0,0] F H rfl fun a F=>?_
 refine nl (wr ?_)
 cases hm
 refine x_ret1 F rfl rfl ?_
 exact ⟨_,rfl,rfl,H⟩
theorem fld69_0:FieldT Tryz.prog 69 0 0:=by unfold FieldT;rw [Tryz.underlying69];kernel_rfl
theorem fld69_1:FieldT Tryz.prog 69 1 2:=by unfold FieldT;rw [Tryz.underlying69];kernel_rfl
theorem plain67:Plain Tryz.prog 67:=by unfold Plain;rw [Tryz.underlying67];rfl
theorem ent63:En Tryz.prog 63:=enters Tryz.func63 (by kernel_rfl) rfl
theorem ent60:En Tryz.prog 60:=enters Tryz.func60 (by kernel_rfl) rfl
theorem w_tCheck {w_:T_api_Whole} {cs1:List Value} {w0 w:World} {l:List HP}  {r:Int} (hm:tCheck w_=some r) (H:St w0 w (HP.rc R_api_Whole cs1 w_::l)) :
  Calls Tryz.prog 36 [.agg cs1.toArray].toArray w (fun e w'=>∃ v,e=.returned v∧v=.int .i64 (r)∧St w0 w' (l)):=by
 unfold tCheck at hm
 refine x_enter Tryz.func36 rfl rfl rfl ?_
 intro a F
 have G:=F;replace H:=rc_api_Whole (H.pk 0 rfl);obtain ⟨u2,p3,c4,rfl,J⟩:=H;have H:=J;have F:=G;clear G J
 have G:=F;replace H:=rc_api_State (H.pk 0 rfl);obtain ⟨p5,c6,p7,c8,rfl,J⟩:=H;have H:=J;have F:=G;clear G J
 refine sr (s_boxA wkP F rfl rfl rfl rfl rfl H fun b9 w a H F=>?_)
 refine bb [0] F H rfl fun a F=>?_
 replace H:=H.nf 4 rfl
 refine nl (sr (bk [0] F H rfl ⟨fld69_0,trivial⟩ fun a F=>?_))
 refine sv F rfl (y_loadA F agg27 rfl rfl (row_mid (A:=([]:List Value)) (X:=[.slice p5 (w_.1.1).length c6,.slice p7 (w_.1.2).length c8]) (C:=[.slice p3 (w_.2).length c4]) (w:=_) ((H.blk 0 rfl).row) rfl) rfl) fun a F=>?_
 replace H:=H.mkRc (R:=R_api_State) (cs:=[.slice p5 (w_.1.1).length c6,.slice p7 (w_.1.2).length c8]) (x:=(w_.1.1,w_.1.2)) (fun gg=>⟨_,_,rfl,⟨_,_,rfl,(gg 1 _ rfl).choose_spec⟩,⟨_,_,rfl,(gg 2 _ rfl).choose_spec⟩⟩)
 obtain ⟨x10,ex10,hm⟩:=ob hm
 refine sd F rfl ent23 (w_nCheck ex10 (H.pm 5 [0,0,1,2,3,4] rfl:):) ?_;rintro _ w a ⟨rfl,H⟩ F
 refine bb [0,0] F H rfl fun a F=>?_
 replace H:=H.nf 5 rfl
 refine nl (sq (sr (bk [2,1002,0,0] F H rfl ⟨fld69_1,rfl,plain67,⟨_,Tryz.underlying67⟩,trivial⟩ fun a F=>?_)))
 refine nl (xm0 5 [] [1,2,3,4] F H hm rfl rfl (fun r75 z=>(3,.bool (r75))::z) (fun r75 z=>z) (fun r75 hm=>?_) (fun r75 a w hm F H=>?_))
 refine bl (xl0 5 [1,13,14] [1,2,3,4] F H hm rfl rfl (fun (s118:Bool×Int) z=>(3,.bool (s118.1))::(15,.int .i64 (s118.2))::z) (fun s118 z=>z) ⟨F.sl rfl,(H.pm 5 [1,2,3,4] rfl:)⟩ (fun s118 a w o F H hm=>?_))
 refine sb [0] F H rfl fun a F=>?_
 refine nl (sq (cPm F rfl hm (fun hg119 hm=>?_) (fun hg119 hm=>?_)))
 refine sk (ct (sq (bl (sb [0] F H rfl fun a F=>?_))))
 obtain ⟨x120,ex120,hm⟩:=ob hm
 obtain ⟨b121,o121,hp121⟩:=H.slP 3 rfl (idxO_some ex120).2
 obtain ⟨cs122,hcl122,H⟩:=H.slEl 3 rfl hp121 (idxO_some ex120).2
 clear hcl122
 refine sv F rfl (y_idxS F elem67 rfl rfl rfl hp121 ex120) fun a F=>?_
 refine bk [999] F H rfl ⟨rfl,(aggn agg75 (H.rcLen 1 rfl)),trivial⟩ fun a F=>?_
 replace H:=H.owNil rByte 5
 replace H:=H.owNil rStr 9
 refine s_allocA wkP F rfl rfl rfl agz75 rfl H fun b123 w a H F=>?_
 refine bb [0] F H rfl fun a F=>?_
 have G:=F;replace H:=rc_api_Seat (H.pk 4 rfl);obtain ⟨v124,rfl,J⟩:=H;have H:=J;have F:=G;clear G J
 have G:=F;replace H:=rc_api_Answer (H.pk 0 rfl);obtain ⟨p125,c126,p127,c128,rfl,J⟩:=H;have H:=J;have F:=G;clear G J
 refine s_storeA wkP F rfl rfl agg75 rfl rfl rfl H 2 rfl rfl rfl (fl rfl) fun w H=>?_
 replace H:=H.nf 10 rfl
 refine nl (sr (bk [2] F H rfl ⟨fld75_2,trivial⟩ fun a F=>?_))
 refine sv F rfl (y_loadA F agg35 rfl rfl (row_midE (A:=[.int .i64 (x120.1),.int .u64 (x120.2.1)]) (X:=[.int .i64 (x120.2.2.1),.int .i64 (x120.2.2.2.1),.slice p125 (x120.2.2.2.2.1).length c126,.slice p127 (x120.2.2.2.2.2).length c128]) (w:=_) ((H.blk 2 rfl).row) (by simp only [List.length_append,List.length_cons,List.length_nil,icells_length,bcells_length])) rfl) fun a F=>?_
 replace H:=H.mkRc (R:=R_api_Answer) (cs:=[.int .i64 (x120.2.2.1),.int .i64 (x120.2.2.2.1),.slice p125 (x120.2.2.2.2.1).length c126,.slice p127 (x120.2.2.2.2.2).length c128]) (x:=(x120.2.2.1,x120.2.2.2.1,x120.2.2.2.2.1,x120.2.2.2.2.2)) (fun gg=>⟨_,_,rfl,rfl,⟨_,_,rfl,rfl,⟨_,_,rfl,⟨_,_,rfl,(gg 0 _ rfl).choose_spec⟩,⟨_,_,rfl,(gg 1 _ rfl).choose_spec⟩⟩⟩⟩)
 obtain ⟨x129,ex129,hm⟩:=ob hm
 refine sd F rfl ent63 (w_oWriteA ex129 (H.pm 11 [0,0,1,2,3,4,5,6,7,8,9,10] rfl:):) ?_;rintro _ w a ⟨p130,c130,rfl,H⟩ F
 refine bb (List.replicate 5 0) F H rfl fun a F=>?_
 replace H:=H.nf 12 rfl
 refine nl ?_
 by_cases hg131:s118.1=true
 replace hm:=ifT hg131 hm
 refine qr H (by kernel_rfl) (by kernel_rfl) ?_
 refine qb [0,0] F rfl fun a F=>?_
 replace F:=F.vT 27 hg131 rfl
 refine qb (List.replicate 30 0) F rfl fun a F=>?_
 refine q_nil fun w H=>?_
 refine bn (ct (rl (bb [0,0] F H rfl fun a F=>?_)))
 refine lz (ct ?_);cases hm
 exact ⟨_,rfl,⟨F.sl rfl,(H.pm 12 [8,9,10,11] rfl:)⟩⟩
 replace hm:=ifF hg131 hm
 by_cases hg132:x129.2=0
 replace hm:=ifT hg132 hm
 obtain ⟨x133,ex133,hm⟩:=ob hm
 by_cases hg134:(!x133)=true
 replace hm:=ifT hg134 hm
 refine qr H (by kernel_rfl) (by kernel_rfl) ?_
 refine qb [0,0] F rfl fun a F=>?_
 replace F:=F.vF 27 hg131 rfl
 refine qb [0,0,0,0] F rfl fun a F=>?_
 replace F:=F.nT 31 hg132 rfl
 refine qbk [0,4000] F rfl ⟨fld75_0,rfl,plain3,trivial⟩ fun a F=>?_
 refine qg_on F rfl rfl rfl rfl ?_
 refine q_call F rfl rfl rfl (fun u hu=>y_call F rfl rfl ent60) (fun u hu=>(w_tValid ex133 hu).mono fun e u2 he=>by obtain ⟨v,rfl,rfl,H⟩:=he;exact ⟨rfl,H⟩) fun a F=>?_
 refine qb [0,0,0] F rfl fun a F=>?_
 replace F:=F.vT 37 hg134 rfl
 refine qb (List.replicate 20 0) F rfl fun a F=>?_
 refine q_nil fun w H=>?_
 refine bn (ct (rl (bb [0,0] F H rfl fun a F=>?_)))
 refine lz (ct ?_);cases hm
 exact ⟨_,rfl,⟨F.sl rfl,(H.pm 12 [8,9,10,11] rfl:)⟩⟩
 replace hm:=ifF hg134 hm
 by_cases hg135:x120.2.1=0
 replace hm:=ifT hg135 hm
 refine qr H (by kernel_rfl) (by kernel_rfl) ?_
 refine qb [0,0] F rfl fun a F=>?_
 replace F:=F.vF 27 hg131 rfl
 refine qb [0,0,0,0] F rfl fun a F=>?_
 replace F:=F.nT 31 hg132 rfl
 refine qbk [0,4000] F rfl ⟨fld75_0,rfl,plain3,trivial⟩ fun a F=>?_
 refine qg_on F rfl rfl rfl rfl ?_
 refine q_call F rfl rfl rfl (fun u hu=>y_call F rfl rfl ent60) (fun u hu=>(w_tValid ex133 hu).mono fun e u2 he=>by obtain ⟨v,rfl,rfl,H⟩:=he;exact ⟨rfl,H⟩) fun a F=>?_
 refine qb [0,0,0] F rfl fun a F=>?_
 replace F:=F.vF 37 hg134 rfl
 refine qbk [1,4001,0,0,0] F rfl ⟨fld75_1,rfl,plain38,trivial⟩ fun a F=>?_
 replace F:=F.bT 42 hg135 rfl
 refine qb (List.replicate 15 0) F rfl fun a F=>?_
 refine q_nil fun w H=>?_
 refine bn (ct (rl (bb [0,0] F H rfl fun a F=>?_)))
 refine lz (ct ?_);cases hm
 exact ⟨_,rfl,⟨F.sl rfl,(H.pm 12 [8,9,10,11] rfl:)⟩⟩
 replace hm:=ifF hg135 hm
 by_cases hg136:0<s118.2
 replace hm:=ifT hg136 hm
 obtain ⟨x137,ex137,hm⟩:=ob hm
 obtain ⟨cs138,hcl138,H⟩:=H.slEl 11 rfl hp121 (idxO_some ex137).2
 clear hcl138
 replace H:=H.mkRc (R:=R_api_Seat) (cs:=[.int .i64 (x120.1),.int .u64 (x120.2.1),.int .i64 (x120.2.2.1),.int .i64 (x120.2.2.2.1),.slice p125 (x120.2.2.2.2.1).length c126,.slice p127 (x120.2.2.2.2.2).length c128]) (x:=(x120.1,x120.2.1,(x120.2.2.1,x120.2.2.2.1,x120.2.2.2.2.1,x120.2.2.2.2.2))) (fun gg=>⟨[Value.int .i64 (x120.1)],_,rfl,rfl,⟨[Value.int .u64 (x120.2.1)],_,rfl,rfl,⟨[Value.int .i64 (x120.2.2.1)],_,rfl,rfl,⟨[Value.int .i64 (x120.2.2.2.1)],_,rfl,rfl,⟨[Value.slice p125 (x120.2.2.2.2.1).length c126],_,rfl,⟨_,_,rfl,(gg 4 _ rfl).choose_spec⟩,⟨_,_,rfl,(gg 5 _ rfl).choose_spec⟩⟩⟩⟩⟩⟩)
 obtain ⟨x139,ex139,hm⟩:=ob hm
 refine qr H (by kernel_rfl) (by kernel_rfl) ?_
 refine qb [0,0] F rfl fun a F=>?_
 replace F:=F.vF 27 hg131 rfl
 refine qb [0,0,0,0] F rfl fun a F=>?_
 replace F:=F.nT 31 hg132 rfl
 refine qbk [0,7000] F rfl ⟨fld75_0,rfl,plain3,trivial⟩ fun a F=>?_
 refine qg_on F rfl rfl rfl rfl ?_
 refine q_call F rfl rfl rfl (fun u hu=>y_call F rfl rfl ent60) (fun u hu=>(w_tValid ex133 hu).mono fun e u2 he=>by obtain ⟨v,rfl,rfl,H⟩:=he;exact ⟨rfl,H⟩) fun a F=>?_
 refine qb [0,0,0] F rfl fun a F=>?_
 replace F:=F.vF 37 hg134 rfl
 refine qbk [1,7001,0,0,0] F rfl ⟨fld75_1,rfl,plain38,trivial⟩ fun a F=>?_
 replace F:=F.bF 42 hg135 rfl
 refine qb [0,0,0] F rfl fun a F=>?_
 replace F:=F.bT 45 hg136 rfl
 refine qbk [2,11002,0,0] F rfl ⟨fld69_1,rfl,plain67,trivial⟩ fun a F=>?_
 refine qg_on F rfl rfl rfl rfl ?_
 refine qv F rfl (fun u hu=>y_idxS F elem67 rfl rfl rfl hp121 ex137) fun a F=>?_
 refine qbk [1999,7999] F rfl ⟨rfl,(aggn agg75 (H.rcLen 2 rfl)),rfl,(aggn agg75 rfl),trivial⟩ fun a F=>?_
 refine qg_on F rfl rfl rfl rfl ?_
 refine q_call F rfl rfl rfl (fun u hu=>y_call F rfl rfl ent64) (fun u hu=>(w_tCompare ex139 (hu.pm 15 [2,0,0,1,2,3,4,5,6,7,8,9,10,11,12,13,14] rfl:)).mono fun e u2 he=>by obtain ⟨v,rfl,rfl,H⟩:=he;exact ⟨rfl,H⟩) fun a F=>?_
 refine qb [0,0,0,0] F rfl fun a F=>?_
 refine q_nil fun w H=>?_
 refine bn (ct (rl (bb [0,0] F H rfl fun a F=>?_)))
 refine lz (ct ?_);cases hm
 exact ⟨_,rfl,⟨F.sl rfl,(H.pm 15 [11,12,13,14] rfl:)⟩⟩
 replace hm:=ifF hg136 hm
 refine qr H (by kernel_rfl) (by kernel_rfl) ?_
 refine qb [0,0] F rfl fun a F=>?_
 replace F:=F.vF 27 hg131 rfl
 refine qb [0,0,0,0] F rfl fun a F=>?_
 replace F:=F.nT 31 hg132 rfl
 refine qbk [0,4000] F rfl ⟨fld75_0,rfl,plain3,trivial⟩ fun a F=>?_
 refine qg_on F rfl rfl rfl rfl ?_
 refine q_call F rfl rfl rfl (fun u hu=>y_call F rfl rfl ent60) (fun u hu=>(w_tValid ex133 hu).mono fun e u2 he=>by obtain ⟨v,rfl,rfl,H⟩:=he;exact ⟨rfl,H⟩) fun a F=>?_
 refine qb [0,0,0] F rfl fun a F=>?_
 replace F:=F.vF 37 hg134 rfl
 refine qbk [1,4001,0,0,0] F rfl ⟨fld75_1,rfl,plain38,trivial⟩ fun a F=>?_
 replace F:=F.bF 42 hg135 rfl
 refine qb [0,0,0] F rfl fun a F=>?_
 replace F:=F.bF 45 hg136 rfl
 refine qb (List.replicate 12 0) F rfl fun a F=>?_
 refine q_nil fun w H=>?_
 refine bn (ct (rl (bb [0,0] F H rfl fun a F=>?_)))
 refine lz (ct ?_);cases hm
 exact ⟨_,rfl,⟨F.sl rfl,(H.pm 12 [8,9,10,11] rfl:)⟩⟩
 replace hm:=ifF hg132 hm
 refine qr H (by kernel_rfl) (by kernel_rfl) ?_
 refine qb [0,0] F rfl fun a F=>?_
 replace F:=F.vF 27 hg131 rfl
 refine qb [0,0,0,0] F rfl fun a F=>?_
 replace F:=F.nF 31 hg132 rfl
 refine qb (List.replicate 26 0) F rfl fun a F=>?_
 refine q_nil fun w H=>?_
 refine bn (ct (rl (bb [0,0] F H rfl fun a F=>?_)))
 refine lz (ct ?_);cases hm
 exact ⟨_,rfl,⟨F.sl rfl,(H.pm 12 [8,9,10,11] rfl:)⟩⟩
 refine ex (cx (cx ?_));cases hm;refine ⟨_,rfl,?_⟩;rintro rfl
 refine ch (ct ?_)
 exact ⟨F.sl rfl,H⟩
 refine ct (sq (sb [0] F H rfl fun a F=>?_))
 refine nl (cB F rfl (fun hg140=>?_) (fun hg140=>?_))
 replace hm:=ifT hg140 hm
 refine sb [0] F H rfl fun a F=>?_
 refine nl (wr (tr ?_))
 cases hm
 refine x_ret1 F rfl rfl ?_
 exact ⟨_,rfl,rfl,(H.pm 4 [] rfl:)⟩
 replace hm:=ifF (nT hg140) hm
 refine sk (ct (sb [0] F H rfl fun a F=>?_))
 refine nl (wr ?_)
 cases hm
 refine x_ret1 F rfl rfl ?_
 exact ⟨_,rfl,rfl,(H.pm 4 [] rfl:)⟩
theorem w_tSame {w_:T_api_Whole} {cs1:List Value} {w0 w:World} {l:List HP}  {r:T_api_Whole} (hm:tSame w_=some r) (H:St w0 w (HP.rc R_api_Whole cs1 w_::l)) :
  Calls Tryz.prog 61 [.agg cs1.toArray].toArray w (fun e w'=>∃ v,e=.returned v∧∃ (cs2:List Value),v=.agg cs2.toArray∧St w0 w' (HP.rc R_api_Whole cs2 r::l)):=by
 unfold tSame at hm
 refine x_enter Tryz.func61 rfl rfl rfl ?_
 intro a F
 have G:=F;replace H:=rc_api_Whole (H.pk 0 rfl);obtain ⟨u3,p4,c5,rfl,J⟩:=H;have H:=J;have F:=G;clear G J
 have G:=F;replace H:=rc_api_State (H.pk 0 rfl);obtain ⟨p6,c7,p8,c9,rfl,J⟩:=H;have H:=J;have F:=G;clear G J
 refine sr (s_boxA wkP F rfl rfl rfl rfl rfl H fun b10 w a H F=>?_)
 replace H:=H.owNil R_api_Pair 103
 replace H:=H.owNil R_api_Snap 41
 replace H:=H.owNil R_api_Seat 75
 refine s_allocA wkP F rfl rfl rfl agz69 rfl H fun b11 w a H F=>?_
 replace H:=H.nf 8 rfl
 refine nl (sr (bk [0] F H rfl ⟨fld69_0,trivial⟩ fun a F=>?_))
 refine sv F rfl (y_loadA F agg27 rfl rfl (row_mid (A:=([]:List Value)) (X:=[.slice p6 (w_.1.1).length c7,.slice p8 (w_.1.2).length c9]) (C:=[.slice p4 (w_.2).length c5]) (w:=_) ((H.blk 4 rfl).row) rfl) rfl) fun a F=>?_
 replace H:=H.owNil rByte 5
 refine sv F rfl (y_build F rfl rfl (cs:=[.int .i64 (0),.string (txb ([])),.string (txb ([])),.int .i64 (0),.int .i64 (0),.slice none (([]:List UInt8)).length 0]) (by kernel_rfl)) fun a F=>?_
 replace H:=H.mkRc (R:=R_api_State) (cs:=[.slice p6 (w_.1.1).length c7,.slice p8 (w_.1.2).length c9]) (x:=(w_.1.1,w_.1.2)) (fun gg=>⟨_,_,rfl,⟨_,_,rfl,(gg 6 _ rfl).choose_spec⟩,⟨_,_,rfl,(gg 7 _ rfl).choose_spec⟩⟩)
 replace H:=H.frz 1 rfl
 replace H:=H.mkRc (R:=R_api_Op) (cs:=[.int .i64 (0),.string (txb ([])),.string (txb ([])),.int .i64 (0),.int .i64 (0),.slice none (([]:List UInt8)).length 0]) (x:=(0,[],[],0,0,([]:List UInt8))) (fun gg=>⟨_,_,rfl,rfl,⟨_,_,rfl,rfl,⟨_,_,rfl,rfl,⟨_,_,rfl,rfl,⟨_,_,rfl,rfl,⟨_,_,rfl,(gg 0 _ rfl).choose_spec⟩⟩⟩⟩⟩⟩)
 obtain ⟨x12,ex12,hm⟩:=ob hm
 refine sd F rfl ent15 (w_nDo ex12 (H.pm 11 [2,0,0,1,2,3,4,5,6,7,8,9,10] rfl:):) ?_;rintro _ w a ⟨cs13,cs14,rfl,H⟩ F
 refine bb [0,0,0] F H rfl fun a F=>?_
 replace H:=H.owNil R_api_Pair 103
 replace H:=H.owNil R_api_Snap 41
 refine s_allocA wkP F rfl rfl rfl agz27 rfl H fun b15 w a H F=>?_
 replace H:=H.owNil rByte 5
 replace H:=H.owNil rStr 9
 refine s_allocA wkP F rfl rfl rfl agz35 rfl H fun b16 w a H F=>?_
 have G:=F;replace H:=rc_api_State (H.pk 6 rfl);obtain ⟨p17,c18,p19,c20,rfl,J⟩:=H;have H:=J;have F:=G;clear G J
 refine s_storeA wkP F rfl rfl agg27 rfl rfl rfl H 5 rfl rfl rfl (fl rfl) fun w H=>?_
 have G:=F;replace H:=rc_api_Answer (H.pk 8 rfl);obtain ⟨p21,c22,p23,c24,rfl,J⟩:=H;have H:=J;have F:=G;clear G J
 refine s_storeA wkP F rfl rfl agg35 rfl rfl rfl H 4 rfl rfl rfl (fl rfl) fun w H=>?_
 replace H:=H.nf 21 rfl
 refine nl (sq (mix_region [3,5] [5] (.step 0 0 (.step 0 1 (.step 1 2 (.step 2 3 (.step 0 4 (.step 3 5 .done)))))) (fun u=>∃ ls,St w0 u (HP.blk b15 ([.slice p17 (x12.1.1).length c18,.slice p19 (x12.1.2).length c20]) 27::ls)) (by kernel_rfl) (by kernel_rfl) ⟨_,(H.drew.pm 21 [7,0,1,2,3,4,5,6,8,9,10,11,12,13,14,15,16,17,18,19,20] rfl:)⟩ ?_))
 replace H:=H.drew
 generalize w.drew=w at H ⊢
 refine m_pure F rfl rfl rfl rfl (fun u hu=>y_loadA F agg27 rfl rfl ((hu.choose_spec.blk 0 rfl).row) rfl) fun a F=>?_
 refine mbk [2,17002] F H rfl ⟨fld69_1,rfl,plain67,trivial⟩ fun a F=>?_
 refine m_heavy rfl rfl ?_
 obtain ⟨x25,ex25,hm⟩:=ob hm
 refine sd F rfl ent92 (w_tCopied ex25 (H.pm 21 [20,0,1,2,3,4,5,6,7,8,9,10,11,12,13,14,15,16,17,18,19,20] rfl:):) ?_;rintro _ w a ⟨p26,c26,rfl,H⟩ F
 refine lz ?_;refine ct ⟨⟨_,(H.pm 22 [8,0,1,2,3,4,5,6,7,9,10,11,12,13,14,15,16,17,18,19,20,21] rfl:)⟩,?_⟩
 refine m_pure F rfl rfl rfl rfl (fun u hu=>y_build F rfl rfl (cs:=[.slice p17 (x12.1.1).length c18,.slice p19 (x12.1.2).length c20,.slice p26 (x25).length c26]) (by kernel_rfl)) fun a F=>?_
 refine m_last rfl rfl ?_
 refine s_storeA wkP F rfl rfl agg69 rfl rfl rfl H 14 rfl rfl rfl (fl rfl) fun w H=>?_
 refine lz ?_;refine ct ?_
 refine m_nil ?_
 refine ct (wr ?_)
 replace H:=H.frz 0 rfl
 replace H:=H.mkRc (R:=R_api_Whole) (cs:=[.slice p17 (x12.1.1).length c18,.slice p19 (x12.1.2).length c20,.slice p26 (x25).length c26]) (x:=((x12.1.1,x12.1.2),x25)) (fun gg=>⟨[Value.slice p17 (x12.1.1).length c18,.slice p19 (x12.1.2).length c20],_,rfl,⟨[Value.slice p17 (x12.1.1).length c18],_,rfl,⟨_,_,rfl,(gg 3 _ rfl).choose_spec⟩,⟨_,_,rfl,(gg 4 _ rfl).choose_spec⟩⟩,⟨_,_,rfl,(gg 0 _ rfl).choose_spec⟩⟩)
 cases hm
 refine x_resC1 F rfl (⟨_,rfl,agg69.run_load (H.blk 15 rfl).row rfl⟩) ?_
 exact ⟨_,rfl,[.slice p17 (x12.1.1).length c18,.slice p19 (x12.1.2).length c20,.slice p26 (x25).length c26],rfl,(H.pm 23 [0] rfl:)⟩
theorem fld71_0:FieldT Tryz.prog 71 0 0:=by unfold FieldT;rw [Tryz.underlying71];kernel_rfl
theorem ent61:En Tryz.prog 61:=enters Tryz.func61 (by kernel_rfl) rfl
theorem fld71_1:FieldT Tryz.prog 71 1 1:=by unfold FieldT;rw [Tryz.underlying71];kernel_rfl
theorem ent41:En Tryz.prog 41:=enters Tryz.func41 (by kernel_rfl) rfl
theorem fld71_2:FieldT Tryz.prog 71 2 2:=by unfold FieldT;rw [Tryz.underlying71];kernel_rfl
theorem ent62:En Tryz.prog 62:=enters Tryz.func62 (by kernel_rfl) rfl
theorem w_tDo {w_:T_api_Whole} {c:T_api_Call} {gen:Int} {cs1:List Value} {cs2:List Value} {w0 w:World} {l:List HP}  {r:T_api_Whole×T_api_Answer×Int} (hm:tDo w_ c gen=some r) (H:St w0 w (HP.rc R_api_Whole cs1 w_::HP.rc R_api_Call cs2 c::l)) :
  Calls Tryz.prog 35 [.agg cs1.toArray,.agg cs2.toArray,.int .u64 (gen)].toArray w (fun e w'=>∃ v,e=.returned v∧∃ (cs3:List Value) (cs4:List Value),v=.tuple [.agg cs3.toArray,.agg cs4.toArray,.int .i64 (r.2.2)].toArray∧St w0 w' (HP.rc R_api_Whole cs3 r.1::HP.rc R_api_Answer cs4 r.2.1::l)):=by
 unfold tDo at hm
 refine x_enter Tryz.func35 rfl rfl rfl ?_
 intro a F
 have G:=F;replace H:=rc_api_Whole (H.pk 0 rfl);obtain ⟨u5,p6,c7,rfl,J⟩:=H;have H:=J;have F:=G;clear G J
 have G:=F;replace H:=rc_api_State (H.pk 0 rfl);obtain ⟨p8,c9,p10,c11,rfl,J⟩:=H;have H:=J;have F:=G;clear G J
 have G:=F;replace H:=rc_api_Call (H.pk 3 rfl);obtain ⟨v12,rfl,J⟩:=H;have H:=J;have F:=G;clear G J
 have G:=F;replace H:=rc_api_Op (H.pk 0 rfl);obtain ⟨p13,c14,rfl,J⟩:=H;have H:=J;have F:=G;clear G J
 refine sr (s_boxA wkP F rfl rfl rfl rfl rfl H fun b15 w a H F=>?_)
 refine s_boxA wkP F rfl rfl rfl rfl rfl H fun b16 w a H F=>?_
 replace H:=H.owNil R_api_Pair 103
 replace H:=H.owNil R_api_Snap 41
 replace H:=H.owNil R_api_Seat 75
 refine s_allocA wkP F rfl rfl rfl agz69 rfl H fun b17 w a H F=>?_
 replace H:=H.owNil rByte 5
 replace H:=H.owNil rStr 9
 refine s_allocA wkP F rfl rfl rfl agz35 rfl H fun b18 w a H F=>?_
 refine bb [0] F H rfl fun a F=>?_
 replace H:=H.nf 13 rfl
 refine nl (sq (sr (bk [0,7000] F H rfl ⟨fld71_0,rfl,plain3,trivial⟩ fun a F=>?_)))
 obtain ⟨x19,ex19,hm⟩:=ob hm
 refine sd F rfl ent60 (w_tValid ex19 H:) ?_;rintro _ w a ⟨rfl,H⟩ F
 refine bb [0] F H rfl fun a F=>?_
 replace H:=H.nf 13 rfl
 refine nl (cB F rfl (fun hg20=>?_) (fun hg20=>?_))
 replace hm:=ifT hg20 hm
 refine sr (bk [8999] F H rfl ⟨rfl,(aggn agg69 rfl),trivial⟩ fun a F=>?_)
 replace H:=H.mkRc (R:=R_api_Whole) (cs:=[.slice p8 (w_.1.1).length c9,.slice p10 (w_.1.2).length c11,.slice p6 (w_.2).length c7]) (x:=((w_.1.1,w_.1.2),w_.2)) (fun gg=>⟨[Value.slice p8 (w_.1.1).length c9,.slice p10 (w_.1.2).length c11],_,rfl,⟨[Value.slice p8 (w_.1.1).length c9],_,rfl,⟨_,_,rfl,(gg 10 _ rfl).choose_spec⟩,⟨_,_,rfl,(gg 11 _ rfl).choose_spec⟩⟩,⟨_,_,rfl,(gg 12 _ rfl).choose_spec⟩⟩)
 obtain ⟨x21,ex21,hm⟩:=ob hm
 refine sd F rfl ent61 (w_tSame ex21 (H.pm 14 [0,0,1,2,3,4,5,6,7,8,9,10,11,12,13] rfl:):) ?_;rintro _ w a ⟨cs22,rfl,H⟩ F
 replace H:=H.owNil rByte 5
 replace H:=H.owNil rStr 9
 refine sv F rfl (y_build F rfl rfl (cs:=[.int .i64 (0),.int .i64 (0),.slice none (([]:List UInt8)).length 0,.slice none (([]:List (List UInt8))).length 0]) (by kernel_rfl)) fun a F=>?_
 have G:=F;replace H:=rc_api_Whole (H.pk 2 rfl);obtain ⟨u23,p24,c25,rfl,J⟩:=H;have H:=J;have F:=G;clear G J
 have G:=F;replace H:=rc_api_State (H.pk 0 rfl);obtain ⟨p26,c27,p28,c29,rfl,J⟩:=H;have H:=J;have F:=G;clear G J
 refine s_storeA wkP F rfl rfl agg69 rfl rfl rfl H 9 rfl rfl rfl (fl rfl) fun w H=>?_
 refine s_storeA wkP F rfl rfl agg35 rfl rfl rfl H 6 rfl rfl rfl (fl rfl) fun w H=>?_
 refine bb [0] F H rfl fun a F=>?_
 replace H:=H.nf 19 rfl
 refine nl (wr (tr ?_))
 replace H:=H.mkRc (R:=R_api_Whole) (cs:=[.slice p26 (x21.1.1).length c27,.slice p28 (x21.1.2).length c29,.slice p24 (x21.2).length c25]) (x:=((x21.1.1,x21.1.2),x21.2)) (fun gg=>⟨[Value.slice p26 (x21.1.1).length c27,.slice p28 (x21.1.2).length c29],_,rfl,⟨[Value.slice p26 (x21.1.1).length c27],_,rfl,⟨_,_,rfl,(gg 0 _ rfl).choose_spec⟩,⟨_,_,rfl,(gg 1 _ rfl).choose_spec⟩⟩,⟨_,_,rfl,(gg 2 _ rfl).choose_spec⟩⟩)
 replace H:=H.frz 5 rfl
 replace H:=H.frz 5 rfl
 replace H:=H.mkRc (R:=R_api_Answer) (cs:=[.int .i64 (0),.int .i64 (0),.slice none (([]:List UInt8)).length 0,.slice none (([]:List (List UInt8))).length 0]) (x:=(0,0,([]:List UInt8),([]:List (List UInt8)))) (fun gg=>⟨_,_,rfl,rfl,⟨_,_,rfl,rfl,⟨_,_,rfl,⟨_,_,rfl,(gg 1 _ rfl).choose_spec⟩,⟨_,_,rfl,(gg 0 _ rfl).choose_spec⟩⟩⟩⟩)
 cases hm
 refine x_resC3 F rfl (⟨_,rfl,agg69.run_load (H.blk 11 rfl).row rfl⟩) (⟨_,rfl,agg35.run_load (H.blk 8 rfl).row rfl⟩) rfl ?_
 exact ⟨_,rfl,[.slice p26 (x21.1.1).length c27,.slice p28 (x21.1.2).length c29,.slice p24 (x21.2).length c25],[.int .i64 (0),.int .i64 (0),.slice none (([]:List UInt8)).length 0,.slice none (([]:List (List UInt8))).length 0],rfl,(H.pm 21 [3,0] rfl:)⟩
 replace hm:=ifF (nT hg20) hm
 refine sk (ct (sr (bk [2,8002,0,7000,1,7001] F H rfl ⟨fld69_1,rfl,plain67,fld71_0,rfl,plain3,fld71_1,rfl,plain38,trivial⟩ fun a F=>?_)))
 obtain ⟨x30,ex30,hm⟩:=ob hm
 refine sd F rfl ent41 (w_tLook ex30 (H.pm 13 [12,0,1,2,3,4,5,6,7,8,9,10,11,12] rfl:):) ?_;rintro _ w a ⟨cs31,rfl,H⟩ F
 refine bb [0,0,0] F H rfl fun a F=>?_
 replace H:=H.owNil rByte 5
 replace H:=H.owNil rStr 9
 refine s_allocA wkP F rfl rfl rfl agz35 rfl H fun b32 w a H F=>?_
 refine bb [0] F H rfl fun a F=>?_
 have G:=F;replace H:=rc_api_Answer (H.pk 3 rfl);obtain ⟨p33,c34,p35,c36,rfl,J⟩:=H;have H:=J;have F:=G;clear G J
 refine s_storeA wkP F rfl rfl agg35 rfl rfl rfl H 2 rfl rfl rfl (fl rfl) fun w H=>?_
 replace H:=H.nf 18 rfl
 refine nl (sq (sb [0,0] F H rfl fun a F=>?_))
 refine nl (cNm F rfl hm (fun hg37 hm=>?_) (fun hg37 hm=>?_))
 refine sq ?_
 refine mix_region [1,4,5] [] (.step 1 0 (.step 0 2 (.step 0 3 (.step 2 1 (.step 2 4 (.step 2 5 (.step 0 6 .done))))))) (fun u=>∃ ls,St w0 u (HP.blk b32 ([.int .i64 (x30.2.1),.int .i64 (x30.2.2.1),.slice p33 (x30.2.2.2.1).length c34,.slice p35 (x30.2.2.2.2).length c36]) 35::ls)) (by kernel_rfl) (by kernel_rfl) ⟨_,(H.drew.pm 18 [2,0,1,3,4,5,6,7,8,9,10,11,12,13,14,15,16,17] rfl:)⟩ ?_
 replace H:=H.drew
 generalize w.drew=w at H ⊢
 refine mbk [13999] F H rfl ⟨rfl,(aggn agg69 rfl),trivial⟩ fun a F=>?_
 refine m_pure F rfl rfl rfl rfl (fun u hu=>y_loadA F agg35 rfl rfl ((hu.choose_spec.blk 0 rfl).row) rfl) fun a F=>?_
 refine mb [0] F H rfl fun a F=>?_
 refine m_heavy rfl rfl ?_
 replace H:=H.mkRc (R:=R_api_Whole) (cs:=[.slice p8 (w_.1.1).length c9,.slice p10 (w_.1.2).length c11,.slice p6 (w_.2).length c7]) (x:=((w_.1.1,w_.1.2),w_.2)) (fun gg=>⟨[Value.slice p8 (w_.1.1).length c9,.slice p10 (w_.1.2).length c11],_,rfl,⟨[Value.slice p8 (w_.1.1).length c9],_,rfl,⟨_,_,rfl,(gg 15 _ rfl).choose_spec⟩,⟨_,_,rfl,(gg 16 _ rfl).choose_spec⟩⟩,⟨_,_,rfl,(gg 17 _ rfl).choose_spec⟩⟩)
 obtain ⟨x38,ex38,hm⟩:=ob hm
 refine sd F rfl ent61 (w_tSame ex38 (H.pm 19 [0,0,1,2,3,4,5,6,7,8,9,10,11,12,13,14,15,16,17,18] rfl:):) ?_;rintro _ w a ⟨cs39,rfl,H⟩ F
 refine lz ?_;refine ct ⟨⟨_,(H.pm 20 [4,0,1,2,3,5,6,7,8,9,10,11,12,13,14,15,16,17,18,19] rfl:)⟩,?_⟩
 refine m_heavy rfl rfl ?_
 have G:=F;replace H:=rc_api_Whole (H.pk 0 rfl);obtain ⟨u40,p41,c42,rfl,J⟩:=H;have H:=J;have F:=G;clear G J
 have G:=F;replace H:=rc_api_State (H.pk 0 rfl);obtain ⟨p43,c44,p45,c46,rfl,J⟩:=H;have H:=J;have F:=G;clear G J
 refine s_storeA wkP F rfl rfl agg69 rfl rfl rfl H 12 rfl rfl rfl (fl rfl) fun w H=>?_
 refine lz ?_;refine ct ⟨⟨_,(H.pm 22 [6,0,1,2,3,4,5,7,8,9,10,11,12,13,14,15,16,17,18,19,20,21] rfl:)⟩,?_⟩
 refine m_heavy rfl rfl ?_
 refine s_storeA wkP F rfl rfl agg35 rfl rfl rfl H 9 rfl rfl rfl (fl rfl) fun w H=>?_
 refine lz ?_;refine ct ⟨⟨_,(H.pm 22 [6,0,1,2,3,4,5,7,8,9,10,11,12,13,14,15,16,17,18,19,20,21] rfl:)⟩,?_⟩
 refine mb [0] F H rfl fun a F=>?_
 refine m_nil ?_
 refine ct (wr (tr ?_))
 replace H:=H.mkRc (R:=R_api_Whole) (cs:=[.slice p43 (x38.1.1).length c44,.slice p45 (x38.1.2).length c46,.slice p41 (x38.2).length c42]) (x:=((x38.1.1,x38.1.2),x38.2)) (fun gg=>⟨[Value.slice p43 (x38.1.1).length c44,.slice p45 (x38.1.2).length c46],_,rfl,⟨[Value.slice p43 (x38.1.1).length c44],_,rfl,⟨_,_,rfl,(gg 0 _ rfl).choose_spec⟩,⟨_,_,rfl,(gg 1 _ rfl).choose_spec⟩⟩,⟨_,_,rfl,(gg 2 _ rfl).choose_spec⟩⟩)
 replace H:=H.mkRc (R:=R_api_Answer) (cs:=[.int .i64 (x30.2.1),.int .i64 (x30.2.2.1),.slice p33 (x30.2.2.2.1).length c34,.slice p35 (x30.2.2.2.2).length c36]) (x:=(x30.2.1,x30.2.2.1,x30.2.2.2.1,x30.2.2.2.2)) (fun gg=>⟨_,_,rfl,rfl,⟨_,_,rfl,rfl,⟨_,_,rfl,⟨_,_,rfl,(gg 5 _ rfl).choose_spec⟩,⟨_,_,rfl,(gg 6 _ rfl).choose_spec⟩⟩⟩⟩)
 cases hm
 refine x_resC3 F rfl (⟨_,rfl,agg69.run_load (H.blk 14 rfl).row rfl⟩) (⟨_,rfl,agg35.run_load (H.blk 11 rfl).row rfl⟩) rfl ?_
 exact ⟨_,rfl,[.slice p43 (x38.1.1).length c44,.slice p45 (x38.1.2).length c46,.slice p41 (x38.2).length c42],[.int .i64 (x30.2.1),.int .i64 (x30.2.2.1),.slice p33 (x30.2.2.2.1).length c34,.slice p35 (x30.2.2.2.2).length c36],rfl,(H.pm 24 [1,0] rfl:)⟩
 refine sk (ct (sr (bk [0] F H rfl ⟨fld69_0,trivial⟩ fun a F=>?_)))
 refine sv F rfl (y_loadA F agg27 rfl rfl (row_mid (A:=([]:List Value)) (X:=[.slice p8 (w_.1.1).length c9,.slice p10 (w_.1.2).length c11]) (C:=[.slice p6 (w_.2).length c7]) (w:=_) ((H.blk 13 rfl).row) rfl) rfl) fun a F=>?_
 refine bk [2] F H rfl ⟨fld71_2,trivial⟩ fun a F=>?_
 refine sv F rfl (y_loadA F agg31 rfl rfl (row_midE (A:=[.int .i64 (c.1),.int .u64 (c.2.1)]) (X:=[.int .i64 (c.2.2.1),.string (txb (c.2.2.2.1)),.string (txb (c.2.2.2.2.1)),.int .i64 (c.2.2.2.2.2.1),.int .i64 (c.2.2.2.2.2.2.1),.slice p13 (c.2.2.2.2.2.2.2).length c14]) (w:=_) ((H.blk 12 rfl).row) (by simp only [List.length_append,List.length_cons,List.length_nil,icells_length,bcells_length])) rfl) fun a F=>?_
 refine bb [0] F H rfl fun a F=>?_
 replace H:=H.mkRc (R:=R_api_State) (cs:=[.slice p8 (w_.1.1).length c9,.slice p10 (w_.1.2).length c11]) (x:=(w_.1.1,w_.1.2)) (fun gg=>⟨_,_,rfl,⟨_,_,rfl,(gg 15 _ rfl).choose_spec⟩,⟨_,_,rfl,(gg 16 _ rfl).choose_spec⟩⟩)
 replace H:=H.mkRc (R:=R_api_Op) (cs:=[.int .i64 (c.2.2.1),.string (txb (c.2.2.2.1)),.string (txb (c.2.2.2.2.1)),.int .i64 (c.2.2.2.2.2.1),.int .i64 (c.2.2.2.2.2.2.1),.slice p13 (c.2.2.2.2.2.2.2).length c14]) (x:=(c.2.2.1,c.2.2.2.1,c.2.2.2.2.1,c.2.2.2.2.2.1,c.2.2.2.2.2.2.1,c.2.2.2.2.2.2.2)) (fun gg=>⟨_,_,rfl,rfl,⟨_,_,rfl,rfl,⟨_,_,rfl,rfl,⟨_,_,rfl,rfl,⟨_,_,rfl,rfl,⟨_,_,rfl,(gg 15 _ rfl).choose_spec⟩⟩⟩⟩⟩⟩)
 obtain ⟨x47,ex47,hm⟩:=ob hm
 refine sd F rfl ent15 (w_nDo ex47 (H.pm 20 [1,0,0,1,2,3,4,5,6,7,8,9,10,11,12,13,14,15,16,17,18,19] rfl:):) ?_;rintro _ w a ⟨cs48,cs49,rfl,H⟩ F
 refine bb [0,0,0] F H rfl fun a F=>?_
 replace H:=H.owNil R_api_Pair 103
 replace H:=H.owNil R_api_Snap 41
 refine s_allocA wkP F rfl rfl rfl agz27 rfl H fun b50 w a H F=>?_
 have G:=F;replace H:=rc_api_State (H.pk 3 rfl);obtain ⟨p51,c52,p53,c54,rfl,J⟩:=H;have H:=J;have F:=G;clear G J
 refine s_storeA wkP F rfl rfl agg27 rfl rfl rfl H 2 rfl rfl rfl (fl rfl) fun w H=>?_
 have G:=F;replace H:=rc_api_Answer (H.pk 5 rfl);obtain ⟨p55,c56,p57,c58,rfl,J⟩:=H;have H:=J;have F:=G;clear G J
 refine s_storeA wkP F rfl rfl agg35 rfl rfl rfl H 11 rfl rfl rfl (fl rfl) fun w H=>?_
 replace H:=H.nf 27 rfl
 refine nl (sq ?_)
 refine mix_region [9,13,14] [] (.step 0 0 (.step 0 1 (.step 1 2 (.step 0 3 (.step 1 4 (.step 0 5 (.step 1 6 (.step 1 7 (.step 0 8 (.step 0 11 (.step 0 12 (.step 2 9 (.step 0 10 (.step 2 13 (.step 2 14 (.step 0 15 .done)))))))))))))))) (fun u=>∃ ls,St w0 u (HP.blk b50 ([.slice p51 (x47.1.1).length c52,.slice p53 (x47.1.2).length c54]) 27::HP.blk b32 ([.int .i64 (x47.2.1),.int .i64 (x47.2.2.1),.slice p55 (x47.2.2.2.1).length c56,.slice p57 (x47.2.2.2.2).length c58]) 35::ls)) (by kernel_rfl) (by kernel_rfl) ⟨_,(H.drew.pm 27 [4,11,0,1,2,3,5,6,7,8,9,10,12,13,14,15,16,17,18,19,20,21,22,23,24,25,26] rfl:)⟩ ?_
 replace H:=H.drew
 generalize w.drew=w at H ⊢
 refine m_pure F rfl rfl rfl rfl (fun u hu=>y_loadA F agg27 rfl rfl ((hu.choose_spec.blk 0 rfl).row) rfl) fun a F=>?_
 refine mbk [2,22002,0,21000,1,21001,11999] F H rfl ⟨fld69_1,rfl,plain67,fld71_0,rfl,plain3,fld71_1,rfl,plain38,rfl,(aggn agg35 rfl),trivial⟩ fun a F=>?_
 refine m_pure F rfl rfl rfl rfl (fun u hu=>y_build F rfl rfl (cs:=[.int .i64 (c.1),.int .u64 (c.2.1),.int .i64 (x47.2.1),.int .i64 (x47.2.2.1),.slice p55 (x47.2.2.2.1).length c56,.slice p57 (x47.2.2.2.2).length c58]) (by kernel_rfl)) fun a F=>?_
 refine m_pure F rfl rfl rfl rfl (fun u hu=>y_loadA F agg35 rfl rfl ((hu.choose_spec.blk 1 rfl).row) rfl) fun a F=>?_
 refine mb [0] F H rfl fun a F=>?_
 refine m_heavy rfl rfl ?_
 replace H:=H.mkRc (R:=R_api_Seat) (cs:=[.int .i64 (c.1),.int .u64 (c.2.1),.int .i64 (x47.2.1),.int .i64 (x47.2.2.1),.slice p55 (x47.2.2.2.1).length c56,.slice p57 (x47.2.2.2.2).length c58]) (x:=(c.1,c.2.1,(x47.2.1,x47.2.2.1,x47.2.2.2.1,x47.2.2.2.2))) (fun gg=>⟨[Value.int .i64 (c.1)],_,rfl,rfl,⟨[Value.int .u64 (c.2.1)],_,rfl,rfl,⟨[Value.int .i64 (x47.2.1)],_,rfl,rfl,⟨[Value.int .i64 (x47.2.2.1)],_,rfl,rfl,⟨[Value.slice p55 (x47.2.2.2.1).length c56],_,rfl,⟨_,_,rfl,(gg 0 _ rfl).choose_spec⟩,⟨_,_,rfl,(gg 1 _ rfl).choose_spec⟩⟩⟩⟩⟩⟩)
 obtain ⟨x59,ex59,hm⟩:=ob hm
 refine sd F rfl ent62 (w_tPut ex59 (H.pm 28 [27,0,0,1,2,3,4,5,6,7,8,9,10,11,12,13,14,15,16,17,18,19,20,21,22,23,24,25,26,27] rfl:):) ?_;rintro _ w a ⟨p60,c60,rfl,H⟩ F
 refine lz ?_;refine ct ⟨⟨_,(H.pm 29 [6,13,0,1,2,3,4,5,7,8,9,10,11,12,14,15,16,17,18,19,20,21,22,23,24,25,26,27,28] rfl:)⟩,?_⟩
 refine m_pure F rfl rfl rfl rfl (fun u hu=>y_build F rfl rfl (cs:=[.slice p51 (x47.1.1).length c52,.slice p53 (x47.1.2).length c54,.slice p60 (x59).length c60]) (by kernel_rfl)) fun a F=>?_
 refine m_heavy rfl rfl ?_
 refine s_storeA wkP F rfl rfl agg69 rfl rfl rfl H 19 rfl rfl rfl (fl rfl) fun w H=>?_
 refine lz ?_;refine ct ⟨⟨_,(H.pm 29 [6,13,0,1,2,3,4,5,7,8,9,10,11,12,14,15,16,17,18,19,20,21,22,23,24,25,26,27,28] rfl:)⟩,?_⟩
 refine m_heavy rfl rfl ?_
 refine s_storeA wkP F rfl rfl agg35 rfl rfl rfl H 16 rfl rfl rfl (fl rfl) fun w H=>?_
 refine lz ?_;refine ct ⟨⟨_,(H.pm 29 [6,13,0,1,2,3,4,5,7,8,9,10,11,12,14,15,16,17,18,19,20,21,22,23,24,25,26,27,28] rfl:)⟩,?_⟩
 refine mb [0] F H rfl fun a F=>?_
 refine m_nil ?_
 refine ct (wr ?_)
 replace H:=H.mkRc (R:=R_api_Whole) (cs:=[.slice p51 (x47.1.1).length c52,.slice p53 (x47.1.2).length c54,.slice p60 (x59).length c60]) (x:=((x47.1.1,x47.1.2),x59)) (fun gg=>⟨[Value.slice p51 (x47.1.1).length c52,.slice p53 (x47.1.2).length c54],_,rfl,⟨[Value.slice p51 (x47.1.1).length c52],_,rfl,⟨_,_,rfl,(gg 4 _ rfl).choose_spec⟩,⟨_,_,rfl,(gg 5 _ rfl).choose_spec⟩⟩,⟨_,_,rfl,(gg 0 _ rfl).choose_spec⟩⟩)
 replace H:=H.mkRc (R:=R_api_Answer) (cs:=[.int .i64 (x47.2.1),.int .i64 (x47.2.2.1),.slice p55 (x47.2.2.2.1).length c56,.slice p57 (x47.2.2.2.2).length c58]) (x:=(x47.2.1,x47.2.2.1,x47.2.2.2.1,x47.2.2.2.2)) (fun gg=>⟨_,_,rfl,rfl,⟨_,_,rfl,rfl,⟨_,_,rfl,⟨_,_,rfl,(gg 3 _ rfl).choose_spec⟩,⟨_,_,rfl,(gg 4 _ rfl).choose_spec⟩⟩⟩⟩)
 cases hm
 refine x_resC3 F rfl (⟨_,rfl,agg69.run_load (H.blk 21 rfl).row rfl⟩) (⟨_,rfl,agg35.run_load (H.blk 18 rfl).row rfl⟩) rfl ?_
 exact ⟨_,rfl,[.slice p51 (x47.1.1).length c52,.slice p53 (x47.1.2).length c54,.slice p60 (x59).length c60],[.int .i64 (x47.2.1),.int .i64 (x47.2.2.1),.slice p55 (x47.2.2.2.1).length c56,.slice p57 (x47.2.2.2.2).length c58],rfl,(H.pm 31 [1,0] rfl:)⟩
end Go.Proofs.YtnagibpmfabkjaaGreatDoor
