/- Texts OpA. -/
import Derived.Test.YtapllcabobickaaGreatDoorQ9
import Derived.Test.YtapllcabobickaaGreatDoorQ5
set_option linter.unusedSimpArgs false
set_option linter.unusedVariables false
namespace Go.Proofs.YtapllcabobickaaGreatDoor
open Go.RowKit Go.Tri
set_option maxRecDepth 100000
set_option maxHeartbeats 4000000
theorem fld27_2:FieldT Tryz.prog 27 2 2:=by unfold FieldT;rw [Tryz.underlying27];kernel_rfl
theorem fld27_3:FieldT Tryz.prog 27 3 3:=by unfold FieldT;rw [Tryz.underlying27];kernel_rfl
theorem fld27_4:FieldT Tryz.prog 27 4 4:=by unfold FieldT;rw [Tryz.underlying27];kernel_rfl
theorem fld27_5:FieldT Tryz.prog 27 5 5:=by unfold FieldT;rw [Tryz.underlying27];kernel_rfl
theorem arr162:ArrT Tryz.prog 162 25 3 1:=⟨Tryz.underlying162,by kernel_rfl⟩
theorem w_oWrite {o:T_api_Op} {cs1:List Value} {w0 w:World} {l:List HP}  {r:(List UInt8)×Int} (hm:oWrite o=some r) (H:St w0 w (HP.rc R_api_Op cs1 o::l)) :
  Calls Tryz.prog 42 [.agg cs1.toArray].toArray w (fun e w'=>∃ v,e=.returned v∧∃ (p2:Option Addr) (c2:Nat),v=.tuple [.slice p2 (r.1).length c2,.int .i64 (r.2)].toArray∧St w0 w' (HP.sl rByte p2 c2 r.1::l)):=by
 unfold oWrite at hm
 refine x_enter Tryz.func42 rfl rfl rfl ?_
 intro a F
 have G:=F;replace H:=rc_api_Op (H.pk 0 rfl);obtain ⟨p3,c4,rfl,J⟩:=H;have H:=J;have F:=G;clear G J
 refine sr (s_boxA wkP F rfl rfl rfl rfl rfl H fun b5 w a H F=>bb [0,0] F H rfl fun a F=>?_)
 replace H:=H.nf 2 rfl
 refine nl (sq (sr (bk [0,0,0,0] F H rfl ⟨fld27_0,rfl,plain3,trivial⟩ fun a F=>?_)))
 rcases spP 10 F rfl hm with ⟨hg6,hm,F⟩ | ⟨hg6,hm,F⟩
 refine bb (List.replicate 34 0) F H rfl fun a F=>nl (cT F rfl (sb [0,0] F H rfl fun a F=>nl (wr (tr ?_))))
 replace H:=H.slNil rByte
 cases hm
 refine x_ret2 F rfl rfl rfl ?_
 exact ⟨_,rfl,none,0,rfl,(H.pm 3 [0] rfl:)⟩
 refine bk (List.replicate 5 0) F H rfl ⟨fld27_0,rfl,plain3,trivial⟩ fun a F=>?_
 rcases spP 15 F rfl hm with ⟨hg7,hm,F⟩ | ⟨hg7,hm,F⟩
 refine bb (List.replicate 29 0) F H rfl fun a F=>nl (cT F rfl (sb [0,0] F H rfl fun a F=>nl (wr (tr ?_))))
 replace H:=H.slNil rByte
 cases hm
 refine x_ret2 F rfl rfl rfl ?_
 exact ⟨_,rfl,none,0,rfl,(H.pm 3 [0] rfl:)⟩
 refine bk [1,1] F H rfl ⟨fld27_1,rfl,plain9,trivial⟩ fun a F=>g_onP F rfl rfl rfl rfl (sv F rfl (y_lenT (l:=o.2.1) F rfl Tryz.underlying9 rfl) fun a F=>bb [0,0,0] F H rfl fun a F=>?_)
 rcases spP 21 F rfl hm with ⟨hg8,hm,F⟩ | ⟨hg8,hm,F⟩
 refine bb (List.replicate 23 0) F H rfl fun a F=>nl (cT F rfl (sb [0,0] F H rfl fun a F=>nl (wr (tr ?_))))
 replace H:=H.slNil rByte
 cases hm
 refine x_ret2 F rfl rfl rfl ?_
 exact ⟨_,rfl,none,0,rfl,(H.pm 3 [0] rfl:)⟩
 refine bk [2,2] F H rfl ⟨fld27_2,rfl,plain9,trivial⟩ fun a F=>g_onP F rfl rfl rfl rfl (sv F rfl (y_lenT (l:=o.2.2.1) F rfl Tryz.underlying9 rfl) fun a F=>bb [0,0,0] F H rfl fun a F=>?_)
 rcases spP 27 F rfl hm with ⟨hg9,hm,F⟩ | ⟨hg9,hm,F⟩
 refine bb (List.replicate 17 0) F H rfl fun a F=>nl (cT F rfl (sb [0,0] F H rfl fun a F=>nl (wr (tr ?_))))
 replace H:=H.slNil rByte
 cases hm
 refine x_ret2 F rfl rfl rfl ?_
 exact ⟨_,rfl,none,0,rfl,(H.pm 3 [0] rfl:)⟩
 refine bk [3,3] F H rfl ⟨fld27_3,rfl,plain3,trivial⟩ fun a F=>g_onP F rfl rfl rfl rfl ?_
 obtain ⟨x10,ex10,hm⟩:=ob hm
 refine sd F rfl ent75 (w_oShort ex10 H:) ?_;rintro _ w a ⟨rfl,H⟩ F
 refine bb [0,0,0] F H rfl fun a F=>?_
 by_cases hg11:(!x10)=true
 replace hm:=ifT hg11 hm
 replace F:=F.vT 33 hg11 rfl
 refine bb (List.replicate 11 0) F H rfl fun a F=>?_
 replace H:=H.nf 2 rfl
 refine nl (cT F rfl (sb [0,0] F H rfl fun a F=>nl (wr (tr ?_))))
 replace H:=H.slNil rByte
 cases hm
 refine x_ret2 F rfl rfl rfl ?_
 exact ⟨_,rfl,none,0,rfl,(H.pm 3 [0] rfl:)⟩
 replace hm:=ifF hg11 hm
 replace F:=F.vF 33 hg11 rfl
 refine bk [4,4] F H rfl ⟨fld27_4,rfl,plain3,trivial⟩ fun a F=>g_onP F rfl rfl rfl rfl ?_
 obtain ⟨x12,ex12,hm⟩:=ob hm
 refine sd F rfl ent75 (w_oShort ex12 H:) ?_;rintro _ w a ⟨rfl,H⟩ F
 refine bb [0,0,0] F H rfl fun a F=>?_
 by_cases hg13:(!x12)=true
 replace hm:=ifT hg13 hm
 replace F:=F.vT 39 hg13 rfl
 refine bb (List.replicate 5 0) F H rfl fun a F=>?_
 replace H:=H.nf 2 rfl
 refine nl (cT F rfl (sb [0,0] F H rfl fun a F=>nl (wr (tr ?_))))
 replace H:=H.slNil rByte
 cases hm
 refine x_ret2 F rfl rfl rfl ?_
 exact ⟨_,rfl,none,0,rfl,(H.pm 3 [0] rfl:)⟩
 replace hm:=ifF hg13 hm
 replace F:=F.vF 39 hg13 rfl
 refine bk [5,5,0,0,0] F H rfl ⟨fld27_5,rfl,plain25,⟨_,Tryz.underlying25⟩,trivial⟩ fun a F=>?_
 replace H:=H.nf 2 rfl
 refine nl (cPm F rfl hm (fun hg14 hm=>?_) (fun hg14 hm=>?_))
 refine sb [0,0] F H rfl fun a F=>nl (wr (tr ?_))
 replace H:=H.slNil rByte
 cases hm
 refine x_ret2 F rfl rfl rfl ?_
 exact ⟨_,rfl,none,0,rfl,(H.pm 3 [0] rfl:)⟩
 refine sk (ct (sr ?_))
 replace H:=H.owNil rByte 5
 refine sv F rfl (y_build F rfl rfl (cs:=[.slice none (([]:List UInt8)).length 0]) (by kernel_rfl)) fun a F=>s_boxA wkP F rfl rfl rfl rfl rfl H fun b15 w a H F=>bb [0] F H rfl fun a F=>?_
 replace H:=H.nf 4 rfl
 refine nl (sr (bk [0,0,2000,2] F H rfl ⟨fld27_0,rfl,plain3,Tryz.underlying3,Tryz.underlying22,trivial⟩ fun a F=>?_))
 replace H:=O_pack_Pen_s (x0:=([]:List UInt8)) H
 obtain ⟨x16,ex16,hm⟩:=ob hm
 refine sd F rfl ent19 (w_penUint ex16 H:) ?_;rintro _ w a ⟨rfl,H⟩ F
 replace H:=H.nf 3 rfl
 refine nl (sr (bk [0,3,1003,2] F H rfl ⟨fld27_3,rfl,plain3,Tryz.underlying3,Tryz.underlying22,trivial⟩ fun a F=>?_))
 obtain ⟨x17,ex17,hm⟩:=ob hm
 refine sd F rfl ent19 (w_penUint ex17 H:) ?_;rintro _ w a ⟨rfl,H⟩ F
 replace H:=H.nf 3 rfl
 refine nl (sr (bk [0,4,1004,2] F H rfl ⟨fld27_4,rfl,plain3,Tryz.underlying3,Tryz.underlying22,trivial⟩ fun a F=>?_))
 obtain ⟨x18,ex18,hm⟩:=ob hm
 refine sd F rfl ent19 (w_penUint ex18 H:) ?_;rintro _ w a ⟨rfl,H⟩ F
 replace H:=H.nf 3 rfl
 refine nl (sq (sr (bk [1,1001] F H rfl ⟨fld27_1,rfl,plain9,trivial⟩ fun a F=>?_)))
 refine s_cvT (e:=5) (xs:=o.2.1) wkP F rfl rfl rfl Tryz.underlying9 Tryz.underlying25 Tryz.underlying5 rfl rfl H fun b19 c19 w a H F=>?_
 refine bk [2,2002] F H rfl ⟨fld27_2,rfl,plain9,trivial⟩ fun a F=>?_
 refine s_cvT (e:=5) (xs:=o.2.2.1) wkP F rfl rfl rfl Tryz.underlying9 Tryz.underlying25 Tryz.underlying5 rfl rfl H fun b20 c20 w a H F=>?_
 refine bk [5,3005] F H rfl ⟨fld27_5,rfl,plain25,trivial⟩ fun a F=>sv F rfl (y_build F rfl rfl (cs:=[.slice (some ⟨b19,0,none⟩) (o.2.1).length c19,.slice (some ⟨b20,0,none⟩) (o.2.2.1).length c20,.slice p3 (o.2.2.2.2.2).length c4]) (by kernel_rfl)) fun a F=>bb [0] F H rfl fun a F=>?_
 replace H:=H.nf 5 rfl
 refine nl (bl (x_unroll 4 ?_))
 refine x_un (n:=3) ?_
 refine sb [0] F H rfl fun a F=>?_
 replace F:=F.bool (k:=72) (u:=.bool true) rfl (by kernel_rfl)
 refine nl (sq (cT F rfl (sk (ct (sq (bl (sr (sv F rfl (y_idxV F arr162 plain25 rfl rfl rfl rfl rfl) fun a F=>bb [0] F H rfl fun a F=>nl (rl (bb [0,0] F H rfl fun a F=>?_))))))))))
 replace H:=H.cvFrz 1 rfl
 obtain ⟨x21,ex21,hm⟩:=ob hm
 refine sd F rfl ent20 (w_penText ex21 (H.pm 5 [2,0,0,1,3,4] rfl:):) ?_;rintro _ w a ⟨rfl,H⟩ F
 replace H:=H.nf 5 rfl
 refine lz (bn (ct (rl (bb [0] F H rfl fun a F=>?_))))
 replace F:=F.bool (k:=77) (u:=.int .i64 (1)) rfl (by kernel_rfl)
 refine bb [0] F H rfl fun a F=>lz (ct (x_un (n:=2) (sb [0] F H rfl fun a F=>?_)))
 replace F:=F.bool (k:=72) (u:=.bool true) rfl (by kernel_rfl)
 refine nl (sq (cT F rfl (sk (ct (sq (bl (sr (sv F rfl (y_idxV F arr162 plain25 rfl rfl rfl rfl rfl) fun a F=>bb [0] F H rfl fun a F=>nl (rl (bb [0,0] F H rfl fun a F=>?_))))))))))
 replace H:=H.cvFrz 2 rfl
 obtain ⟨x22,ex22,hm⟩:=ob hm
 refine sd F rfl ent20 (w_penText ex22 (H.pm 5 [1,0,0,2,3,4] rfl:):) ?_;rintro _ w a ⟨rfl,H⟩ F
 replace H:=H.nf 5 rfl
 refine lz (bn (ct (rl (bb [0] F H rfl fun a F=>?_))))
 replace F:=F.bool (k:=77) (u:=.int .i64 (2)) rfl (by kernel_rfl)
 refine bb [0] F H rfl fun a F=>lz (ct (x_un (n:=1) (sb [0] F H rfl fun a F=>?_)))
 replace F:=F.bool (k:=72) (u:=.bool true) rfl (by kernel_rfl)
 refine nl (sq (cT F rfl (sk (ct (sq (bl (sr (sv F rfl (y_idxV F arr162 plain25 rfl rfl rfl rfl rfl) fun a F=>bb [0] F H rfl fun a F=>nl (rl (bb [0,0] F H rfl fun a F=>?_))))))))))
 obtain ⟨x23,ex23,hm⟩:=ob hm
 refine sd F rfl ent20 (w_penText ex23 (H.pm 5 [0,4,1,2,3,4] rfl:):) ?_;rintro _ w a ⟨rfl,H⟩ F
 replace H:=H.nf 5 rfl
 refine lz (bn (ct (rl (bb [0] F H rfl fun a F=>?_))))
 replace F:=F.bool (k:=77) (u:=.int .i64 (3)) rfl (by kernel_rfl)
 refine bb [0] F H rfl fun a F=>lz (ct (x_un (n:=0) (sb [0] F H rfl fun a F=>?_)))
 replace F:=F.bool (k:=72) (u:=.bool false) rfl (by kernel_rfl)
 refine nl (sq (cF F rfl ?_))
 refine ex (cx (cx (ch (ct (sb [0] F H rfl fun a F=>?_)))))
 obtain ⟨x24,ex24,hm⟩:=ob hm
 refine sd F rfl ent21 (w_penData ex24 H:) ?_;rintro _ w a ⟨p25,c25,rfl,H⟩ F
 refine bb [0,0] F H rfl fun a F=>?_
 replace H:=H.nf 6 rfl
 refine nl (wr ?_)
 replace H:=H.frz 0 rfl
 cases hm
 refine x_ret2 F rfl rfl rfl ?_
 exact ⟨_,rfl,p25,c25,rfl,(H.pm 6 [0] rfl:)⟩
theorem fld143_0:FieldT Tryz.prog 143 0 0:=by unfold FieldT;rw [Tryz.underlying143];kernel_rfl
theorem plain84:Plain Tryz.prog 84:=by unfold Plain;rw [Tryz.underlying84];rfl
theorem w_rdNum {r_:T_pack_Eye_o} {size:Int} {bo0:Nat} {w0 w:World} {l:List HP}  {r:Int×T_pack_Eye_o} (hm:rdNum r_ size=some r) (H:St w0 w (O_pack_Eye bo0 r_::l)) :
  Calls Tryz.prog 59 [.agg ([.pointer (some ⟨bo0,0,none⟩)]).toArray,.int .i64 (size)].toArray w (fun e w'=>∃ v,e=.returned v∧v=.int .i64 (r.1)∧St w0 w' (O_pack_Eye bo0 r.2::l)):=by
 unfold rdNum at hm
 refine x_enter Tryz.func59 rfl rfl rfl ?_
 intro a F
 refine sr (s_boxA wkP F rfl rfl rfl rfl rfl H fun b1 w a H F=>bb [0] F H rfl fun a F=>?_)
 replace H:=H.nf 2 rfl
 refine nl (sr (bk [0,0,0] F H rfl ⟨fld143_0,rfl,plain84,trivial⟩ fun a F=>?_))
 obtain ⟨x2,ex2,hm⟩:=ob hm
 refine sd F rfl ent27 (w_eyeUint ex2 (H.pm 2 [1,0] rfl:):) ?_;rintro _ w a ⟨rfl,H⟩ F
 refine bb (List.replicate 5 0) F H rfl fun a F=>?_
 replace H:=H.nf 2 rfl
 refine nl (sr (bk [0,0,0] F H rfl ⟨Tryz.underlying22,Tryz.underlying3,trivial⟩ fun a F=>nl (wr ?_)))
 cases hm
 refine x_ret1 F rfl rfl ?_
 exact ⟨_,rfl,rfl,(H.pm 2 [0] rfl:)⟩
theorem w_rdText {r_:T_pack_Eye_o} {bo0:Nat} {w0 w:World} {l:List HP}  {r:(List UInt8)×T_pack_Eye_o} (hm:rdText r_=some r) (H:St w0 w (O_pack_Eye bo0 r_::l)) :
  Calls Tryz.prog 60 [.agg ([.pointer (some ⟨bo0,0,none⟩)]).toArray].toArray w (fun e w'=>∃ v,e=.returned v∧∃ (p1:Option Addr) (c1:Nat),v=.slice p1 (r.1).length c1∧St w0 w' (HP.ow rByte 5 p1 c1 r.1::O_pack_Eye bo0 r.2::l)):=by
 unfold rdText at hm
 refine x_enter Tryz.func60 rfl rfl rfl ?_
 intro a F
 refine sr (s_boxA wkP F rfl rfl rfl rfl rfl H fun b2 w a H F=>bb [0] F H rfl fun a F=>?_)
 replace H:=H.nf 2 rfl
 refine nl (sr (bk [0,0] F H rfl ⟨fld143_0,rfl,plain84,trivial⟩ fun a F=>?_))
 obtain ⟨x3,ex3,hm⟩:=ob hm
 refine sd F rfl ent29 (w_eyeText ex3 (H.pm 2 [1,0] rfl:):) ?_;rintro _ w a ⟨p4,c4,rfl,H⟩ F
 refine bb (List.replicate 5 0) F H rfl fun a F=>?_
 replace H:=H.nf 3 rfl
 refine nb [0,0] F H rfl fun a F=>nl (wr ?_)
 cases hm
 refine x_ret1 F rfl rfl ?_
 exact ⟨_,rfl,p4,c4,rfl,(H.pm 3 [0,1] rfl:)⟩
theorem w_m_oper_exactly {x0_:List UInt8} {x1_:List UInt8} {x2_:Int} {p1:Option Addr} {c1:Nat} {p2:Option Addr} {c2:Nat} {w0 w:World} {l:List HP}  {r:Bool} (hm:m_oper_exactly x0_ x1_ x2_=some r) (H:St w0 w (HP.sl rByte p1 c1 x0_::HP.sl rByte p2 c2 x1_::l)) :
  Calls Tryz.prog 61 [.slice p1 (x0_).length c1,.slice p2 (x1_).length c2,.int .i64 (x2_)].toArray w (fun e w'=>∃ v,e=.returned v∧v=.bool (r)∧St w0 w' (l)):=by
 unfold m_oper_exactly at hm
 refine x_enter Tryz.func61 rfl rfl rfl ?_
 intro a F
 refine sb [0] F H rfl fun a F=>nb [0,0,0] F H rfl fun a F=>?_
 rcases spP 9 F rfl hm with ⟨hg3,hm,F⟩ | ⟨hg3,hm,F⟩
 refine bb [0,0] F H rfl fun a F=>g_onP F rfl rfl rfl rfl ?_
 obtain ⟨x4,ex4,hm⟩:=ob hm
 refine sd F rfl ent31 (w_equalB ex4 (H.pm 2 [0,1,0,1] rfl:):) ?_;rintro _ w a ⟨rfl,H⟩ F
 refine bb [0,0] F H rfl fun a F=>?_
 replace H:=H.nf 2 rfl
 refine nl (wr ?_)
 cases hm
 refine x_ret1 F rfl rfl ?_
 exact ⟨_,rfl,rfl,(H.pm 2 [] rfl:)⟩
 refine bb (List.replicate 5 0) F H rfl fun a F=>nl (wr ?_)
 cases hm
 refine x_ret1 F rfl rfl ?_
 exact ⟨_,rfl,rfl,(H.pm 2 [] rfl:)⟩
theorem agz27:AggT Tryz.prog 27 6 ([.int .i64 (0),.string (txb ([])),.string (txb ([])),.int .i64 (0),.int .i64 (0),.slice none (([]:List UInt8)).length 0]):=⟨by rw [Tryz.underlying27];rfl,by kernel_rfl,by kernel_rfl⟩
theorem agz143:AggT Tryz.prog 143 1 ([.pointer none]):=⟨by rw [Tryz.underlying143];rfl,by kernel_rfl,by kernel_rfl⟩
theorem agg143:AggT Tryz.prog 143 1 [.pointer none]:=⟨by rw [Tryz.underlying143];rfl,by kernel_rfl,by kernel_rfl⟩
theorem ent59:En Tryz.prog 59:=enters Tryz.func59 (by kernel_rfl) rfl
theorem ent60:En Tryz.prog 60:=enters Tryz.func60 (by kernel_rfl) rfl
theorem ent42:En Tryz.prog 42:=enters Tryz.func42 (by kernel_rfl) rfl
theorem ent61:En Tryz.prog 61:=enters Tryz.func61 (by kernel_rfl) rfl
theorem w_oRead {b:List UInt8} {p1:Option Addr} {c1:Nat} {w0 w:World} {l:List HP}  {r:T_api_Op×Int} (hm:oRead b=some r) (H:St w0 w (HP.sl rByte p1 c1 b::l)) :
  Calls Tryz.prog 30 [.slice p1 (b).length c1].toArray w (fun e w'=>∃ v,e=.returned v∧∃ (cs2:List Value),v=.tuple [.agg cs2.toArray,.int .i64 (r.2)].toArray∧St w0 w' (HP.rc R_api_Op cs2 r.1::l)):=by
 unfold oRead at hm
 refine x_enter Tryz.func30 rfl rfl rfl ?_
 intro a F
 refine sr ?_
 replace H:=H.owNil rByte 5
 refine s_allocA wkP F rfl rfl rfl agz27 rfl H fun b3 w a H F=>bb [0] F H rfl fun a F=>?_
 replace H:=H.nf 3 rfl
 refine nb [0] F H rfl fun a F=>?_
 obtain ⟨x4,ex4,hm⟩:=ob hm
 refine sd F rfl ent26 (w_newEye ex4 (H.pm 3 [2,0,1,2] rfl:):) ?_;rintro _ w a ⟨b5,rfl,H⟩ F
 refine sv F rfl (y_build F rfl rfl (cs:=[.pointer (some ⟨b5,0,none⟩)]) (by kernel_rfl)) fun a F=>s_allocA wkP F rfl rfl rfl agz143 rfl H fun b6 w a H F=>s_storeA wkP F rfl rfl agg143 rfl rfl rfl H 0 rfl rfl rfl (fl rfl) fun w H=>?_
 replace H:=H.nf 5 rfl
 refine nl (sq ?_)
 refine xm3 5 [0,2,4] [0,2,3,4] F H hm rfl rfl (fun r20 (b21:Nat) (p22:Option Addr) (c22:Nat) z=>(5,.pointer (some ⟨b21,0,none⟩))::z) (fun r20 b21 p22 c22 z=>O_pack_Eye b5 r20.1::HP.blk b21 ([.int .i64 (r20.2.1),.string (txb ([])),.string (txb ([])),.int .i64 (r20.2.2.1),.int .i64 (r20.2.2.2.1),.slice p22 (r20.2.2.2.2).length c22]) 27::HP.ow rByte 5 p22 c22 r20.2.2.2.2::z) (fun r20 hm=>?_) (fun r20 a w hm b21 p22 c22 F H=>?_)
 refine mix_region [1,3,5,7,8] [8] (.step 0 0 (.step 0 2 (.step 0 4 (.fork 1 (.fork 3 (.fork 5 (.step 0 6 (.step 2 7 (.step 3 8 .done))) 7 (.step 2 5 (.step 0 6 (.step 3 8 .done)))) 7 (.step 2 3 (.step 2 5 (.step 0 6 (.step 3 8 .done))))) 7 (.step 2 1 (.step 2 3 (.step 2 5 (.step 0 6 (.step 3 8 .done))))))))) (fun u=>∃ ls,St w0 u (HP.blk b6 ([.pointer (some ⟨b5,0,none⟩)]) 143::ls)) (by kernel_rfl) (by kernel_rfl) ⟨_,H.drew⟩ ?_
 replace H:=H.drew
 generalize w.drew=w at H ⊢
 refine m_pure F rfl rfl rfl rfl (fun u hu=>y_loadA F agg143 rfl rfl ((hu.choose_spec.blk 0 rfl).row) rfl) fun a F=>?_
 refine m_pure F rfl rfl rfl rfl (fun u hu=>y_loadA F agg143 rfl rfl ((hu.choose_spec.blk 0 rfl).row) rfl) fun a F=>?_
 refine m_pure F rfl rfl rfl rfl (fun u hu=>y_loadA F agg143 rfl rfl ((hu.choose_spec.blk 0 rfl).row) rfl) fun a F=>?_
 refine m_fork rfl rfl rfl rfl ?_ ?_
 refine m_heavy rfl rfl ?_
 obtain ⟨x23,ex23,hm⟩:=ob hm
 refine sd F rfl ent59 (w_rdNum ex23 (H.pm 5 [1,0,2,3,4] rfl:):) ?_;rintro _ w a ⟨rfl,H⟩ F
 refine lz ?_;refine ct ⟨⟨_,(H.pm 5 [1,0,2,3,4] rfl:)⟩,?_⟩
 refine m_fork rfl rfl rfl rfl ?_ ?_
 refine m_heavy rfl rfl ?_
 obtain ⟨x24,ex24,hm⟩:=ob hm
 refine sd F rfl ent59 (w_rdNum ex24 H:) ?_;rintro _ w a ⟨rfl,H⟩ F
 refine lz ?_;refine ct ⟨⟨_,(H.pm 5 [1,0,2,3,4] rfl:)⟩,?_⟩
 refine m_fork rfl rfl rfl rfl ?_ ?_
 refine m_heavy rfl rfl ?_
 obtain ⟨x25,ex25,hm⟩:=ob hm
 refine sd F rfl ent59 (w_rdNum ex25 H:) ?_;rintro _ w a ⟨rfl,H⟩ F
 refine lz ?_;refine ct ⟨⟨_,(H.pm 5 [1,0,2,3,4] rfl:)⟩,?_⟩
 replace H:=H.owNil rByte 5
 refine m_pure F rfl rfl rfl rfl (fun u hu=>y_build F rfl rfl (cs:=[.int .i64 (x23.1),.string (txb ([])),.string (txb ([])),.int .i64 (x24.1),.int .i64 (x25.1),.slice none (([]:List UInt8)).length 0]) (by kernel_rfl)) fun a F=>?_
 refine m_heavy rfl rfl ?_
 replace H:=H.owNil rByte 5
 refine s_allocA wkP F rfl rfl rfl agz27 rfl H fun b26 w a H F=>?_
 refine lz ?_;refine ct ⟨⟨_,(H.pm 8 [4,0,1,2,3,5,6,7] rfl:)⟩,?_⟩
 refine m_last rfl rfl (s_storeA wkP F rfl rfl agg27 rfl rfl rfl H 0 rfl rfl rfl (fl rfl) fun w H=>?_)
 refine lz ?_;refine ct ?_
 refine m_nil ?_
 cases hm
 refine ct ?_
 exact ⟨b26,none,0,F.sl rfl,(H.pm 8 [3,0,2,4,5,6,7] rfl:)⟩
 refine m_heavy rfl rfl ?_
 replace H:=H.owNil rByte 5
 refine s_allocA wkP F rfl rfl rfl agz27 rfl H fun b27 w a H F=>?_
 refine lz ?_;refine ct ⟨⟨_,(H.pm 7 [3,0,1,2,4,5,6] rfl:)⟩,?_⟩
 refine m_heavy rfl rfl ?_
 obtain ⟨x28,ex28,hm⟩:=ob hm
 refine sd F rfl ent59 (w_rdNum ex28 (H.pm 7 [2,0,1,3,4,5,6] rfl:):) ?_;rintro _ w a ⟨rfl,H⟩ F
 refine lz ?_;refine ct ⟨⟨_,(H.pm 7 [3,0,1,2,4,5,6] rfl:)⟩,?_⟩
 replace H:=H.owNil rByte 5
 refine m_pure F rfl rfl rfl rfl (fun u hu=>y_build F rfl rfl (cs:=[.int .i64 (x23.1),.string (txb ([])),.string (txb ([])),.int .i64 (x24.1),.int .i64 (x28.1),.slice none (([]:List UInt8)).length 0]) (by kernel_rfl)) fun a F=>?_
 refine m_last rfl rfl (s_storeA wkP F rfl rfl agg27 rfl rfl rfl H 2 rfl rfl rfl (fl rfl) fun w H=>?_)
 refine lz ?_;refine ct ?_
 refine m_nil ?_
 cases hm
 refine ct ?_
 exact ⟨b27,none,0,F.sl rfl,(H.pm 8 [1,2,0,4,5,6,7] rfl:)⟩
 refine m_heavy rfl rfl ?_
 replace H:=H.owNil rByte 5
 refine s_allocA wkP F rfl rfl rfl agz27 rfl H fun b29 w a H F=>?_
 refine lz ?_;refine ct ⟨⟨_,(H.pm 7 [3,0,1,2,4,5,6] rfl:)⟩,?_⟩
 refine m_heavy rfl rfl ?_
 obtain ⟨x30,ex30,hm⟩:=ob hm
 refine sd F rfl ent59 (w_rdNum ex30 (H.pm 7 [2,0,1,3,4,5,6] rfl:):) ?_;rintro _ w a ⟨rfl,H⟩ F
 refine lz ?_;refine ct ⟨⟨_,(H.pm 7 [3,0,1,2,4,5,6] rfl:)⟩,?_⟩
 refine m_heavy rfl rfl ?_
 obtain ⟨x31,ex31,hm⟩:=ob hm
 refine sd F rfl ent59 (w_rdNum ex31 H:) ?_;rintro _ w a ⟨rfl,H⟩ F
 refine lz ?_;refine ct ⟨⟨_,(H.pm 7 [3,0,1,2,4,5,6] rfl:)⟩,?_⟩
 replace H:=H.owNil rByte 5
 refine m_pure F rfl rfl rfl rfl (fun u hu=>y_build F rfl rfl (cs:=[.int .i64 (x23.1),.string (txb ([])),.string (txb ([])),.int .i64 (x30.1),.int .i64 (x31.1),.slice none (([]:List UInt8)).length 0]) (by kernel_rfl)) fun a F=>?_
 refine m_last rfl rfl (s_storeA wkP F rfl rfl agg27 rfl rfl rfl H 2 rfl rfl rfl (fl rfl) fun w H=>?_)
 refine lz ?_;refine ct ?_
 refine m_nil ?_
 cases hm
 refine ct ?_
 exact ⟨b29,none,0,F.sl rfl,(H.pm 8 [1,2,0,4,5,6,7] rfl:)⟩
 refine m_heavy rfl rfl ?_
 replace H:=H.owNil rByte 5
 refine s_allocA wkP F rfl rfl rfl agz27 rfl H fun b32 w a H F=>?_
 refine lz ?_;refine ct ⟨⟨_,(H.pm 7 [2,0,1,3,4,5,6] rfl:)⟩,?_⟩
 refine m_heavy rfl rfl ?_
 obtain ⟨x33,ex33,hm⟩:=ob hm
 refine sd F rfl ent59 (w_rdNum ex33 (H.pm 7 [3,0,1,2,4,5,6] rfl:):) ?_;rintro _ w a ⟨rfl,H⟩ F
 refine lz ?_;refine ct ⟨⟨_,(H.pm 7 [3,0,1,2,4,5,6] rfl:)⟩,?_⟩
 refine m_heavy rfl rfl ?_
 obtain ⟨x34,ex34,hm⟩:=ob hm
 refine sd F rfl ent59 (w_rdNum ex34 H:) ?_;rintro _ w a ⟨rfl,H⟩ F
 refine lz ?_;refine ct ⟨⟨_,(H.pm 7 [3,0,1,2,4,5,6] rfl:)⟩,?_⟩
 refine m_heavy rfl rfl ?_
 obtain ⟨x35,ex35,hm⟩:=ob hm
 refine sd F rfl ent59 (w_rdNum ex35 H:) ?_;rintro _ w a ⟨rfl,H⟩ F
 refine lz ?_;refine ct ⟨⟨_,(H.pm 7 [3,0,1,2,4,5,6] rfl:)⟩,?_⟩
 replace H:=H.owNil rByte 5
 refine m_pure F rfl rfl rfl rfl (fun u hu=>y_build F rfl rfl (cs:=[.int .i64 (x33.1),.string (txb ([])),.string (txb ([])),.int .i64 (x34.1),.int .i64 (x35.1),.slice none (([]:List UInt8)).length 0]) (by kernel_rfl)) fun a F=>?_
 refine m_last rfl rfl (s_storeA wkP F rfl rfl agg27 rfl rfl rfl H 2 rfl rfl rfl (fl rfl) fun w H=>?_)
 refine lz ?_;refine ct ?_
 refine m_nil ?_
 cases hm
 refine ct ?_
 exact ⟨b32,none,0,F.sl rfl,(H.pm 8 [1,2,0,4,5,6,7] rfl:)⟩
 refine ct (sq ?_)
 refine xm2 7 [0,2,5] [3,4,5,6] F H hm rfl rfl (fun r56 (p57:Option Addr) (c57:Nat) z=>z) (fun r56 p57 c57 z=>O_pack_Eye b5 r56.1::HP.blk b21 ([.int .i64 (r20.2.1),.string (txb (r56.2.1)),.string (txb (r56.2.2.1)),.int .i64 (r20.2.2.1),.int .i64 (r20.2.2.2.1),.slice p57 (r56.2.2.2).length c57]) 27::HP.ow rByte 5 p57 c57 r56.2.2.2::z) (fun r56 hm=>?_) (fun r56 a w hm p57 c57 F H=>?_)
 refine mix_region [1,2,4,5,7,9,11,13] [13] (.step 1 0 (.step 0 3 (.step 0 6 (.step 2 1 (.fork 2 (.step 0 8 (.step 2 4 (.fork 5 (.step 2 7 (.step 2 9 (.step 0 10 (.step 2 11 (.step 0 12 (.step 3 13 .done)))))) 7 (.fork 5 (.step 2 9 (.step 0 10 (.step 2 11 (.step 0 12 (.step 3 13 .done))))) 9 (.step 2 5 (.step 0 10 (.step 2 11 (.step 0 12 (.step 3 13 .done))))))))) 4 (.fork3 2 (.step 0 8 (.fork 5 (.step 2 7 (.step 2 9 (.step 0 10 (.step 2 11 (.step 0 12 (.step 3 13 .done)))))) 7 (.fork 5 (.step 2 9 (.step 0 10 (.step 2 11 (.step 0 12 (.step 3 13 .done))))) 9 (.step 2 5 (.step 0 10 (.step 2 11 (.step 0 12 (.step 3 13 .done)))))))) 5 (.fork 2 (.step 0 8 (.step 2 7 (.step 2 9 (.step 0 10 (.step 2 11 (.step 0 12 (.step 3 13 .done))))))) 7 (.step 2 2 (.step 0 8 (.step 2 9 (.step 0 10 (.step 2 11 (.step 0 12 (.step 3 13 .done)))))))) 7 (.fork 2 (.step 0 8 (.fork 5 (.step 2 9 (.step 0 10 (.step 2 11 (.step 0 12 (.step 3 13 .done))))) 9 (.step 2 5 (.step 0 10 (.step 2 11 (.step 0 12 (.step 3 13 .done))))))) 5 (.step 2 2 (.step 0 8 (.step 2 9 (.step 0 10 (.step 2 11 (.step 0 12 (.step 3 13 .done)))))))))))))) (fun u=>∃ ls,St w0 u (HP.blk b6 ([.pointer (some ⟨b5,0,none⟩)]) 143::ls)) (by kernel_rfl) (by kernel_rfl) ⟨_,(H.drew.pm 7 [3,0,1,2,4,5,6] rfl:)⟩ ?_
 replace H:=H.drew
 generalize w.drew=w at H ⊢
 refine mbk [3999] F H rfl ⟨rfl,(aggn agg143 rfl),trivial⟩ fun a F=>?_
 refine m_pure F rfl rfl rfl rfl (fun u hu=>y_loadA F agg143 rfl rfl ((hu.choose_spec.blk 0 rfl).row) rfl) fun a F=>?_
 refine m_pure F rfl rfl rfl rfl (fun u hu=>y_loadA F agg143 rfl rfl ((hu.choose_spec.blk 0 rfl).row) rfl) fun a F=>?_
 refine m_heavy rfl rfl ?_
 obtain ⟨x58,ex58,hm⟩:=ob hm
 refine sd F rfl ent60 (w_rdText ex58 H:) ?_;rintro _ w a ⟨p59,c59,rfl,H⟩ F
 refine lz ?_;refine ct ⟨⟨_,(H.pm 8 [4,0,1,2,3,5,6,7] rfl:)⟩,?_⟩
 refine m_fork rfl rfl rfl rfl ?_ ?_
 refine m_heavy rfl rfl ?_
 replace H:=H.frz 0 rfl
 refine sv F rfl (y_b2s F Tryz.underlying25 Tryz.underlying9 Tryz.underlying5 rfl rfl (H) 0 rfl) fun a F=>?_
 refine lz ?_;refine ct ⟨⟨_,(H.pm 8 [4,0,1,2,3,5,6,7] rfl:)⟩,?_⟩
 refine mbk [1] F H rfl ⟨fld27_1,trivial⟩ fun a F=>m_heavy rfl rfl ?_
 obtain ⟨x60,ex60,hm⟩:=ob hm
 refine sd F rfl ent60 (w_rdText ex60 (H.pm 8 [1,0,2,3,4,5,6,7] rfl:):) ?_;rintro _ w a ⟨p61,c61,rfl,H⟩ F
 refine lz ?_;refine ct ⟨⟨_,(H.pm 9 [5,0,1,2,3,4,6,7,8] rfl:)⟩,?_⟩
 refine m_fork rfl rfl rfl rfl ?_ ?_
 refine m_heavy rfl rfl ?_
 replace H:=H.frz 0 rfl
 refine sv F rfl (y_b2s F Tryz.underlying25 Tryz.underlying9 Tryz.underlying5 rfl rfl (H) 0 rfl) fun a F=>?_
 refine lz ?_;refine ct ⟨⟨_,(H.pm 9 [5,0,1,2,3,4,6,7,8] rfl:)⟩,?_⟩
 refine m_heavy rfl rfl ?_
 obtain ⟨x62,ex62,hm⟩:=ob hm
 refine sd F rfl ent60 (w_rdText ex62 (H.pm 9 [1,0,2,3,4,5,6,7,8] rfl:):) ?_;rintro _ w a ⟨p63,c63,rfl,H⟩ F
 refine lz ?_;refine ct ⟨⟨_,(H.pm 10 [6,0,1,2,3,4,5,7,8,9] rfl:)⟩,?_⟩
 refine m_heavy rfl rfl (s_st1 wkP F rfl rfl zero9 rfl rfl rfl rfl rfl H 4 rfl rfl fun w H=>?_)
 refine lz ?_;refine ct ⟨⟨_,(H.pm 10 [6,0,1,2,3,4,5,7,8,9] rfl:)⟩,?_⟩
 refine mbk [2] F H rfl ⟨fld27_2,trivial⟩ fun a F=>m_heavy rfl rfl (s_st1 wkP F rfl rfl zero9 rfl rfl rfl rfl rfl H 4 rfl rfl fun w H=>?_)
 refine lz ?_;refine ct ⟨⟨_,(H.pm 10 [6,0,1,2,3,4,5,7,8,9] rfl:)⟩,?_⟩
 refine mbk [5] F H rfl ⟨fld27_5,trivial⟩ fun a F=>m_last rfl rfl (s_st1 wkP F rfl rfl zero25 rfl rfl rfl rfl rfl H 4 rfl rfl fun w H=>?_)
 refine lz ?_;refine ct ?_
 refine m_nil ?_
 cases hm
 refine ct ?_
 exact ⟨p63,c63,F.sl rfl,(H.pm 10 [1,4,0,6,7,8,9] rfl:)⟩
 refine m_heavy rfl rfl ?_
 obtain ⟨x64,ex64,hm⟩:=ob hm
 refine sd F rfl ent60 (w_rdText ex64 (H.pm 9 [1,0,2,3,4,5,6,7,8] rfl:):) ?_;rintro _ w a ⟨p65,c65,rfl,H⟩ F
 refine lz ?_;refine ct ⟨⟨_,(H.pm 10 [6,0,1,2,3,4,5,7,8,9] rfl:)⟩,?_⟩
 refine m_fork rfl rfl rfl rfl ?_ ?_
 refine m_heavy rfl rfl ?_
 replace H:=H.frz 2 rfl
 refine sv F rfl (y_b2s F Tryz.underlying25 Tryz.underlying9 Tryz.underlying5 rfl rfl (H) 0 rfl) fun a F=>?_
 refine lz ?_;refine ct ⟨⟨_,(H.pm 10 [6,0,1,2,3,4,5,7,8,9] rfl:)⟩,?_⟩
 refine m_heavy rfl rfl (s_st1 wkP F rfl rfl zero9 rfl rfl rfl rfl rfl H 4 rfl rfl fun w H=>?_)
 refine lz ?_;refine ct ⟨⟨_,(H.pm 10 [6,0,1,2,3,4,5,7,8,9] rfl:)⟩,?_⟩
 refine mbk [2] F H rfl ⟨fld27_2,trivial⟩ fun a F=>m_heavy rfl rfl (s_st1 wkP F rfl rfl zero9 rfl rfl rfl rfl rfl H 4 rfl rfl fun w H=>?_)
 refine lz ?_;refine ct ⟨⟨_,(H.pm 10 [6,0,1,2,3,4,5,7,8,9] rfl:)⟩,?_⟩
 refine mbk [5] F H rfl ⟨fld27_5,trivial⟩ fun a F=>m_last rfl rfl (s_st1 wkP F rfl rfl zero25 rfl rfl rfl rfl rfl H 4 rfl rfl fun w H=>?_)
 refine lz ?_;refine ct ?_
 refine m_nil ?_
 cases hm
 refine ct ?_
 exact ⟨p65,c65,F.sl rfl,(H.pm 10 [2,4,1,6,7,8,9] rfl:)⟩
 refine m_heavy rfl rfl (s_st1 wkP F rfl rfl zero9 rfl rfl rfl rfl rfl H 4 rfl rfl fun w H=>?_)
 refine lz ?_;refine ct ⟨⟨_,(H.pm 10 [6,0,1,2,3,4,5,7,8,9] rfl:)⟩,?_⟩
 refine m_heavy rfl rfl ?_
 replace H:=H.frz 2 rfl
 refine sv F rfl (y_b2s F Tryz.underlying25 Tryz.underlying9 Tryz.underlying5 rfl rfl (H) 0 rfl) fun a F=>?_
 refine lz ?_;refine ct ⟨⟨_,(H.pm 10 [6,0,1,2,3,4,5,7,8,9] rfl:)⟩,?_⟩
 refine mbk [2] F H rfl ⟨fld27_2,trivial⟩ fun a F=>m_heavy rfl rfl (s_st1 wkP F rfl rfl zero9 rfl rfl rfl rfl rfl H 4 rfl rfl fun w H=>?_)
 refine lz ?_;refine ct ⟨⟨_,(H.pm 10 [6,0,1,2,3,4,5,7,8,9] rfl:)⟩,?_⟩
 refine mbk [5] F H rfl ⟨fld27_5,trivial⟩ fun a F=>m_last rfl rfl (s_st1 wkP F rfl rfl zero25 rfl rfl rfl rfl rfl H 4 rfl rfl fun w H=>?_)
 refine lz ?_;refine ct ?_
 refine m_nil ?_
 cases hm
 refine ct ?_
 exact ⟨p65,c65,F.sl rfl,(H.pm 10 [2,4,1,6,7,8,9] rfl:)⟩
 refine m_heavy rfl rfl ?_
 obtain ⟨x66,ex66,hm⟩:=ob hm
 refine sd F rfl ent60 (w_rdText ex66 (H.pm 8 [1,0,2,3,4,5,6,7] rfl:):) ?_;rintro _ w a ⟨p67,c67,rfl,H⟩ F
 refine lz ?_;refine ct ⟨⟨_,(H.pm 9 [5,0,1,2,3,4,6,7,8] rfl:)⟩,?_⟩
 refine m_fork3 rfl rfl rfl rfl rfl rfl ?_ ?_ ?_
 refine m_heavy rfl rfl ?_
 replace H:=H.frz 2 rfl
 refine sv F rfl (y_b2s F Tryz.underlying25 Tryz.underlying9 Tryz.underlying5 rfl rfl (H) 0 rfl) fun a F=>?_
 refine lz ?_;refine ct ⟨⟨_,(H.pm 9 [5,0,1,2,3,4,6,7,8] rfl:)⟩,?_⟩
 refine mbk [1] F H rfl ⟨fld27_1,trivial⟩ fun a F=>?_
 refine m_fork rfl rfl rfl rfl ?_ ?_
 refine m_heavy rfl rfl ?_
 replace H:=H.frz 1 rfl
 refine sv F rfl (y_b2s F Tryz.underlying25 Tryz.underlying9 Tryz.underlying5 rfl rfl (H) 0 rfl) fun a F=>?_
 refine lz ?_;refine ct ⟨⟨_,(H.pm 9 [5,0,1,2,3,4,6,7,8] rfl:)⟩,?_⟩
 refine m_heavy rfl rfl ?_
 obtain ⟨x68,ex68,hm⟩:=ob hm
 refine sd F rfl ent60 (w_rdText ex68 (H.pm 9 [2,0,1,3,4,5,6,7,8] rfl:):) ?_;rintro _ w a ⟨p69,c69,rfl,H⟩ F
 refine lz ?_;refine ct ⟨⟨_,(H.pm 10 [6,0,1,2,3,4,5,7,8,9] rfl:)⟩,?_⟩
 refine m_heavy rfl rfl (s_st1 wkP F rfl rfl zero9 rfl rfl rfl rfl rfl H 4 rfl rfl fun w H=>?_)
 refine lz ?_;refine ct ⟨⟨_,(H.pm 10 [6,0,1,2,3,4,5,7,8,9] rfl:)⟩,?_⟩
 refine mbk [2] F H rfl ⟨fld27_2,trivial⟩ fun a F=>m_heavy rfl rfl (s_st1 wkP F rfl rfl zero9 rfl rfl rfl rfl rfl H 4 rfl rfl fun w H=>?_)
 refine lz ?_;refine ct ⟨⟨_,(H.pm 10 [6,0,1,2,3,4,5,7,8,9] rfl:)⟩,?_⟩
 refine mbk [5] F H rfl ⟨fld27_5,trivial⟩ fun a F=>m_last rfl rfl (s_st1 wkP F rfl rfl zero25 rfl rfl rfl rfl rfl H 4 rfl rfl fun w H=>?_)
 refine lz ?_;refine ct ?_
 refine m_nil ?_
 cases hm
 refine ct ?_
 exact ⟨p69,c69,F.sl rfl,(H.pm 10 [1,4,0,6,7,8,9] rfl:)⟩
 refine m_heavy rfl rfl ?_
 obtain ⟨x70,ex70,hm⟩:=ob hm
 refine sd F rfl ent60 (w_rdText ex70 (H.pm 9 [2,0,1,3,4,5,6,7,8] rfl:):) ?_;rintro _ w a ⟨p71,c71,rfl,H⟩ F
 refine lz ?_;refine ct ⟨⟨_,(H.pm 10 [6,0,1,2,3,4,5,7,8,9] rfl:)⟩,?_⟩
 refine m_fork rfl rfl rfl rfl ?_ ?_
 refine m_heavy rfl rfl ?_
 replace H:=H.frz 3 rfl
 refine sv F rfl (y_b2s F Tryz.underlying25 Tryz.underlying9 Tryz.underlying5 rfl rfl (H) 0 rfl) fun a F=>?_
 refine lz ?_;refine ct ⟨⟨_,(H.pm 10 [6,0,1,2,3,4,5,7,8,9] rfl:)⟩,?_⟩
 refine m_heavy rfl rfl (s_st1 wkP F rfl rfl zero9 rfl rfl rfl rfl rfl H 4 rfl rfl fun w H=>?_)
 refine lz ?_;refine ct ⟨⟨_,(H.pm 10 [6,0,1,2,3,4,5,7,8,9] rfl:)⟩,?_⟩
 refine mbk [2] F H rfl ⟨fld27_2,trivial⟩ fun a F=>m_heavy rfl rfl (s_st1 wkP F rfl rfl zero9 rfl rfl rfl rfl rfl H 4 rfl rfl fun w H=>?_)
 refine lz ?_;refine ct ⟨⟨_,(H.pm 10 [6,0,1,2,3,4,5,7,8,9] rfl:)⟩,?_⟩
 refine mbk [5] F H rfl ⟨fld27_5,trivial⟩ fun a F=>m_last rfl rfl (s_st1 wkP F rfl rfl zero25 rfl rfl rfl rfl rfl H 4 rfl rfl fun w H=>?_)
 refine lz ?_;refine ct ?_
 refine m_nil ?_
 cases hm
 refine ct ?_
 exact ⟨p71,c71,F.sl rfl,(H.pm 10 [2,4,1,6,7,8,9] rfl:)⟩
 refine m_heavy rfl rfl (s_st1 wkP F rfl rfl zero9 rfl rfl rfl rfl rfl H 4 rfl rfl fun w H=>?_)
 refine lz ?_;refine ct ⟨⟨_,(H.pm 10 [6,0,1,2,3,4,5,7,8,9] rfl:)⟩,?_⟩
 refine m_heavy rfl rfl ?_
 replace H:=H.frz 3 rfl
 refine sv F rfl (y_b2s F Tryz.underlying25 Tryz.underlying9 Tryz.underlying5 rfl rfl (H) 0 rfl) fun a F=>?_
 refine lz ?_;refine ct ⟨⟨_,(H.pm 10 [6,0,1,2,3,4,5,7,8,9] rfl:)⟩,?_⟩
 refine mbk [2] F H rfl ⟨fld27_2,trivial⟩ fun a F=>m_heavy rfl rfl (s_st1 wkP F rfl rfl zero9 rfl rfl rfl rfl rfl H 4 rfl rfl fun w H=>?_)
 refine lz ?_;refine ct ⟨⟨_,(H.pm 10 [6,0,1,2,3,4,5,7,8,9] rfl:)⟩,?_⟩
 refine mbk [5] F H rfl ⟨fld27_5,trivial⟩ fun a F=>m_last rfl rfl (s_st1 wkP F rfl rfl zero25 rfl rfl rfl rfl rfl H 4 rfl rfl fun w H=>?_)
 refine lz ?_;refine ct ?_
 refine m_nil ?_
 cases hm
 refine ct ?_
 exact ⟨p71,c71,F.sl rfl,(H.pm 10 [2,4,1,6,7,8,9] rfl:)⟩
 refine m_heavy rfl rfl ?_
 replace H:=H.frz 0 rfl
 refine sv F rfl (y_b2s F Tryz.underlying25 Tryz.underlying9 Tryz.underlying5 rfl rfl (H) 0 rfl) fun a F=>?_
 refine lz ?_;refine ct ⟨⟨_,(H.pm 9 [5,0,1,2,3,4,6,7,8] rfl:)⟩,?_⟩
 refine m_fork rfl rfl rfl rfl ?_ ?_
 refine m_heavy rfl rfl ?_
 replace H:=H.frz 2 rfl
 refine sv F rfl (y_b2s F Tryz.underlying25 Tryz.underlying9 Tryz.underlying5 rfl rfl (H) 0 rfl) fun a F=>?_
 refine lz ?_;refine ct ⟨⟨_,(H.pm 9 [5,0,1,2,3,4,6,7,8] rfl:)⟩,?_⟩
 refine mbk [1] F H rfl ⟨fld27_1,trivial⟩ fun a F=>m_heavy rfl rfl ?_
 obtain ⟨x72,ex72,hm⟩:=ob hm
 refine sd F rfl ent60 (w_rdText ex72 (H.pm 9 [2,0,1,3,4,5,6,7,8] rfl:):) ?_;rintro _ w a ⟨p73,c73,rfl,H⟩ F
 refine lz ?_;refine ct ⟨⟨_,(H.pm 10 [6,0,1,2,3,4,5,7,8,9] rfl:)⟩,?_⟩
 refine m_heavy rfl rfl (s_st1 wkP F rfl rfl zero9 rfl rfl rfl rfl rfl H 4 rfl rfl fun w H=>?_)
 refine lz ?_;refine ct ⟨⟨_,(H.pm 10 [6,0,1,2,3,4,5,7,8,9] rfl:)⟩,?_⟩
 refine mbk [2] F H rfl ⟨fld27_2,trivial⟩ fun a F=>m_heavy rfl rfl (s_st1 wkP F rfl rfl zero9 rfl rfl rfl rfl rfl H 4 rfl rfl fun w H=>?_)
 refine lz ?_;refine ct ⟨⟨_,(H.pm 10 [6,0,1,2,3,4,5,7,8,9] rfl:)⟩,?_⟩
 refine mbk [5] F H rfl ⟨fld27_5,trivial⟩ fun a F=>m_last rfl rfl (s_st1 wkP F rfl rfl zero25 rfl rfl rfl rfl rfl H 4 rfl rfl fun w H=>?_)
 refine lz ?_;refine ct ?_
 refine m_nil ?_
 cases hm
 refine ct ?_
 exact ⟨p73,c73,F.sl rfl,(H.pm 10 [1,4,0,6,7,8,9] rfl:)⟩
 refine m_heavy rfl rfl ?_
 obtain ⟨x74,ex74,hm⟩:=ob hm
 refine sd F rfl ent60 (w_rdText ex74 (H.pm 9 [1,0,2,3,4,5,6,7,8] rfl:):) ?_;rintro _ w a ⟨p75,c75,rfl,H⟩ F
 refine lz ?_;refine ct ⟨⟨_,(H.pm 10 [6,0,1,2,3,4,5,7,8,9] rfl:)⟩,?_⟩
 refine m_heavy rfl rfl ?_
 replace H:=H.frz 3 rfl
 refine sv F rfl (y_b2s F Tryz.underlying25 Tryz.underlying9 Tryz.underlying5 rfl rfl (H) 0 rfl) fun a F=>?_
 refine lz ?_;refine ct ⟨⟨_,(H.pm 10 [6,0,1,2,3,4,5,7,8,9] rfl:)⟩,?_⟩
 refine mbk [1] F H rfl ⟨fld27_1,trivial⟩ fun a F=>m_heavy rfl rfl (s_st1 wkP F rfl rfl zero9 rfl rfl rfl rfl rfl H 4 rfl rfl fun w H=>?_)
 refine lz ?_;refine ct ⟨⟨_,(H.pm 10 [6,0,1,2,3,4,5,7,8,9] rfl:)⟩,?_⟩
 refine mbk [2] F H rfl ⟨fld27_2,trivial⟩ fun a F=>m_heavy rfl rfl (s_st1 wkP F rfl rfl zero9 rfl rfl rfl rfl rfl H 4 rfl rfl fun w H=>?_)
 refine lz ?_;refine ct ⟨⟨_,(H.pm 10 [6,0,1,2,3,4,5,7,8,9] rfl:)⟩,?_⟩
 refine mbk [5] F H rfl ⟨fld27_5,trivial⟩ fun a F=>m_last rfl rfl (s_st1 wkP F rfl rfl zero25 rfl rfl rfl rfl rfl H 4 rfl rfl fun w H=>?_)
 refine lz ?_;refine ct ?_
 refine m_nil ?_
 cases hm
 refine ct ?_
 exact ⟨p75,c75,F.sl rfl,(H.pm 10 [2,4,1,6,7,8,9] rfl:)⟩
 refine m_heavy rfl rfl ?_
 obtain ⟨x76,ex76,hm⟩:=ob hm
 refine sd F rfl ent60 (w_rdText ex76 (H.pm 9 [1,0,2,3,4,5,6,7,8] rfl:):) ?_;rintro _ w a ⟨p77,c77,rfl,H⟩ F
 refine lz ?_;refine ct ⟨⟨_,(H.pm 10 [6,0,1,2,3,4,5,7,8,9] rfl:)⟩,?_⟩
 refine m_fork rfl rfl rfl rfl ?_ ?_
 refine m_heavy rfl rfl ?_
 replace H:=H.frz 3 rfl
 refine sv F rfl (y_b2s F Tryz.underlying25 Tryz.underlying9 Tryz.underlying5 rfl rfl (H) 0 rfl) fun a F=>?_
 refine lz ?_;refine ct ⟨⟨_,(H.pm 10 [6,0,1,2,3,4,5,7,8,9] rfl:)⟩,?_⟩
 refine mbk [1] F H rfl ⟨fld27_1,trivial⟩ fun a F=>?_
 refine m_fork rfl rfl rfl rfl ?_ ?_
 refine m_heavy rfl rfl ?_
 replace H:=H.frz 3 rfl
 refine sv F rfl (y_b2s F Tryz.underlying25 Tryz.underlying9 Tryz.underlying5 rfl rfl (H) 0 rfl) fun a F=>?_
 refine lz ?_;refine ct ⟨⟨_,(H.pm 10 [6,0,1,2,3,4,5,7,8,9] rfl:)⟩,?_⟩
 refine m_heavy rfl rfl (s_st1 wkP F rfl rfl zero9 rfl rfl rfl rfl rfl H 4 rfl rfl fun w H=>?_)
 refine lz ?_;refine ct ⟨⟨_,(H.pm 10 [6,0,1,2,3,4,5,7,8,9] rfl:)⟩,?_⟩
 refine mbk [2] F H rfl ⟨fld27_2,trivial⟩ fun a F=>m_heavy rfl rfl (s_st1 wkP F rfl rfl zero9 rfl rfl rfl rfl rfl H 4 rfl rfl fun w H=>?_)
 refine lz ?_;refine ct ⟨⟨_,(H.pm 10 [6,0,1,2,3,4,5,7,8,9] rfl:)⟩,?_⟩
 refine mbk [5] F H rfl ⟨fld27_5,trivial⟩ fun a F=>m_last rfl rfl (s_st1 wkP F rfl rfl zero25 rfl rfl rfl rfl rfl H 4 rfl rfl fun w H=>?_)
 refine lz ?_;refine ct ?_
 refine m_nil ?_
 cases hm
 refine ct ?_
 exact ⟨p77,c77,F.sl rfl,(H.pm 10 [3,4,2,6,7,8,9] rfl:)⟩
 refine m_heavy rfl rfl (s_st1 wkP F rfl rfl zero9 rfl rfl rfl rfl rfl H 4 rfl rfl fun w H=>?_)
 refine lz ?_;refine ct ⟨⟨_,(H.pm 10 [6,0,1,2,3,4,5,7,8,9] rfl:)⟩,?_⟩
 refine m_heavy rfl rfl ?_
 replace H:=H.frz 3 rfl
 refine sv F rfl (y_b2s F Tryz.underlying25 Tryz.underlying9 Tryz.underlying5 rfl rfl (H) 0 rfl) fun a F=>?_
 refine lz ?_;refine ct ⟨⟨_,(H.pm 10 [6,0,1,2,3,4,5,7,8,9] rfl:)⟩,?_⟩
 refine mbk [2] F H rfl ⟨fld27_2,trivial⟩ fun a F=>m_heavy rfl rfl (s_st1 wkP F rfl rfl zero9 rfl rfl rfl rfl rfl H 4 rfl rfl fun w H=>?_)
 refine lz ?_;refine ct ⟨⟨_,(H.pm 10 [6,0,1,2,3,4,5,7,8,9] rfl:)⟩,?_⟩
 refine mbk [5] F H rfl ⟨fld27_5,trivial⟩ fun a F=>m_last rfl rfl (s_st1 wkP F rfl rfl zero25 rfl rfl rfl rfl rfl H 4 rfl rfl fun w H=>?_)
 refine lz ?_;refine ct ?_
 refine m_nil ?_
 cases hm
 refine ct ?_
 exact ⟨p77,c77,F.sl rfl,(H.pm 10 [3,4,2,6,7,8,9] rfl:)⟩
 refine m_heavy rfl rfl ?_
 replace H:=H.frz 2 rfl
 refine sv F rfl (y_b2s F Tryz.underlying25 Tryz.underlying9 Tryz.underlying5 rfl rfl (H) 0 rfl) fun a F=>?_
 refine lz ?_;refine ct ⟨⟨_,(H.pm 10 [6,0,1,2,3,4,5,7,8,9] rfl:)⟩,?_⟩
 refine m_heavy rfl rfl ?_
 replace H:=H.frz 3 rfl
 refine sv F rfl (y_b2s F Tryz.underlying25 Tryz.underlying9 Tryz.underlying5 rfl rfl (H) 0 rfl) fun a F=>?_
 refine lz ?_;refine ct ⟨⟨_,(H.pm 10 [6,0,1,2,3,4,5,7,8,9] rfl:)⟩,?_⟩
 refine mbk [1] F H rfl ⟨fld27_1,trivial⟩ fun a F=>m_heavy rfl rfl (s_st1 wkP F rfl rfl zero9 rfl rfl rfl rfl rfl H 4 rfl rfl fun w H=>?_)
 refine lz ?_;refine ct ⟨⟨_,(H.pm 10 [6,0,1,2,3,4,5,7,8,9] rfl:)⟩,?_⟩
 refine mbk [2] F H rfl ⟨fld27_2,trivial⟩ fun a F=>m_heavy rfl rfl (s_st1 wkP F rfl rfl zero9 rfl rfl rfl rfl rfl H 4 rfl rfl fun w H=>?_)
 refine lz ?_;refine ct ⟨⟨_,(H.pm 10 [6,0,1,2,3,4,5,7,8,9] rfl:)⟩,?_⟩
 refine mbk [5] F H rfl ⟨fld27_5,trivial⟩ fun a F=>m_last rfl rfl (s_st1 wkP F rfl rfl zero25 rfl rfl rfl rfl rfl H 4 rfl rfl fun w H=>?_)
 refine lz ?_;refine ct ?_
 refine m_nil ?_
 cases hm
 refine ct ?_
 exact ⟨p77,c77,F.sl rfl,(H.pm 10 [3,4,2,6,7,8,9] rfl:)⟩
 refine ct (sq (sr (bk [1999] F H rfl ⟨rfl,(aggn agg27 rfl),trivial⟩ fun a F=>?_)))
 replace H:=H.frz 2 rfl
 replace H:=mk_api_Op H r20.2.1 r56.2.1 r56.2.2.1 r20.2.2.1 r20.2.2.2.1 0 rfl
 obtain ⟨x78,ex78,hm⟩:=ob hm
 refine sd F rfl ent42 (w_oWrite ex78 (H.pm 8 [0,0,1,2,3,4,5,6,7] rfl:):) ?_;rintro _ w a ⟨p79,c79,rfl,H⟩ F
 refine bb (List.replicate 5 0) F H rfl fun a F=>?_
 replace H:=H.nf 9 rfl
 refine nb [0,0,0] F H rfl fun a F=>?_
 obtain ⟨x80,ex80,hm⟩:=ob hm
 refine sd F rfl ent61 (w_m_oper_exactly ex80 (H.pm 9 [8,0,0,1,2,3,4,5,6,7,8] rfl:):) ?_;rintro _ w a ⟨rfl,H⟩ F
 refine bb [0] F H rfl fun a F=>?_
 replace H:=H.nf 9 rfl
 refine nl (cB F rfl (fun hg81=>?_) (fun hg81=>?_))
 replace hm:=ifT hg81 hm
 refine sr ?_
 replace H:=H.owNil rByte 5
 refine sv F rfl (y_build F rfl rfl (cs:=[.int .i64 (0),.string (txb ([])),.string (txb ([])),.int .i64 (0),.int .i64 (0),.slice none (([]:List UInt8)).length 0]) (by kernel_rfl)) fun a F=>s_storeA wkP F rfl rfl agg27 rfl rfl rfl H 7 rfl rfl rfl (fl rfl) fun w H=>bb [0] F H rfl fun a F=>?_
 replace H:=H.nf 10 rfl
 refine nl (wr (tr ?_))
 replace H:=H.frz 0 rfl
 replace H:=mk_api_Op H 0 ([]) ([]) 0 0 0 rfl
 cases hm
 refine x_resC2 F rfl (⟨_,rfl,agg27.run_load (H.blk 8 rfl).row rfl⟩) rfl ?_
 exact ⟨_,rfl,[.int .i64 (0),.string (txb ([])),.string (txb ([])),.int .i64 (0),.int .i64 (0),.slice none (([]:List UInt8)).length 0],rfl,(H.pm 11 [0] rfl:)⟩
 replace hm:=ifF (nT hg81) hm
 refine sk (ct (sr (bk [4999] F H rfl ⟨rfl,(aggn agg27 rfl),trivial⟩ fun a F=>s_storeA wkP F rfl rfl agg27 rfl rfl rfl H 6 rfl rfl rfl (fl rfl) fun w H=>bb [0] F H rfl fun a F=>?_)))
 replace H:=H.nf 9 rfl
 refine nl (wr ?_)
 replace H:=mk_api_Op H r20.2.1 r56.2.1 r56.2.2.1 r20.2.2.1 r20.2.2.2.1 2 rfl
 cases hm
 refine x_resC2 F rfl (⟨_,rfl,agg27.run_load (H.blk 7 rfl).row rfl⟩) rfl ?_
 exact ⟨_,rfl,[.int .i64 (r20.2.1),.string (txb (r56.2.1)),.string (txb (r56.2.2.1)),.int .i64 (r20.2.2.1),.int .i64 (r20.2.2.2.1),.slice p57 (r56.2.2.2).length c57],rfl,(H.pm 10 [0] rfl:)⟩
theorem w_oReadA {b:List UInt8} {p1:Option Addr} {c1:Nat} {w0 w:World} {l:List HP}  {r:T_api_Answer×Int} (hm:oReadA b=some r) (H:St w0 w (HP.sl rByte p1 c1 b::l)) :
  Calls Tryz.prog 82 [.slice p1 (b).length c1].toArray w (fun e w'=>∃ v,e=.returned v∧∃ (cs2:List Value),v=.tuple [.agg cs2.toArray,.int .i64 (r.2)].toArray∧St w0 w' (HP.rc R_api_Answer cs2 r.1::l)):=by
 unfold oReadA at hm
 refine x_enter Tryz.func82 rfl rfl rfl ?_
 intro a F
 refine sr ?_
 replace H:=H.owNil rByte 5
 replace H:=H.owNil rStr 9
 refine s_allocA wkP F rfl rfl rfl agz58 rfl H fun b3 w a H F=>bb [0] F H rfl fun a F=>?_
 replace H:=H.nf 4 rfl
 refine nb [0] F H rfl fun a F=>?_
 obtain ⟨x4,ex4,hm⟩:=ob hm
 refine sd F rfl ent26 (w_newEye ex4 (H.pm 4 [3,0,1,2,3] rfl:):) ?_;rintro _ w a ⟨b5,rfl,H⟩ F
 refine sv F rfl (y_build F rfl rfl (cs:=[.pointer (some ⟨b5,0,none⟩)]) (by kernel_rfl)) fun a F=>s_allocA wkP F rfl rfl rfl agz143 rfl H fun b6 w a H F=>s_storeA wkP F rfl rfl agg143 rfl rfl rfl H 0 rfl rfl rfl (fl rfl) fun w H=>?_
 replace H:=H.nf 6 rfl
 refine nl (sq ?_)
 refine xm5 6 [0,2,4] [0,2,3,4,5] F H hm rfl rfl (fun r24 (b25:Nat) (p26:Option Addr) (c26:Nat) (p27:Option Addr) (c27:Nat) z=>(5,.pointer (some ⟨b25,0,none⟩))::z) (fun r24 b25 p26 c26 p27 c27 z=>O_pack_Eye b5 r24.1::HP.blk b25 ([.int .i64 (r24.2.1),.int .i64 (r24.2.2.1),.slice p26 (r24.2.2.2.1).length c26,.slice p27 (r24.2.2.2.2).length c27]) 58::HP.ow rByte 5 p26 c26 r24.2.2.2.1::HP.ow rStr 9 p27 c27 r24.2.2.2.2::z) (fun r24 hm=>?_) (fun r24 a w hm b25 p26 c26 p27 c27 F H=>?_)
 refine mix_region [1,3,5,7,8] [8] (.step 0 0 (.step 0 2 (.step 0 4 (.fork 1 (.fork 3 (.fork 5 (.step 0 6 (.step 2 7 (.step 3 8 .done))) 7 (.step 2 5 (.step 0 6 (.step 3 8 .done)))) 7 (.step 2 3 (.step 2 5 (.step 0 6 (.step 3 8 .done))))) 7 (.step 2 1 (.step 2 3 (.step 2 5 (.step 0 6 (.step 3 8 .done))))))))) (fun u=>∃ ls,St w0 u (HP.blk b6 ([.pointer (some ⟨b5,0,none⟩)]) 143::ls)) (by kernel_rfl) (by kernel_rfl) ⟨_,H.drew⟩ ?_
 replace H:=H.drew
 generalize w.drew=w at H ⊢
 refine m_pure F rfl rfl rfl rfl (fun u hu=>y_loadA F agg143 rfl rfl ((hu.choose_spec.blk 0 rfl).row) rfl) fun a F=>?_
 refine m_pure F rfl rfl rfl rfl (fun u hu=>y_loadA F agg143 rfl rfl ((hu.choose_spec.blk 0 rfl).row) rfl) fun a F=>?_
 refine m_pure F rfl rfl rfl rfl (fun u hu=>y_loadA F agg143 rfl rfl ((hu.choose_spec.blk 0 rfl).row) rfl) fun a F=>?_
 refine m_fork rfl rfl rfl rfl ?_ ?_
 refine m_heavy rfl rfl ?_
 obtain ⟨x28,ex28,hm⟩:=ob hm
 refine sd F rfl ent59 (w_rdNum ex28 (H.pm 6 [1,0,2,3,4,5] rfl:):) ?_;rintro _ w a ⟨rfl,H⟩ F
 refine lz ?_;refine ct ⟨⟨_,(H.pm 6 [1,0,2,3,4,5] rfl:)⟩,?_⟩
 refine m_fork rfl rfl rfl rfl ?_ ?_
 refine m_heavy rfl rfl ?_
 obtain ⟨x29,ex29,hm⟩:=ob hm
 refine sd F rfl ent59 (w_rdNum ex29 H:) ?_;rintro _ w a ⟨rfl,H⟩ F
 refine lz ?_;refine ct ⟨⟨_,(H.pm 6 [1,0,2,3,4,5] rfl:)⟩,?_⟩
 refine m_fork rfl rfl rfl rfl ?_ ?_
 refine m_heavy rfl rfl ?_
 obtain ⟨x30,ex30,hm⟩:=ob hm
 refine sd F rfl ent60 (w_rdText ex30 H:) ?_;rintro _ w a ⟨p31,c31,rfl,H⟩ F
 refine lz ?_;refine ct ⟨⟨_,(H.pm 7 [2,0,1,3,4,5,6] rfl:)⟩,?_⟩
 replace H:=H.owNil rStr 9
 refine m_pure F rfl rfl rfl rfl (fun u hu=>y_build F rfl rfl (cs:=[.int .i64 (x28.1),.int .i64 (x29.1),.slice p31 (x30.1).length c31,.slice none (([]:List (List UInt8))).length 0]) (by kernel_rfl)) fun a F=>?_
 refine m_heavy rfl rfl ?_
 replace H:=H.owNil rByte 5
 replace H:=H.owNil rStr 9
 refine s_allocA wkP F rfl rfl rfl agz58 rfl H fun b32 w a H F=>?_
 refine lz ?_;refine ct ⟨⟨_,(H.pm 11 [6,0,1,2,3,4,5,7,8,9,10] rfl:)⟩,?_⟩
 refine m_last rfl rfl (s_storeA wkP F rfl rfl agg58 rfl rfl rfl H 0 rfl rfl rfl (fl rfl) fun w H=>?_)
 refine lz ?_;refine ct ?_
 refine m_nil ?_
 cases hm
 refine ct ?_
 exact ⟨b32,p31,c31,none,0,F.sl rfl,(H.pm 11 [5,0,4,3,6,7,8,9,10] rfl:)⟩
 refine m_heavy rfl rfl ?_
 replace H:=H.owNil rByte 5
 replace H:=H.owNil rStr 9
 refine s_allocA wkP F rfl rfl rfl agz58 rfl H fun b33 w a H F=>?_
 refine lz ?_;refine ct ⟨⟨_,(H.pm 9 [4,0,1,2,3,5,6,7,8] rfl:)⟩,?_⟩
 refine m_heavy rfl rfl ?_
 obtain ⟨x34,ex34,hm⟩:=ob hm
 refine sd F rfl ent60 (w_rdText ex34 (H.pm 9 [3,0,1,2,4,5,6,7,8] rfl:):) ?_;rintro _ w a ⟨p35,c35,rfl,H⟩ F
 refine lz ?_;refine ct ⟨⟨_,(H.pm 10 [5,0,1,2,3,4,6,7,8,9] rfl:)⟩,?_⟩
 replace H:=H.owNil rStr 9
 refine m_pure F rfl rfl rfl rfl (fun u hu=>y_build F rfl rfl (cs:=[.int .i64 (x28.1),.int .i64 (x29.1),.slice p35 (x34.1).length c35,.slice none (([]:List (List UInt8))).length 0]) (by kernel_rfl)) fun a F=>?_
 refine m_last rfl rfl (s_storeA wkP F rfl rfl agg58 rfl rfl rfl H 3 rfl rfl rfl (fl rfl) fun w H=>?_)
 refine lz ?_;refine ct ?_
 refine m_nil ?_
 cases hm
 refine ct ?_
 exact ⟨b33,p35,c35,none,0,F.sl rfl,(H.pm 11 [2,3,1,0,6,7,8,9,10] rfl:)⟩
 refine m_heavy rfl rfl ?_
 replace H:=H.owNil rByte 5
 replace H:=H.owNil rStr 9
 refine s_allocA wkP F rfl rfl rfl agz58 rfl H fun b36 w a H F=>?_
 refine lz ?_;refine ct ⟨⟨_,(H.pm 9 [4,0,1,2,3,5,6,7,8] rfl:)⟩,?_⟩
 refine m_heavy rfl rfl ?_
 obtain ⟨x37,ex37,hm⟩:=ob hm
 refine sd F rfl ent59 (w_rdNum ex37 (H.pm 9 [3,0,1,2,4,5,6,7,8] rfl:):) ?_;rintro _ w a ⟨rfl,H⟩ F
 refine lz ?_;refine ct ⟨⟨_,(H.pm 9 [4,0,1,2,3,5,6,7,8] rfl:)⟩,?_⟩
 refine m_heavy rfl rfl ?_
 obtain ⟨x38,ex38,hm⟩:=ob hm
 refine sd F rfl ent60 (w_rdText ex38 H:) ?_;rintro _ w a ⟨p39,c39,rfl,H⟩ F
 refine lz ?_;refine ct ⟨⟨_,(H.pm 10 [5,0,1,2,3,4,6,7,8,9] rfl:)⟩,?_⟩
 replace H:=H.owNil rStr 9
 refine m_pure F rfl rfl rfl rfl (fun u hu=>y_build F rfl rfl (cs:=[.int .i64 (x28.1),.int .i64 (x37.1),.slice p39 (x38.1).length c39,.slice none (([]:List (List UInt8))).length 0]) (by kernel_rfl)) fun a F=>?_
 refine m_last rfl rfl (s_storeA wkP F rfl rfl agg58 rfl rfl rfl H 3 rfl rfl rfl (fl rfl) fun w H=>?_)
 refine lz ?_;refine ct ?_
 refine m_nil ?_
 cases hm
 refine ct ?_
 exact ⟨b36,p39,c39,none,0,F.sl rfl,(H.pm 11 [2,3,1,0,6,7,8,9,10] rfl:)⟩
 refine m_heavy rfl rfl ?_
 replace H:=H.owNil rByte 5
 replace H:=H.owNil rStr 9
 refine s_allocA wkP F rfl rfl rfl agz58 rfl H fun b40 w a H F=>?_
 refine lz ?_;refine ct ⟨⟨_,(H.pm 9 [3,0,1,2,4,5,6,7,8] rfl:)⟩,?_⟩
 refine m_heavy rfl rfl ?_
 obtain ⟨x41,ex41,hm⟩:=ob hm
 refine sd F rfl ent59 (w_rdNum ex41 (H.pm 9 [4,0,1,2,3,5,6,7,8] rfl:):) ?_;rintro _ w a ⟨rfl,H⟩ F
 refine lz ?_;refine ct ⟨⟨_,(H.pm 9 [4,0,1,2,3,5,6,7,8] rfl:)⟩,?_⟩
 refine m_heavy rfl rfl ?_
 obtain ⟨x42,ex42,hm⟩:=ob hm
 refine sd F rfl ent59 (w_rdNum ex42 H:) ?_;rintro _ w a ⟨rfl,H⟩ F
 refine lz ?_;refine ct ⟨⟨_,(H.pm 9 [4,0,1,2,3,5,6,7,8] rfl:)⟩,?_⟩
 refine m_heavy rfl rfl ?_
 obtain ⟨x43,ex43,hm⟩:=ob hm
 refine sd F rfl ent60 (w_rdText ex43 H:) ?_;rintro _ w a ⟨p44,c44,rfl,H⟩ F
 refine lz ?_;refine ct ⟨⟨_,(H.pm 10 [5,0,1,2,3,4,6,7,8,9] rfl:)⟩,?_⟩
 replace H:=H.owNil rStr 9
 refine m_pure F rfl rfl rfl rfl (fun u hu=>y_build F rfl rfl (cs:=[.int .i64 (x41.1),.int .i64 (x42.1),.slice p44 (x43.1).length c44,.slice none (([]:List (List UInt8))).length 0]) (by kernel_rfl)) fun a F=>?_
 refine m_last rfl rfl (s_storeA wkP F rfl rfl agg58 rfl rfl rfl H 3 rfl rfl rfl (fl rfl) fun w H=>?_)
 refine lz ?_;refine ct ?_
 refine m_nil ?_
 cases hm
 refine ct ?_
 exact ⟨b40,p44,c44,none,0,F.sl rfl,(H.pm 11 [2,3,1,0,6,7,8,9,10] rfl:)⟩
 refine ct (sq (sr (bk [4999] F H rfl ⟨rfl,(aggn agg143 rfl),trivial⟩ fun a F=>?_)))
 obtain ⟨x45,ex45,hm⟩:=ob hm
 refine sd F rfl ent59 (w_rdNum ex45 H:) ?_;rintro _ w a ⟨rfl,H⟩ F
 refine sv F rfl (y_min F rfl rfl rfl rfl) fun a F=>bb [0] F H rfl fun a F=>?_
 replace H:=H.nf 9 rfl
 refine nl (xm2 9 [0,2,5] [2,4,5,6,7,8] F H hm rfl rfl (fun r68 (p69:Option Addr) (c69:Nat) z=>z) (fun r68 p69 c69 z=>O_pack_Eye b5 r68.1::HP.blk b25 ([.int .i64 (r24.2.1),.int .i64 (r24.2.2.1),.slice p26 (r24.2.2.2.1).length c26,.slice p69 (r68.2).length c69]) 58::HP.ow rStr 9 p69 c69 r68.2::z) (fun r68 hm=>?_) (fun r68 a w hm p69 c69 F H=>?_))
 refine bl ?_
 refine xl2 9 [0,2,4,5,20] [2,4,5,6,7,8] F H hm rfl rfl (fun (s84:T_pack_Eye_o×(List (List UInt8))×Int) (p85:Option Addr) (c85:Nat) z=>(21,.int .i64 (s84.2.2))::z) (fun s84 p85 c85 z=>O_pack_Eye b5 s84.1::HP.blk b25 ([.int .i64 (r24.2.1),.int .i64 (r24.2.2.1),.slice p26 (r24.2.2.2.1).length c26,.slice p85 (s84.2.1).length c85]) 58::HP.ow rStr 9 p85 c85 s84.2.1::z) ⟨p27,c27,F.sl rfl,(H.pm 9 [0,1,3,2,4,5,6,7,8] rfl:)⟩ (fun s84 a w o p85 c85 F H hm=>?_)
 refine sb [0] F H rfl fun a F=>?_
 refine nl (sq (cPm F rfl hm (fun hg86 hm=>?_) (fun hg86 hm=>?_)))
 refine sk (ct (sq (bl (mix_regionK [3,4,5,6,8] [8] (scL [0,1,1002,2003,2004,2005,2006,7,3008]) [1] H rfl rfl (by kernel_rfl) (by kernel_rfl) fun w H=>mbk [3] F H rfl ⟨fld58_3,trivial⟩ fun a F=>?_))))
 refine m_pure F rfl rfl rfl rfl (fun u hu=>y_load1 F plain56 rfl rfl (row_at (v:=.slice p85 (s84.2.1).length c85) ((hu.choose_spec.blk 0 rfl).row) rfl)) fun a F=>?_
 refine mbk [4999] F H rfl ⟨rfl,(aggn agg143 rfl),trivial⟩ fun a F=>m_heavy rfl rfl ?_
 obtain ⟨x87,ex87,hm⟩:=ob hm
 refine sd F rfl ent60 (w_rdText ex87 H:) ?_;rintro _ w a ⟨p88,c88,rfl,H⟩ F
 refine lz ?_;refine ct ⟨⟨_,(H.pm 10 [2,0,1,3,4,5,6,7,8,9] rfl:)⟩,?_⟩
 refine m_heavy rfl rfl ?_
 replace H:=H.frz 0 rfl
 refine sv F rfl (y_b2s F Tryz.underlying25 Tryz.underlying9 Tryz.underlying5 rfl rfl (H) 0 rfl) fun a F=>?_
 refine lz ?_;refine ct ⟨⟨_,(H.pm 10 [2,0,1,3,4,5,6,7,8,9] rfl:)⟩,?_⟩
 refine m_heavy rfl rfl (s_buildC wkP F rfl rfl rfl elem56 zero9 rfl rfl rfl rfl (by simp [Value.cells]) (by decide) H fun b89 w a H F=>?_)
 replace H:=H.blkOw1 (R:=rStr) (x:=x87.1) (fun gg=>rfl)
 refine lz ?_;refine ct ⟨⟨_,(H.pm 11 [3,0,1,2,4,5,6,7,8,9,10] rfl:)⟩,?_⟩
 refine m_heavy rfl rfl ?_
 replace H:=H.frz 0 rfl
 obtain ⟨x91,ex91,hm⟩:=ob hm
 refine s_app wkP F rfl rfl rfl rfl rfl rfl elem56 rfl ex91 H 4 0 rfl rfl fun p90 c90 w a H F=>?_
 refine lz ?_;refine ct ⟨⟨_,(H.pm 11 [3,0,1,2,4,5,6,7,8,9,10] rfl:)⟩,?_⟩
 refine mbk [3] F H rfl ⟨fld58_3,trivial⟩ fun a F=>m_last rfl rfl (s_st1 wkP F rfl rfl zero56 rfl rfl rfl rfl rfl H 3 rfl rfl fun w H=>?_)
 refine lz ?_;refine ct ?_
 refine m_nil (bn (ct (rl (bb [0,0] F H rfl fun a F=>?_))))
 replace H:=H.nf 11 rfl
 refine lz (ct ?_);cases hm
 exact ⟨_,rfl,⟨p90,c90,F.sl rfl,(H.pm 11 [2,3,4,5,6,7,8,9,10] rfl:)⟩⟩
 refine ex (cx (cx ?_));cases hm;refine ⟨_,rfl,?_⟩;rintro rfl
 refine ch (ct ?_)
 exact ⟨p85,c85,F.sl rfl,H⟩
 refine ct (sq (sr (bk [1999] F H rfl ⟨rfl,(aggn agg58 rfl),trivial⟩ fun a F=>?_)))
 replace H:=H.frz 3 rfl
 replace H:=H.frz 3 rfl
 replace H:=mk_api_Answer H r24.2.1 r24.2.2.1 1 rfl 0 rfl
 obtain ⟨x92,ex92,hm⟩:=ob hm
 refine sd F rfl ent66 (w_oWriteA ex92 (H.pm 10 [0,0,1,2,3,4,5,6,7,8,9] rfl:):) ?_;rintro _ w a ⟨p93,c93,rfl,H⟩ F
 refine bb (List.replicate 5 0) F H rfl fun a F=>?_
 replace H:=H.nf 11 rfl
 refine nb [0,0,0] F H rfl fun a F=>?_
 obtain ⟨x94,ex94,hm⟩:=ob hm
 refine sd F rfl ent61 (w_m_oper_exactly ex94 (H.pm 11 [10,0,0,1,2,3,4,5,6,7,8,9,10] rfl:):) ?_;rintro _ w a ⟨rfl,H⟩ F
 refine bb [0] F H rfl fun a F=>?_
 replace H:=H.nf 11 rfl
 refine nl (cB F rfl (fun hg95=>?_) (fun hg95=>?_))
 replace hm:=ifT hg95 hm
 refine sr ?_
 replace H:=H.owNil rByte 5
 replace H:=H.owNil rStr 9
 refine sv F rfl (y_build F rfl rfl (cs:=[.int .i64 (0),.int .i64 (0),.slice none (([]:List UInt8)).length 0,.slice none (([]:List (List UInt8))).length 0]) (by kernel_rfl)) fun a F=>s_storeA wkP F rfl rfl agg58 rfl rfl rfl H 9 rfl rfl rfl (fl rfl) fun w H=>bb [0] F H rfl fun a F=>?_
 replace H:=H.nf 13 rfl
 refine nl (wr (tr ?_))
 replace H:=H.frz 1 rfl
 replace H:=H.frz 1 rfl
 replace H:=mk_api_Answer H 0 0 1 rfl 0 rfl
 cases hm
 refine x_resC2 F rfl (⟨_,rfl,agg58.run_load (H.blk 10 rfl).row rfl⟩) rfl ?_
 exact ⟨_,rfl,[.int .i64 (0),.int .i64 (0),.slice none (([]:List UInt8)).length 0,.slice none (([]:List (List UInt8))).length 0],rfl,(H.pm 14 [0] rfl:)⟩
 replace hm:=ifF (nT hg95) hm
 refine sk (ct (sr (bk [5999] F H rfl ⟨rfl,(aggn agg58 rfl),trivial⟩ fun a F=>s_storeA wkP F rfl rfl agg58 rfl rfl rfl H 7 rfl rfl rfl (fl rfl) fun w H=>bb [0] F H rfl fun a F=>?_)))
 replace H:=H.nf 11 rfl
 refine nl (wr ?_)
 replace H:=mk_api_Answer H r24.2.1 r24.2.2.1 3 rfl 2 rfl
 cases hm
 refine x_resC2 F rfl (⟨_,rfl,agg58.run_load (H.blk 8 rfl).row rfl⟩) rfl ?_
 exact ⟨_,rfl,[.int .i64 (r24.2.1),.int .i64 (r24.2.2.1),.slice p26 (r24.2.2.2.1).length c26,.slice p69 (r68.2).length c69],rfl,(H.pm 12 [0] rfl:)⟩
end Go.Proofs.YtapllcabobickaaGreatDoor
