/- Texts ShapeA, TreeA, StrA, PathA, LibA, FilesA. -/
import Derived.Test.YtapllcabobickaaGreatDoorQ6
import Derived.Test.YtapllcabobickaaGreatDoorQ4
import Derived.Test.YtapllcabobickaaGreatDoorShelf
import Derived.Test.YtapllcabobickaaGreatDoorFilL
set_option linter.unusedSimpArgs false
set_option linter.unusedVariables false
namespace Go.Proofs.YtapllcabobickaaGreatDoor
open Go.RowKit Go.Tri
set_option maxRecDepth 100000
set_option maxHeartbeats 4000000
theorem w_m_shape_Mark {x0_:List UInt8} {x1_:Int} {p1:Option Addr} {c1:Nat} {w0 w:World} {l:List HP}  {r:Bool} (hm:m_shape_Mark x0_ x1_=some r) (H:St w0 w (HP.sl rByte p1 c1 x0_::l)) :
  Calls Tryz.prog 148 [.slice p1 (x0_).length c1,.int .i64 (x1_)].toArray w (fun e w'=>∃ v,e=.returned v∧v=.bool (r)∧St w0 w' (l)):=by
 unfold m_shape_Mark at hm
 refine x_enter Tryz.func148 rfl rfl rfl ?_
 intro a F
 refine sb [0] F H rfl fun a F=>nl (sq (sb [0,0,0] F H rfl fun a F=>?_))
 rcases spP 10 F rfl hm with ⟨hg2,hm,F⟩ | ⟨hg2,hm,F⟩
 refine bb [0,0,0] F H rfl fun a F=>nl (cT F rfl (sb [0] F H rfl fun a F=>nl (wr (tr ?_))))
 cases hm
 refine x_ret1 F rfl rfl ?_
 exact ⟨_,rfl,rfl,(H.pm 1 [] rfl:)⟩
 refine bb [0,0,0] F H rfl fun a F=>?_
 refine nl (cPm F rfl hm (fun hg3 hm=>?_) (fun hg3 hm=>?_))
 refine sb [0] F H rfl fun a F=>nl (wr (tr ?_))
 cases hm
 refine x_ret1 F rfl rfl ?_
 exact ⟨_,rfl,rfl,(H.pm 1 [] rfl:)⟩
 refine sk (ct (sb [0] F H rfl fun a F=>nl (sq (sr (bk [0,0,0] F H rfl ⟨⟨_,Tryz.underlying25⟩,trivial⟩ fun a F=>?_)))))
 refine nl (xm0 1 [1] [] F H hm rfl rfl (fun r17 z=>(5,.int .u32 (r17))::z) (fun r17 z=>z) (fun r17 hm=>?_) (fun r17 a w hm F H=>?_))
 refine bl (xl0 1 [1,14,15] [0] F H hm rfl rfl (fun (s26:Int×Int) z=>(5,.int .u32 (s26.1))::(16,.int .i64 (s26.2))::z) (fun s26 z=>z) ⟨F.sl rfl,H⟩ (fun s26 a w o F H hm=>sb [0] F H rfl fun a F=>?_))
 refine nl (sq (cPm F rfl hm (fun hg27 hm=>?_) (fun hg27 hm=>?_)))
 refine sk (ct (sq (bl (sr ?_))))
 obtain ⟨x28,ex28,hm⟩:=ob hm
 obtain ⟨b29,o29,hp29,cs30,H⟩:=H.slE 0 rfl ex28
 obtain rfl:=H.rcB 1 rfl
 replace H:=H.dp 1 rfl
 refine sv F rfl (y_idxS F elem25 rfl rfl rfl hp29 ex28) fun a F=>bk [0,0] F H rfl ⟨rfl,plain5,trivial⟩ fun a F=>nl (rl (bk [0,0,3,0,0,0] F H rfl ⟨Tryz.underlying5,Tryz.underlying188,trivial⟩ fun a F=>lz (bn (ct (rl (bb [0,0] F H rfl fun a F=>?_))))))
 refine lz (ct ?_);cases hm
 exact ⟨_,rfl,⟨F.sl rfl,(H.pm 2 [1] rfl:)⟩⟩
 refine ex (cx (cx ?_));cases hm;refine ⟨_,rfl,?_⟩;rintro rfl
 refine ch (ct ?_)
 exact ⟨F.sl rfl,(H.pm 1 [] rfl:)⟩
 refine ct (sb [0,0,0] F H rfl fun a F=>?_)
 obtain ⟨x31,ex31,hm⟩:=ob hm
 refine sv F rfl (i_shrO F rfl rfl rfl ex31) fun a F=>bb [0,0,0] F H rfl fun a F=>nl (wr ?_)
 cases hm
 refine x_ret1 F rfl rfl ?_
 exact ⟨_,rfl,rfl,H⟩
theorem plain220:Plain Tryz.prog 220:=by unfold Plain;rw [Tryz.underlying220];rfl
theorem elem220:ElemT Tryz.prog 220 3 1 8 (.int .i64 0):=⟨Tryz.underlying220,by kernel_rfl,by kernel_rfl,by decide⟩
theorem zero3:Zero1 Tryz.prog 3 (.int .i64 0):=⟨by kernel_rfl,rfl⟩
theorem zero220:Zero1 Tryz.prog 220 (.slice none 0 0):=⟨by kernel_rfl,rfl⟩
theorem w_lvEnd {o:(List Int)} {c:Int} {s:Int} {bo0:Nat} {bo1:Nat} {bo2:Nat} {w0 w:World} {l:List HP}  {r:(List Int)×Int×Int} (hm:lvEnd o c s=some r) (H:St w0 w (O_t220 bo0 o::O_int bo1 c::O_int bo2 s::l)) :
  Calls Tryz.prog 147 [.pointer (some ⟨bo0,0,none⟩),.pointer (some ⟨bo1,0,none⟩),.pointer (some ⟨bo2,0,none⟩)].toArray w (fun e w'=>∃ v,e=.returned v∧v=.tuple [].toArray∧St w0 w' (O_t220 bo0 r.1::O_int bo1 r.2.1::O_int bo2 r.2.2::l)):=by
 unfold lvEnd at hm
 refine x_enter Tryz.func147 rfl rfl rfl ?_
 intro a F
 refine sr ?_
 obtain ⟨p1,c2,H⟩:=O_t220_o (H.pk 0 rfl)
 refine bk [0] F H rfl ⟨rfl,plain220,trivial⟩ fun a F=>?_
 replace H:=O_int_o (H.pk 2 rfl)
 refine bk [0] F H rfl ⟨rfl,plain3,trivial⟩ fun a F=>s_buildC wkP F rfl rfl rfl elem220 zero3 rfl rfl rfl rfl (by simp [Value.cells]) (by decide) H fun b3 w a H F=>?_
 replace H:=H.blkOw1 (R:=(rInt .i64)) (x:=c) (fun gg=>rfl)
 replace H:=H.frz 0 rfl
 obtain ⟨x5,ex5,hm⟩:=ob hm
 refine s_app wkP F rfl rfl rfl rfl rfl rfl elem220 rfl ex5 H 3 0 rfl rfl fun p4 c4 w a H F=>?_
 refine s_st1 wkP F rfl rfl zero220 rfl rfl rfl rfl rfl H 2 rfl rfl fun w H=>?_
 replace H:=H.nf 5 rfl
 refine nl (rl (s_st1 wkP F rfl rfl zero3 rfl rfl rfl rfl rfl H 1 rfl rfl fun w H=>?_))
 replace H:=O_int_o (H.pk 4 rfl)
 refine s_st1 wkP F rfl rfl zero3 rfl rfl rfl rfl rfl H 0 rfl rfl fun w H=>?_
 replace H:=H.nf 5 rfl
 refine lz ?_
 replace H:=O_t220_s (H.pm 5 [3,4,0,1,2] rfl:)
 replace H:=O_int_s (H.pm 4 [3,0,1,2] rfl:)
 replace H:=O_int_s (H.pm 4 [2,0,1,3] rfl:)
 cases hm
 refine x_end0 F rfl ?_
 exact ⟨_,rfl,rfl,(H.pm 4 [2,1,0] rfl:)⟩
theorem ent147:En Tryz.prog 147:=enters Tryz.func147 (by kernel_rfl) rfl
theorem ent148:En Tryz.prog 148:=enters Tryz.func148 (by kernel_rfl) rfl
theorem w_m_shape_Leaves {x0_:List T_api_Pair} {p1:Option Addr} {c1:Nat} {w0 w:World} {l:List HP}  {r:(List Int)} (hm:m_shape_Leaves x0_=some r) (H:St w0 w (HP.sl R_api_Pair p1 c1 x0_::l)) :
  Calls Tryz.prog 117 [.slice p1 (x0_).length c1].toArray w (fun e w'=>∃ v,e=.returned v∧∃ (p2:Option Addr) (c2:Nat),v=.slice p2 (r).length c2∧St w0 w' (HP.sl (rInt .i64) p2 c2 r::l)):=by
 unfold m_shape_Leaves at hm
 refine x_enter Tryz.func117 rfl rfl rfl ?_
 intro a F
 refine sr ?_
 replace H:=H.owNil (rInt .i64) 3
 refine s_alloc1 wkP F rfl rfl rfl zero220 rfl H fun b3 w a H F=>?_
 replace H:=H.nf 3 rfl
 refine nl (sr (s_alloc1 wkP F rfl rfl rfl zero3 rfl H fun b4 w a H F=>s_alloc1 wkP F rfl rfl rfl zero3 rfl H fun b5 w a H F=>s_st1 wkP F rfl rfl zero3 rfl rfl rfl rfl rfl H 1 rfl rfl fun w H=>s_st1 wkP F rfl rfl zero3 rfl rfl rfl rfl rfl H 0 rfl rfl fun w H=>?_))
 replace H:=H.nf 5 rfl
 refine nl (sr (sv F rfl (y_makeFunc F rfl rfl) fun a F=>bb [0] F H rfl fun a F=>nl (sq (sr (bk [0,0,0] F H rfl ⟨⟨_,Tryz.underlying61⟩,trivial⟩ fun a F=>?_)))))
 refine nl (xm2 5 [2,3,5] [] F H hm rfl rfl (fun r265 (p266:Option Addr) (c266:Nat) z=>z) (fun r265 p266 c266 z=>HP.blk b5 ([.int .i64 (r265.1)]) 3::HP.blk b4 ([.int .i64 (r265.2.1)]) 3::HP.blk b3 ([.slice p266 (r265.2.2).length c266]) 220::HP.ow (rInt .i64) 3 p266 c266 r265.2.2::z) (fun r265 hm=>?_) (fun r265 a w hm p266 c266 F H=>?_))
 refine bl ?_
 refine xl2 5 [2,3,4,5,10,11] [4] F H hm rfl rfl (fun (s439:Int×Int×(List Int)×Int) (p440:Option Addr) (c440:Nat) z=>(12,.int .i64 (s439.2.2.2))::z) (fun s439 p440 c440 z=>HP.blk b5 ([.int .i64 (s439.1)]) 3::HP.blk b4 ([.int .i64 (s439.2.1)]) 3::HP.blk b3 ([.slice p440 (s439.2.2.1).length c440]) 220::HP.ow (rInt .i64) 3 p440 c440 s439.2.2.1::z) ⟨none,0,F.sl rfl,H⟩ (fun s439 a w o p440 c440 F H hm=>?_)
 refine sb [0] F H rfl fun a F=>?_
 refine nl (sq (cPm F rfl hm (fun hg441 hm=>?_) (fun hg441 hm=>?_)))
 refine sk (ct (sq (xm2 5 [2,3,4,5,10,11,12] [4] F H hm rfl rfl (fun r483 (p484:Option Addr) (c484:Nat) z=>z) (fun r483 p484 c484 z=>HP.blk b5 ([.int .i64 (r483.1)]) 3::HP.blk b4 ([.int .i64 (r483.2.1)]) 3::HP.blk b3 ([.slice p484 (r483.2.2).length c484]) 220::HP.ow (rInt .i64) 3 p484 c484 r483.2.2::z) (fun r483 hm=>?_) (fun r483 a w hm p484 c484 F H=>?_))))
 refine bl (sr ?_)
 obtain ⟨x485,ex485,hm⟩:=ob hm
 obtain ⟨b486,o486,hp486,cs487,H⟩:=H.slE 4 rfl ex485
 refine sv F rfl (y_idxS F elem61 rfl rfl rfl hp486 ex485) fun a F=>bk [999] F H rfl ⟨rfl,(aggn agg129 (H.rcLen 1 rfl)),trivial⟩ fun a F=>?_
 replace H:=H.owNil rByte 5
 replace H:=H.owNil rByte 5
 refine s_allocA wkP F rfl rfl rfl agz129 rfl H fun b488 w a H F=>s_storeA wkP F rfl rfl agg129 rfl rfl rfl H 0 rfl (H.rcLen 4 rfl) rfl (H.rcFlat 4 rfl) fun w H=>?_
 replace H:=H.nf 10 rfl
 refine nl (sr (bk [0] F H rfl ⟨fld129_0,trivial⟩ fun a F=>?_))
 have G:=F;replace H:=rc_api_Pair (H.pk 4 rfl);obtain ⟨p489,c490,p491,c492,rfl,J⟩:=H;have H:=J;have F:=G;clear G J
 refine bk [2000,0,0,1,2001,0,0,0] F H rfl ⟨rfl,plain25,⟨_,Tryz.underlying25⟩,fld129_1,rfl,plain25,⟨_,Tryz.underlying25⟩,trivial⟩ fun a F=>nl (sq (sr (bk [7000,0,0] F H rfl ⟨rfl,plain3,trivial⟩ fun a F=>?_)))
 rcases spP 26 F rfl hm with ⟨hg493,hm,F⟩ | ⟨hg493,hm,F⟩
 refine bk [6000,0,0,0,0] F H rfl ⟨rfl,plain3,trivial⟩ fun a F=>?_
 refine nl (xm2 11 [2,3,4,5,7,8,10,11,12] [0,1,2,3,4,5,10] F H hm rfl rfl (fun r498 (p499:Option Addr) (c499:Nat) z=>z) (fun r498 p499 c499 z=>HP.blk b5 ([.int .i64 (r498.1)]) 3::HP.blk b4 ([.int .i64 (r498.2.1)]) 3::HP.blk b3 ([.slice p499 (r498.2.2).length c499]) 220::HP.ow (rInt .i64) 3 p499 c499 r498.2.2::z) (fun r498 hm=>?_) (fun r498 a w hm p499 c499 F H=>?_))
 refine cPm F rfl hm (fun hg500 hm=>?_) (fun hg500 hm=>?_)
 refine rl (bb [0] F H rfl fun a F=>?_)
 replace H:=O_t220_s (H.pm 11 [8,9,0,1,2,3,4,5,6,7,10] rfl:)
 replace H:=O_int_s (H.pm 10 [8,0,1,2,3,4,5,6,7,9] rfl:)
 replace H:=O_int_s (H.pm 10 [8,0,1,2,3,4,5,6,7,9] rfl:)
 obtain ⟨x501,ex501,hm⟩:=ob hm
 refine s_call wkP F rfl rfl rfl rfl (y_callV F rfl rfl rfl ent147) (w_lvEnd ex501 (H.pm 10 [2,1,0,3,4,5,6,7,8,9] rfl:):) ?_;rintro _ w a ⟨rfl,H⟩ F
 replace H:=H.nf 10 rfl
 refine lz ?_
 obtain ⟨p502,c503,H⟩:=O_t220_o (H.pk 0 rfl)
 replace H:=O_int_o (H.pk 2 rfl)
 replace H:=O_int_o (H.pk 3 rfl)
 cases hm
 refine ct ?_
 exact ⟨p502,c503,F.sl rfl,H⟩
 refine sk ?_
 cases hm
 refine ct ?_
 exact ⟨p440,c440,F.sl rfl,(H.pm 11 [6,7,8,9,0,1,2,3,4,5,10] rfl:)⟩
 refine ct (sr (bk [1000,0] F H rfl ⟨rfl,plain3,trivial⟩ fun a F=>s_st1 wkP F rfl rfl zero3 rfl rfl rfl rfl rfl H 1 rfl rfl fun w H=>?_))
 replace H:=H.nf 11 rfl
 refine nl (sr (bk [0,0,0] F H rfl ⟨rfl,plain3,trivial⟩ fun a F=>s_st1 wkP F rfl rfl zero3 rfl rfl rfl rfl rfl H 0 rfl rfl fun w H=>?_))
 replace H:=H.nf 11 rfl
 refine nl (sr (bk [0,6000] F H rfl ⟨fld129_0,rfl,plain25,trivial⟩ fun a F=>?_))
 obtain ⟨x504,ex504,hm⟩:=ob hm
 refine sd F rfl ent148 (w_m_shape_Mark ex504 (H.pm 11 [4,0,1,2,3,4,5,6,7,8,9,10] rfl:):) ?_;rintro _ w a ⟨rfl,H⟩ F
 replace H:=H.nf 11 rfl
 refine nl (xm2 11 [2,3,4,5,10,11,12] [4,5,6,7,8,9,10] F H hm rfl rfl (fun r509 (p510:Option Addr) (c510:Nat) z=>z) (fun r509 p510 c510 z=>HP.blk b5 ([.int .i64 (r509.1)]) 3::HP.blk b4 ([.int .i64 (r509.2.1)]) 3::HP.blk b3 ([.slice p510 (r509.2.2).length c510]) 220::HP.ow (rInt .i64) 3 p510 c510 r509.2.2::z) (fun r509 hm=>?_) (fun r509 a w hm p510 c510 F H=>?_))
 refine cB F rfl (fun hg511=>?_) (fun hg511=>?_)
 replace hm:=ifT hg511 hm
 refine rl (bb [0] F H rfl fun a F=>?_)
 replace H:=O_t220_s (H.pm 11 [2,3,0,1,4,5,6,7,8,9,10] rfl:)
 replace H:=O_int_s (H.pm 10 [2,0,1,3,4,5,6,7,8,9] rfl:)
 replace H:=O_int_s (H.pm 10 [2,0,1,3,4,5,6,7,8,9] rfl:)
 obtain ⟨x512,ex512,hm⟩:=ob hm
 refine s_call wkP F rfl rfl rfl rfl (y_callV F rfl rfl rfl ent147) (w_lvEnd ex512 (H.pm 10 [2,1,0,3,4,5,6,7,8,9] rfl:):) ?_;rintro _ w a ⟨rfl,H⟩ F
 replace H:=H.nf 10 rfl
 refine lz ?_
 obtain ⟨p513,c514,H⟩:=O_t220_o (H.pk 0 rfl)
 replace H:=O_int_o (H.pk 2 rfl)
 replace H:=O_int_o (H.pk 3 rfl)
 cases hm
 refine ct ?_
 exact ⟨p513,c514,F.sl rfl,H⟩
 replace hm:=ifF (nT hg511) hm
 refine sk ?_
 cases hm
 refine ct ?_
 exact ⟨p499,c499,F.sl rfl,H⟩
 refine bn ?_
 cases hm
 refine ct ?_
 exact ⟨p510,c510,F.sl rfl,(H.pm 11 [0,1,2,3,10] rfl:)⟩
 refine bb (List.replicate 5 0) F H rfl fun a F=>nl (cF F rfl (sk (ct (sr (bk [7000,0] F H rfl ⟨rfl,plain3,trivial⟩ fun a F=>s_st1 wkP F rfl rfl zero3 rfl rfl rfl rfl rfl H 7 rfl rfl fun w H=>?_)))))
 replace H:=H.nf 11 rfl
 refine nl (sr (bk [6000,0,0] F H rfl ⟨rfl,plain3,trivial⟩ fun a F=>s_st1 wkP F rfl rfl zero3 rfl rfl rfl rfl rfl H 6 rfl rfl fun w H=>?_))
 replace H:=H.nf 11 rfl
 refine nl (sr (bk [0,2000] F H rfl ⟨fld129_0,rfl,plain25,trivial⟩ fun a F=>?_))
 obtain ⟨x515,ex515,hm⟩:=ob hm
 refine sd F rfl ent148 (w_m_shape_Mark ex515 (H.pm 11 [0,0,1,2,3,4,5,6,7,8,9,10] rfl:):) ?_;rintro _ w a ⟨rfl,H⟩ F
 replace H:=H.nf 11 rfl
 refine nl (xm2 11 [2,3,4,5,10,11,12] [0,1,2,3,4,5,10] F H hm rfl rfl (fun r520 (p521:Option Addr) (c521:Nat) z=>z) (fun r520 p521 c521 z=>HP.blk b5 ([.int .i64 (r520.1)]) 3::HP.blk b4 ([.int .i64 (r520.2.1)]) 3::HP.blk b3 ([.slice p521 (r520.2.2).length c521]) 220::HP.ow (rInt .i64) 3 p521 c521 r520.2.2::z) (fun r520 hm=>?_) (fun r520 a w hm p521 c521 F H=>?_))
 refine cB F rfl (fun hg522=>?_) (fun hg522=>?_)
 replace hm:=ifT hg522 hm
 refine rl (bb [0] F H rfl fun a F=>?_)
 replace H:=O_t220_s (H.pm 11 [8,9,0,1,2,3,4,5,6,7,10] rfl:)
 replace H:=O_int_s (H.pm 10 [8,0,1,2,3,4,5,6,7,9] rfl:)
 replace H:=O_int_s (H.pm 10 [8,0,1,2,3,4,5,6,7,9] rfl:)
 obtain ⟨x523,ex523,hm⟩:=ob hm
 refine s_call wkP F rfl rfl rfl rfl (y_callV F rfl rfl rfl ent147) (w_lvEnd ex523 (H.pm 10 [2,1,0,3,4,5,6,7,8,9] rfl:):) ?_;rintro _ w a ⟨rfl,H⟩ F
 replace H:=H.nf 10 rfl
 refine lz ?_
 obtain ⟨p524,c525,H⟩:=O_t220_o (H.pk 0 rfl)
 replace H:=O_int_o (H.pk 2 rfl)
 replace H:=O_int_o (H.pk 3 rfl)
 cases hm
 refine ct ?_
 exact ⟨p524,c525,F.sl rfl,H⟩
 replace hm:=ifF (nT hg522) hm
 refine sk ?_
 cases hm
 refine ct ?_
 exact ⟨p440,c440,F.sl rfl,(H.pm 11 [6,7,8,9,0,1,2,3,4,5,10] rfl:)⟩
 refine bn ?_
 cases hm
 refine ct ?_
 exact ⟨p521,c521,F.sl rfl,(H.pm 11 [0,1,2,3,10] rfl:)⟩
 refine ct (rl (bb [0,0] F H rfl fun a F=>?_))
 refine lz (ct ?_);cases hm
 exact ⟨_,rfl,⟨p484,c484,F.sl rfl,H⟩⟩
 refine ex (cx (cx ?_));cases hm;refine ⟨_,rfl,?_⟩;rintro rfl
 refine ch (ct ?_)
 exact ⟨p440,c440,F.sl rfl,(H.pm 5 [0,1,2,3] rfl:)⟩
 refine ct (sq (sr (bk [1000,0,0] F H rfl ⟨rfl,plain3,trivial⟩ fun a F=>?_)))
 rcases spP 47 F rfl hm with ⟨hg526,hm,F⟩ | ⟨hg526,hm,F⟩
 refine bb [0,0,0,0] F H rfl fun a F=>nl (cT F rfl (rl (bb [0] F H rfl fun a F=>?_)))
 replace H:=O_t220_s (H.pm 4 [2,3,0,1] rfl:)
 replace H:=O_int_s (H.pm 3 [2,0,1] rfl:)
 replace H:=O_int_s (H.pm 3 [2,0,1] rfl:)
 obtain ⟨x527,ex527,hm⟩:=ob hm
 refine s_call wkP F rfl rfl rfl rfl (y_callV F rfl rfl rfl ent147) (w_lvEnd ex527 (H.pm 3 [2,1,0] rfl:):) ?_;rintro _ w a ⟨rfl,H⟩ F
 replace H:=H.nf 3 rfl
 refine nl (sr ?_)
 obtain ⟨p528,c529,H⟩:=O_t220_o (H.pk 0 rfl)
 refine bk [0] F H rfl ⟨rfl,plain220,trivial⟩ fun a F=>s_st1 wkP F rfl rfl zero220 rfl rfl rfl rfl rfl H 0 rfl rfl fun w H=>?_
 replace H:=H.nf 4 rfl
 refine nl (wr ?_)
 replace H:=H.frz 1 rfl
 cases hm
 refine x_resC1 F rfl (⟨_,rfl,ld1 plain220 ((H.blk 1 rfl).cell _)⟩) ?_
 exact ⟨_,rfl,p528,c529,rfl,(H.pm 4 [0] rfl:)⟩
 refine bk [2000,0,0,0] F H rfl ⟨rfl,plain220,⟨_,Tryz.underlying220⟩,trivial⟩ fun a F=>?_
 refine nl (xm2 4 [2] [] F H hm rfl rfl (fun r534 (p535:Option Addr) (c535:Nat) z=>z) (fun r534 p535 c535 z=>HP.blk b5 ([.int .i64 (r534.1)]) 3::HP.blk b4 ([.int .i64 (r534.2.1)]) 3::HP.blk b3 ([.slice p535 (r534.2.2).length c535]) 220::HP.ow (rInt .i64) 3 p535 c535 r534.2.2::z) (fun r534 hm=>?_) (fun r534 a w hm p535 c535 F H=>?_))
 refine cPm F rfl hm (fun hg536 hm=>?_) (fun hg536 hm=>?_)
 refine rl (bb [0] F H rfl fun a F=>?_)
 replace H:=O_t220_s (H.pm 4 [2,3,0,1] rfl:)
 replace H:=O_int_s (H.pm 3 [2,0,1] rfl:)
 replace H:=O_int_s (H.pm 3 [2,0,1] rfl:)
 obtain ⟨x537,ex537,hm⟩:=ob hm
 refine s_call wkP F rfl rfl rfl rfl (y_callV F rfl rfl rfl ent147) (w_lvEnd ex537 (H.pm 3 [2,1,0] rfl:):) ?_;rintro _ w a ⟨rfl,H⟩ F
 replace H:=H.nf 3 rfl
 refine lz ?_
 obtain ⟨p538,c539,H⟩:=O_t220_o (H.pk 0 rfl)
 replace H:=O_int_o (H.pk 2 rfl)
 replace H:=O_int_o (H.pk 3 rfl)
 cases hm
 refine ct ?_
 exact ⟨p538,c539,F.sl rfl,H⟩
 refine sk ?_
 cases hm
 refine ct ?_
 exact ⟨p266,c266,F.sl rfl,H⟩
 refine ct (sr (bk [2000] F H rfl ⟨rfl,plain220,trivial⟩ fun a F=>s_st1 wkP F rfl rfl zero220 rfl rfl rfl rfl rfl H 2 rfl rfl fun w H=>?_))
 replace H:=H.nf 4 rfl
 refine nl (wr ?_)
 replace H:=H.frz 3 rfl
 cases hm
 refine x_resC1 F rfl (⟨_,rfl,ld1 plain220 ((H.blk 3 rfl).cell _)⟩) ?_
 exact ⟨_,rfl,p535,c535,rfl,(H.pm 4 [0] rfl:)⟩
set_option maxRecDepth 100000
set_option maxHeartbeats 4000000
theorem w_m_tree_compare {x0_:T_api_Pair} {x1_:T_api_Pair} {cs1:List Value} {cs2:List Value} {w0 w:World} {l:List HP}  {r:Int} (hm:m_tree_compare x0_ x1_=some r) (H:St w0 w (HP.rc R_api_Pair cs1 x0_::HP.rc R_api_Pair cs2 x1_::l)) :
  Calls Tryz.prog 146 [.agg cs1.toArray,.agg cs2.toArray].toArray w (fun e w'=>∃ v,e=.returned v∧v=.int .i64 (r)∧St w0 w' (l)):=by
 unfold m_tree_compare at hm
 refine x_enter Tryz.func146 rfl rfl rfl ?_
 intro a F
 refine sr (s_boxA wkP F rfl rfl rfl rfl rfl H fun b3 w a H F=>s_boxA wkP F rfl rfl rfl rfl rfl H fun b4 w a H F=>bb [0] F H rfl fun a F=>?_)
 replace H:=H.nf 4 rfl
 refine nl (sr (bk [0] F H rfl ⟨fld129_0,trivial⟩ fun a F=>?_))
 have G:=F;replace H:=rc_api_Pair (H.pk 2 rfl);obtain ⟨p5,c6,p7,c8,rfl,J⟩:=H;have H:=J;have F:=G;clear G J
 refine bk [3000,0] F H rfl ⟨rfl,plain25,fld129_0,trivial⟩ fun a F=>?_
 have G:=F;replace H:=rc_api_Pair (H.pk 4 rfl);obtain ⟨p9,c10,p11,c12,rfl,J⟩:=H;have H:=J;have F:=G;clear G J
 refine bk [4000] F H rfl ⟨rfl,plain25,trivial⟩ fun a F=>?_
 obtain ⟨x13,ex13,hm⟩:=ob hm
 refine sd F rfl ent154 (w_cmpB ex13 (H.pm 6 [2,0,0,1,2,3,4,5] rfl:):) ?_;rintro _ w a ⟨rfl,H⟩ F
 refine bb [0] F H rfl fun a F=>?_
 replace H:=H.nf 6 rfl
 refine nl (wr ?_)
 cases hm
 refine x_ret1 F rfl rfl ?_
 exact ⟨_,rfl,rfl,(H.pm 6 [] rfl:)⟩
theorem ent146:En Tryz.prog 146:=enters Tryz.func146 (by kernel_rfl) rfl
theorem w_m_tree_rises {x0_:List T_api_Pair} {p1:Option Addr} {c1:Nat} {w0 w:World} {l:List HP}  {r:Bool} (hm:m_tree_rises x0_=some r) (H:St w0 w (HP.sl R_api_Pair p1 c1 x0_::l)) :
  Calls Tryz.prog 115 [.slice p1 (x0_).length c1].toArray w (fun e w'=>∃ v,e=.returned v∧v=.bool (r)∧St w0 w' (l)):=by
 unfold m_tree_rises at hm
 refine x_enter Tryz.func115 rfl rfl rfl ?_
 intro a F
 refine sb [0] F H rfl fun a F=>nl (sq (sb [0] F H rfl fun a F=>?_))
 refine nl (xr0 1 [] [] F H hm rfl rfl (fun r27 z=>z) (fun r27 z=>z) (fun o27 hm hm27=>?_) (fun r27 a w hm F H=>?_))
 refine bl (xl0 1 [0] [0] F H hm rfl rfl (fun (s44:Int) z=>(3,.int .i64 (s44))::z) (fun s44 z=>z) ⟨F.sl rfl,H⟩ (fun s44 a w o F H hm=>sq (sr (bk [0,0,0,0] F H rfl ⟨⟨_,Tryz.underlying61⟩,trivial⟩ fun a F=>?_))))
 refine nl (cPm F rfl hm (fun hg45 hm=>?_) (fun hg45 hm=>?_))
 refine sk (ct (sq (bl (sq ?_))))
 obtain ⟨x46,ex46,hm⟩:=ob hm
 obtain ⟨b47,o47,hp47,cs48,H⟩:=H.slE 0 rfl ex46
 obtain ⟨x49,ex49,hm⟩:=ob hm
 obtain ⟨cs50,H⟩:=H.slF 2 rfl hp47 ex49
 obtain ⟨x51,ex51,hm⟩:=ob hm
 refine qr H (by kernel_rfl) (by kernel_rfl) ?_
 refine qb [0,0,0] F rfl fun a F=>qv F rfl (fun u hu=>y_idxS F elem61 rfl rfl rfl hp47 ex46) fun a F=>qbk [2999,0,0] F rfl ⟨rfl,(aggn agg129 (H.rcLen 3 rfl)),trivial⟩ fun a F=>qv F rfl (fun u hu=>y_idxS F elem61 rfl rfl rfl hp47 ex49) fun a F=>qbk [999] F rfl ⟨rfl,(aggn agg129 (H.rcLen 1 rfl)),trivial⟩ fun a F=>?_
 refine q_call F rfl rfl rfl (fun u hu=>y_call F rfl rfl ent146) (fun u hu=>(w_m_tree_compare ex51 (hu.pm 5 [3,1,0,1,2,3,4] rfl:)).mono fun e u2 he=>by obtain ⟨v,rfl,rfl,H⟩:=he;exact ⟨rfl,H⟩) fun a F=>?_
 refine qb [0] F rfl fun a F=>?_
 refine q_nil fun w H=>?_
 refine ct (cPm F rfl hm (fun hg52 hm=>?_) (fun hg52 hm=>?_))
 cases hm
 refine sk (bn (ct (rl (bb [0,0,0] F H rfl fun a F=>?_))))
 refine lz (ct ?_);cases hm
 exact ⟨_,rfl,⟨F.sl rfl,(H.pm 5 [4] rfl:)⟩⟩
 refine ex (cx (cx ?_));cases hm;refine ⟨_,rfl,?_⟩;rintro rfl
 refine ch (ct ?_)
 exact ⟨_,rfl,F.cut _ trivial,(H.pm 1 [] rfl:)⟩
 refine ct (sb [0] F H rfl fun a F=>nl (wr ?_))
 cases hm
 refine x_ret1 F rfl rfl ?_
 exact ⟨_,rfl,rfl,H⟩
theorem elem218:ElemT Tryz.prog 218 61 1 24 (.slice none 0 0):=⟨Tryz.underlying218,by kernel_rfl,by kernel_rfl,by decide⟩
theorem w_m_tree_cut_api_Pair_ {x0_:List T_api_Pair} {x1_:List Int} {p1:Option Addr} {c1:Nat} {p2:Option Addr} {c2:Nat} {w0 w:World} {l:List HP}  {r:(List (List T_api_Pair))} (hm:m_tree_cut_api_Pair_ x0_ x1_=some r) (H:St w0 w (HP.sl R_api_Pair p1 c1 x0_::HP.sl (rInt .i64) p2 c2 x1_::l)) :
  Calls Tryz.prog 116 [.slice p1 (x0_).length c1,.slice p2 (x1_).length c2].toArray w (fun e w'=>∃ v,e=.returned v∧∃ (p3:Option Addr) (c3:Nat),v=.slice p3 (r).length c3∧St w0 w' (HP.sl (rSl R_api_Pair) p3 c3 r::l)):=by
 unfold m_tree_cut_api_Pair_ at hm
 refine x_enter Tryz.func116 rfl rfl rfl ?_
 intro a F
 refine sb [0] F H rfl fun a F=>nl (sq (sr (bk [0,0,0] F H rfl ⟨⟨_,Tryz.underlying220⟩,trivial⟩ fun a F=>?_)))
 refine nl (xm2 2 [] [] F H hm rfl rfl (fun r44 (p45:Option Addr) (c45:Nat) z=>(4,.slice p45 (r44).length c45)::z) (fun r44 p45 c45 z=>HP.ow (rSl R_api_Pair) 61 p45 c45 r44::z) (fun r44 hm=>?_) (fun r44 a w hm p45 c45 F H=>?_))
 refine bl ?_
 replace H:=H.owNil (rSl R_api_Pair) 61
 refine xl4 3 [7,8] [2] F H hm rfl rfl (fun (s72:(List T_api_Pair)×(List (List T_api_Pair))×Int) (p73:Option Addr) (c73:Nat) (p74:Option Addr) (c74:Nat) z=>(0,.slice p73 (s72.1).length c73)::(4,.slice p74 (s72.2.1).length c74)::(9,.int .i64 (s72.2.2))::z) (fun s72 p73 c73 p74 c74 z=>HP.sl R_api_Pair p73 c73 s72.1::HP.ow (rSl R_api_Pair) 61 p74 c74 s72.2.1::z) ⟨p1,c1,none,0,F.sl rfl,(H.pm 3 [1,0,2] rfl:)⟩ (fun s72 a w o p73 c73 p74 c74 F H hm=>?_)
 refine sb [0] F H rfl fun a F=>?_
 refine nl (sq (cPm F rfl hm (fun hg75 hm=>?_) (fun hg75 hm=>?_)))
 refine sk (ct (sq (bl (sr ?_))))
 obtain ⟨x76,ex76,hm⟩:=ob hm
 obtain ⟨b77,o77,hp77,cs78,H⟩:=H.slE 2 rfl ex76
 obtain rfl:=H.rcI 1 rfl
 replace H:=H.dp 1 rfl
 refine sv F rfl (y_idxS F elem220 rfl rfl rfl hp77 ex76) fun a F=>bk [0,0] F H rfl ⟨rfl,plain3,trivial⟩ fun a F=>nb [0,0,0] F H rfl fun a F=>?_
 obtain ⟨x80,ex80,hm⟩:=ob hm
 have hc79:=H.slCap 1 rfl
 replace H:=H.slSubN 2 rfl 1 rfl ex80
 refine sv F rfl (y_slH F elem61 rfl rfl rfl ex80 hc79) fun a F=>s_buildC wkP F rfl rfl rfl elem218 zero61 rfl rfl rfl rfl (by simp [Value.cells]) (by decide) H fun b81 w a H F=>?_
 replace H:=H.blkOw1 (R:=(rSl R_api_Pair)) (x:=x80) (fun gg=>⟨_,_,rfl,(gg 1 _ rfl).choose_spec⟩)
 replace H:=H.frz 0 rfl
 obtain ⟨x83,ex83,hm⟩:=ob hm
 refine s_app wkP F rfl rfl rfl rfl rfl rfl elem218 rfl ex83 H 4 0 rfl rfl fun p82 c82 w a H F=>?_
 refine bb [0] F H rfl fun a F=>?_
 replace H:=H.nf 6 rfl
 refine nl (rl (bb [0,0] F H rfl fun a F=>?_))
 obtain ⟨x85,ex85,hm⟩:=ob hm
 have hc84:=H.slCap 3 rfl
 replace H:=H.slSubN 2 rfl 3 rfl ex85
 refine sv F rfl (y_slL F elem61 rfl rfl rfl ex85 hc84) fun a F=>bb [0] F H rfl fun a F=>?_
 replace H:=H.nf 7 rfl
 refine lz (bn (ct (rl (bb [0,0] F H rfl fun a F=>?_))))
 refine lz (ct ?_);cases hm
 exact ⟨_,rfl,⟨(shp p73 c73 (x76:Int).toNat 2),(c73 - (x76:Int).toNat),p82,c82,F.sl rfl,(H.pm 7 [0,5,6] rfl:)⟩⟩
 refine ex (cx (cx ?_));cases hm;refine ⟨_,rfl,?_⟩;rintro rfl
 refine ch (ct ?_)
 exact ⟨p74,c74,F.sl rfl,(H.pm 3 [1] rfl:)⟩
 refine ct (sb [0,0] F H rfl fun a F=>nl (wr ?_))
 replace H:=H.frz 0 rfl
 cases hm
 refine x_ret1 F rfl rfl ?_
 exact ⟨_,rfl,p45,c45,rfl,H⟩
theorem ent67:En Tryz.prog 67:=enters Tryz.func67 (by kernel_rfl) rfl
theorem key24:KeyA Tryz.prog 24 32:=KeyA.make (by kernel_rfl) (by kernel_rfl) Tryz.underlying24 Tryz.underlying5 (by kernel_rfl) (by kernel_rfl) (by kernel_rfl)
theorem build_223_0_1:∀ (p0:Option Addr) (x0:List UInt8) (c0:Nat) (s1:List UInt8) (h1:s1.length=32),Tryz.prog.built 223 [(0,.slice p0 (x0).length c0),(1,.agg (bcells s1).toArray)]=some (([Value.slice p0 (x0).length c0]++(bcells s1):List Value)).toArray:=fun p0 x0 c0 s1 h1=>match s1,h1 with | [a0_0,a0_1,a0_2,a0_3,a0_4,a0_5,a0_6,a0_7,a0_8,a0_9,a0_10,a0_11,a0_12,a0_13,a0_14,a0_15,a0_16,a0_17,a0_18,a0_19,a0_20,a0_21,a0_22,a0_23,a0_24,a0_25,a0_26,a0_27,a0_28,a0_29,a0_30,a0_31],_=>by kernel_rfl
theorem w_trPut {bag:(List UInt8)→Option (List UInt8)} {n:T_api_Node} {first:List UInt8} {m1:Nat} {cs2:List Value} {p3:Option Addr} {c3:Nat} {w0 w:World} {l:List HP}  {r:T_api_Kid×Int×((List UInt8)→Option (List UInt8))} (hm:trPut bag n first=some r) (H:St w0 w (HP.row 0 (0) (icells .u32 shaStart)::HP.row 1 (0) (icells .u32 shaRounds)::HP.mm (some m1) hv false (rSlN w0.heap.size rByte) (fun l=>l.length=32) bag::HP.rc R_api_Node cs2 n::HP.sl rByte p3 c3 first::l)) :
  Calls Tryz.prog 118 [.map (some m1),.agg cs2.toArray,.slice p3 (first).length c3].toArray w (fun e w'=>∃ v,e=.returned v∧∃ (cs4:List Value),v=.tuple [.agg cs4.toArray,.int .i64 (r.2.1)].toArray∧St w0 w' (HP.rc R_api_Kid cs4 r.1::HP.mm (some m1) hv false (rSlN w0.heap.size rByte) (fun l=>l.length=32) r.2.2::l)):=by
 unfold trPut at hm
 refine x_enter Tryz.func118 rfl rfl rfl ?_
 intro a F
 refine sr (s_boxA wkP F rfl rfl rfl rfl rfl H fun b5 w a H F=>?_)
 replace H:=H.owNil rByte 5
 refine s_allocA wkP F rfl rfl rfl agz223 rfl H fun b6 w a H F=>bb [0] F H rfl fun a F=>?_
 replace H:=H.nf 8 rfl
 refine nl (sr (bk [2999] F H rfl ⟨rfl,(aggn agg227 (H.rcLen 6 rfl)),trivial⟩ fun a F=>?_))
 obtain ⟨x7,ex7,hm⟩:=ob hm
 refine sd F rfl ent149 (w_ndWrite ex7 (H.pm 8 [6,0,1,2,3,4,5,6,7] rfl:):) ?_;rintro _ w a ⟨p8,c8,rfl,H⟩ F
 refine bb (List.replicate 5 0) F H rfl fun a F=>?_
 replace H:=H.nf 9 rfl
 refine nl (sq (sb [0,0] F H rfl fun a F=>?_))
 refine nl (cNm F rfl hm (fun hg9 hm=>?_) (fun hg9 hm=>?_))
 cases hm
 refine sk (ct (sb [0] F H rfl fun a F=>?_))
 replace H:=H.frzNB 0 rfl
 replace H:=H.nslSl 0 rfl
 obtain ⟨x10,ex10,hm⟩:=ob hm
 refine sd F rfl ent67 (w_shaSum ex10 (H.pm 10 [5,6,0,0,1,2,3,4,5,6,7,8,9] rfl:):) ?_;rintro _ w a ⟨rfl,hl11,H⟩ F
 refine s_allocA wkP F rfl rfl rfl agz24 rfl H fun b12 w a H F=>s_storeA wkP F rfl rfl agg24 rfl rfl rfl H 0 rfl ((bcells_length _).trans hl11) ((bcells_length _).trans (List.length_replicate (n:=32))) (bcells_flat _) fun w H=>?_
 replace H:=H.nf 11 rfl
 refine nl (sr (bk [0,999,0] F H rfl ⟨rfl,(aggn agg24 ((bcells_length _).trans hl11)),trivial⟩ fun a F=>?_))
 refine s_mmSet wkP F rfl rfl Tryz.underlying46 (keyH key24) rfl H 8 rfl rfl (k:=x10) rfl (cs:=[.slice p8 (x7.1).length c8]) rfl hl11 (v:=x7.1) (fun gg=>⟨_,_,rfl,(gg 2 _ rfl).choose_spec⟩) fun w H=>?_
 replace H:=H.nf 11 rfl
 refine nl (sr (bk [0,999] F H rfl ⟨rfl,(aggn agg24 ((bcells_length _).trans hl11)),trivial⟩ fun a F=>sv F rfl (y_build F rfl rfl (cs:=[Value.slice p3 (first).length c3]++(bcells x10)) (build_223_0_1 p3 first c3 x10 hl11)) fun a F=>?_))
 refine s_storeA wkP F rfl rfl agg223 rfl rfl rfl H 3 rfl (by simp only [List.length_append,List.length_cons,List.length_nil,icells_length,bcells_length,hl11]) (by simp only [List.length_append,List.length_cons,List.length_nil,icells_length,bcells_length,(List.length_replicate (n:=32))]) (by intro v hv;simp only [List.mem_append,List.mem_cons,List.not_mem_nil,or_false] at hv;first | (rcases hv with h | h<;>first | (subst h;rfl) | exact bcells_flat _ _ h | exact icells_flat _ _ _ h | (rcases h with h | h<;>first | (subst h;rfl) | exact bcells_flat _ _ h | exact icells_flat _ _ _ h | (rcases h with h | h<;>first | (subst h;rfl) | exact bcells_flat _ _ h | (rcases h with h | h<;>first | (subst h;rfl) | (rcases h with h | h<;>(subst h;rfl)))))) | (subst hv;rfl)) fun w H=>?_
 refine bb [0] F H rfl fun a F=>?_
 replace H:=H.nf 11 rfl
 refine nl (wr ?_)
 replace H:=H.mkRc (R:=R_api_Kid) (cs:=[Value.slice p3 (first).length c3]++(bcells x10)) (x:=(first,x10)) (fun gg=>⟨_,_,rfl,⟨_,_,rfl,(gg 10 _ rfl).choose_spec⟩,⟨rfl,hl11⟩⟩)
 cases hm
 refine x_resC2 F rfl (⟨_,rfl,agg223.run_load (H.blk 4 rfl).row (by simp only [List.length_append,List.length_cons,List.length_nil,icells_length,bcells_length,hl11])⟩) rfl ?_
 exact ⟨_,rfl,[Value.slice p3 (first).length c3]++(bcells x10),rfl,(H.pm 12 [0,9] rfl:)⟩
theorem ent115:En Tryz.prog 115:=enters Tryz.func115 (by kernel_rfl) rfl
theorem ent117:En Tryz.prog 117:=enters Tryz.func117 (by kernel_rfl) rfl
theorem ent116:En Tryz.prog 116:=enters Tryz.func116 (by kernel_rfl) rfl
theorem ent118:En Tryz.prog 118:=enters Tryz.func118 (by kernel_rfl) rfl
theorem fld223_1:FieldT Tryz.prog 223 1 1:=by unfold FieldT;rw [Tryz.underlying223];kernel_rfl
theorem w_trBuild {pairs:List T_api_Pair} {p1:Option Addr} {c1:Nat} {w0 w:World} {l:List HP}  {r:(List UInt8)×((List UInt8)→Option (List UInt8))×Int} (hm:trBuild pairs=some r) (H:St w0 w (HP.row 0 (0) (icells .u32 shaStart)::HP.row 1 (0) (icells .u32 shaRounds)::HP.sl R_api_Pair p1 c1 pairs::l)) :
  Calls Tryz.prog 86 [.slice p1 (pairs).length c1].toArray w (fun e w'=>∃ v,e=.returned v∧∃ (q3:Option Nat),v=.tuple [.agg (bcells r.1).toArray,.map q3,.int .i64 (r.2.2)].toArray∧((r.1).length=32)∧St w0 w' (HP.mm q3 hv false (rSlN w0.heap.size rByte) (fun l=>l.length=32) r.2.1::l)):=by
 unfold trBuild at hm
 refine x_enter Tryz.func86 rfl rfl rfl ?_
 intro a F
 refine sr (s_allocA wkP F rfl rfl rfl agz24 rfl H fun b4 w a H F=>bb [0,0] F H rfl fun a F=>?_)
 replace H:=H.nf 4 rfl
 refine nl (sq (sb [0] F H rfl fun a F=>?_))
 obtain ⟨x5,ex5,hm⟩:=ob hm
 refine sd F rfl ent115 (w_m_tree_rises ex5 (H.pm 4 [3,0,1,2,3] rfl:):) ?_;rintro _ w a ⟨rfl,H⟩ F
 refine bb [0] F H rfl fun a F=>?_
 replace H:=H.nf 4 rfl
 refine nl (cB F rfl (fun hg6=>?_) (fun hg6=>?_))
 replace hm:=ifT hg6 hm
 cases hm
 replace hm:=ifF (nT hg6) hm
 refine sk (ct (sr (s_mmNew hv false (rSlN w0.heap.size rByte) (fun l=>l.length=32) wkP F rfl rfl rfl rfl H fun m7 w a H F=>bb [0,0] F H rfl fun a F=>?_)))
 replace H:=H.nf 5 rfl
 refine nl (sq (sb [0,0] F H rfl fun a F=>?_))
 obtain ⟨x8,ex8,hm⟩:=ob hm
 refine sd F rfl ent117 (w_m_shape_Leaves ex8 (H.pm 5 [4,0,1,2,3,4] rfl:):) ?_;rintro _ w a ⟨p9,c9,rfl,H⟩ F
 obtain ⟨x10,ex10,hm⟩:=ob hm
 refine sd F rfl ent116 (w_m_tree_cut_api_Pair_ ex10 (H.pm 6 [5,0,0,1,2,3,4,5] rfl:):) ?_;rintro _ w a ⟨p11,c11,rfl,H⟩ F
 refine bk [0,0] F H rfl ⟨⟨_,Tryz.underlying218⟩,trivial⟩ fun a F=>?_
 replace H:=H.nf 7 rfl
 refine nl (xr2 7 [2,5] [3,4,5] F H hm rfl rfl (fun r199 (p200:Option Addr) (c200:Nat) z=>(6,.slice p200 (r199.2).length c200)::z) (fun r199 p200 c200 z=>HP.mm (some m7) hv false (rSlN w0.heap.size rByte) (fun l=>l.length=32) r199.1::HP.ow R_api_Kid 223 p200 c200 r199.2::z) (fun o199 hm hm199=>?_) (fun r199 a w hm p200 c200 F H=>?_))
 refine bl ?_
 replace H:=H.owNil R_api_Kid 223
 refine xl2 8 [2,5,29,30] [1,4,5,6] F H hm rfl rfl (fun (s325:((List UInt8)→Option (List UInt8))×(List T_api_Kid)×Int) (p326:Option Addr) (c326:Nat) z=>(6,.slice p326 (s325.2.1).length c326)::(31,.int .i64 (s325.2.2))::z) (fun s325 p326 c326 z=>HP.mm (some m7) hv false (rSlN w0.heap.size rByte) (fun l=>l.length=32) s325.1::HP.ow R_api_Kid 223 p326 c326 s325.2.1::z) ⟨none,0,F.sl rfl,(H.pm 8 [3,0,1,4,5,6] rfl:)⟩ (fun s325 a w o p326 c326 F H hm=>?_)
 refine sb [0] F H rfl fun a F=>?_
 refine nl (sq (cPm F rfl hm (fun hg327 hm=>?_) (fun hg327 hm=>?_)))
 refine sk (ct (sq (xr2 6 [2,5,29,30,31] [2,3,4,5] F H hm rfl rfl (fun r357 (p358:Option Addr) (c358:Nat) z=>(6,.slice p358 (r357.2).length c358)::z) (fun r357 p358 c358 z=>HP.mm (some m7) hv false (rSlN w0.heap.size rByte) (fun l=>l.length=32) r357.1::HP.ow R_api_Kid 223 p358 c358 r357.2::z) (fun o357 hm hm357=>?_) (fun r357 a w hm p358 c358 F H=>?_))))
 refine bl (sr ?_)
 obtain ⟨x359,ex359,hm⟩:=ob hm
 obtain ⟨b360,o360,hp360,cs361,H⟩:=H.slE 2 rfl ex359
 have G:=F;obtain ⟨p362,c362,rfl,H⟩:=H.rcSl 1 rfl;have F:=G;clear G
 replace H:=H.dp 2 rfl
 refine sv F rfl (y_idxS F elem218 rfl rfl rfl hp360 ex359) fun a F=>bk [1000,0] F H rfl ⟨rfl,plain61,trivial⟩ fun a F=>nb [0] F H rfl fun a F=>nl (sq (sr (bk [0,0,0] F H rfl ⟨⟨_,Tryz.underlying61⟩,trivial⟩ fun a F=>?_)))
 refine nl (xm2 8 [2,5,6,8,29,30,31] [0,1,2,3,4,5,6,7] F H hm rfl rfl (fun r371 (p372:Option Addr) (c372:Nat) z=>(9,.slice p372 (r371).length c372)::z) (fun r371 p372 c372 z=>HP.sl rByte p372 c372 r371::z) (fun r371 hm=>?_) (fun r371 a w hm p372 c372 F H=>?_))
 refine cPm F rfl hm (fun hg373 hm=>?_) (fun hg373 hm=>?_)
 refine rl (bb [0] F H rfl fun a F=>?_)
 obtain ⟨x374,ex374,hm⟩:=ob hm
 obtain ⟨b375,o375,hp375,cs376,H⟩:=H.slE 0 rfl ex374
 refine sv F rfl (y_idxS F elem61 rfl rfl rfl hp375 ex374) fun a F=>bk [0] F H rfl ⟨fld129_0,trivial⟩ fun a F=>?_
 have G:=F;replace H:=rc_api_Pair (H.pk 1 rfl);obtain ⟨p377,c378,p379,c380,rfl,J⟩:=H;have H:=J;have F:=G;clear G J
 refine bk [2000,0] F H rfl ⟨rfl,plain25,trivial⟩ fun a F=>lz ?_
 cases hm
 refine ct ?_
 exact ⟨p377,c378,F.sl rfl,(H.pm 11 [0,3,4,5,6,7,8,9,10] rfl:)⟩
 refine sk ?_
 cases hm
 refine ct ?_
 replace H:=H.slNil rByte
 exact ⟨none,0,F.sl rfl,H⟩
 refine ct (sb [0,0] F H rfl fun a F=>?_)
 replace H:=H.owNil R_api_Kid 223
 refine sv F rfl (y_build F rfl rfl (cs:=[.int .i64 (0),.slice p362 (x359).length c362,.slice none (([]:List T_api_Kid)).length 0]) (by kernel_rfl)) fun a F=>bb [0] F H rfl fun a F=>?_
 replace H:=H.frz 0 rfl
 replace H:=mk_api_Node H 0 2 rfl 0 rfl
 obtain ⟨x381,ex381,hm⟩:=ob hm
 refine sd F rfl ent118 (w_trPut ex381 (H.pm 11 [9,10,5,0,2,0,1,2,3,4,6,7,8,9,10] rfl:):) ?_;rintro _ w a ⟨cs382,rfl,H⟩ F
 refine bb [0,0,0] F H rfl fun a F=>?_
 replace H:=H.owNil rByte 5
 refine s_allocA wkP F rfl rfl rfl agz223 rfl H fun b383 w a H F=>s_storeA wkP F rfl rfl agg223 rfl rfl rfl H 0 rfl (H.rcLen 2 rfl) (by simp only [List.length_append,List.length_cons,List.length_nil,icells_length,bcells_length,(List.length_replicate (n:=32))]) (H.rcFlat 2 rfl) fun w H=>bb [0] F H rfl fun a F=>?_
 replace H:=H.nf 14 rfl
 refine nl (sq (sb [0,0] F H rfl fun a F=>?_))
 refine nl (cNm F rfl hm (fun hg384 hm=>?_) (fun hg384 hm=>?_))
 cases hm
 refine sk (ct (rl (bk [0,999] F H rfl ⟨rfl,(aggn agg223 (H.rcLen 2 rfl)),trivial⟩ fun a F=>?_)))
 refine s_build1 wkP F rfl rfl rfl agg223 elem217 rfl rfl (H.rcLen 2 rfl) (by decide) H fun b385 w a H F=>?_
 replace H:=H.blkOw1 (R:=R_api_Kid) (x:=x381.1) (fun gg=>(gg 3 _ rfl).choose_spec)
 replace H:=H.frz 0 rfl
 obtain ⟨x387,ex387,hm⟩:=ob hm
 refine s_app wkP F rfl rfl rfl rfl rfl rfl elem217 rfl ex387 H 10 0 rfl rfl fun p386 c386 w a H F=>?_
 refine bb [0] F H rfl fun a F=>?_
 replace H:=H.nf 15 rfl
 refine lz (bn ?_)
 cases hm
 refine ct ?_
 exact ⟨_,rfl,p386,c386,F.sl rfl,(H.pm 15 [4,10,11,12,13,14] rfl:)⟩
 refine ct (rl (bb [0,0] F H rfl fun a F=>?_))
 refine lz (ct ?_);cases hm
 exact ⟨_,rfl,⟨p358,c358,F.sl rfl,H⟩⟩
 refine ex (cx (cx ?_));cases hm;refine ⟨_,rfl,?_⟩;rintro rfl
 refine ch (ct ?_)
 exact ⟨_,rfl,p326,c326,F.sl rfl,(H.pm 6 [0,1,3,4,5] rfl:)⟩
 refine ct (sq (sb [0] F H rfl fun a F=>?_))
 refine nl (xr0 5 [2,5,6] [0,1,2,3,4] F H hm rfl rfl (fun r392 z=>z) (fun r392 z=>z) (fun o392 hm hm392=>?_) (fun r392 a w hm F H=>?_))
 refine bl (xl0 5 [2,5,6,12] [0,1,2,3,4] F H hm rfl rfl (fun (s395:Unit) z=>z) (fun s395 z=>z) ⟨F.sl rfl,H⟩ (fun s395 a w o F H hm=>sq (sr (bk [0,0,0] F H rfl ⟨⟨_,Tryz.underlying217⟩,trivial⟩ fun a F=>?_))))
 refine nl (cPm F rfl hm (fun hg396 hm=>?_) (fun hg396 hm=>?_))
 refine sk (ct (sq (bl (sq ?_))))
 cases hm
 refine ex (cx (cx ?_));cases hm;refine ⟨_,rfl,?_⟩;rintro rfl
 refine ch (ct ?_)
 exact ⟨_,rfl,F.sl rfl,H⟩
 refine ct (sb [0] F H rfl fun a F=>?_)
 obtain ⟨x397,ex397,hm⟩:=ob hm
 obtain ⟨b398,hp398⟩:=H.owP 1 rfl (idxO_some ex397).2
 obtain ⟨css399,H⟩:=H.oxOpen 1 rfl
 obtain ⟨cs399,hcs399,hcl399,H⟩:=H.oxEl 1 rfl (idxO_some ex397).2
 refine sv F rfl (y_idxS F elem217 rfl rfl rfl hp398 ex397) fun a F=>bk [1] F H rfl ⟨fld223_1,trivial⟩ fun a F=>?_
 have G:=F;replace H:=rc_api_Kid (H.pk 0 rfl);obtain ⟨p400,c401,hl402,rfl,J⟩:=H;have H:=J;have F:=G;clear G J
 refine sv F rfl (y_loadA F agg24 rfl rfl (row_midE (A:=[.slice p400 (x397.1).length c401]) (X:=bcells x397.2) (H.oxRow 2 rfl hp398 hcs399 hcl399) (by simp only [List.length_append,List.length_cons,List.length_nil,icells_length,bcells_length])) ((bcells_length _).trans hl402)) fun a F=>bb [0] F H rfl fun a F=>s_storeA wkP F rfl rfl agg24 rfl rfl rfl H 3 rfl ((bcells_length _).trans hl402) ((bcells_length _).trans (List.length_replicate (n:=32))) (bcells_flat _) fun w H=>bb [0,0] F H rfl fun a F=>?_
 replace H:=H.nf 6 rfl
 refine nl ?_
 replace H:=H.oxShut 2 rfl
 refine wr ?_
 cases hm
 refine x_resC3 F rfl (⟨_,rfl,agg24.run_load (H.blk 3 rfl).row ((bcells_length _).trans hl402)⟩) rfl rfl ?_
 exact ⟨_,rfl,(some m7),rfl,hl402,(H.pm 6 [1] rfl:)⟩
theorem fld256_1:FieldT Tryz.prog 256 1 1:=by unfold FieldT;rw [Tryz.underlying256];kernel_rfl
theorem w_trFollows {w_:T_tree_walker_o} {list:List T_api_Pair} {root:Bool} {bo0:Nat} {bo0_0:Option Nat} {p1:Option Addr} {c1:Nat} {w0 w:World} {l:List HP}  {r:Bool} (hm:trFollows w_ list root=some r) (H:St w0 w (O_tree_walker w0.heap.size bo0 bo0_0 w_::HP.sl (rP2N w0.heap.size) p1 c1 list::l)) :
  Calls Tryz.prog 171 [.pointer (some ⟨bo0,0,none⟩),.slice p1 (list).length c1,.bool (root)].toArray w (fun e w'=>∃ v,e=.returned v∧v=.bool (r)∧St w0 w' (O_tree_walker w0.heap.size bo0 bo0_0 w_::l)):=by
 unfold trFollows at hm
 refine x_enter Tryz.func171 rfl rfl rfl ?_
 intro a F
 refine sb [0] F H rfl fun a F=>nl (sq (sr (bk [0,0,0] F H rfl ⟨⟨_,Tryz.underlying61⟩,trivial⟩ fun a F=>?_)))
 refine nl (cPm F rfl hm (fun hg2 hm=>?_) (fun hg2 hm=>?_))
 refine sb [0,0] F H rfl fun a F=>nl (wr (tr ?_))
 cases hm
 refine x_ret1 F rfl rfl ?_
 exact ⟨_,rfl,rfl,(H.pm 2 [0] rfl:)⟩
 refine sk (ct (sq ?_))
 obtain ⟨p3,c4,H⟩:=O_tree_walker_o (H.pk 0 rfl)
 by_cases hg5:((w_).length:Int)=0
 replace hm:=ifT hg5 hm
 refine qr H (by kernel_rfl) (by kernel_rfl) ?_
 refine qbk [0,0,1,1,0,0,0] F rfl ⟨fld256_1,rfl,plain61,⟨_,Tryz.underlying61⟩,trivial⟩ fun a F=>?_
 replace F:=F.bT 17 hg5 rfl
 refine qb (List.replicate 19 0) F rfl fun a F=>?_
 refine q_nil fun w H=>?_
 refine ct (wr ?_)
 replace H:=O_tree_walker_s H
 cases hm
 refine x_ret1 F rfl rfl ?_
 exact ⟨_,rfl,rfl,(H.pm 2 [0] rfl:)⟩
 replace hm:=ifF hg5 hm
 obtain ⟨x6,ex6,hm⟩:=ob hm
 obtain ⟨b7,hp7⟩:=H.owP 1 rfl (idxO_some ex6).2
 obtain ⟨css8,H⟩:=H.oxOpen 1 rfl
 obtain ⟨cs8,hcs8,hcl8,H⟩:=H.oxEl 1 rfl (idxO_some ex6).2
 obtain ⟨x9,ex9,hm⟩:=ob hm
 obtain ⟨b10,o10,hp10,cs11,H⟩:=H.slE 3 rfl ex9
 replace H:=H.rcP2W 2 rfl
 replace H:=H.rcP2W 2 rfl
 obtain ⟨x12,ex12,hm⟩:=ob hm
 refine qr H (by kernel_rfl) (by kernel_rfl) ?_
 refine qbk [0,0,1,5001,0,0,0] F rfl ⟨fld256_1,rfl,plain61,⟨_,Tryz.underlying61⟩,trivial⟩ fun a F=>?_
 replace F:=F.bF 17 hg5 rfl
 refine qbk [0,0,1,5001,0,0,1,5001,0,0] F rfl ⟨fld256_1,rfl,plain61,fld256_1,rfl,plain61,⟨_,Tryz.underlying61⟩,trivial⟩ fun a F=>?_
 refine qg_on F rfl rfl rfl rfl ?_
 refine qv F rfl (fun u hu=>y_idxS F elem61 rfl rfl rfl hp7 ex6) fun a F=>?_
 refine qg_on F rfl rfl rfl rfl ?_
 refine qv F rfl (fun u hu=>y_loadA F agg129 rfl rfl (hu.oxRow 6 rfl hp7 hcs8 hcl8) (H.rcLen 4 rfl)) fun a F=>qb [0] F rfl fun a F=>?_
 refine qg_on F rfl rfl rfl rfl ?_
 refine qv F rfl (fun u hu=>y_idxS F elem61 rfl rfl rfl hp10 ex9) fun a F=>qbk [2999] F rfl ⟨rfl,(aggn agg129 (H.rcLen 3 rfl)),trivial⟩ fun a F=>?_
 refine qg_on F rfl rfl rfl rfl ?_
 refine q_call F rfl rfl rfl (fun u hu=>y_call F rfl rfl ent146) (fun u hu=>(w_m_tree_compare ex12 (hu.pm 8 [1,0,0,1,2,3,4,5,6,7] rfl:)).mono fun e u2 he=>by obtain ⟨v,rfl,rfl,H⟩:=he;exact ⟨rfl,H⟩) fun a F=>?_
 refine qb [0,0,0] F rfl fun a F=>?_
 refine q_nil fun w H=>?_
 replace H:=H.oxShut 6 rfl
 refine ct (wr ?_)
 replace H:=O_tree_walker_s (H.pm 8 [5,6,0,1,2,3,4,7] rfl:)
 cases hm
 refine x_ret1 F rfl rfl ?_
 exact ⟨_,rfl,rfl,(H.pm 7 [0] rfl:)⟩
theorem fld256_0:FieldT Tryz.prog 256 0 0:=by unfold FieldT;rw [Tryz.underlying256];kernel_rfl
theorem plain46:Plain Tryz.prog 46:=by unfold Plain;rw [Tryz.underlying46];rfl
theorem ent170:En Tryz.prog 170:=enters Tryz.func170 (by kernel_rfl) rfl
theorem ent171:En Tryz.prog 171:=enters Tryz.func171 (by kernel_rfl) rfl
theorem w_trWalk {w_:((List UInt8)→Option (List UInt8))×(List T_api_Pair)} {h:List UInt8} {level:Int} {bo0:Nat} {bo0_0:Option Nat} {w0 w:World} {l:List HP} (hl1:(h).length=32) {r:Int×T_tree_walker_o} (hm:trWalk w_ h level=some r) (H:St w0 w (HP.row 0 (0) (icells .u32 shaStart)::HP.row 1 (0) (icells .u32 shaRounds)::O_tree_walker w0.heap.size bo0 bo0_0 w_.2::HP.fm bo0_0 hv false (rSl rByte) (fun l=>l.length=32) w_.1::l)) :
  Calls Tryz.prog 140 [.pointer (some ⟨bo0,0,none⟩),.agg (bcells h).toArray,.int .i64 (level)].toArray w (fun e w'=>∃ v,e=.returned v∧v=.int .i64 (r.1)∧St w0 w' (O_tree_walker w0.heap.size bo0 bo0_0 r.2::l)):=by
 unfold trWalk at hm
 refine x_enter Tryz.func140 rfl rfl rfl ?_
 intro a F
 refine sr (s_boxA wkP F rfl rfl rfl rfl rfl H fun b2 w a H F=>bb [0] F H rfl fun a F=>?_)
 replace H:=H.nf 5 rfl
 refine nl (sq ?_)
 obtain ⟨p3,c4,H⟩:=O_tree_walker_o (H.pk 3 rfl)
 obtain ⟨es5,H⟩:=H.fmOpen 5 rfl
 obtain ⟨cs5,hcs5,H⟩:=H.fmGet 0 rfl h (zc:=[Value.slice none 0 0]) (z0:=[]) (fun _=>rSl_nil _ _)
 have G:=F;obtain ⟨p6,c6,rfl,H⟩:=H.rcSl 0 rfl;have F:=G;clear G
 replace H:=H.dp 1 rfl
 refine qr H (by kernel_rfl) (by kernel_rfl) ?_
 refine qbk [0,0,0,2000,4999] F rfl ⟨fld256_0,rfl,plain46,rfl,(aggn agg24 ((bcells_length _).trans hl1)),trivial⟩ fun a F=>qv F rfl (fun u hu=>y_fmGet2 (agg:=false) (zc:=[Value.slice none 0 0]) F Tryz.underlying46 (keyH key24) (fun w=>zero25.run w) rfl hu 1 rfl rfl (k:=h) rfl hl1 hcs5) fun a F=>qb (List.replicate 5 0) F rfl fun a F=>?_
 refine q_nil fun w H=>?_
 refine ct (sq (sq ?_))
 by_cases hg7:(!((w_.1 h).isSome))=true
 replace hm:=ifT hg7 hm
 refine qr H (by kernel_rfl) (by kernel_rfl) ?_
 refine qb [0,0,0] F rfl fun a F=>?_
 replace F:=F.vT 25 hg7 rfl
 refine qb (List.replicate 5 0) F rfl fun a F=>?_
 refine q_nil fun w H=>?_
 refine ct (cT F rfl ?_)
 cases hm
 replace hm:=ifF hg7 hm
 obtain ⟨x8,ex8,hm⟩:=ob hm
 have hl9:(x8).length=32:=by obtain ⟨_,_,_,_,_,hx,_⟩:=calls_ex (w_shaSum ex8 (H.pm 8 [5,6,0,0,1,2,3,4,5,6,7] rfl:));exact hx
 refine qr H (by kernel_rfl) (by kernel_rfl) ?_
 refine qb [0,0,0] F rfl fun a F=>?_
 replace F:=F.vF 25 hg7 rfl
 refine qb [0] F rfl fun a F=>?_
 refine qg_on F rfl rfl rfl rfl ?_
 refine q_call F rfl rfl rfl (fun u hu=>y_call F rfl rfl ent67) (fun u hu=>(w_shaSum ex8 (hu.pm 8 [5,6,0,0,1,2,3,4,5,6,7] rfl:)).mono fun e u2 he=>by obtain ⟨v,rfl,rfl,_,H⟩:=he;exact ⟨rfl,H⟩) fun a F=>?_
 refine qbk [4999] F rfl ⟨rfl,(aggn agg24 ((bcells_length _).trans hl1)),trivial⟩ fun a F=>?_
 refine qg_on F rfl rfl rfl rfl ?_
 refine qv F rfl (fun u hu=>y_neqA F key24 rfl rfl rfl hl9 hl1) fun a F=>qb [0] F rfl fun a F=>?_
 refine q_nil fun w H=>?_
 refine ct (cNm F rfl hm (fun hg10 hm=>?_) (fun hg10 hm=>?_))
 cases hm
 refine sk (ct (sb [0] F H rfl fun a F=>?_))
 obtain ⟨x11,ex11,hm⟩:=ob hm
 refine sd F rfl ent170 (w_ndRead ex11 (H.pm 8 [0,0,1,2,3,4,5,6,7] rfl:):) ?_;rintro _ w a ⟨p12,c12,p13,c13,rfl,H⟩ F
 refine bb [0,0,0] F H rfl fun a F=>?_
 replace H:=H.owNil (rP2N w0.heap.size) 129
 replace H:=H.owNil R_api_Kid 223
 refine s_allocA wkP F rfl rfl rfl agz227 rfl H fun b14 w a H F=>s_storeA wkP F rfl rfl agg227 rfl rfl rfl H 0 rfl rfl rfl (fl rfl) fun w H=>bb [0] F H rfl fun a F=>?_
 replace H:=H.nf 13 rfl
 refine nl (sq (sq ?_))
 replace H:=O_tree_walker_s (H.pm 13 [7,8,0,1,2,3,4,5,6,9,10,11,12] rfl:)
 refine xm2 12 [0,9] [0,2,3,5,8,9,10,11] F H hm rfl rfl (fun r22 (p23:Option Addr) (c23:Nat) z=>(61,.bool (r22.2))::z) (fun r22 p23 c23 z=>HP.blk b14 ([.int .i64 (x11.1.1),.slice p23 (r22.1).length c23,.slice p13 (x11.1.2.2).length c13]) 227::HP.sl (rP2N w0.heap.size) p23 c23 r22.1::z) (fun r22 hm=>?_) (fun r22 a w hm p23 c23 F H=>?_)
 refine rl (bb [0,0,0] F H rfl fun a F=>?_)
 rcases spN 38 F rfl hm with ⟨hg24,hm,F⟩ | ⟨hg24,hm,F⟩
 refine bb [0,0,0] F H rfl fun a F=>?_
 rcases spP 41 F rfl hm with ⟨hg25,hm,F⟩ | ⟨hg25,hm,F⟩
 refine bk [0,1000,0,0,0,0,0] F H rfl ⟨fld227_0,rfl,plain3,trivial⟩ fun a F=>?_
 rcases spN 48 F rfl hm with ⟨hg26,hm,F⟩ | ⟨hg26,hm,F⟩
 refine bk [0,1000,0,0] F H rfl ⟨fld227_0,rfl,plain3,trivial⟩ fun a F=>?_
 rcases spP 52 F rfl hm with ⟨hg27,hm,F⟩ | ⟨hg27,hm,F⟩
 refine bk [0,1,1001,0,0] F H rfl ⟨fld227_1,rfl,plain61,trivial⟩ fun a F=>g_onP F rfl rfl rfl rfl ?_
 replace H:=H.nslSl 4 rfl
 obtain ⟨x28,ex28,hm⟩:=ob hm
 refine sd F rfl ent171 (w_trFollows ex28 (H.pm 13 [1,0,0,2,3,4,5,6,7,8,9,10,11,12] rfl:):) ?_;rintro _ w a ⟨rfl,H⟩ F
 refine bb [0,0,0] F H rfl fun a F=>?_
 replace H:=H.nf 13 rfl
 refine lz ?_
 cases hm
 refine ct ?_
 exact ⟨p12,c12,F.sl rfl,(H.pm 13 [2,1,0,3,4,6,9,10,11,12] rfl:)⟩
 refine bb (List.replicate 9 0) F H rfl fun a F=>lz ?_
 cases hm
 refine ct ?_
 replace H:=H.nslSl 4 rfl
 exact ⟨p12,c12,F.sl rfl,(H.pm 13 [2,0,1,3,4,6,9,10,11,12] rfl:)⟩
 refine bb (List.replicate 13 0) F H rfl fun a F=>lz ?_
 cases hm
 refine ct ?_
 replace H:=H.nslSl 4 rfl
 exact ⟨p12,c12,F.sl rfl,(H.pm 13 [2,0,1,3,4,6,9,10,11,12] rfl:)⟩
 refine bk [0,0,0,0,0,0,0,0,1000,0,0] F H rfl ⟨fld227_0,rfl,plain3,trivial⟩ fun a F=>?_
 rcases spP 52 F rfl hm with ⟨hg29,hm,F⟩ | ⟨hg29,hm,F⟩
 refine bk [0,1,1001,0,0] F H rfl ⟨fld227_1,rfl,plain61,trivial⟩ fun a F=>g_onP F rfl rfl rfl rfl ?_
 replace H:=H.nslSl 4 rfl
 obtain ⟨x30,ex30,hm⟩:=ob hm
 refine sd F rfl ent171 (w_trFollows ex30 (H.pm 13 [1,0,0,2,3,4,5,6,7,8,9,10,11,12] rfl:):) ?_;rintro _ w a ⟨rfl,H⟩ F
 refine bb [0,0,0] F H rfl fun a F=>?_
 replace H:=H.nf 13 rfl
 refine lz ?_
 cases hm
 refine ct ?_
 exact ⟨p12,c12,F.sl rfl,(H.pm 13 [2,1,0,3,4,6,9,10,11,12] rfl:)⟩
 refine bb (List.replicate 9 0) F H rfl fun a F=>lz ?_
 cases hm
 refine ct ?_
 replace H:=H.nslSl 4 rfl
 exact ⟨p12,c12,F.sl rfl,(H.pm 13 [2,0,1,3,4,6,9,10,11,12] rfl:)⟩
 refine bb (List.replicate 23 0) F H rfl fun a F=>lz ?_
 cases hm
 refine ct ?_
 replace H:=H.nslSl 4 rfl
 exact ⟨p12,c12,F.sl rfl,(H.pm 13 [2,0,1,3,4,6,9,10,11,12] rfl:)⟩
 refine ct (cB F rfl (fun hg31=>?_) (fun hg31=>?_))
 replace hm:=ifT hg31 hm
 cases hm
 replace hm:=ifF (nT hg31) hm
 refine sk (ct (sq ?_))
 obtain ⟨p32,c33,H⟩:=O_tree_walker_o (H.pk 2 rfl)
 refine mix_regionK [7,10] [10] (scL [0,1,2,3,1004,5,1006,2007,8,9,3010]) [] H rfl rfl (by kernel_rfl) (by kernel_rfl) fun w H=>?_
 refine mbk [0,0,0,1,1,1,2001] F H rfl ⟨fld256_1,rfl,plain61,fld227_1,rfl,plain61,trivial⟩ fun a F=>m_heavy rfl rfl ?_
 obtain ⟨x35,ex35,hm⟩:=ob hm
 refine s_app wkP F rfl rfl rfl rfl rfl rfl elem61 rfl ex35 H 1 3 rfl rfl fun p34 c34 w a H F=>?_
 refine lz ?_;refine ct ⟨⟨_,H⟩,?_⟩
 refine mbk [0,1] F H rfl ⟨fld256_1,trivial⟩ fun a F=>m_last rfl rfl (s_st1 wkP F rfl rfl zero61 rfl rfl rfl rfl rfl H 0 rfl rfl fun w H=>?_)
 refine lz ?_;refine ct ?_
 refine m_nil (ct (sq (sr (bk [2,2002,0,0] F H rfl ⟨fld227_2,rfl,plain217,⟨_,Tryz.underlying217⟩,trivial⟩ fun a F=>?_))))
 replace H:=H.nf 11 rfl
 refine nl ?_
 replace H:=O_tree_walker_s H
 refine xr0 10 [] [0,1,2,3,4,5,6,7,8,9] F H hm rfl rfl (fun r52 z=>z) (fun r52 z=>z) (fun o52 hm hm52=>?_) (fun r52 a w hm F H=>?_)
 refine bl (xl0 10 [0,9,73,74,75] [0,1,2,3,4,5,6,7,8,9] F H hm rfl rfl (fun (s63:Unit) z=>z) (fun s63 z=>z) ⟨F.sl rfl,H⟩ (fun s63 a w o F H hm=>sb [0] F H rfl fun a F=>?_))
 replace H:=H.nf 10 rfl
 refine nl (sq (cPm F rfl hm (fun hg64 hm=>?_) (fun hg64 hm=>?_)))
 refine sk (ct (sq (bl (sr ?_))))
 obtain ⟨x65,ex65,hm⟩:=ob hm
 obtain ⟨b66,o66,hp66,cs67,H⟩:=H.slE 5 rfl ex65
 refine sv F rfl (y_idxS F elem217 rfl rfl rfl hp66 ex65) fun a F=>bk [999] F H rfl ⟨rfl,(aggn agg223 (H.rcLen 1 rfl)),trivial⟩ fun a F=>?_
 replace H:=H.owNil rByte 5
 refine s_allocA wkP F rfl rfl rfl agz223 rfl H fun b68 w a H F=>s_storeA wkP F rfl rfl agg223 rfl rfl rfl H 0 rfl (H.rcLen 3 rfl) (by simp only [List.length_append,List.length_cons,List.length_nil,icells_length,bcells_length,(List.length_replicate (n:=32))]) (H.rcFlat 3 rfl) fun w H=>?_
 replace H:=H.nf 14 rfl
 refine nl ?_
 cases hm
 refine ex (cx (cx ?_));cases hm;refine ⟨_,rfl,?_⟩;rintro rfl
 refine ch (ct ?_)
 exact ⟨_,rfl,F.cut _ trivial,H⟩
 refine ct (sb [0] F H rfl fun a F=>?_)
 replace H:=H.nf 10 rfl
 refine nl (wr ?_)
 cases hm
 refine x_ret1 F rfl rfl ?_
 exact ⟨_,rfl,rfl,(H.pm 10 [0] rfl:)⟩
theorem ent140:En Tryz.prog 140:=enters Tryz.func140 (by kernel_rfl) rfl
theorem ent86:En Tryz.prog 86:=enters Tryz.func86 (by kernel_rfl) rfl
theorem w_trWhole {bag:(List UInt8)→Option (List UInt8)} {root:List UInt8} {q1:Option Nat} {w0 w:World} {l:List HP} (hl2:(root).length=32) {r:(List T_api_Pair)×((List UInt8)→Option (List UInt8))×Int} (hm:trWhole bag root=some r) (H:St w0 w (HP.row 0 (0) (icells .u32 shaStart)::HP.row 1 (0) (icells .u32 shaRounds)::HP.fm q1 hv false (rSl rByte) (fun l=>l.length=32) bag::l)) :
  Calls Tryz.prog 110 [.map q1,.agg (bcells root).toArray].toArray w (fun e w'=>∃ v,e=.returned v∧∃ (p3:Option Addr) (c3:Nat) (q4:Option Nat),v=.tuple [.slice p3 (r.1).length c3,.map q4,.int .i64 (r.2.2)].toArray∧St w0 w' (HP.nsl w0.heap.size (rP2N w0.heap.size) p3 c3 r.1::HP.mm q4 hv false (rSl rByte) (fun l=>l.length=32) r.2.1::l)):=by
 unfold trWhole at hm
 refine x_enter Tryz.func110 rfl rfl rfl ?_
 intro a F
 refine sr (s_boxA wkP F rfl rfl rfl rfl rfl H fun b5 w a H F=>bb [0,0,0] F H rfl fun a F=>?_)
 replace H:=H.nf 4 rfl
 refine nb [0] F H rfl fun a F=>?_
 replace H:=H.owNil (rP2N w0.heap.size) 129
 refine sv F rfl (y_build F rfl rfl (cs:=[.map q1,.slice none (([]:List T_api_Pair)).length 0]) (by kernel_rfl)) fun a F=>s_boxA wkP F rfl rfl rfl rfl rfl H fun b6 w a H F=>bb [0] F H rfl fun a F=>?_
 replace H:=H.nf 6 rfl
 refine nl (sq (sr (bk [0,2999] F H rfl ⟨rfl,(aggn agg24 ((bcells_length _).trans hl2)),trivial⟩ fun a F=>?_)))
 replace H:=O_tree_walker_s (x1:=([]:List T_api_Pair)) H
 obtain ⟨x7,ex7,hm⟩:=ob hm
 refine sd F rfl ent140 (w_trWalk hl2 ex7 (H.pm 5 [2,3,0,4,1,2,3,4] rfl:):) ?_;rintro _ w a ⟨rfl,H⟩ F
 refine bb [0] F H rfl fun a F=>?_
 replace H:=H.nf 5 rfl
 refine nb [0,0] F H rfl fun a F=>?_
 refine nl (cNm F rfl hm (fun hg8 hm=>?_) (fun hg8 hm=>?_))
 cases hm
 refine sk (ct (sr (bk [0,0,1] F H rfl ⟨fld256_1,trivial⟩ fun a F=>?_)))
 obtain ⟨p9,c10,H⟩:=O_tree_walker_o (H.pk 0 rfl)
 refine bk [1] F H rfl ⟨rfl,plain61,trivial⟩ fun a F=>?_
 replace H:=H.frzP2 1 rfl
 replace H:=H.nslSl 0 rfl
 replace H:=H.slP2W 0 rfl
 obtain ⟨x11,ex11,hm⟩:=ob hm
 refine sd F rfl ent86 (w_trBuild ex11 (H.pm 8 [5,6,0,0,1,2,3,4,5,6,7] rfl:):) ?_;rintro _ w a ⟨q13,rfl,hl12,H⟩ F
 replace H:=H.mmN 0 rfl
 refine bb [0,0,0,0] F H rfl fun a F=>s_allocA wkP F rfl rfl rfl agz24 rfl H fun b14 w a H F=>s_storeA wkP F rfl rfl agg24 rfl rfl rfl H 0 rfl ((bcells_length _).trans hl12) ((bcells_length _).trans (List.length_replicate (n:=32))) (bcells_flat _) fun w H=>bb [0,0] F H rfl fun a F=>?_
 replace H:=H.nf 10 rfl
 refine nl (sq (sb [0,0,0] F H rfl fun a F=>?_))
 rcases spN 32 F rfl hm with ⟨hg15,hm,F⟩ | ⟨hg15,hm,F⟩
 refine bk [999,6999] F H rfl ⟨rfl,(aggn agg24 ((bcells_length _).trans hl12)),rfl,(aggn agg24 ((bcells_length _).trans hl2)),trivial⟩ fun a F=>g_onP F rfl rfl rfl rfl (sv F rfl (y_neqA F key24 rfl rfl rfl hl12 hl2) fun a F=>bb [0] F H rfl fun a F=>?_)
 refine nl (cNm F rfl hm (fun hg16 hm=>?_) (fun hg16 hm=>?_))
 cases hm
 refine sk (ct (sr (bk [0,0,1,5001,0,0,0,0] F H rfl ⟨fld256_1,rfl,plain61,trivial⟩ fun a F=>nl (wr ?_))))
 cases hm
 refine x_ret3 F rfl rfl rfl rfl ?_
 exact ⟨_,rfl,p9,c10,q13,rfl,(H.pm 10 [4,1] rfl:)⟩
 refine bb [0,0,0,0] F H rfl fun a F=>nl (cT F rfl ?_)
 cases hm
theorem ent110:En Tryz.prog 110:=enters Tryz.func110 (by kernel_rfl) rfl
theorem w_trAll {bag:(List UInt8)→Option (List UInt8)} {root:List UInt8} {q1:Option Nat} {w0 w:World} {l:List HP} (hl2:(root).length=32) {r:(List T_api_Pair)×Int} (hm:trAll bag root=some r) (H:St w0 w (HP.row 0 (0) (icells .u32 shaStart)::HP.row 1 (0) (icells .u32 shaRounds)::HP.fm q1 hv false (rSl rByte) (fun l=>l.length=32) bag::l)) :
  Calls Tryz.prog 81 [.map q1,.agg (bcells root).toArray].toArray w (fun e w'=>∃ v,e=.returned v∧∃ (p3:Option Addr) (c3:Nat),v=.tuple [.slice p3 (r.1).length c3,.int .i64 (r.2)].toArray∧St w0 w' (HP.nsl w0.heap.size (rP2N w0.heap.size) p3 c3 r.1::l)):=by
 unfold trAll at hm
 refine x_enter Tryz.func81 rfl rfl rfl ?_
 intro a F
 refine sr (s_boxA wkP F rfl rfl rfl rfl rfl H fun b4 w a H F=>bb [0,0] F H rfl fun a F=>?_)
 replace H:=H.nf 4 rfl
 refine nl (sr (bk [0,999] F H rfl ⟨rfl,(aggn agg24 ((bcells_length _).trans hl2)),trivial⟩ fun a F=>?_))
 obtain ⟨x5,ex5,hm⟩:=ob hm
 refine sd F rfl ent110 (w_trWhole hl2 ex5 (H.pm 4 [1,2,3,0,1,2,3] rfl:):) ?_;rintro _ w a ⟨p6,c6,q7,rfl,H⟩ F
 refine bb (List.replicate 7 0) F H rfl fun a F=>?_
 replace H:=H.nf 6 rfl
 refine nb [0,0,0,0] F H rfl fun a F=>nl (wr ?_)
 cases hm
 refine x_ret2 F rfl rfl rfl ?_
 exact ⟨_,rfl,p6,c6,rfl,(H.pm 6 [0] rfl:)⟩
set_option maxRecDepth 100000
set_option maxHeartbeats 4000000
theorem w_cutPre {s:List UInt8} {p:List UInt8}  {w0 w:World} {l:List HP}  {r:(List UInt8)×Bool} (hm:cutPre s p=some r) (H:St w0 w (l)) :
  Calls Tryz.prog 216 [.string (txb (s)),.string (txb (p))].toArray w (fun e w'=>∃ v,e=.returned v∧v=.tuple [.string (txb (r.1)),.bool (r.2)].toArray∧St w0 w' (l)):=by
 unfold cutPre at hm
 cases hm
 exact (Tryz.strings_CutPrefix (txb s) (txb p) w).mono fun e w' ⟨he,hw⟩=>⟨_,by rw [he,txb_list,txb_list];rfl,rfl,hw▸H⟩
theorem w_genSplit {s:List UInt8} {sep:List UInt8} {sv:Int} {n:Int}  {w0 w:World} {l:List HP}  {r:(List (List UInt8))} (hm:genSplit s sep sv n=some r) (H:St w0 w (l)) :
  Calls Tryz.prog 231 [.string (txb (s)),.string (txb (sep)),.int .i64 (sv),.int .i64 (n)].toArray w (fun e w'=>∃ v,e=.returned v∧∃ (p1:Option Addr) (c1:Nat),v=.slice p1 (r).length c1∧St w0 w' (HP.ow rStr 9 p1 c1 r::l)):=by
 unfold genSplit at hm
 obtain ⟨rfl,rfl,rfl,hl,rfl⟩:=splitO_some hm
 have hsz:(txb s).size<4294967281:=by rw [txb_size];omega
 have hC:Calls Tryz.prog 249 #[.string (txb s),.string ⟨#[47]⟩] w fun e w'=>e=.returned (.int .i64 (Lib.countB (txb s) ⟨#[47]⟩))∧w'=w:=by
   refine (Tryz.strings_Count_one (txb s) 47 w).mono fun e w' ⟨he,hw⟩=>⟨?_,hw⟩
   rw [he]
   show _=Ending.returned (Value.int .i64 ((Lib.count (txb s).data.toList [47]:Nat):Int))
   rw [Lib.count_one]
   rfl
 have hle:=Lib.countB_le (⟨#[47]⟩:ByteArray) (by decide) (txb s).size (txb s) (Nat.le_refl _)
 have c:=Any.strings_genSplit_core Tryz.lays221 (by kernel_rfl) (txb s) ⟨#[47]⟩ 0 (-1) (Lib.countB (txb s) ⟨#[47]⟩+1) w hsz (by decide) (by decide)
   (fun x c hx=>(Tryz.strings_Index_one x 47 _).mono fun e w' ⟨he,hw⟩=>⟨by
     rw [he]
     show _=Ending.returned (Value.int .i64 (Lib.index x.data.toList [47]))
     rw [Lib.index_one],hw⟩) hC (by decide) (by decide) (by rw [if_pos (by decide)];omega)
 have hlen:=Lib.splitB_all (⟨#[47]⟩:ByteArray) (by decide) 0 _ (txb s) rfl
 rw [Nat.add_sub_cancel,hlen] at c
 have hd:=Lib.splitB_data (⟨#[47]⟩:ByteArray) 0 (Lib.countB (txb s) ⟨#[47]⟩) (txb s)
 have e0:(⟨#[47]⟩:ByteArray).data.toList=[47]:=rfl
 rw [e0,txb_list] at hd
 have hcb:Lib.countB (txb s) ⟨#[47]⟩=Lib.count s [47]:=by
   show Lib.count (txb s).data.toList [47]=_
   rw [txb_list]
 rw [hcb] at hd hlen c
 rw [split_sp] at hd
 have hB:Lib.splitB ⟨#[47]⟩ 0 (Lib.count s [47]) (txb s)=(sp s).map txb:=by
   have:((sp s).map txb).map (·.data.toList)=sp s:=by
     rw [List.map_map]
     conv=>rhs;rw [← List.map_id (sp s)]
     exact List.map_congr_left fun x _=>txb_list x
   rw [← hd,List.map_map]
   conv=>lhs;rw [← List.map_id (Lib.splitB ⟨#[47]⟩ 0 (Lib.count s [47]) (txb s))]
   exact List.map_congr_left fun x _=>(txb_data x).symm
 have hn:(sp s).length=Lib.count s [47]+1:=by rw [← hlen,hB,List.length_map]
 have hx:Lib.cellsOf (Lib.splitB ⟨#[47]⟩ 0 (Lib.count s [47]) (txb s)) (Lib.count s [47]+1)=((sp s).map fun x=>Value.string (txb x)).toArray:=by
   rw [← hlen,Lib.cellsOf_full,hB,List.map_map];rfl
 rw [hx] at c
 rw [← hn] at c
 refine c.mono fun e w' ⟨he,hw⟩=>⟨_,he,_,_,rfl,?_⟩
 subst hw
 have hm2:(sp s).length≤maxLen:=by
   have h1:Lib.countB (txb s) ⟨#[47]⟩≤(txb s).size:=hle
   rw [hcb,txb_size] at h1
   unfold maxLen;omega
 exact H.newTexts 9 (sp s) hm2
theorem w_strJoin {xs:List (List UInt8)} {sep:List UInt8} {p1:Option Addr} {c1:Nat} {w0 w:World} {l:List HP}  {r:(List UInt8)} (hm:strJoin xs sep=some r) (H:St w0 w (HP.sl rStr p1 c1 xs::l)) :
  Calls Tryz.prog 219 [.slice p1 (xs).length c1,.string (txb (sep))].toArray w (fun e w'=>∃ v,e=.returned v∧v=.string (txb (r))∧St w0 w' (l)):=by
 unfold strJoin at hm
 obtain ⟨rfl,hx,hj,rfl⟩:=joinO_some hm
 have hsl:Sl w (.slice p1 (xs).length c1) (xs).length (xs.map fun l=>Value.string (txb l)):=by
   obtain ⟨B,S,hs,⟨css,h1,h2⟩,_⟩:=H.get 0 rfl
   have h3:=h2 w hs
   have h4:∀ (css:List (List Value)) (xs:List (List UInt8)),RdL rStr B css xs→css.flatten=xs.map fun l=>Value.string (txb l):=by
     intro css
     induction css with
     | nil=>intro xs h;cases xs with
       | nil=>rfl
       | cons x xs=>exact h.elim
     | cons c css ih=>intro xs h;cases xs with
       | nil=>exact h.elim
       | cons x xs =>
         obtain ⟨e1,e2⟩:=h
         have e1:c=[.string (txb x)]:=e1
         simp [e1,ih xs e2]
   rwa [h4 css xs h1] at h3
 have hcap:=H.slCap 0 rfl
 cases xs with
 | nil=>exact (Tryz.strings_Join_none p1 c1 ⟨#[47]⟩ w).mono fun e w' ⟨he,hw⟩=>⟨_,he,rfl,hw▸H.tail⟩
 | cons x r =>
   obtain ⟨b,off,rfl,hrow⟩:=hsl.rowAt (c:=c1) rfl (by simp)
   have hd:((x::r).map txb).map (·.data.toList)=x::r:=by
     rw [List.map_map]
     conv=>rhs;rw [← List.map_id (x::r)]
     exact List.map_congr_left fun y _=>txb_list y
   have hcells:∀ (j:Nat) y,((x::r).map txb)[j]?=some y→w.cell? ⟨b,off+j,none⟩=some (.string y):=by
     intro j y hy
     refine hrow j _ ?_
     rw [List.getElem?_map] at hy ⊢
     cases hz:(x::r)[j]? with
     | none=>rw [hz] at hy;cases hy
     | some z=>rw [hz] at hy;cases hy;rfl
   have h0:=hcells 0 (txb x) rfl
   have e0:(⟨#[47]⟩:ByteArray).data.toList=[47]:=rfl
   have c:=Tryz.strings_Join b off c1 ((x::r).map txb) ⟨#[47]⟩ w hcells (World.block_lt_of_cell? _ _ h0) (by simp at hx ⊢;omega) (by simpa using hcap) (by rw [hd,e0];unfold jn at hj;omega)
   rw [hd,e0,List.length_map] at c
   exact c.mono fun e w' ⟨he,hw⟩=>⟨_,he,rfl,(H.below hw).tail⟩
theorem ent231:En Tryz.prog 231:=enters Tryz.func231 (by kernel_rfl) rfl
theorem w_strSplit {s:List UInt8} {sep:List UInt8}  {w0 w:World} {l:List HP}  {r:(List (List UInt8))} (hm:strSplit s sep=some r) (H:St w0 w (l)) :
  Calls Tryz.prog 217 [.string (txb (s)),.string (txb (sep))].toArray w (fun e w'=>∃ v,e=.returned v∧∃ (p1:Option Addr) (c1:Nat),v=.slice p1 (r).length c1∧St w0 w' (HP.ow rStr 9 p1 c1 r::l)):=by
 unfold strSplit at hm
 refine x_enter Tryz.func217 rfl rfl rfl ?_
 intro a F
 refine sb [0] F H rfl fun a F=>nb [0,0] F H rfl fun a F=>?_
 obtain ⟨x2,ex2,hm⟩:=ob hm
 refine sd F rfl ent231 (w_genSplit ex2 H:) ?_;rintro _ w a ⟨p3,c3,rfl,H⟩ F
 refine bb [0] F H rfl fun a F=>?_
 replace H:=H.nf 1 rfl
 refine nl (wr ?_)
 cases hm
 refine x_ret1 F rfl rfl ?_
 exact ⟨_,rfl,p3,c3,rfl,H⟩
set_option maxRecDepth 100000
set_option maxHeartbeats 4000000
theorem w_m_path_Name {x0_:List UInt8}  {w0 w:World} {l:List HP}  {r:Bool} (hm:m_path_Name x0_=some r) (H:St w0 w (l)) :
  Calls Tryz.prog 112 [.string (txb (x0_))].toArray w (fun e w'=>∃ v,e=.returned v∧v=.bool (r)∧St w0 w' (l)):=by
 unfold m_path_Name at hm
 refine x_enter Tryz.func112 rfl rfl rfl ?_
 intro a F
 refine sb [0] F H rfl fun a F=>nl (sq (sb [0] F H rfl fun a F=>sv F rfl (y_lenT (l:=x0_) F rfl Tryz.underlying9 rfl) fun a F=>bb [0] F H rfl fun a F=>?_))
 refine nl (xr0 0 [0] [] F H hm rfl rfl (fun r23 z=>z) (fun r23 z=>z) (fun o23 hm hm23=>?_) (fun r23 a w hm F H=>?_))
 refine bl (xl0 0 [0,5] [] F H hm rfl rfl (fun (s38:Int) z=>(6,.int .i64 (s38))::z) (fun s38 z=>z) ⟨F.sl rfl,H⟩ (fun s38 a w o F H hm=>sb [0] F H rfl fun a F=>?_))
 refine nl (sq (cPm F rfl hm (fun hg39 hm=>?_) (fun hg39 hm=>?_)))
 refine sk (ct (sq (bl (sb [0,0] F H rfl fun a F=>nb [0,0] F H rfl fun a F=>?_))))
 obtain ⟨x40,ex40,hm⟩:=ob hm
 refine sv F rfl (y_idxT F rfl Tryz.underlying9 rfl rfl ex40) fun a F=>bb [0,0] F H rfl fun a F=>?_
 rcases spP 13 F rfl hm with ⟨hg41,hm,F⟩ | ⟨hg41,hm,F⟩
 refine bb (List.replicate 11 0) F H rfl fun a F=>nl (cT F rfl ?_)
 cases hm
 refine bb [0,0] F H rfl fun a F=>g_onP F rfl rfl rfl rfl ?_
 obtain ⟨x42,ex42,hm⟩:=ob hm
 refine sv F rfl (y_idxT F rfl Tryz.underlying9 rfl rfl ex42) fun a F=>bb [0,0,0] F H rfl fun a F=>?_
 rcases spP 19 F rfl hm with ⟨hg43,hm,F⟩ | ⟨hg43,hm,F⟩
 refine bb (List.replicate 5 0) F H rfl fun a F=>nl (cT F rfl ?_)
 cases hm
 refine bb [0,0] F H rfl fun a F=>g_onP F rfl rfl rfl rfl ?_
 obtain ⟨x44,ex44,hm⟩:=ob hm
 refine sv F rfl (y_idxT F rfl Tryz.underlying9 rfl rfl ex44) fun a F=>bb [0,0] F H rfl fun a F=>?_
 refine nl (cPm F rfl hm (fun hg45 hm=>?_) (fun hg45 hm=>?_))
 cases hm
 refine sk (bn (ct (rl (bb [0,0] F H rfl fun a F=>?_))))
 refine lz (ct ?_);cases hm
 exact ⟨_,rfl,⟨F.sl rfl,H⟩⟩
 refine ex (cx (cx ?_));cases hm;refine ⟨_,rfl,?_⟩;rintro rfl
 refine ch (ct ?_)
 exact ⟨_,rfl,F.sl rfl,H⟩
 refine ct (sb [0] F H rfl fun a F=>sv F rfl (y_neT (l:=x0_) (m:=[]) F rfl rfl rfl) fun a F=>bb [0] F H rfl fun a F=>?_)
 rcases spN 28 F rfl hm with ⟨hg46,hm,F⟩ | ⟨hg46,hm,F⟩
 refine bb (List.replicate 5 0) F H rfl fun a F=>nl (wr ?_)
 cases hm
 refine x_ret1 F rfl rfl ?_
 exact ⟨_,rfl,rfl,H⟩
 refine bb [0] F H rfl fun a F=>g_onP F rfl rfl rfl rfl (sv F rfl (y_lenT (l:=x0_) F rfl Tryz.underlying9 rfl) fun a F=>bb [0,0,0] F H rfl fun a F=>nl (wr ?_))
 cases hm
 refine x_ret1 F rfl rfl ?_
 exact ⟨_,rfl,rfl,H⟩
theorem ent112:En Tryz.prog 112:=enters Tryz.func112 (by kernel_rfl) rfl
theorem w_m_path_names_1 {x0_:List UInt8}  {w0 w:World} {l:List HP}  {r:Bool} (hm:m_path_names_1 x0_=some r) (H:St w0 w (l)) :
  Calls Tryz.prog 218 [.string (txb (x0_))].toArray w (fun e w'=>∃ v,e=.returned v∧v=.bool (r)∧St w0 w' (l)):=by
 unfold m_path_names_1 at hm
 refine x_enter Tryz.func218 rfl rfl rfl ?_
 intro a F
 refine sb [0] F H rfl fun a F=>nb [0] F H rfl fun a F=>?_
 obtain ⟨x1,ex1,hm⟩:=ob hm
 refine sd F rfl ent112 (w_m_path_Name ex1 H:) ?_;rintro _ w a ⟨rfl,H⟩ F
 refine bb [0,0] F H rfl fun a F=>nl (wr ?_)
 cases hm
 refine x_ret1 F rfl rfl ?_
 exact ⟨_,rfl,rfl,H⟩
theorem elem56:ElemT Tryz.prog 56 9 1 16 (.string ByteArray.empty):=⟨Tryz.underlying56,by kernel_rfl,by kernel_rfl,by decide⟩
theorem plain9:Plain Tryz.prog 9:=by unfold Plain;rw [Tryz.underlying9];rfl
theorem ent218:En Tryz.prog 218:=enters Tryz.func218 (by kernel_rfl) rfl
theorem w_ixName {s:List (List UInt8)} {p1:Option Addr} {c1:Nat} {w0 w:World} {l:List HP}  {r:Int} (hm:ixName s=some r) (H:St w0 w (HP.sl rStr p1 c1 s::l)) :
  Calls Tryz.prog 121 [.slice p1 (s).length c1,.func (.func 218) #[] #[]].toArray w (fun e w'=>∃ v,e=.returned v∧v=.int .i64 (r)∧St w0 w' (l)):=by
 unfold ixName at hm
 refine x_enter Tryz.func121 rfl rfl rfl ?_
 intro a F
 refine sb [0] F H rfl fun a F=>nl (sq (sr (bk [0,0,0] F H rfl ⟨⟨_,Tryz.underlying56⟩,trivial⟩ fun a F=>?_)))
 refine nl (xr0 1 [] [] F H hm rfl rfl (fun r21 z=>z) (fun r21 z=>z) (fun o21 hm hm21=>?_) (fun r21 a w hm F H=>?_))
 refine bl (xl0 1 [0,1,7] [0] F H hm rfl rfl (fun (s34:Int) z=>(8,.int .i64 (s34))::z) (fun s34 z=>z) ⟨F.sl rfl,H⟩ (fun s34 a w o F H hm=>sb [0] F H rfl fun a F=>?_))
 refine nl (sq (cPm F rfl hm (fun hg35 hm=>?_) (fun hg35 hm=>?_)))
 refine sk (ct (sq (bl (sb [0,0] F H rfl fun a F=>nb [0,0,0] F H rfl fun a F=>?_))))
 obtain ⟨x36,ex36,hm⟩:=ob hm
 obtain ⟨b37,o37,hp37,cs38,H⟩:=H.slE 0 rfl ex36
 obtain rfl:=H.rcStr 1 rfl
 replace H:=H.dp 1 rfl
 refine sv F rfl (y_idxS F elem56 rfl rfl rfl hp37 ex36) fun a F=>bk [0] F H rfl ⟨rfl,plain9,trivial⟩ fun a F=>?_
 obtain ⟨x39,ex39,hm⟩:=ob hm
 refine s_call wkP F rfl rfl rfl rfl (y_callV0 F rfl rfl rfl ent218) (w_m_path_names_1 ex39 H:) ?_;rintro _ w a ⟨rfl,H⟩ F
 replace H:=H.nf 2 rfl
 refine nl (cB F rfl (fun hg40=>?_) (fun hg40=>?_))
 replace hm:=ifT hg40 hm
 refine sb [0,0] F H rfl fun a F=>?_
 refine nl (wr (br (tr (tr ?_))));cases hm;refine ⟨_,rfl,?_⟩;rintro rfl
 refine br (tr ?_)
 replace hm:=elimR hm21
 refine tr ?_
 cases hm
 refine x_ret1 F rfl rfl ?_
 exact ⟨_,rfl,rfl,(H.pm 2 [] rfl:)⟩
 replace hm:=ifF (nT hg40) hm
 refine sk (bn (ct (rl (bb [0,0] F H rfl fun a F=>?_))))
 refine lz (ct ?_);cases hm
 exact ⟨_,rfl,⟨F.sl rfl,(H.pm 2 [1] rfl:)⟩⟩
 refine ex (cx (cx ?_));cases hm;refine ⟨_,rfl,?_⟩;rintro rfl
 refine ch (ct ?_)
 exact ⟨_,rfl,F.cut _ trivial,(H.pm 1 [] rfl:)⟩
 refine ct (sb [0] F H rfl fun a F=>nl (wr ?_))
 cases hm
 refine x_ret1 F rfl rfl ?_
 exact ⟨_,rfl,rfl,H⟩
theorem ent121:En Tryz.prog 121:=enters Tryz.func121 (by kernel_rfl) rfl
theorem w_anyBad {s:List (List UInt8)} {p1:Option Addr} {c1:Nat} {w0 w:World} {l:List HP}  {r:Bool} (hm:anyBad s=some r) (H:St w0 w (HP.sl rStr p1 c1 s::l)) :
  Calls Tryz.prog 89 [.slice p1 (s).length c1,.func (.func 218) #[] #[]].toArray w (fun e w'=>∃ v,e=.returned v∧v=.bool (r)∧St w0 w' (l)):=by
 unfold anyBad at hm
 refine x_enter Tryz.func89 rfl rfl rfl ?_
 intro a F
 refine sb [0] F H rfl fun a F=>nb [0,0] F H rfl fun a F=>?_
 obtain ⟨x2,ex2,hm⟩:=ob hm
 refine sd F rfl ent121 (w_ixName ex2 (H.pm 1 [0,0] rfl:):) ?_;rintro _ w a ⟨rfl,H⟩ F
 refine bb [0,0] F H rfl fun a F=>?_
 replace H:=H.nf 1 rfl
 refine nl (wr ?_)
 cases hm
 refine x_ret1 F rfl rfl ?_
 exact ⟨_,rfl,rfl,(H.pm 1 [] rfl:)⟩
theorem ent216:En Tryz.prog 216:=enters Tryz.func216 (by kernel_rfl) rfl
theorem ent217:En Tryz.prog 217:=enters Tryz.func217 (by kernel_rfl) rfl
theorem ent89:En Tryz.prog 89:=enters Tryz.func89 (by kernel_rfl) rfl
theorem w_pNames {p:List UInt8}  {w0 w:World} {l:List HP}  {r:(List (List UInt8))×Bool} (hm:pNames p=some r) (H:St w0 w (l)) :
  Calls Tryz.prog 193 [.string (txb (p))].toArray w (fun e w'=>∃ v,e=.returned v∧∃ (p1:Option Addr) (c1:Nat),v=.tuple [.slice p1 (r.1).length c1,.bool (r.2)].toArray∧St w0 w' (HP.sl rStr p1 c1 r.1::l)):=by
 unfold pNames at hm
 refine x_enter Tryz.func193 rfl rfl rfl ?_
 intro a F
 refine sb [0,0] F H rfl fun a F=>nl (sq (sb [0] F H rfl fun a F=>sv F rfl (y_eqT (l:=p) (m:=[47]) F rfl rfl rfl) fun a F=>?_))
 refine nl (cPm F rfl hm (fun hg2 hm=>?_) (fun hg2 hm=>?_))
 refine sb [0,0] F H rfl fun a F=>nl (wr (tr ?_))
 replace H:=H.slNil rStr
 cases hm
 refine x_ret2 F rfl rfl rfl ?_
 exact ⟨_,rfl,none,0,rfl,H⟩
 refine sk (ct (sb [0] F H rfl fun a F=>?_))
 obtain ⟨x3,ex3,hm⟩:=ob hm
 refine sd F rfl ent216 (w_cutPre ex3 H:) ?_;rintro _ w a ⟨rfl,H⟩ F
 refine bb (List.replicate 5 0) F H rfl fun a F=>nb [0] F H rfl fun a F=>?_
 obtain ⟨x4,ex4,hm⟩:=ob hm
 refine sd F rfl ent217 (w_strSplit ex4 H:) ?_;rintro _ w a ⟨p5,c5,rfl,H⟩ F
 refine bb [0] F H rfl fun a F=>?_
 replace H:=H.nf 1 rfl
 refine nl (sq (sb [0,0,0] F H rfl fun a F=>?_))
 by_cases hg6:(!x3.2)=true
 replace hm:=ifT hg6 hm
 replace F:=F.vT 18 hg6 rfl
 refine bb (List.replicate 8 0) F H rfl fun a F=>nl (cT F rfl ?_)
 cases hm
 replace hm:=ifF hg6 hm
 replace F:=F.vF 18 hg6 rfl
 refine bb [0] F H rfl fun a F=>g_onP F rfl rfl rfl rfl (sv F rfl (y_lenT (l:=p) F rfl Tryz.underlying9 rfl) fun a F=>bb [0,0,0] F H rfl fun a F=>?_)
 rcases spP 23 F rfl hm with ⟨hg7,hm,F⟩ | ⟨hg7,hm,F⟩
 refine bb [0,0,0] F H rfl fun a F=>nl (cT F rfl ?_)
 cases hm
 refine bb [0] F H rfl fun a F=>g_onP F rfl rfl rfl rfl ?_
 replace H:=H.frz 0 rfl
 obtain ⟨x8,ex8,hm⟩:=ob hm
 refine sd F rfl ent89 (w_anyBad ex8 (H.pm 1 [0,0] rfl:):) ?_;rintro _ w a ⟨rfl,H⟩ F
 refine bb [0] F H rfl fun a F=>?_
 replace H:=H.nf 1 rfl
 refine nl (cB F rfl (fun hg9=>?_) (fun hg9=>?_))
 replace hm:=ifT hg9 hm
 cases hm
 replace hm:=ifF (nT hg9) hm
 refine sk (ct (sb [0,0,0] F H rfl fun a F=>nl (wr ?_)))
 cases hm
 refine x_ret2 F rfl rfl rfl ?_
 exact ⟨_,rfl,p5,c5,rfl,H⟩
theorem ent219:En Tryz.prog 219:=enters Tryz.func219 (by kernel_rfl) rfl
theorem w_m_path_join {x0_:List (List UInt8)} {p1:Option Addr} {c1:Nat} {w0 w:World} {l:List HP}  {r:(List UInt8)} (hm:m_path_join x0_=some r) (H:St w0 w (HP.sl rStr p1 c1 x0_::l)) :
  Calls Tryz.prog 194 [.slice p1 (x0_).length c1].toArray w (fun e w'=>∃ v,e=.returned v∧v=.string (txb (r))∧St w0 w' (l)):=by
 unfold m_path_join at hm
 refine x_enter Tryz.func194 rfl rfl rfl ?_
 intro a F
 refine sb [0] F H rfl fun a F=>nb [0] F H rfl fun a F=>?_
 obtain ⟨x2,ex2,hm⟩:=ob hm
 refine sd F rfl ent219 (w_strJoin ex2 (H.pm 1 [0,0] rfl:):) ?_;rintro _ w a ⟨rfl,H⟩ F
 obtain ⟨x3,ex3,hm⟩:=ob hm
 refine sv F rfl (y_addO F rfl rfl rfl ex3) fun a F=>bb [0] F H rfl fun a F=>?_
 replace H:=H.nf 1 rfl
 refine nl (wr ?_)
 cases hm
 refine x_ret1 F rfl rfl ?_
 exact ⟨_,rfl,rfl,(H.pm 1 [] rfl:)⟩
theorem ent193:En Tryz.prog 193:=enters Tryz.func193 (by kernel_rfl) rfl
theorem w_m_path_Check {x0_:List UInt8}  {w0 w:World} {l:List HP}  {r:Int} (hm:m_path_Check x0_=some r) (H:St w0 w (l)) :
  Calls Tryz.prog 172 [.string (txb (x0_))].toArray w (fun e w'=>∃ v,e=.returned v∧v=.int .i64 (r)∧St w0 w' (l)):=by
 unfold m_path_Check at hm
 refine x_enter Tryz.func172 rfl rfl rfl ?_
 intro a F
 refine sb [0] F H rfl fun a F=>nl (sq (sb [0] F H rfl fun a F=>?_))
 obtain ⟨x1,ex1,hm⟩:=ob hm
 refine sd F rfl ent193 (w_pNames ex1 H:) ?_;rintro _ w a ⟨p2,c2,rfl,H⟩ F
 refine bb (List.replicate 5 0) F H rfl fun a F=>?_
 replace H:=H.nf 1 rfl
 refine nb [0,0] F H rfl fun a F=>?_
 refine nl (cB F rfl (fun hg3=>?_) (fun hg3=>?_))
 replace hm:=ifT hg3 hm
 cases hm
 replace hm:=ifF (nT hg3) hm
 refine sk (ct (sb [0] F H rfl fun a F=>nl (wr ?_)))
 cases hm
 refine x_ret1 F rfl rfl ?_
 exact ⟨_,rfl,rfl,(H.pm 1 [] rfl:)⟩
theorem ent194:En Tryz.prog 194:=enters Tryz.func194 (by kernel_rfl) rfl
theorem w_m_path_Parent {x0_:List UInt8}  {w0 w:World} {l:List HP}  {r:(List UInt8)} (hm:m_path_Parent x0_=some r) (H:St w0 w (l)) :
  Calls Tryz.prog 173 [.string (txb (x0_))].toArray w (fun e w'=>∃ v,e=.returned v∧v=.string (txb (r))∧St w0 w' (l)):=by
 unfold m_path_Parent at hm
 refine x_enter Tryz.func173 rfl rfl rfl ?_
 intro a F
 refine sb [0] F H rfl fun a F=>nb [0] F H rfl fun a F=>?_
 obtain ⟨x1,ex1,hm⟩:=ob hm
 refine sd F rfl ent193 (w_pNames ex1 H:) ?_;rintro _ w a ⟨p2,c2,rfl,H⟩ F
 refine bb (List.replicate 5 0) F H rfl fun a F=>?_
 replace H:=H.nf 1 rfl
 refine nl (sq (sr (bk [0,0,0] F H rfl ⟨⟨_,Tryz.underlying56⟩,trivial⟩ fun a F=>?_)))
 refine nl (cPm F rfl hm (fun hg3 hm=>?_) (fun hg3 hm=>?_))
 cases hm
 refine sk (ct (sr (bk [0,0,0,0] F H rfl ⟨⟨_,Tryz.underlying56⟩,trivial⟩ fun a F=>?_)))
 obtain ⟨x5,ex5,hm⟩:=ob hm
 have hc4:=H.slCap 0 rfl
 replace H:=H.slSubN 1 rfl 0 rfl ex5
 refine sv F rfl (y_slH F elem56 rfl rfl rfl ex5 hc4) fun a F=>?_
 obtain ⟨x6,ex6,hm⟩:=ob hm
 refine sd F rfl ent194 (w_m_path_join ex6 (H.pm 2 [0,0,1] rfl:):) ?_;rintro _ w a ⟨rfl,H⟩ F
 refine bb [0] F H rfl fun a F=>?_
 replace H:=H.nf 2 rfl
 refine nl (wr ?_)
 cases hm
 refine x_ret1 F rfl rfl ?_
 exact ⟨_,rfl,rfl,(H.pm 2 [] rfl:)⟩
theorem zero9:Zero1 Tryz.prog 9 (.string ByteArray.empty):=⟨by kernel_rfl,rfl⟩
theorem w_m_path_Ancestors {x0_:List UInt8}  {w0 w:World} {l:List HP}  {r:(List (List UInt8))} (hm:m_path_Ancestors x0_=some r) (H:St w0 w (l)) :
  Calls Tryz.prog 212 [.string (txb (x0_))].toArray w (fun e w'=>∃ v,e=.returned v∧∃ (p1:Option Addr) (c1:Nat),v=.slice p1 (r).length c1∧St w0 w' (HP.sl rStr p1 c1 r::l)):=by
 unfold m_path_Ancestors at hm
 refine x_enter Tryz.func212 rfl rfl rfl ?_
 intro a F
 refine sb [0] F H rfl fun a F=>nb [0] F H rfl fun a F=>?_
 obtain ⟨x2,ex2,hm⟩:=ob hm
 refine sd F rfl ent193 (w_pNames ex2 H:) ?_;rintro _ w a ⟨p3,c3,rfl,H⟩ F
 refine bb (List.replicate 5 0) F H rfl fun a F=>?_
 replace H:=H.nf 1 rfl
 refine nl (sq (sr (bk [0,0,0] F H rfl ⟨⟨_,Tryz.underlying56⟩,trivial⟩ fun a F=>?_)))
 refine nl (xm2 1 [] [] F H hm rfl rfl (fun r29 (p30:Option Addr) (c30:Nat) z=>(2,.slice p30 (r29).length c30)::z) (fun r29 p30 c30 z=>HP.ow rStr 9 p30 c30 r29::z) (fun r29 hm=>?_) (fun r29 a w hm p30 c30 F H=>?_))
 refine bl ?_
 replace H:=H.owNil rStr 9
 refine xl2 2 [3,12] [1] F H hm rfl rfl (fun (s47:(List (List UInt8))×Int) (p48:Option Addr) (c48:Nat) z=>(2,.slice p48 (s47.1).length c48)::(13,.int .i64 (s47.2))::z) (fun s47 p48 c48 z=>HP.ow rStr 9 p48 c48 s47.1::z) ⟨none,0,F.sl rfl,H⟩ (fun s47 a w o p48 c48 F H hm=>?_)
 refine sb [0] F H rfl fun a F=>?_
 refine nl (sq (cPm F rfl hm (fun hg49 hm=>?_) (fun hg49 hm=>?_)))
 refine sk (ct (sq (bl (sb [0,0] F H rfl fun a F=>nl (rl (bb [0,0,0] F H rfl fun a F=>?_))))))
 obtain ⟨x51,ex51,hm⟩:=ob hm
 have hc50:=H.slCap 1 rfl
 replace H:=H.slSubN 1 rfl 1 rfl ex51
 refine sv F rfl (y_slH F elem56 rfl rfl rfl ex51 hc50) fun a F=>?_
 obtain ⟨x52,ex52,hm⟩:=ob hm
 refine sd F rfl ent194 (w_m_path_join ex52 (H.pm 3 [0,0,1,2] rfl:):) ?_;rintro _ w a ⟨rfl,H⟩ F
 refine s_buildC wkP F rfl rfl rfl elem56 zero9 rfl rfl rfl rfl (by simp [Value.cells]) (by decide) H fun b53 w a H F=>?_
 replace H:=H.blkOw1 (R:=rStr) (x:=x52) (fun gg=>rfl)
 replace H:=H.frz 0 rfl
 obtain ⟨x55,ex55,hm⟩:=ob hm
 refine s_app wkP F rfl rfl rfl rfl rfl rfl elem56 rfl ex55 H 2 0 rfl rfl fun p54 c54 w a H F=>?_
 refine bb [0] F H rfl fun a F=>?_
 replace H:=H.nf 4 rfl
 refine lz (bn (ct (rl (bb [0,0] F H rfl fun a F=>?_))))
 refine lz (ct ?_);cases hm
 exact ⟨_,rfl,⟨p54,c54,F.sl rfl,(H.pm 4 [2,3] rfl:)⟩⟩
 refine ex (cx (cx ?_));cases hm;refine ⟨_,rfl,?_⟩;rintro rfl
 refine ch (ct ?_)
 exact ⟨p48,c48,F.sl rfl,(H.pm 2 [0] rfl:)⟩
 refine ct (sb [0,0] F H rfl fun a F=>nl (wr ?_))
 replace H:=H.frz 0 rfl
 cases hm
 refine x_ret1 F rfl rfl ?_
 exact ⟨_,rfl,p30,c30,rfl,H⟩
set_option maxRecDepth 100000
set_option maxHeartbeats 4000000
theorem ent153:En Tryz.prog 153:=enters Tryz.func153 (by kernel_rfl) rfl
theorem w_cmpp153 {B:Base} (x y:PE B) (w:World) (hs:Sub B w):Calls Tryz.prog 153 [.agg (encP x).toArray,.agg (encP y).toArray].toArray w (fun e w'=>e=.returned (.int .i64 (cmpP x y))∧∃ q os',w'=Go.Sort.grow (w.drewN q) os'):=by
 obtain ⟨q1,c1,v1,hx1,hx2⟩:=pe_key hs x
 obtain ⟨q2,c2,v2,hy1,hy2⟩:=pe_key hs y
 refine x_enter Tryz.func153 rfl rfl rfl ?_
 intro a F
 replace F:Fr ⟨10,[]⟩ a [(0,.agg (x.1.1).toArray),(1,.agg (y.1.1).toArray)]:=F
 rw [hx1,hy1] at F
 refine wp_seq (r_lit ?_)
 refine sv F rfl (y_boxA F rfl rfl) fun a F=>sv F rfl (y_boxA F rfl rfl) fun a F=>sv F rfl (y_assign F rfl rfl) fun a F=>?_
 refine wpList_nil (c_then ?_)
 obtain ⟨w1,hw1⟩:∃ w1,w1=w.alloc (.cells [Value.slice q1 x.1.2.1.length c1,v1].toArray 129):=⟨_,rfl⟩
 obtain ⟨w2,hw2⟩:∃ w2,w2=w1.alloc (.cells [Value.slice q2 y.1.2.1.length c2,v2].toArray 129):=⟨_,rfl⟩
 have hs2:Sub B w2:=fun b o hb=>by rw [hw2,hw1];exact heapOld _ _ b (by have:=hs.lt hb;simp;omega) |>.trans ((heapOld _ _ b (hs.lt hb)).trans (hs b o hb))
 have hb1:Blk w2 w.heap.size [Value.slice q1 x.1.2.1.length c1,v1] 129:=by rw [hw2,hw1];exact (Blk.new w _ _).alloc _
 have hb2:Blk w2 w1.heap.size [Value.slice q2 y.1.2.1.length c2,v2] 129:=by rw [hw2];exact Blk.new _ _ _
 rw [← hw1] at F
 rw [← hw1,← hw2]
 generalize w.heap.size=b1 at *
 generalize w1.heap.size=b2 at *
 obtain ⟨q3,c3,v3,hx3,hx4⟩:=pe_key hs2 x
 obtain ⟨q4,c4,v4,hy3,hy4⟩:=pe_key hs2 y
 rw [hx1] at hx3
 rw [hy1] at hy3
 simp only [List.cons.injEq,Value.slice.injEq,true_and,and_true] at hx3 hy3
 obtain ⟨⟨rfl,rfl⟩,rfl⟩:=hx3
 obtain ⟨⟨rfl,rfl⟩,rfl⟩:=hy3
 refine wp_seq (r_lit ?_)
 refine sv F rfl (y_fieldAddr F fld129_0 rfl rfl) fun a F=>sv F rfl (y_load1 F plain25 rfl rfl (hb1.cell _)) fun a F=>sv F rfl (y_fieldAddr F fld129_0 rfl rfl) fun a F=>sv F rfl (y_load1 F plain25 rfl rfl (hb2.cell _)) fun a F=>?_
 refine s_callV (v:=.int .i64 (cmpP x y)) wkP F rfl rfl rfl rfl (y_call F rfl rfl ent154) (R:=fun w'=>w'=w2) ((w_cmp154 hx4 hy4).mono fun e w' h=>⟨h.1,h.2⟩) ?_;rintro w a rfl F
 refine sv F rfl (y_assign F rfl rfl) fun a F=>?_
 refine wpList_nil (c_then ?_)
 refine wp_ret ?_
 refine x_ret1 F rfl rfl ?_
 refine ⟨rfl,0,#[Obj.cells [Value.slice q1 x.1.2.1.length c1,v1].toArray 129 (0,0),Obj.cells [Value.slice q2 y.1.2.1.length c2,v2].toArray 129 (0,0)],?_⟩
 rw [hw2,hw1,Go.Sort.alloc_eq_grow,Go.Sort.alloc_eq_grow,Go.Sort.grow_grow]
 rfl
theorem w_sortPs {xs:List T_api_Pair} {p1:Option Addr} {c1:Nat} {w0 w:World} {l:List HP}  {r:(List T_api_Pair)} (hm:sortPs xs=some r) (H:St w0 w (HP.ow R_api_Pair 129 p1 c1 xs::l)) :
  Calls Tryz.prog 152 [.slice p1 (xs).length c1,.func (.func 153) #[] #[]].toArray w (fun e w'=>∃ v,e=.returned v∧v=.tuple [].toArray∧((r).length=(xs).length)∧St w0 w' (HP.ow R_api_Pair 129 p1 c1 r::l)):=by
 unfold sortPs at hm
 obtain ⟨hnd,hn,rfl⟩:=sortPO_some hm
 rcases H.owCase 0 rfl with ⟨rfl,rfl,rfl⟩ | ⟨b,rfl⟩
 · exact (AnyF.slices_SortFunc_none Tryz.layz152 none 0 (.func (.func 153) #[] #[]) w).mono fun e w' ⟨he,hw⟩=>⟨_,he,rfl,by simp [sortPairs],by rw [hw,show sortPairs []=[] by simp [sortPairs]];exact H⟩
 · obtain ⟨B,d,hd,hH,hb,hB,hK⟩:=H.sortP 0 rfl
   have hlen:d.toArray.size=xs.length:=by rw [← hd];simp
   have:=AnyQ.slices_SortFunc Tryz.layz152 2 agg129.run_isAgg agg129.run_szOf encP encP_len encP_one cmpP cmpP_swo 153 #[] b 0 c1 d.toArray w ent153 (fun m os dk hs x y=>w_cmpp153 x y _ (hB dk m os)) hH hb (by rw [hlen];omega)
   rw [hlen] at this
   refine this.mono ?_
   rintro e w' ⟨rfl,d',n,os,hp,hs,rfl⟩
   rw [← hlen] at hp hs
   obtain ⟨h1,h2,h3⟩:=sort_pairs hp hs
   have h4:=hK d' n os h1
   rw [hd] at h2
   have h5:=sortPairs_eq hnd h2 h3
   rw [h5] at h4
   exact ⟨_,rfl,rfl,(List.mergeSort_perm xs leP).length_eq,h4⟩
set_option maxRecDepth 100000
set_option maxHeartbeats 4000000
theorem w_mk151 (p:Option Addr) (n c:Nat) (x:Int) {m:Nat} (hx:x=((m:Nat):Int)) (hm:0<m) (w0 w:World) (l:List HP) (H:St w0 w l) :
  Calls Tryz.prog 151 [.slice p n c,.int .i64 x].toArray w (fun e w'=>∃ v,e=.returned v∧∃ b0 b1,v=.func (.func 178) #[] [.pointer (some ⟨b0,0,none⟩),.pointer (some ⟨b1,0,none⟩)].toArray∧St w0 w' (HP.blk b1 [.int .i64 ((m:Nat):Int)] 3::HP.blk b0 [.slice p n c] 25::l)):=by
 subst hx
 refine x_enter Tryz.func151 rfl rfl rfl ?_
 intro a F
 replace F:Fr ⟨9,[]⟩ a [(0,.slice p n c),(1,.int .i64 ((m:Nat):Int))]:=F
 refine wp_seq ?_
 refine r_lit ?_
 refine s_box1 wkP F rfl rfl rfl rfl rfl rfl H fun b0 w a H F=>s_box1 wkP F rfl rfl rfl rfl rfl rfl H fun b1 w a H F=>sv F rfl (y_assign F rfl rfl) fun a F=>?_
 refine wpList_nil ?_
 refine c_then ?_
 refine wp_seq ?_
 refine wp_seq ?_
 refine r_lit ?_
 refine sv F rfl (y_load1 F plain3 rfl rfl ((H.blk 0 rfl).cell _)) fun a F=>sv F rfl (y_lss F rfl rfl rfl) fun a F=>?_
 refine wpList_nil ?_
 refine c_then ?_
 refine x_condP F rfl (fun hc=>absurd hc (by omega)) (fun hc=>?_)
 refine wp_skip ?_
 refine c_then ?_
 refine wp_seq ?_
 refine r_lit ?_
 refine sv F rfl (y_makeFunc F rfl rfl) fun a F=>sv F rfl (y_assign F rfl rfl) fun a F=>?_
 refine wpList_nil ?_
 refine c_then ?_
 refine wp_ret ?_
 refine x_ret1 F rfl rfl ?_
 exact ⟨_,rfl,b0,b1,rfl,H⟩
set_option maxHeartbeats 2000000 in
theorem seq178 (b0 b1:Nat) (p:Option Addr) (c:Nat) (xs:List UInt8) (n:Nat) (hn:0<n) (hm:n≤9223372036854775807) (hmx:xs.length≤1152921504606846976) :
    SeqC Tryz.prog 178 [.pointer (some ⟨b0,0,none⟩),.pointer (some ⟨b1,0,none⟩)] (fun z:Nat×List UInt8=>[.slice (shp p (z.1+z.2.length) z.1 1) z.2.length z.2.length]) [HP.blk b1 [.int .i64 ((n:Nat):Int)] 3,HP.blk b0 [.slice p xs.length c] 25,HP.sl rByte p c xs] (fun pre x=>∃ post,chunkZ n xs=pre++x::post) (fun pre=>pre=chunkZ n xs):=by
 intro L w0 G E J KK next stop g0 hY W fr H
 refine xii_enter Tryz.func178 rfl rfl rfl ?_
 intro a F
 replace F:Fr ⟨31,[]⟩ a [(0,.func (.yield L) #[] #[]),(1,.pointer (some ⟨b0,0,none⟩)),(2,.pointer (some ⟨b1,0,none⟩))]:=F
 have H:St w0 W ([HP.blk b1 [.int .i64 ((n:Nat):Int)] 3,HP.blk b0 [.slice p xs.length c] 25,HP.sl rByte p c xs]++(J g0++fr)):=H.perm perm_mid
 have hcap:=H.slCap 2 rfl
 refine wpIn_seq ?_
 refine ri_lit ?_
 refine s_val wkI F rfl rfl rfl rfl (y_assign F rfl rfl) fun a F=>?_
 refine wpListIn_nil ?_
 refine c_then ?_
 refine wpIn_block ?_
 refine xi_loop (fun (q:G×Nat×Int) aa ww=>(q.2.2=((q.2.1 * n:Nat):Int))∧Rn next g0 ((chunkZ n xs).take q.2.1) q.1∧Fr ⟨31,[]⟩ aa [(0,.func (.yield L) #[] #[]),(1,.pointer (some ⟨b0,0,none⟩)),(2,.pointer (some ⟨b1,0,none⟩)),(4,.int .i64 q.2.2)]∧St w0 ww ([HP.blk b1 [.int .i64 ((n:Nat):Int)] 3,HP.blk b0 [.slice p xs.length c] 25,HP.sl rByte p c xs]++(J q.1++fr))) (fun q=>xs.length - q.2.1) (g0,0,0) ⟨by simp,by show Rn next g0 ((chunkZ n xs).take 0) g0;rw [List.take_zero];rfl,F.cut _ ⟨rfl,rfl,rfl,rfl,trivial⟩,H⟩ ?_
 clear F H
 rintro ⟨g,k,i⟩ a w ⟨hi,hrn,F,H⟩
 simp only at hi hrn F H
 refine wpIn_seq ?_
 refine wpIn_seq ?_
 refine ri_lit ?_
 refine s_val wkI F rfl rfl rfl rfl (y_move F rfl rfl) fun a F=>?_
 refine s_val wkI F rfl rfl rfl rfl (y_load1 F plain25 rfl rfl ((H.blk 1 rfl).cell _)) fun a F=>?_
 refine s_val wkI F rfl rfl rfl rfl (y_lenS F rfl Tryz.underlying25 rfl) fun a F=>?_
 refine s_val wkI F rfl rfl rfl rfl (y_lss F rfl rfl rfl) fun a F=>?_
 refine wpListIn_nil ?_
 refine c_then ?_
 refine xi_condP F rfl (fun hc=>?_) (fun hc=>?_)
 · refine wpIn_skip ?_
   refine c_then ?_
   have hkl:k * n<xs.length:=by omega
   have hat:=chunkZ_at hn hkl
   obtain ⟨y,hy⟩:∃ y,y=(xs.drop (k * n)).take n:=⟨_,rfl⟩
   rw [← hy] at hat
   have hmem:(k * n,y)∈chunkZ n xs:=List.mem_of_getElem? hat
   have hyl:y.length=min n (xs.length - k * n):=by rw [hy];simp
   have hsl:=chunk_slc hkl hy
   have hsl1:slcO xs ((k * n:Nat):Int) ((xs.length:Nat):Int)=some (xs.drop (k * n)):=by unfold slcO;rw [if_pos (by omega),Int.toNat_natCast,Int.toNat_natCast,List.take_length]
   have hkn:0<k→n≤k * n:=fun h=>Nat.le_mul_of_pos_left n h
   have hs2:(k+1) * n=k * n+n:=Nat.succ_mul k n
   have hle:(k+1) * n≤9223372036854775807:=by
     rcases Nat.eq_zero_or_pos k with h0 | h0
     · subst h0;omega
     · have:=hkn h0;omega
   have hw1:IntKind.i64.wrap (((k * n:Nat):Int)+((y.length:Nat):Int))=((k * n+y.length:Nat):Int):=wrap_i64 (by omega) (by omega) (by omega)
   have hw2:IntKind.i64.wrap (((k * n:Nat):Int)+((n:Nat):Int))=(((k+1) * n:Nat):Int):=wrap_i64 (by omega) (by omega) (by omega)
   subst hi
   refine wpIn_seq ?_
   refine wpIn_block ?_
   refine wpIn_seq ?_
   refine qri H (by kernel_rfl) (by kernel_rfl) ?_
   refine qv F rfl (fun u hu=>y_load1 F plain3 rfl rfl ((hu.blk 0 rfl).cell _)) fun a F=>?_
   refine qv F rfl (fun u hu=>y_load1 F plain25 rfl rfl ((hu.blk 1 rfl).cell _)) fun a F=>?_
   refine qv F rfl (fun u hu=>y_move F rfl rfl) fun a F=>?_
   refine qv F rfl (fun u hu=>y_slL F elem25 rfl rfl rfl hsl1 hcap) fun a F=>?_
   refine qv F rfl (fun u hu=>y_lenS F rfl Tryz.underlying25 rfl) fun a F=>?_
   refine qv F rfl (fun u hu=>y_min F rfl rfl rfl (r:=((y.length:Nat):Int)) (by rw [List.length_drop,hyl];omega)) fun a F=>?_
   refine qv F rfl (fun u hu=>y_assign F rfl rfl) fun a F=>?_
   refine q_nil ?_
   clear H;intro w H
   refine c_then ?_
   refine wpIn_seq ?_
   refine ri_lit ?_
   refine s_val wkI F rfl rfl rfl rfl (y_move F rfl rfl) fun a F=>?_
   refine s_val wkI F rfl rfl rfl rfl (y_load1 F plain25 rfl rfl ((H.blk 1 rfl).cell _)) fun a F=>?_
   refine s_val wkI F rfl rfl rfl rfl (y_move F rfl rfl) fun a F=>?_
   refine s_val wkI F rfl rfl rfl rfl (y_move F rfl rfl) fun a F=>?_
   refine s_val wkI F rfl rfl rfl rfl (y_move F rfl rfl) fun a F=>?_
   refine s_val wkI F rfl rfl rfl rfl (y_add F rfl rfl rfl hw1) fun a F=>?_
   refine s_val wkI F rfl rfl rfl rfl (y_move F rfl rfl) fun a F=>?_
   refine s_val wkI F rfl rfl rfl rfl (y_move F rfl rfl) fun a F=>?_
   refine s_val wkI F rfl rfl rfl rfl (y_add F rfl rfl rfl hw1) fun a F=>?_
   refine s_val wkI F rfl rfl rfl rfl (y_slLHM F elem25 rfl rfl rfl rfl rfl hsl hcap) fun a F=>?_
   rw [Int.toNat_natCast,Int.toNat_natCast,Nat.add_sub_cancel_left] at F
   have hadm:∃ post,chunkZ n xs=(chunkZ n xs).take k++(k * n,y)::post:=by
     refine ⟨(chunkZ n xs).drop (k+1),?_⟩
     obtain ⟨h2,h3⟩:=List.getElem?_eq_some_iff.1 hat
     rw [← h3,← List.drop_eq_getElem_cons h2,List.take_append_drop]
   refine si_yield F rfl rfl rfl rfl rfl rfl (R:=fun bo W'=>(bo=true∧∃ g',next g (k * n,y) g'∧St w0 W' (J g'++([HP.blk b1 [.int .i64 ((n:Nat):Int)] 3,HP.blk b0 [.slice p xs.length c] 25,HP.sl rByte p c xs]++fr)))∨(bo=false∧∃ kk,stop g (k * n,y) kk∧St w0 W' (KK kk++([HP.blk b1 [.int .i64 ((n:Nat):Int)] 3,HP.blk b0 [.slice p xs.length c] 25,HP.sl rByte p c xs]++fr)))) (YieldI.mono (hY _ g (k * n,y) _ ([HP.blk b1 [.int .i64 ((n:Nat):Int)] 3,HP.blk b0 [.slice p xs.length c] 25,HP.sl rByte p c xs]++fr) hadm hrn (H.perm (perm_mid (A:=[HP.blk b1 [.int .i64 ((n:Nat):Int)] 3,HP.blk b0 [.slice p xs.length c] 25,HP.sl rByte p c xs])))) ?_) ?_
   · rintro ee W' (⟨g',rfl,hn,H'⟩ | ⟨kk,rfl,hs,H'⟩)
     · exact ⟨true,rfl,.inl ⟨rfl,g',hn,H'⟩⟩
     · exact ⟨false,rfl,.inr ⟨rfl,kk,hs,H'⟩⟩
   intro bo w a hR F
   refine s_val wkI F rfl rfl rfl rfl (y_not F rfl rfl) fun a F=>?_
   refine wpListIn_nil ?_
   refine c_then ?_
   rcases hR with ⟨rfl,g',hn2,H⟩ | ⟨rfl,kk,hst,H⟩
   · refine xi_condF F rfl ?_
     refine wpIn_skip ?_
     refine c_blkN ?_
     refine c_then ?_
     replace H:St w0 w ([HP.blk b1 [.int .i64 ((n:Nat):Int)] 3,HP.blk b0 [.slice p xs.length c] 25,HP.sl rByte p c xs]++(J g'++fr)):=H.perm (perm_mid (A:=J g'))
     refine ri_lit ?_
     refine s_val wkI F rfl rfl rfl rfl (y_move F rfl rfl) fun a F=>?_
     refine s_val wkI F rfl rfl rfl rfl (y_load1 F plain3 rfl rfl ((H.blk 0 rfl).cell _)) fun a F=>?_
     refine s_val wkI F rfl rfl rfl rfl (y_add F rfl rfl rfl hw2) fun a F=>?_
     refine s_val wkI F rfl rfl rfl rfl (y_assign F rfl rfl) fun a F=>?_
     refine wpListIn_nil ?_
     refine c_then ⟨(g',k+1,_),⟨rfl,?_,F.cut _ ⟨rfl,rfl,rfl,rfl,trivial⟩,H⟩,?_⟩
     · show Rn next g0 ((chunkZ n xs).take (k+1)) g'
       rw [List.take_add_one,hat]
       exact Rn.snoc hrn hn2
     · show xs.length - (k+1)<xs.length - k
       have:k≤k * n:=Nat.le_mul_of_pos_right k hn
       omega
   · refine xi_condT F rfl ?_
     refine wpIn_ret ?_
     refine c_blkR ?_
     refine c_thenR ?_
     refine c_thenR ?_
     refine c_blkR ?_
     refine xi_ret0 F rfl ?_
     exact ⟨_,rfl,.inr ⟨_,g,(k * n,y),kk,hadm,hrn,hst,H⟩⟩
 · refine wpIn_exit ?_
   refine c_thenX ?_
   refine c_thenX ?_
   refine c_hit ?_
   refine xi_end0 F rfl ?_
   rw [chunkZ_all hn (by omega)] at hrn
   exact ⟨_,rfl,.inl ⟨_,g,rfl,hrn,H.perm (perm_mid (A:=[HP.blk b1 [.int .i64 ((n:Nat):Int)] 3,HP.blk b0 [.slice p xs.length c] 25,HP.sl rByte p c xs]))⟩⟩
theorem agz237:AggT Tryz.prog 237 2 ([.bool false,.slice none (([]:List UInt8)).length 0]):=⟨by rw [Tryz.underlying237];rfl,by kernel_rfl,by kernel_rfl⟩
theorem ent172:En Tryz.prog 172:=enters Tryz.func172 (by kernel_rfl) rfl
theorem ent212:En Tryz.prog 212:=enters Tryz.func212 (by kernel_rfl) rfl
theorem aggz237:AggT Tryz.prog 237 2 ([Value.bool false]++[Value.slice none 0 0]):=⟨by rw [Tryz.underlying237];rfl,by kernel_rfl,by kernel_rfl⟩
theorem agg237:AggT Tryz.prog 237 2 [.bool false,.slice none 0 0]:=⟨by rw [Tryz.underlying237];rfl,by kernel_rfl,by kernel_rfl⟩
theorem fld237_0:FieldT Tryz.prog 237 0 0:=by unfold FieldT;rw [Tryz.underlying237];kernel_rfl
theorem plain4:Plain Tryz.prog 4:=by unfold Plain;rw [Tryz.underlying4];rfl
theorem w_sLook {s:(List UInt8)→Option T_files_file} {p:List UInt8} {q1:Option Nat} {w0 w:World} {l:List HP}  {r:T_files_file×Int} (hm:sLook s p=some r) (H:St w0 w (HP.mm q1 ekStr true R_files_file (fun _=>True) s::l)) :
  Calls Tryz.prog 185 [.map q1,.string (txb (p))].toArray w (fun e w'=>∃ v,e=.returned v∧∃ (cs2:List Value),v=.tuple [.agg cs2.toArray,.int .i64 (r.2)].toArray∧St w0 w' (HP.rc R_files_file cs2 r.1::HP.mm q1 ekStr true R_files_file (fun _=>True) s::l)):=by
 unfold sLook at hm
 refine x_enter Tryz.func185 rfl rfl rfl ?_
 intro a F
 refine sr ?_
 replace H:=H.owNil rByte 5
 refine s_allocA wkP F rfl rfl rfl agz237 rfl H fun b3 w a H F=>bb [0] F H rfl fun a F=>?_
 replace H:=H.nf 3 rfl
 refine nl (sq (sb [0] F H rfl fun a F=>?_))
 obtain ⟨x4,ex4,hm⟩:=ob hm
 refine sd F rfl ent172 (w_m_path_Check ex4 H:) ?_;rintro _ w a ⟨rfl,H⟩ F
 refine bb [0] F H rfl fun a F=>?_
 replace H:=H.nf 3 rfl
 refine nb [0,0] F H rfl fun a F=>?_
 refine nl (cNm F rfl hm (fun hg5 hm=>?_) (fun hg5 hm=>?_))
 cases hm
 refine sk (ct (sq (sb [0] F H rfl fun a F=>?_)))
 obtain ⟨x6,ex6,hm⟩:=ob hm
 refine sd F rfl ent212 (w_m_path_Ancestors ex6 H:) ?_;rintro _ w a ⟨p7,c7,rfl,H⟩ F
 refine bk [0,0] F H rfl ⟨⟨_,Tryz.underlying56⟩,trivial⟩ fun a F=>?_
 replace H:=H.nf 4 rfl
 refine nl (xr0 4 [0,1,4] [1,2,3] F H hm rfl rfl (fun r42 z=>z) (fun r42 z=>z) (fun o42 hm hm42=>?_) (fun r42 a w hm F H=>?_))
 refine bl (xl0 4 [0,1,4,20,21] [0,1,2,3] F H hm rfl rfl (fun (s65:Int) z=>(22,.int .i64 (s65))::z) (fun s65 z=>z) ⟨F.sl rfl,H⟩ (fun s65 a w o F H hm=>sb [0] F H rfl fun a F=>?_))
 refine nl (sq (cPm F rfl hm (fun hg66 hm=>?_) (fun hg66 hm=>?_)))
 refine sk (ct (sq (bl (sr ?_))))
 obtain ⟨x67,ex67,hm⟩:=ob hm
 obtain ⟨b68,o68,hp68,cs69,H⟩:=H.slE 0 rfl ex67
 obtain rfl:=H.rcStr 1 rfl
 replace H:=H.dp 1 rfl
 refine sv F rfl (y_idxS F elem56 rfl rfl rfl hp68 ex67) fun a F=>bk [0,0] F H rfl ⟨rfl,plain9,trivial⟩ fun a F=>nb [0,0] F H rfl fun a F=>?_
 obtain ⟨es70,H⟩:=H.mmOpen 4 rfl
 obtain ⟨cs71,hcs71,H⟩:=H.mxGet 4 rfl x67 (zc:=([Value.bool false]++[Value.slice none 0 0])) (z0:=(false,[])) (fun B=>⟨_,_,rfl,(fun _=>rfl) B,((fun _=>rSl_nil _ _) B)⟩)
 refine sv F rfl (y_mxGet2 (agg:=true) (zc:=([Value.bool false]++[Value.slice none 0 0])) F Tryz.underlying239 (keyStr Tryz.underlying9) (fun w=>aggz237.run_zero w) rfl H 5 rfl rfl (k:=x67) rfl trivial hcs71) fun a F=>bb [0,0,0] F H rfl fun a F=>?_
 replace H:=H.owNil rByte 5
 refine s_allocA wkP F rfl rfl rfl agz237 rfl H fun b72 w a H F=>s_storeA wkP F rfl rfl agg237 rfl rfl rfl H 0 rfl (H.rcLen 2 rfl) rfl (H.rcFlat 2 rfl) fun w H=>bb [0] F H rfl fun a F=>?_
 replace H:=H.nf 8 rfl
 refine nl ?_
 replace H:=H.mxShut 7 rfl
 refine bl (sb [0,0,0] F H rfl fun a F=>?_)
 replace H:=H.nf 8 rfl
 refine nl (cB F rfl (fun hg73=>?_) (fun hg73=>?_))
 replace hm:=ifT hg73 hm
 cases hm
 replace hm:=ifF (nT hg73) hm
 refine sr (bk [0] F H rfl ⟨fld237_0,trivial⟩ fun a F=>?_)
 have G:=F;replace H:=rc_files_file (H.pk 2 rfl);obtain ⟨p74,c75,rfl,J⟩:=H;have H:=J;have F:=G;clear G J
 refine bk [1000,0,0] F H rfl ⟨rfl,plain4,trivial⟩ fun a F=>?_
 refine nl (cB F rfl (fun hg76=>?_) (fun hg76=>?_))
 replace hm:=ifT hg76 hm
 cases hm
 replace hm:=ifF (nT hg76) hm
 refine sk (bn (bn (ct (rl (bb [0,0] F H rfl fun a F=>?_)))))
 refine lz (ct ?_);cases hm
 exact ⟨_,rfl,⟨F.sl rfl,(H.pm 8 [4,5,6,7] rfl:)⟩⟩
 refine ex (cx (cx ?_));cases hm;refine ⟨_,rfl,?_⟩;rintro rfl
 refine ch (ct ?_)
 exact ⟨_,rfl,F.sl rfl,(H.pm 4 [1,2,3] rfl:)⟩
 refine ct (sb [0,0] F H rfl fun a F=>?_)
 obtain ⟨es77,H⟩:=H.mmOpen 2 rfl
 obtain ⟨cs78,hcs78,H⟩:=H.mxGet 2 rfl p (zc:=([Value.bool false]++[Value.slice none 0 0])) (z0:=(false,[])) (fun B=>⟨_,_,rfl,(fun _=>rfl) B,((fun _=>rSl_nil _ _) B)⟩)
 refine sv F rfl (y_mxGet2 (agg:=true) (zc:=([Value.bool false]++[Value.slice none 0 0])) F Tryz.underlying239 (keyStr Tryz.underlying9) (fun w=>aggz237.run_zero w) rfl H 3 rfl rfl (k:=p) rfl trivial hcs78) fun a F=>bb [0,0,0] F H rfl fun a F=>?_
 replace H:=H.owNil rByte 5
 refine s_allocA wkP F rfl rfl rfl agz237 rfl H fun b79 w a H F=>s_storeA wkP F rfl rfl agg237 rfl rfl rfl H 0 rfl (H.rcLen 2 rfl) rfl (H.rcFlat 2 rfl) fun w H=>bb [0] F H rfl fun a F=>?_
 replace H:=H.nf 6 rfl
 refine nl ?_
 replace H:=H.mxShut 5 rfl
 refine sq (sb [0,0] F H rfl fun a F=>?_)
 replace H:=H.nf 6 rfl
 refine nl (cB F rfl (fun hg80=>?_) (fun hg80=>?_))
 replace hm:=ifT hg80 hm
 cases hm
 replace hm:=ifF (nT hg80) hm
 refine sk (ct (sr (bk [999] F H rfl ⟨rfl,(aggn agg237 (H.rcLen 2 rfl)),trivial⟩ fun a F=>s_storeA wkP F rfl rfl agg237 rfl rfl rfl H 3 rfl (H.rcLen 2 rfl) rfl (H.rcFlat 2 rfl) fun w H=>bb [0] F H rfl fun a F=>?_)))
 replace H:=H.nf 6 rfl
 refine nl (wr ?_)
 cases hm
 refine x_resC2 F rfl (⟨_,rfl,agg237.run_load (H.blk 3 rfl).row (H.rcLen 2 rfl)⟩) rfl ?_
 exact ⟨_,rfl,cs78,rfl,(H.pm 6 [2,5] rfl:)⟩
theorem ent173:En Tryz.prog 173:=enters Tryz.func173 (by kernel_rfl) rfl
theorem ent185:En Tryz.prog 185:=enters Tryz.func185 (by kernel_rfl) rfl
theorem w_sRoom {s:(List UInt8)→Option T_files_file} {p:List UInt8} {q1:Option Nat} {w0 w:World} {l:List HP}  {r:Int} (hm:sRoom s p=some r) (H:St w0 w (HP.mm q1 ekStr true R_files_file (fun _=>True) s::l)) :
  Calls Tryz.prog 162 [.map q1,.string (txb (p))].toArray w (fun e w'=>∃ v,e=.returned v∧v=.int .i64 (r)∧St w0 w' (HP.mm q1 ekStr true R_files_file (fun _=>True) s::l)):=by
 unfold sRoom at hm
 refine x_enter Tryz.func162 rfl rfl rfl ?_
 intro a F
 refine sb [0] F H rfl fun a F=>nl (sq (sb [0] F H rfl fun a F=>?_))
 obtain ⟨x2,ex2,hm⟩:=ob hm
 refine sd F rfl ent172 (w_m_path_Check ex2 H:) ?_;rintro _ w a ⟨rfl,H⟩ F
 refine bb [0] F H rfl fun a F=>?_
 replace H:=H.nf 1 rfl
 refine nb [0,0] F H rfl fun a F=>?_
 refine nl (cNm F rfl hm (fun hg3 hm=>?_) (fun hg3 hm=>?_))
 cases hm
 refine sk (ct (sq (sb [0] F H rfl fun a F=>sv F rfl (y_eqT (l:=p) (m:=[47]) F rfl rfl rfl) fun a F=>?_)))
 refine nl (cPm F rfl hm (fun hg4 hm=>?_) (fun hg4 hm=>?_))
 cases hm
 refine sk (ct (sb [0,0] F H rfl fun a F=>?_))
 obtain ⟨x5,ex5,hm⟩:=ob hm
 refine sd F rfl ent173 (w_m_path_Parent ex5 H:) ?_;rintro _ w a ⟨rfl,H⟩ F
 obtain ⟨x6,ex6,hm⟩:=ob hm
 refine sd F rfl ent185 (w_sLook ex6 H:) ?_;rintro _ w a ⟨cs7,rfl,H⟩ F
 refine bb [0,0,0] F H rfl fun a F=>?_
 replace H:=H.owNil rByte 5
 refine s_allocA wkP F rfl rfl rfl agz237 rfl H fun b8 w a H F=>s_storeA wkP F rfl rfl agg237 rfl rfl rfl H 0 rfl (H.rcLen 2 rfl) rfl (H.rcFlat 2 rfl) fun w H=>bb [0] F H rfl fun a F=>?_
 replace H:=H.nf 4 rfl
 refine nl (sq (sb [0,0] F H rfl fun a F=>?_))
 refine nl (cNm F rfl hm (fun hg9 hm=>?_) (fun hg9 hm=>?_))
 cases hm
 refine sk (ct (sq (sr (bk [0] F H rfl ⟨fld237_0,trivial⟩ fun a F=>?_))))
 have G:=F;replace H:=rc_files_file (H.pk 2 rfl);obtain ⟨p10,c11,rfl,J⟩:=H;have H:=J;have F:=G;clear G J
 refine bk [1000,0] F H rfl ⟨rfl,plain4,trivial⟩ fun a F=>?_
 refine nl (cB F rfl (fun hg12=>?_) (fun hg12=>?_))
 replace hm:=ifT hg12 hm
 cases hm
 replace hm:=ifF (nT hg12) hm
 refine sk (ct (sq (sb [0,0] F H rfl fun a F=>?_)))
 obtain ⟨es13,H⟩:=H.mmOpen 3 rfl
 obtain ⟨cs14,hcs14,H⟩:=H.mxGet 3 rfl p (zc:=([Value.bool false]++[Value.slice none 0 0])) (z0:=(false,[])) (fun B=>⟨_,_,rfl,(fun _=>rfl) B,((fun _=>rSl_nil _ _) B)⟩)
 refine sv F rfl (y_mxGet2 (agg:=true) (zc:=([Value.bool false]++[Value.slice none 0 0])) F Tryz.underlying239 (keyStr Tryz.underlying9) (fun w=>aggz237.run_zero w) rfl H 4 rfl rfl (k:=p) rfl trivial hcs14) fun a F=>bb [0,0,0] F H rfl fun a F=>?_
 replace H:=H.owNil rByte 5
 refine s_allocA wkP F rfl rfl rfl agz237 rfl H fun b15 w a H F=>s_storeA wkP F rfl rfl agg237 rfl rfl rfl H 0 rfl (H.rcLen 2 rfl) rfl (H.rcFlat 2 rfl) fun w H=>bb [0] F H rfl fun a F=>?_
 replace H:=H.nf 7 rfl
 refine nl ?_
 replace H:=H.mxShut 6 rfl
 refine sb [0] F H rfl fun a F=>?_
 replace H:=H.nf 7 rfl
 refine nl (cB F rfl (fun hg16=>?_) (fun hg16=>?_))
 replace hm:=ifT hg16 hm
 cases hm
 replace hm:=ifF (nT hg16) hm
 refine sk (ct (sb [0] F H rfl fun a F=>nl (wr ?_)))
 cases hm
 refine x_ret1 F rfl rfl ?_
 exact ⟨_,rfl,rfl,(H.pm 7 [6] rfl:)⟩
theorem fld237_1:FieldT Tryz.prog 237 1 1:=by unfold FieldT;rw [Tryz.underlying237];kernel_rfl
theorem w_sSound {s:(List UInt8)→Option T_files_file} {q1:Option Nat} {w0 w:World} {l:List HP}  {r:Bool} (hm:sSound s=some r) (H:St w0 w (HP.mm q1 ekStr true R_files_file (fun _=>True) s::l)) :
  Calls Tryz.prog 141 [.map q1].toArray w (fun e w'=>∃ v,e=.returned v∧v=.bool (r)∧St w0 w' (HP.mm q1 ekStr true R_files_file (fun _=>True) s::l)):=by
 unfold sSound at hm
 refine x_enter Tryz.func141 rfl rfl rfl ?_
 intro a F
 refine sb [0] F H rfl fun a F=>nl (sq (sb [0] F H rfl fun a F=>?_))
 obtain ⟨raw2,cl2,es2,hM2,hE2,H⟩:=H.moOpen 0 rfl
 refine s_rngM wkP F rfl rfl rfl Tryz.underlying239 rfl H 1 rfl rfl fun r2 w a H F=>?_
 replace H:=H.nf 3 rfl
 refine nl (bl ?_)
 have hmM39:=hm;clear hm
 refine x_loopM es2 hmM39 (fun (s39:Unit) vis39 aa ww=>Fr ⟨36,[]⟩ aa [(0,.map q1),(6,.pointer (some ⟨r2,0,none⟩))]∧St w0 ww (HP.obj r2 (mit q1 cl2 (bornsOf raw2 (vis39)))::HP.es R_files_file (fun _=>True) es2 s::HP.mo q1 raw2 cl2::l)) ⟨F.sl rfl,H⟩ ?_
 clear F H
 rintro s39 vis39 a w hr39 ⟨F,H⟩
 refine sr (s_nxtM wkP F rfl rfl rfl rfl rfl hM2 hr39.ok H 2 0 rfl rfl rfl (fun hall40 w a H F=>?_) (fun q40 k40 cs40 v40 hq40 hn40 w a H F=>?_))
 have hm:=elimL (hr39.done hE2 hall40 hmM39)
 refine bb [0] F H rfl fun a F=>nl (sq (cF F rfl ?_))
 refine ex (cx (cx ?_))
 replace H:=H.moMm 2 1 hM2 rfl rfl
 refine ch (ct (sb [0] F H rfl fun a F=>?_))
 obtain ⟨es41,H⟩:=H.mmOpen 2 rfl
 obtain ⟨cs42,hcs42,H⟩:=H.mxGet 2 rfl ([47]) (zc:=([Value.bool false]++[Value.slice none 0 0])) (z0:=(false,[])) (fun B=>⟨_,_,rfl,(fun _=>rfl) B,((fun _=>rSl_nil _ _) B)⟩)
 refine sv F rfl (y_mxGet (agg:=true) (zc:=([Value.bool false]++[Value.slice none 0 0])) F Tryz.underlying239 (keyStr Tryz.underlying9) (fun w=>aggz237.run_zero w) rfl H 3 rfl rfl (k:=([47])) rfl trivial hcs42) fun a F=>?_
 have G:=F;replace H:=rc_files_file (H.pk 0 rfl);obtain ⟨p43,c44,rfl,J⟩:=H;have H:=J;have F:=G;clear G J
 refine sv F rfl (y_field1 F Tryz.underlying237 rfl plain4 rfl rfl rfl) fun a F=>bb [0] F H rfl fun a F=>?_
 replace H:=H.nf 4 rfl
 refine nl ?_
 replace H:=H.mxShut 3 rfl
 refine wr ?_
 cases hm
 refine x_ret1 F rfl rfl ?_
 exact ⟨_,rfl,rfl,(H.pm 4 [3] rfl:)⟩
 obtain ⟨o40,hm,hs40,hx40⟩:=hr39.step hE2 hq40 hn40 hmM39
 refine bb [0] F H rfl fun a F=>nl (sq (cT F rfl (sk (ct (bl (sr ?_))))))
 obtain ⟨hk45,H⟩:=H.esEl 1 rfl hq40
 refine sv F rfl (y_entM (agg:=true) (ek:=ekStr) F rfl rfl hM2 hq40 H 3 1 rfl rfl rfl) fun a F=>bb [0,0] F H rfl fun a F=>?_
 replace H:=H.owNil rByte 5
 refine s_allocA wkP F rfl rfl rfl agz237 rfl H fun b46 w a H F=>bb [0] F H rfl fun a F=>s_storeA wkP F rfl rfl agg237 rfl rfl rfl H 0 rfl (H.rcLen 2 rfl) rfl (H.rcFlat 2 rfl) fun w H=>?_
 replace H:=H.nf 6 rfl
 refine nb [0] F H rfl fun a F=>?_
 obtain ⟨x47,ex47,hm⟩:=ob hm
 refine sd F rfl ent172 (w_m_path_Check ex47 H:) ?_;rintro _ w a ⟨rfl,H⟩ F
 refine bb [0,0] F H rfl fun a F=>?_
 rcases spN 15 F rfl hm with ⟨hg48,hm,F⟩ | ⟨hg48,hm,F⟩
 refine bk [1] F H rfl ⟨fld237_1,trivial⟩ fun a F=>g_onP F rfl rfl rfl rfl ?_
 have G:=F;replace H:=rc_files_file (H.pk 2 rfl);obtain ⟨p49,c50,rfl,J⟩:=H;have H:=J;have F:=G;clear G J
 refine bk [1001,0,0,0,0] F H rfl ⟨rfl,plain25,⟨_,Tryz.underlying25⟩,trivial⟩ fun a F=>?_
 rcases spP 21 F rfl hm with ⟨hg51,hm,F⟩ | ⟨hg51,hm,F⟩
 refine bb (List.replicate 11 0) F H rfl fun a F=>?_
 replace H:=H.nf 6 rfl
 refine nl (cT F rfl ?_)
 cases hm
 refine bb [0] F H rfl fun a F=>g_onP F rfl rfl rfl rfl (sv F rfl (y_neT (l:=k40) (m:=[47]) F rfl rfl rfl) fun a F=>bb [0] F H rfl fun a F=>?_)
 rcases spN 24 F rfl hm with ⟨hg52,hm,F⟩ | ⟨hg52,hm,F⟩
 refine bb (List.replicate 8 0) F H rfl fun a F=>?_
 replace H:=H.nf 6 rfl
 refine nl (cF F rfl ?_)
 refine sk (bn (ct ?_));cases hm
 exact ⟨_,q40,hs40 _ rfl,⟨F.sl rfl,(H.pm 6 [3,4,5] rfl:)⟩⟩
 refine bb [0,0] F H rfl fun a F=>g_onP F rfl rfl rfl rfl ?_
 obtain ⟨x53,ex53,hm⟩:=ob hm
 refine sd F rfl ent173 (w_m_path_Parent ex53 H:) ?_;rintro _ w a ⟨rfl,H⟩ F
 refine g_onP F rfl rfl rfl rfl ?_
 obtain ⟨cs54,hcs54,H⟩:=H.esLook 4 rfl x53 (zc:=([Value.bool false]++[Value.slice none 0 0])) (z0:=(false,[])) (fun B=>⟨_,_,rfl,(fun _=>rfl) B,((fun _=>rSl_nil _ _) B)⟩)
 refine sv F rfl (y_mxGet (agg:=true) (zc:=([Value.bool false]++[Value.slice none 0 0])) F Tryz.underlying239 (keyStr Tryz.underlying9) (fun w=>aggz237.run_zero w) rfl (H.moMx 6 5 hM2 rfl rfl) 6 rfl rfl (k:=x53) rfl trivial hcs54) fun a F=>g_onP F rfl rfl rfl rfl ?_
 have G:=F;replace H:=rc_files_file (H.pk 0 rfl);obtain ⟨p55,c56,rfl,J⟩:=H;have H:=J;have F:=G;clear G J
 refine sv F rfl (y_field1 F Tryz.underlying237 rfl plain4 rfl rfl rfl) fun a F=>bb [0,0,0] F H rfl fun a F=>?_
 replace H:=H.nf 7 rfl
 refine nl (cB F rfl (fun hg57=>?_) (fun hg57=>?_))
 replace hm:=ifT hg57 hm
 cases hm
 replace hm:=ifF (nT hg57) hm
 refine sk (bn (ct ?_));cases hm
 exact ⟨_,q40,hs40 _ rfl,⟨F.sl rfl,(H.pm 7 [4,5,6] rfl:)⟩⟩
 refine bb (List.replicate 17 0) F H rfl fun a F=>?_
 replace H:=H.nf 6 rfl
 refine nl (cT F rfl ?_)
 cases hm
theorem agz58:AggT Tryz.prog 58 4 ([.int .i64 (0),.int .i64 (0),.slice none (([]:List UInt8)).length 0,.slice none (([]:List (List UInt8))).length 0]):=⟨by rw [Tryz.underlying58];rfl,by kernel_rfl,by kernel_rfl⟩
theorem fld27_0:FieldT Tryz.prog 27 0 0:=by unfold FieldT;rw [Tryz.underlying27];kernel_rfl
theorem fld27_1:FieldT Tryz.prog 27 1 1:=by unfold FieldT;rw [Tryz.underlying27];kernel_rfl
theorem ent162:En Tryz.prog 162:=enters Tryz.func162 (by kernel_rfl) rfl
theorem fld58_0:FieldT Tryz.prog 58 0 0:=by unfold FieldT;rw [Tryz.underlying58];kernel_rfl
theorem zero34:Zero1 Tryz.prog 34 (.int .i64 0):=⟨by kernel_rfl,rfl⟩
theorem plain34:Plain Tryz.prog 34:=by unfold Plain;rw [Tryz.underlying34];rfl
theorem agg58:AggT Tryz.prog 58 4 [.int .i64 0,.int .i64 0,.slice none 0 0,.slice none 0 0]:=⟨by rw [Tryz.underlying58];rfl,by kernel_rfl,by kernel_rfl⟩
theorem w_sDo {s:(List UInt8)→Option T_files_file} {o:T_api_Op} {m1:Nat} {cs2:List Value} {w0 w:World} {l:List HP}  {r:T_api_Answer×((List UInt8)→Option T_files_file)} (hm:sDo s o=some r) (H:St w0 w (HP.mm (some m1) ekStr true R_files_file (fun _=>True) s::HP.rc R_api_Op cs2 o::l)) :
  Calls Tryz.prog 137 [.map (some m1),.agg cs2.toArray].toArray w (fun e w'=>∃ v,e=.returned v∧∃ (cs3:List Value),v=.agg cs3.toArray∧St w0 w' (HP.rc R_api_Answer cs3 r.1::HP.mm (some m1) ekStr true R_files_file (fun _=>True) r.2::l)):=by
 unfold sDo at hm
 refine x_enter Tryz.func137 rfl rfl rfl ?_
 intro a F
 refine sr (s_boxA wkP F rfl rfl rfl rfl rfl H fun b4 w a H F=>?_)
 replace H:=H.owNil rByte 5
 replace H:=H.owNil rStr 9
 refine s_allocA wkP F rfl rfl rfl agz58 rfl H fun b5 w a H F=>?_
 replace H:=H.nf 6 rfl
 refine nl (sq (sr (bk [0] F H rfl ⟨fld27_0,trivial⟩ fun a F=>?_)))
 have G:=F;replace H:=rc_api_Op (H.pk 5 rfl);obtain ⟨p6,c7,rfl,J⟩:=H;have H:=J;have F:=G;clear G J
 refine bk [4000] F H rfl ⟨rfl,plain3,trivial⟩ fun a F=>?_
 refine nl (xr0 6 [4] [0,2,3,4] F H hm rfl rfl (fun r22 z=>z) (fun r22 z=>HP.blk b5 ([.int .i64 (r22.1),.int .i64 (0),.slice none (([]:List UInt8)).length 0,.slice none (([]:List (List UInt8))).length 0]) 58::HP.mm (some m1) ekStr true R_files_file (fun _=>True) r22.2::z) (fun o22 hm hm22=>?_) (fun r22 a w hm F H=>?_))
 refine bl (sq (sb [0,0] F H rfl fun a F=>?_))
 refine nl (xm0 6 [0,3,4,6] [0,1,2,3,4,5] F H hm rfl rfl (fun r24 z=>(8,.bool (r24))::z) (fun r24 z=>z) (fun r24 hm=>?_) (fun r24 a w hm F H=>?_))
 refine cPm F rfl hm (fun hg25 hm=>?_) (fun hg25 hm=>?_)
 refine sk ?_
 cases hm
 refine ct ?_
 exact ⟨F.sl rfl,H⟩
 refine rl (bb [0,0] F H rfl fun a F=>lz ?_)
 cases hm
 refine ct ?_
 exact ⟨F.sl rfl,H⟩
 refine ct (xr0 6 [4] [0,2,3,4] F H hm rfl rfl (fun r31 z=>z) (fun r31 z=>HP.blk b5 ([.int .i64 (r31.1),.int .i64 (0),.slice none (([]:List UInt8)).length 0,.slice none (([]:List (List UInt8))).length 0]) 58::HP.mm (some m1) ekStr true R_files_file (fun _=>True) r31.2::z) (fun o31 hm hm31=>?_) (fun r31 a w hm F H=>?_))
 refine cB F rfl (fun hg32=>?_) (fun hg32=>?_)
 replace hm:=ifT hg32 hm
 refine sr (bk [0,1,4001] F H rfl ⟨fld27_1,rfl,plain9,trivial⟩ fun a F=>?_)
 obtain ⟨x33,ex33,hm⟩:=ob hm
 refine sd F rfl ent162 (w_sRoom ex33 (H.pm 6 [5,0,1,2,3,4] rfl:):) ?_;rintro _ w a ⟨rfl,H⟩ F
 refine bk [0] F H rfl ⟨fld58_0,trivial⟩ fun a F=>s_st1 wkP F rfl rfl zero34 rfl rfl rfl rfl rfl H 2 rfl rfl fun w H=>?_
 replace H:=H.nf 6 rfl
 refine nl (sr (bk [0,2000,0] F H rfl ⟨fld58_0,rfl,plain34,trivial⟩ fun a F=>?_))
 refine nl (xm0 6 [4] [1,2,3,4,5] F H hm rfl rfl (fun r35 z=>z) (fun r35 z=>HP.mm (some m1) ekStr true R_files_file (fun _=>True) r35::z) (fun r35 hm=>?_) (fun r35 a w hm F H=>?_))
 refine cPm F rfl hm (fun hg36 hm=>?_) (fun hg36 hm=>?_)
 refine rl (bk [0,1,5001,0,5000,0] F H rfl ⟨fld27_1,rfl,plain9,fld27_0,rfl,plain3,trivial⟩ fun a F=>?_)
 replace H:=H.owNil rByte 5
 refine sv F rfl (y_build F rfl rfl (cs:=[.bool (decide (o.1=2)),.slice none (([]:List UInt8)).length 0]) (by kernel_rfl)) fun a F=>?_
 replace H:=H.frz 0 rfl
 refine s_mmSet wkP F rfl rfl Tryz.underlying239 (keyStr Tryz.underlying9) rfl H 1 rfl rfl (k:=o.2.1) rfl (cs:=[.bool (decide (o.1=2)),.slice none (([]:List UInt8)).length 0]) rfl trivial (v:=(decide (o.1=2),([]:List UInt8))) (fun gg=>⟨_,_,rfl,rfl,⟨_,_,rfl,(gg 0 _ rfl).choose_spec⟩⟩) fun w H=>?_
 replace H:=H.nf 7 rfl
 refine lz ?_
 cases hm
 refine ct ?_
 exact ⟨F.sl rfl,(H.pm 7 [1,2,3,4,5,6] rfl:)⟩
 refine sk ?_
 cases hm
 refine ct ?_
 exact ⟨F.sl rfl,H⟩
 cases hm
 refine ct ?_
 exact ⟨_,rfl,F.sl rfl,(H.pm 6 [2,0,1,3,4,5] rfl:)⟩
 replace hm:=ifF (nT hg32) hm
 cases hm
 refine bn ?_
 cases hm
 refine ct ?_
 exact ⟨_,rfl,F.sl rfl,H⟩
 refine ct (sr (bk [999] F H rfl ⟨rfl,(aggn agg58 rfl),trivial⟩ fun a F=>s_storeA wkP F rfl rfl agg58 rfl rfl rfl H 0 rfl rfl rfl (fl rfl) fun w H=>?_))
 replace H:=H.nf 6 rfl
 refine nl (wr ?_)
 replace H:=H.frz 4 rfl
 replace H:=H.frz 4 rfl
 replace H:=mk_api_Answer H r22.1 0 1 rfl 0 rfl
 cases hm
 refine x_resC1 F rfl (⟨_,rfl,agg58.run_load (H.blk 3 rfl).row rfl⟩) ?_
 exact ⟨_,rfl,[.int .i64 (r22.1),.int .i64 (0),.slice none (([]:List UInt8)).length 0,.slice none (([]:List (List UInt8))).length 0],rfl,(H.pm 7 [0,4] rfl:)⟩
end Go.Proofs.YtapllcabobickaaGreatDoor
