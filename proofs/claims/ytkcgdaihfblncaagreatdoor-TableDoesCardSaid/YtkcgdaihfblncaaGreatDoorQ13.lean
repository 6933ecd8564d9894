/- Texts TabD, P, Pth, Fil. -/
import Derived.Test.YtkcgdaihfblncaaGreatDoorQ12
import Derived.Test.YtkcgdaihfblncaaGreatDoorQ4
import Derived.Test.YtkcgdaihfblncaaGreatDoorQ6
set_option linter.unusedSimpArgs false
set_option linter.unusedVariables false
namespace Go.Proofs.YtkcgdaihfblncaaGreatDoor
open Go.RowKit Go.Tri
set_option maxRecDepth 100000
set_option maxHeartbeats 4000000
theorem yX {a_:T_api_Answer} {cs0:List Value} {w0 w:World} {l:List HP}  {r:Bool} (hm:nQ a_=some r) (H:St w0 w (HP.rc R_api_Answer cs0 a_::l)) :
  Calls Tryz.prog 21 [.agg cs0.toArray].toArray w (fun e w'=>∃ v,e=.returned v/\v=.bool (r)/\St w0 w' (l)):=by
 unfold nQ at hm
 have h0:LH0 4 [1] [] (fun (s0:Int) z=>(3,.int .i64 (s0))::z) (fun s0 z=>z):=⟨trivial⟩
 exact au Tryz.func21
instance:Ctr Tryz.prog 21 0 (type_of% @yX):=⟨enters Tryz.func21 (by kernel_rfl) rfl,@yX⟩
theorem aFw {a_:T_api_Answer} {cs0:List Value} {w0 w:World} {l:List HP}  {r:T_api_Answer} (hm:oV a_=some r) (H:St w0 w (HP.rc R_api_Answer cs0 a_::l)) :
  Calls Tryz.prog 19 [.agg cs0.toArray].toArray w (fun e w'=>∃ v,e=.returned v/\∃ (cs1:List Value),v=.agg cs1.toArray/\St w0 w' (HP.rc R_api_Answer cs1 r::l)):=by
 unfold oV at hm
 have h0:MH 1 [4,7,8,11,13] [13] (.step 0 0 (.step 0 1 (.step 0 2 (.step 0 3 (.step 0 5 (.step 0 6 (.step 0 9 (.step 0 10 (.fork 4 (.fork 7 (.step 2 8 (.step 2 11 (.step 0 12 (.step 3 13 .done)))) 8 (.step 2 7 (.step 2 11 (.step 0 12 (.step 3 13 .done))))) 8 (.step 2 4 (.step 2 7 (.step 2 11 (.step 0 12 (.step 3 13 .done)))))))))))))) [1]:=⟨trivial⟩
 exact au Tryz.func19
instance:Ctr Tryz.prog 19 0 (type_of% @aFw):=⟨enters Tryz.func19 (by kernel_rfl) rfl,@aFw⟩
theorem qR:AggT Tryz.prog 52 26 ([.slice none (([]:List T_triremeref11_Node)).length 0,.slice none (([]:List T_triremeref12_Snap)).length 0,.int .i64 (0),.int .u64 (0),.int .i64 (0),.int .i64 (0),.slice none (([]:List UInt8)).length 0,.slice none (([]:List (List UInt8))).length 0,.int .i64 (0),.int .u64 (0),.int .i64 (0),.int .i64 (0),.slice none (([]:List UInt8)).length 0,.slice none (([]:List (List UInt8))).length 0,.int .i64 (0),.int .u64 (0),.int .i64 (0),.int .i64 (0),.slice none (([]:List UInt8)).length 0,.slice none (([]:List (List UInt8))).length 0,.int .i64 (0),.int .u64 (0),.int .i64 (0),.int .i64 (0),.slice none (([]:List UInt8)).length 0,.slice none (([]:List (List UInt8))).length 0]):=⟨by rw [Tryz.underlying52];rfl,by kernel_rfl,by kernel_rfl⟩
theorem ent20:En Tryz.prog 20:=enters Tryz.func20 (by kernel_rfl) rfl
theorem aPv:∀ (p0_0:Option Addr) (x0_0:List T_triremeref11_Node) (c0_0:Nat) (p0_1:Option Addr) (x0_1:List T_triremeref12_Snap) (c0_1:Nat),Tryz.prog.built 52 [(0,.agg ([.slice p0_0 (x0_0).length c0_0,.slice p0_1 (x0_1).length c0_1]).toArray)]=some (([Value.slice p0_0 (x0_0).length c0_0,Value.slice p0_1 (x0_1).length c0_1]++((List.replicate 4 ([Value.int .i64 (0),.int .u64 (0),.int .i64 (0),.int .i64 (0),.slice none (([]:List UInt8)).length 0,.slice none (([]:List (List UInt8))).length 0])).flatten):List Value)).toArray:=fun p0_0 x0_0 c0_0 p0_1 x0_1 c0_1=>by kernel_rfl
theorem agg52:AggT Tryz.prog 52 26 [.slice none 0 0,.slice none 0 0,.int .i64 0,.int .u64 0,.int .i64 0,.int .i64 0,.slice none 0 0,.slice none 0 0,.int .i64 0,.int .u64 0,.int .i64 0,.int .i64 0,.slice none 0 0,.slice none 0 0,.int .i64 0,.int .u64 0,.int .i64 0,.int .i64 0,.slice none 0 0,.slice none 0 0,.int .i64 0,.int .u64 0,.int .i64 0,.int .i64 0,.slice none 0 0,.slice none 0 0]:=⟨by rw [Tryz.underlying52];rfl,by kernel_rfl,by kernel_rfl⟩
instance:AggC Tryz.prog 52 26 [.slice none 0 0,.slice none 0 0,.int .i64 0,.int .u64 0,.int .i64 0,.int .i64 0,.slice none 0 0,.slice none 0 0,.int .i64 0,.int .u64 0,.int .i64 0,.int .i64 0,.slice none 0 0,.slice none 0 0,.int .i64 0,.int .u64 0,.int .i64 0,.int .i64 0,.slice none 0 0,.slice none 0 0,.int .i64 0,.int .u64 0,.int .i64 0,.int .i64 0,.slice none 0 0,.slice none 0 0]:=⟨agg52⟩
theorem ent21:En Tryz.prog 21:=enters Tryz.func21 (by kernel_rfl) rfl
theorem jY:aM Tryz.prog 52 1 2:=by unfold aM;rw [Tryz.underlying52];kernel_rfl
instance:FldC Tryz.prog 52 1 2:=⟨jY⟩
theorem pC:ArrT Tryz.prog 50 49 4 6:=⟨Tryz.underlying50,by kernel_rfl⟩
theorem w_rReadW {w_:T_api_Whole} {cs0:List Value} {w0 w:World} {l:List HP}  {r:T_triremeref13_Whole×Bool} (hm:rReadW w_=some r) (H:St w0 w (HP.rc R_api_Whole cs0 w_::l)) :
  Calls Tryz.prog 9 [.agg cs0.toArray].toArray w (fun e w'=>∃ v,e=.returned v/\∃ (cs1:List Value),v=.tuple [.agg cs1.toArray,.bool (r.2)].toArray/\St w0 w' (HP.rc R_triremeref13_Whole cs1 r.1::l)):=by
 unfold rReadW at hm
 refine dM Tryz.func9 rfl rfl rfl ?_
 intro a F
 refine sr (gB wkP F rfl rfl rfl rfl rfl H fun b0 w a H F=>?_)
 replace H:=H.oN R_triremeref11_Node 128
 replace H:=H.oN R_triremeref12_Snap 96
 replace H:=H.oN rByte 5
 replace H:=H.oN rStr 9
 replace H:=H.frz 1 rfl
 replace H:=H.frz 1 rfl
 replace H:=H.mR (R:=R_api_Seat) (cs:=[.int .i64 (0),.int .u64 (0),.int .i64 (0),.int .i64 (0),.slice none (([]:List UInt8)).length 0,.slice none (([]:List (List UInt8))).length 0]) (x:=(0,0,(0,0,([]:List UInt8),([]:List (List UInt8))))) (fun gg=>⟨[Value.int .i64 (0)],_,rfl,rfl,⟨[Value.int .u64 (0)],_,rfl,rfl,⟨[Value.int .i64 (0)],_,rfl,rfl,⟨[Value.int .i64 (0)],_,rfl,rfl,⟨[Value.slice none (([]:List UInt8)).length 0],_,rfl,⟨_,_,rfl,(gg 1 _ rfl).choose_spec⟩,⟨_,_,rfl,(gg 0 _ rfl).choose_spec⟩⟩⟩⟩⟩⟩)
 replace H:=H.arrRep 4 0 rfl
 refine bE wkP F rfl rfl rfl qR rfl H fun b1 w a H F=>bb [0] F H rfl fun a F=>?_
 replace H:=H.nf 9 rfl
 refine nl (sr (bk [0] F H rfl ⟨zS,trivial⟩ fun a F=>?_))
 have G:=F;replace H:=rc_api_Whole (H.pk 8 rfl);obtain ⟨u5,p0,c0,rfl,J⟩:=H;have H:=J;have F:=G;clear G J
 refine sv F rfl (dJ F aCp rfl rfl (iL (A:=([]:List Value)) (X:=u5) (C:=[.slice p0 (w_.2).length c0]) (w:=_) ((H.blk 9 rfl).row) rfl) (H.rL 0 rfl)) fun a F=>?_
 obtain ⟨x0,ex0,hm⟩:=ob hm
 refine sd F rfl ent20 (w_rReadS ex0 (H.pm 10 [0,0,1,2,3,4,5,6,7,8,9] rfl:):) ?_;rintro _ w a ⟨cs2,rfl,H⟩ F
 refine bb [0,0,0] F H rfl fun a F=>?_
 replace H:=H.oN R_triremeref11_Node 128
 replace H:=H.oN R_triremeref12_Snap 96
 refine bE wkP F rfl rfl rfl zE rfl H fun b2 w a H F=>aJ wkP F rfl rfl jM rfl rfl rfl H 0 rfl (H.rL 3 rfl) rfl (H.rF 3 rfl) fun w H=>bb [0] F H rfl fun a F=>?_
 replace H:=H.nf 14 rfl
 refine nl (sr (bk [999] F H rfl ⟨rfl,(bY jM (H.rL 3 rfl)),trivial⟩ fun a F=>?_))
 have G:=F;replace H:=rc_triremeref12_State (H.pk 3 rfl);obtain ⟨p1,c1,p2,c2,rfl,J⟩:=H;have H:=J;have F:=G;clear G J
 replace H:=H.oN rByte 5
 replace H:=H.oN rStr 9
 replace H:=H.frz 1 rfl
 replace H:=H.frz 1 rfl
 replace H:=H.mR (R:=R_api_Seat) (cs:=[.int .i64 (0),.int .u64 (0),.int .i64 (0),.int .i64 (0),.slice none (([]:List UInt8)).length 0,.slice none (([]:List (List UInt8))).length 0]) (x:=(0,0,(0,0,([]:List UInt8),([]:List (List UInt8))))) (fun gg=>⟨[Value.int .i64 (0)],_,rfl,rfl,⟨[Value.int .u64 (0)],_,rfl,rfl,⟨[Value.int .i64 (0)],_,rfl,rfl,⟨[Value.int .i64 (0)],_,rfl,rfl,⟨[Value.slice none (([]:List UInt8)).length 0],_,rfl,⟨_,_,rfl,(gg 1 _ rfl).choose_spec⟩,⟨_,_,rfl,(gg 0 _ rfl).choose_spec⟩⟩⟩⟩⟩⟩)
 replace H:=H.arrRep 4 0 rfl
 refine sv F rfl (bU F rfl rfl (cs:=[Value.slice p1 (x0.1.1).length c1,Value.slice p2 (x0.1.2).length c2]++((List.replicate 4 ([Value.int .i64 (0),.int .u64 (0),.int .i64 (0),.int .i64 (0),.slice none (([]:List UInt8)).length 0,.slice none (([]:List (List UInt8))).length 0])).flatten)) (aPv p1 x0.1.1 c1 p2 x0.1.2 c2)) fun a F=>?_
 replace H:=H.oN R_triremeref11_Node 128
 replace H:=H.oN R_triremeref12_Snap 96
 replace H:=H.oN rByte 5
 replace H:=H.oN rStr 9
 replace H:=H.frz 1 rfl
 replace H:=H.frz 1 rfl
 replace H:=H.mR (R:=R_api_Seat) (cs:=[.int .i64 (0),.int .u64 (0),.int .i64 (0),.int .i64 (0),.slice none (([]:List UInt8)).length 0,.slice none (([]:List (List UInt8))).length 0]) (x:=(0,0,(0,0,([]:List UInt8),([]:List (List UInt8))))) (fun gg=>⟨[Value.int .i64 (0)],_,rfl,rfl,⟨[Value.int .u64 (0)],_,rfl,rfl,⟨[Value.int .i64 (0)],_,rfl,rfl,⟨[Value.int .i64 (0)],_,rfl,rfl,⟨[Value.slice none (([]:List UInt8)).length 0],_,rfl,⟨_,_,rfl,(gg 1 _ rfl).choose_spec⟩,⟨_,_,rfl,(gg 0 _ rfl).choose_spec⟩⟩⟩⟩⟩⟩)
 replace H:=H.arrRep 4 0 rfl
 refine bE wkP F rfl rfl rfl qR rfl H fun b3 w a H F=>?_
 refine aJ wkP F rfl rfl agg52 rfl rfl rfl H 0 rfl (by simp only [List.length_append,List.length_cons,List.length_nil,bA,aR,H.rL 7 rfl]<;>rfl) (by simp only [List.length_append,List.length_cons,List.length_nil,bA,aR,H.rL 1 rfl]<;>rfl) (flA (fl rfl) (H.rF 7 rfl)) fun w H=>?_
 replace H:=H.nf 26 rfl
 refine nb [0] F H rfl fun a F=>nl (sq (sb [0] F H rfl fun a F=>?_))
 refine nl (xr1 26 [2,5,6] [5,6,11,12,13,14,15,16,17,18,19,23,24,25] F H hm rfl rfl (fun r0 (cs3:List Value) z=>z) (fun r0 cs3 z=>HP.blk b3 ([Value.slice p1 (x0.1.1).length c1,Value.slice p2 (x0.1.2).length c2]++(cs3)) 52::HP.rc (cW R_api_Seat 4) cs3 r0::z) (fun o0 hm hm0=>?_) (fun r0 a w hm cs3 F H=>?_))
 refine bl ?_
 refine xl1 26 [1,2,5,6] [5,6,11,12,13,14,15,16,17,18,19,23,24,25] F H hm rfl rfl (fun (s0:(List T_api_Seat)×Int×Int) (cs4:List Value) z=>(7,.int .i64 (s0.2.1))::(8,.int .i64 (s0.2.2))::z) (fun s0 cs4 z=>HP.blk b3 ([Value.slice p1 (x0.1.1).length c1,Value.slice p2 (x0.1.2).length c2]++(cs4)) 52::HP.rc (cW R_api_Seat 4) cs4 s0.1::z) ⟨(List.replicate 4 ([Value.int .i64 (0),.int .u64 (0),.int .i64 (0),.int .i64 (0),.slice none (([]:List UInt8)).length 0,.slice none (([]:List (List UInt8))).length 0])).flatten,F.sl rfl,(H.pm 26 [0,7,5,6,11,12,13,14,15,16,17,18,19,23,24,25] rfl:)⟩ (fun s0 a w o cs4 F H hm=>?_)
 refine sq (sr (bk [0,2] F H rfl ⟨pM,trivial⟩ fun a F=>?_))
 refine sv F rfl (bS F qG rfl rfl ((lW (A:=u5) (X:=[.slice p0 (w_.2).length c0]) ((H.blk 15 rfl).row) (by simp only [List.length_append,List.length_cons,List.length_nil,bA,aR,H.rL 9 rfl]<;>rfl)) 0 _ rfl)) fun a F=>?_
 refine bk [0,0] F H rfl ⟨⟨_,Tryz.underlying26⟩,trivial⟩ fun a F=>?_
 refine nl (cPm F rfl hm (fun hg0 hm=>?_) (fun hg0 hm=>?_))
 refine sk (ct (sq (bl (sr (bk [2] F H rfl ⟨pM,trivial⟩ fun a F=>?_)))))
 refine sv F rfl (bS F qG rfl rfl ((lW (A:=u5) (X:=[.slice p0 (w_.2).length c0]) ((H.blk 15 rfl).row) (by simp only [List.length_append,List.length_cons,List.length_nil,bA,aR,H.rL 9 rfl]<;>rfl)) 0 _ rfl)) fun a F=>?_
 refine bb [0] F H rfl fun a F=>?_
 obtain ⟨x1,ex1,hm⟩:=ob hm
 obtain ⟨b4,o1,hp0,cs5,H⟩:=H.slE 10 rfl ex1
 refine sv F rfl (dW F fK rfl rfl rfl hp0 ex1) fun a F=>bk [999] F H rfl ⟨rfl,(bY fA (H.rL 1 rfl)),trivial⟩ fun a F=>?_
 replace H:=H.oN rByte 5
 replace H:=H.oN rStr 9
 refine bE wkP F rfl rfl rfl yG rfl H fun b5 w a H F=>aJ wkP F rfl rfl fA rfl rfl rfl H 0 rfl (H.rL 4 rfl) rfl (H.rF 4 rfl) fun w H=>?_
 replace H:=H.nf 21 rfl
 refine nl (sq (sr (bk [0] F H rfl ⟨nJ,trivial⟩ fun a F=>?_)))
 have G:=F;replace H:=rc_api_Seat (H.pk 4 rfl);obtain ⟨v96,rfl,J⟩:=H;have H:=J;have F:=G;clear G J
 refine bk [1000,0,0,0] F H rfl ⟨rfl,plain3,trivial⟩ fun a F=>?_
 rcases spP 34 F rfl hm with ⟨hg1,hm,F⟩ | ⟨hg1,hm,F⟩
 refine bb (List.replicate 15 0) F H rfl fun a F=>nl (cT F rfl ?_)
 refine sr (bk [5999] F H rfl ⟨rfl,(bY agg52 (by simp only [List.length_append,List.length_cons,List.length_nil,bA,aR,H.rL 6 rfl]<;>rfl)),trivial⟩ fun a F=>?_)
 refine aJ wkP F rfl rfl agg52 rfl rfl rfl H 16 rfl (by simp only [List.length_append,List.length_cons,List.length_nil,bA,aR,H.rL 6 rfl]<;>rfl) (by simp only [List.length_append,List.length_cons,List.length_nil,bA,aR,H.rL 17 rfl]<;>rfl) (flA (fl rfl) (H.rF 6 rfl)) fun w H=>?_
 refine bb [0] F H rfl fun a F=>?_
 replace H:=H.nf 21 rfl
 refine nl (wr (tr (br (tr (tr ?_)))));cases hm;refine ⟨_,rfl,?_⟩;rintro rfl
 refine br (tr ?_)
 replace hm:=cC hm0
 refine tr ?_
 replace H:=H.mR (R:=R_triremeref13_Whole) (cs:=[Value.slice p1 (x0.1.1).length c1,Value.slice p2 (x0.1.2).length c2]++(cs4)) (x:=((x0.1.1,x0.1.2),s0.1)) (fun gg=>⟨[Value.slice p1 (x0.1.1).length c1,.slice p2 (x0.1.2).length c2],_,rfl,⟨[Value.slice p1 (x0.1.1).length c1],_,rfl,⟨_,_,rfl,(gg 9 _ rfl).choose_spec⟩,⟨_,_,rfl,(gg 10 _ rfl).choose_spec⟩⟩,(gg 6 _ rfl).choose_spec⟩)
 cases hm
 refine cG F rfl (⟨_,rfl,agg52.run_load (H.blk 17 rfl).row (by simp only [List.length_append,List.length_cons,List.length_nil,bA,aR,H.rL 7 rfl]<;>rfl)⟩) rfl ?_
 exact ⟨_,rfl,[Value.slice p1 (x0.1.1).length c1,Value.slice p2 (x0.1.2).length c2]++(cs4),rfl,(H.pm 22 [0] rfl:)⟩
 refine bk [0,1000,0,0,0] F H rfl ⟨nJ,rfl,plain3,trivial⟩ fun a F=>?_
 rcases spP 39 F rfl hm with ⟨hg2,hm,F⟩ | ⟨hg2,hm,F⟩
 refine bb (List.replicate 10 0) F H rfl fun a F=>nl (cT F rfl ?_)
 refine sr (bk [5999] F H rfl ⟨rfl,(bY agg52 (by simp only [List.length_append,List.length_cons,List.length_nil,bA,aR,H.rL 6 rfl]<;>rfl)),trivial⟩ fun a F=>?_)
 refine aJ wkP F rfl rfl agg52 rfl rfl rfl H 16 rfl (by simp only [List.length_append,List.length_cons,List.length_nil,bA,aR,H.rL 6 rfl]<;>rfl) (by simp only [List.length_append,List.length_cons,List.length_nil,bA,aR,H.rL 17 rfl]<;>rfl) (flA (fl rfl) (H.rF 6 rfl)) fun w H=>?_
 refine bb [0] F H rfl fun a F=>?_
 replace H:=H.nf 21 rfl
 refine nl (wr (tr (br (tr (tr ?_)))));cases hm;refine ⟨_,rfl,?_⟩;rintro rfl
 refine br (tr ?_)
 replace hm:=cC hm0
 refine tr ?_
 replace H:=H.mR (R:=R_triremeref13_Whole) (cs:=[Value.slice p1 (x0.1.1).length c1,Value.slice p2 (x0.1.2).length c2]++(cs4)) (x:=((x0.1.1,x0.1.2),s0.1)) (fun gg=>⟨[Value.slice p1 (x0.1.1).length c1,.slice p2 (x0.1.2).length c2],_,rfl,⟨[Value.slice p1 (x0.1.1).length c1],_,rfl,⟨_,_,rfl,(gg 9 _ rfl).choose_spec⟩,⟨_,_,rfl,(gg 10 _ rfl).choose_spec⟩⟩,(gg 6 _ rfl).choose_spec⟩)
 cases hm
 refine cG F rfl (⟨_,rfl,agg52.run_load (H.blk 17 rfl).row (by simp only [List.length_append,List.length_cons,List.length_nil,bA,aR,H.rL 7 rfl]<;>rfl)⟩) rfl ?_
 exact ⟨_,rfl,[Value.slice p1 (x0.1.1).length c1,Value.slice p2 (x0.1.2).length c2]++(cs4),rfl,(H.pm 22 [0] rfl:)⟩
 refine bk [1,1001,0,0,0] F H rfl ⟨oD,rfl,plain29,trivial⟩ fun a F=>?_
 rcases spP 44 F rfl hm with ⟨hg3,hm,F⟩ | ⟨hg3,hm,F⟩
 refine bb (List.replicate 5 0) F H rfl fun a F=>nl (cT F rfl ?_)
 refine sr (bk [5999] F H rfl ⟨rfl,(bY agg52 (by simp only [List.length_append,List.length_cons,List.length_nil,bA,aR,H.rL 6 rfl]<;>rfl)),trivial⟩ fun a F=>?_)
 refine aJ wkP F rfl rfl agg52 rfl rfl rfl H 16 rfl (by simp only [List.length_append,List.length_cons,List.length_nil,bA,aR,H.rL 6 rfl]<;>rfl) (by simp only [List.length_append,List.length_cons,List.length_nil,bA,aR,H.rL 17 rfl]<;>rfl) (flA (fl rfl) (H.rF 6 rfl)) fun w H=>?_
 refine bb [0] F H rfl fun a F=>?_
 replace H:=H.nf 21 rfl
 refine nl (wr (tr (br (tr (tr ?_)))));cases hm;refine ⟨_,rfl,?_⟩;rintro rfl
 refine br (tr ?_)
 replace hm:=cC hm0
 refine tr ?_
 replace H:=H.mR (R:=R_triremeref13_Whole) (cs:=[Value.slice p1 (x0.1.1).length c1,Value.slice p2 (x0.1.2).length c2]++(cs4)) (x:=((x0.1.1,x0.1.2),s0.1)) (fun gg=>⟨[Value.slice p1 (x0.1.1).length c1,.slice p2 (x0.1.2).length c2],_,rfl,⟨[Value.slice p1 (x0.1.1).length c1],_,rfl,⟨_,_,rfl,(gg 9 _ rfl).choose_spec⟩,⟨_,_,rfl,(gg 10 _ rfl).choose_spec⟩⟩,(gg 6 _ rfl).choose_spec⟩)
 cases hm
 refine cG F rfl (⟨_,rfl,agg52.run_load (H.blk 17 rfl).row (by simp only [List.length_append,List.length_cons,List.length_nil,bA,aR,H.rL 7 rfl]<;>rfl)⟩) rfl ?_
 exact ⟨_,rfl,[Value.slice p1 (x0.1.1).length c1,Value.slice p2 (x0.1.2).length c2]++(cs4),rfl,(H.pm 22 [0] rfl:)⟩
 refine bk [2] F H rfl ⟨wI,trivial⟩ fun a F=>nE F rfl rfl rfl rfl (sv F rfl (dJ F agg47 rfl rfl (lW (A:=[.int .i64 (x1.1),.int .u64 (x1.2.1)]) (X:=v96) (w:=_) ((H.blk 1 rfl).row) (by simp only [List.length_append,List.length_cons,List.length_nil,bA,aR])) (H.rL 0 rfl)) fun a F=>nE F rfl rfl rfl rfl ?_)
 obtain ⟨x2,ex2,hm⟩:=ob hm
 refine sd F rfl ent21 (yX ex2 (H.pm 21 [0,0,1,2,3,4,5,6,7,8,9,10,11,12,13,14,15,16,17,18,19,20] rfl:):) ?_;rintro _ w a ⟨rfl,H⟩ F
 refine bb [0,0] F H rfl fun a F=>?_
 replace H:=H.nf 21 rfl
 refine nl (cB F rfl (fun hg4=>?_) (fun hg4=>?_))
 replace hm:=ifT hg4 hm
 refine sr (bk [5999] F H rfl ⟨rfl,(bY agg52 (by simp only [List.length_append,List.length_cons,List.length_nil,bA,aR,H.rL 6 rfl]<;>rfl)),trivial⟩ fun a F=>?_)
 refine aJ wkP F rfl rfl agg52 rfl rfl rfl H 16 rfl (by simp only [List.length_append,List.length_cons,List.length_nil,bA,aR,H.rL 6 rfl]<;>rfl) (by simp only [List.length_append,List.length_cons,List.length_nil,bA,aR,H.rL 17 rfl]<;>rfl) (flA (fl rfl) (H.rF 6 rfl)) fun w H=>?_
 refine bb [0] F H rfl fun a F=>?_
 replace H:=H.nf 21 rfl
 refine nl (wr (tr (br (tr (tr ?_)))));cases hm;refine ⟨_,rfl,?_⟩;rintro rfl
 refine br (tr ?_)
 replace hm:=cC hm0
 refine tr ?_
 replace H:=H.mR (R:=R_triremeref13_Whole) (cs:=[Value.slice p1 (x0.1.1).length c1,Value.slice p2 (x0.1.2).length c2]++(cs4)) (x:=((x0.1.1,x0.1.2),s0.1)) (fun gg=>⟨[Value.slice p1 (x0.1.1).length c1,.slice p2 (x0.1.2).length c2],_,rfl,⟨[Value.slice p1 (x0.1.1).length c1],_,rfl,⟨_,_,rfl,(gg 9 _ rfl).choose_spec⟩,⟨_,_,rfl,(gg 10 _ rfl).choose_spec⟩⟩,(gg 6 _ rfl).choose_spec⟩)
 cases hm
 refine cG F rfl (⟨_,rfl,agg52.run_load (H.blk 17 rfl).row (by simp only [List.length_append,List.length_cons,List.length_nil,bA,aR,H.rL 7 rfl]<;>rfl)⟩) rfl ?_
 exact ⟨_,rfl,[Value.slice p1 (x0.1.1).length c1,Value.slice p2 (x0.1.2).length c2]++(cs4),rfl,(H.pm 22 [0] rfl:)⟩
 replace hm:=ifF (nT hg4) hm
 refine sk (ct (sr (bk [0,1000,0] F H rfl ⟨nJ,rfl,plain3,trivial⟩ fun a F=>?_)))
 refine nl (rl (bk [0,1999,2] F H rfl ⟨rfl,(bY fA (by simp only [List.length_append,List.length_cons,List.length_nil,bA,aR,H.rL 0 rfl]<;>rfl)),jY,trivial⟩ fun a F=>?_))
 obtain ⟨x3,ex3,hm⟩:=ob hm
 refine sv F rfl (oI F pC rfl rfl rfl ex3 (H.arrLen 6 rfl)) fun a F=>?_
 replace H:=H.mR (R:=R_api_Seat) (cs:=[Value.int .i64 (x1.1),Value.int .u64 (x1.2.1)]++(v96)) (x:=(x1.1,x1.2.1,x1.2.2)) (fun gg=>⟨[Value.int .i64 (x1.1)],_,rfl,rfl,⟨[Value.int .u64 (x1.2.1)],_,rfl,rfl,(gg 0 _ rfl).choose_spec⟩⟩)
 obtain ⟨A103,X103,C103,D103,he103,hA103,hX103,hD103,H⟩:=H.arrPut 7 rfl ex3 0 rfl
 refine aGj wkP F rfl rfl fA rfl rfl rfl H 7 rfl (E:=[.slice p1 (x0.1.1).length c1,.slice p2 (x0.1.2).length c2]) (D:=([]:List Value)) (by simp only [List.append_assoc,List.cons_append,List.nil_append,List.append_nil]) he103 (by simp only [List.length_append,List.length_cons,List.length_nil,bA,aR]) hA103 hX103 (H.rL 1 rfl) (H.rF 1 rfl) hD103 fun w H=>?_
 replace H:St w0 w (HP.rc (cW R_api_Seat 4) D103 ((s0.1).set (x1.1:Int).toNat (x1.1,x1.2.1,x1.2.2))::HP.rc R_api_Seat ([Value.int .i64 (x1.1),Value.int .u64 (x1.2.1)]++(v96)) (x1.1,x1.2.1,x1.2.2)::HP.rc R_api_Answer v96 x1.2.2::HP.blk b5 ([Value.int .i64 (x1.1),Value.int .u64 (x1.2.1)]++(v96)) 49::HP.ow rStr 9 none 0 ([]:List (List UInt8))::HP.ow rByte 5 none 0 ([]:List UInt8)::HP.row b4 (o1+(s0.2.2:Int).toNat*6) ([Value.int .i64 (x1.1),Value.int .u64 (x1.2.1)]++(v96))::HP.blk b3 ([Value.slice p1 (x0.1.1).length c1,Value.slice p2 (x0.1.2).length c2]++(D103)) 52::HP.rc (cW R_api_Seat 4) cs4 s0.1::HP.ow R_triremeref12_Snap 96 none 0 ([]:List T_triremeref12_Snap)::HP.ow R_triremeref11_Node 128 none 0 ([]:List T_triremeref11_Node)::HP.sl R_triremeref11_Node p1 c1 x0.1.1::HP.sl R_triremeref12_Snap p2 c2 x0.1.2::HP.blk b2 ([.slice p1 (x0.1.1).length c1,.slice p2 (x0.1.2).length c2]) 43::HP.ow R_triremeref12_Snap 96 none 0 ([]:List T_triremeref12_Snap)::HP.ow R_triremeref11_Node 128 none 0 ([]:List T_triremeref11_Node)::HP.rc R_api_State u5 w_.1::HP.sl R_api_Seat p0 c0 w_.2::HP.blk b1 ([Value.slice none (([]:List T_triremeref11_Node)).length 0,Value.slice none (([]:List T_triremeref12_Snap)).length 0]++((List.replicate 4 ([Value.int .i64 (0),.int .u64 (0),.int .i64 (0),.int .i64 (0),.slice none (([]:List UInt8)).length 0,.slice none (([]:List (List UInt8))).length 0])).flatten)) 52::HP.rc (cW R_api_Seat 4) ((List.replicate 4 ([Value.int .i64 (0),.int .u64 (0),.int .i64 (0),.int .i64 (0),.slice none (([]:List UInt8)).length 0,.slice none (([]:List (List UInt8))).length 0])).flatten) (List.replicate 4 (0,0,(0,0,([]:List UInt8),([]:List (List UInt8)))))::HP.ow R_triremeref12_Snap 96 none 0 ([]:List T_triremeref12_Snap)::HP.ow R_triremeref11_Node 128 none 0 ([]:List T_triremeref11_Node)::HP.blk b0 (u5++([Value.slice p0 (w_.2).length c0])) 28::l):=H.blkEq 7 rfl ([Value.slice p1 (x0.1.1).length c1,Value.slice p2 (x0.1.2).length c2]++(D103)) (by simp only [List.append_assoc,List.cons_append,List.nil_append,List.append_nil])
 refine lz (bn (ct (rl (bb [0,0,0] F H rfl fun a F=>?_))))
 refine lz (ct ?_);cases hm
 exact ⟨_,rfl,⟨D103,F.sl rfl,(H.pm 23 [7,0,9,10,11,12,13,14,15,16,17,18,19,20,21,22] rfl:)⟩⟩
 refine ex (cx (cx ?_));cases hm;refine ⟨_,rfl,?_⟩;rintro rfl
 refine ch (ct ?_)
 exact ⟨_,rfl,cs4,F.sl rfl,H⟩
 refine ct (sr (bk [999,0] F H rfl ⟨rfl,(bY agg52 (by simp only [List.length_append,List.length_cons,List.length_nil,bA,aR,H.rL 1 rfl]<;>rfl)),trivial⟩ fun a F=>?_))
 refine aJ wkP F rfl rfl agg52 rfl rfl rfl H 11 rfl (by simp only [List.length_append,List.length_cons,List.length_nil,bA,aR,H.rL 1 rfl]<;>rfl) (by simp only [List.length_append,List.length_cons,List.length_nil,bA,aR,H.rL 12 rfl]<;>rfl) (flA (fl rfl) (H.rF 1 rfl)) fun w H=>?_
 refine bb [0] F H rfl fun a F=>?_
 replace H:=H.nf 16 rfl
 refine nl (wr ?_)
 replace H:=H.mR (R:=R_triremeref13_Whole) (cs:=[Value.slice p1 (x0.1.1).length c1,Value.slice p2 (x0.1.2).length c2]++(cs3)) (x:=((x0.1.1,x0.1.2),r0)) (fun gg=>⟨[Value.slice p1 (x0.1.1).length c1,.slice p2 (x0.1.2).length c2],_,rfl,⟨[Value.slice p1 (x0.1.1).length c1],_,rfl,⟨_,_,rfl,(gg 4 _ rfl).choose_spec⟩,⟨_,_,rfl,(gg 5 _ rfl).choose_spec⟩⟩,(gg 1 _ rfl).choose_spec⟩)
 cases hm
 refine cG F rfl (⟨_,rfl,agg52.run_load (H.blk 12 rfl).row (by simp only [List.length_append,List.length_cons,List.length_nil,bA,aR,H.rL 2 rfl]<;>rfl)⟩) rfl ?_
 exact ⟨_,rfl,[Value.slice p1 (x0.1.1).length c1,Value.slice p2 (x0.1.2).length c2]++(cs3),rfl,(H.pm 17 [0] rfl:)⟩
instance:Ctr Tryz.prog 9 0 (type_of% @w_rReadW):=⟨enters Tryz.func9 (by kernel_rfl) rfl,@w_rReadW⟩
theorem yB:aM Tryz.prog 52 0 0:=by unfold aM;rw [Tryz.underlying52];kernel_rfl
instance:FldC Tryz.prog 52 0 0:=⟨yB⟩
theorem ent34:En Tryz.prog 34:=enters Tryz.func34 (by kernel_rfl) rfl
theorem zero26:Zero1 Tryz.prog 26 (.slice none 0 0):=⟨by kernel_rfl,rfl⟩
instance:ZerC Tryz.prog 26 (.slice none 0 0):=⟨zero26⟩
theorem w_rWriteW {w_:T_triremeref13_Whole} {cs0:List Value} {w0 w:World} {l:List HP}  {r:T_api_Whole} (hm:rWriteW w_=some r) (H:St w0 w (HP.rc R_triremeref13_Whole cs0 w_::l)) :
  Calls Tryz.prog 15 [.agg cs0.toArray].toArray w (fun e w'=>∃ v,e=.returned v/\∃ (cs1:List Value),v=.agg cs1.toArray/\St w0 w' (HP.rc R_api_Whole cs1 r::l)):=by
 unfold rWriteW at hm
 refine dM Tryz.func15 rfl rfl rfl ?_
 intro a F
 refine sr (gB wkP F rfl rfl rfl rfl rfl H fun b0 w a H F=>?_)
 replace H:=H.oN R_api_Pair 126
 replace H:=H.oN R_api_Snap 90
 replace H:=H.oN R_api_Seat 49
 refine bE wkP F rfl rfl rfl eU rfl H fun b1 w a H F=>?_
 replace H:=H.nf 6 rfl
 refine nl (sr (bk [0] F H rfl ⟨yB,trivial⟩ fun a F=>?_))
 have G:=F;replace H:=rc_triremeref13_Whole (H.pk 5 rfl);obtain ⟨u5,v6,rfl,J⟩:=H;have H:=J;have F:=G;clear G J
 refine sv F rfl (dJ F jM rfl rfl (iL (A:=([]:List Value)) (X:=u5) (C:=v6) (w:=_) ((H.blk 6 rfl).row) rfl) (H.rL 0 rfl)) fun a F=>?_
 obtain ⟨x0,ex0,hm⟩:=ob hm
 refine sd F rfl ent34 (w_rWriteS ex0 (H.pm 7 [0,0,1,2,3,4,5,6] rfl:):) ?_;rintro _ w a ⟨cs2,rfl,H⟩ F
 have G:=F;replace H:=rc_api_State (H.pk 0 rfl);obtain ⟨p0,c0,p1,c1,rfl,J⟩:=H;have H:=J;have F:=G;clear G J
 replace H:=H.oN R_api_Seat 49
 refine sv F rfl (bU F rfl rfl (cs:=[.slice p0 (x0.1).length c0,.slice p1 (x0.2).length c1,.slice none (([]:List T_api_Seat)).length 0]) (by kernel_rfl)) fun a F=>?_
 replace H:=H.oN R_api_Pair 126
 replace H:=H.oN R_api_Snap 90
 replace H:=H.oN R_api_Seat 49
 refine bE wkP F rfl rfl rfl eU rfl H fun b2 w a H F=>aJ wkP F rfl rfl agg28 rfl rfl rfl H 0 rfl rfl rfl (fl rfl) fun w H=>?_
 replace H:=H.nf 14 rfl
 refine nl (sq (sb [0] F H rfl fun a F=>?_))
 refine nl (xm2 14 [2,3] [1,2,3,5,6,7,8,9,10,11,12,13] F H hm rfl rfl (fun r0 (p2:Option Addr) (c2:Nat) z=>z) (fun r0 p2 c2 z=>HP.blk b2 ([.slice p0 (x0.1).length c0,.slice p1 (x0.2).length c1,.slice p2 (r0).length c2]) 28::HP.ow R_api_Seat 49 p2 c2 r0::z) (fun r0 hm=>?_) (fun r0 a w hm p2 c2 F H=>?_))
 refine bl ?_
 refine xl2 14 [1,2,3] [1,2,3,5,6,7,8,9,10,11,12,13] F H hm rfl rfl (fun (s0:(List T_api_Seat)×Int) (p3:Option Addr) (c3:Nat) z=>(4,.int .i64 (s0.2))::z) (fun s0 p3 c3 z=>HP.blk b2 ([.slice p0 (x0.1).length c0,.slice p1 (x0.2).length c1,.slice p3 (s0.1).length c3]) 28::HP.ow R_api_Seat 49 p3 c3 s0.1::z) ⟨none,0,F.sl rfl,(H.pm 14 [0,4,1,2,3,5,6,7,8,9,10,11,12,13] rfl:)⟩ (fun s0 a w o p3 c3 F H hm=>?_)
 refine sq (sb [0,0] F H rfl fun a F=>?_)
 refine nl (cPm F rfl hm (fun hg0 hm=>?_) (fun hg0 hm=>?_))
 refine sk (ct (sq (xm2 14 [1,2,3,4] [2,3,4,5,6,7,8,9,10,11,12,13] F H hm rfl rfl (fun r1 (p4:Option Addr) (c4:Nat) z=>z) (fun r1 p4 c4 z=>HP.blk b2 ([.slice p0 (x0.1).length c0,.slice p1 (x0.2).length c1,.slice p4 (r1).length c4]) 28::HP.ow R_api_Seat 49 p4 c4 r1::z) (fun r1 hm=>?_) (fun r1 a w hm p4 c4 F H=>?_))))
 refine bl (sr (bk [0,2] F H rfl ⟨jY,trivial⟩ fun a F=>?_))
 obtain ⟨x1,ex1,hm⟩:=ob hm
 refine sv F rfl (oI F pC rfl rfl rfl ex1 (H.arrLen 8 rfl)) fun a F=>bk [1] F H rfl ⟨oD,trivial⟩ fun a F=>?_
 obtain ⟨A274,X274,C274,he274,hA274,H⟩:=H.arrAt 8 rfl ex1
 have G:=F;replace H:=rc_api_Seat (H.pk 0 rfl);obtain ⟨v275,rfl,J⟩:=H;have H:=J;have F:=G;clear G J
 refine sv F rfl (bS F plain29 rfl rfl ((iL (A:=[.int .i64 (x1.1)]) (X:=[.int .u64 (x1.2.1)]) (C:=v275) (wF (E:=u5) ((H.blk 14 rfl).row) he274 (by simp only [List.append_eq,List.length_append,List.length_cons,List.length_nil,bA,aR,H.rL 8 rfl]<;>rfl) hA274) (by simp only [List.append_eq,List.length_append,List.length_cons,List.length_nil,bA,aR])) 0 _ rfl)) fun a F=>?_
 refine bb [0] F H rfl fun a F=>?_
 refine nl (xm2 15 [1,2,3,4] [3,4,5,6,7,8,9,10,11,12,13,14] F H hm rfl rfl (fun r2 (p5:Option Addr) (c5:Nat) z=>z) (fun r2 p5 c5 z=>HP.blk b2 ([.slice p0 (x0.1).length c0,.slice p1 (x0.2).length c1,.slice p5 (r2).length c5]) 28::HP.ow R_api_Seat 49 p5 c5 r2::z) (fun r2 hm=>?_) (fun r2 a w hm p5 c5 F H=>?_))
 refine cPm F rfl hm (fun hg1 hm=>?_) (fun hg1 hm=>?_)
 refine sr (bk [0,2] F H rfl ⟨jY,trivial⟩ fun a F=>?_)
 obtain ⟨x2,ex2,hm⟩:=ob hm
 refine sv F rfl (oI F pC rfl rfl rfl ex2 (H.arrLen 9 rfl)) fun a F=>?_
 obtain ⟨A288,X288,C288,he288,hA288,H⟩:=H.arrAt 9 rfl ex2
 refine sv F rfl (dJ F fA rfl rfl (wF (E:=u5) ((H.blk 15 rfl).row) he288 (by simp only [List.append_eq,List.length_append,List.length_cons,List.length_nil,bA,aR,H.rL 9 rfl]<;>rfl) hA288) (H.rL 0 rfl)) fun a F=>?_
 replace H:=H.oN rByte 5
 replace H:=H.oN rStr 9
 refine bE wkP F rfl rfl rfl yG rfl H fun b3 w a H F=>aJ wkP F rfl rfl fA rfl rfl rfl H 0 rfl (H.rL 3 rfl) rfl (H.rF 3 rfl) fun w H=>?_
 replace H:=H.nf 19 rfl
 refine nl (sr (bk [0,0] F H rfl ⟨nJ,trivial⟩ fun a F=>?_))
 have G:=F;replace H:=rc_api_Seat (H.pk 3 rfl);obtain ⟨v290,rfl,J⟩:=H;have H:=J;have F:=G;clear G J
 refine cN wkP F rfl rfl zero3 rfl rfl rfl rfl rfl H 1 rfl rfl fun w H=>?_
 replace H:=H.nf 19 rfl
 refine nl (rl (bk [2,5002,1999] F H rfl ⟨pM,rfl,qG,rfl,(bY fA (by simp only [List.append_eq,List.length_append,List.length_cons,List.length_nil,bA,aR,H.rL 0 rfl]<;>rfl)),trivial⟩ fun a F=>?_))
 refine gQ wkP F rfl rfl rfl fA fK rfl rfl (by simp only [List.append_eq,List.length_append,List.length_cons,List.length_nil,bA,aR,H.rL 0 rfl]<;>rfl) (by decide) H fun b4 w a H F=>?_
 replace H:=H.bO (R:=R_api_Seat) (x:=(s0.2,x2.2.1,x2.2.2)) (fun gg=>⟨[Value.int .i64 (s0.2)],_,rfl,rfl,⟨[Value.int .u64 (x2.2.1)],_,rfl,rfl,(gg 1 _ rfl).choose_spec⟩⟩)
 replace H:=H.frz 0 rfl
 obtain ⟨x3,ex3,hm⟩:=ob hm
 refine cE wkP F rfl rfl rfl rfl rfl rfl fK rfl ex3 H 7 0 rfl rfl fun p6 c6 w a H F=>?_
 refine bk [2] F H rfl ⟨pM,trivial⟩ fun a F=>cN wkP F rfl rfl zero26 rfl rfl rfl rfl rfl H 6 rfl rfl fun w H=>?_
 replace H:=H.nf 20 rfl
 refine lz ?_
 cases hm
 exact ct ⟨p6,c6,F.sl rfl,(H.pm 20 [6,7,8,9,10,11,12,13,14,15,16,17,18,19] rfl:)⟩
 refine sk ?_
 cases hm
 exact ct ⟨p3,c3,F.sl rfl,(H.pm 15 [1,2,3,4,5,6,7,8,9,10,11,12,13,14] rfl:)⟩
 refine bn ?_
 cases hm
 exact ct ⟨p5,c5,F.sl rfl,H⟩
 refine ct (rl (bb [0,0,0] F H rfl fun a F=>?_))
 refine lz (ct ?_);cases hm
 exact ⟨_,rfl,⟨p4,c4,F.sl rfl,H⟩⟩
 refine ex (cx (cx ?_));cases hm;refine ⟨_,rfl,?_⟩;rintro rfl
 refine ch (ct ?_)
 exact ⟨p3,c3,F.sl rfl,H⟩
 refine ct (sr (bk [999] F H rfl ⟨rfl,(bY agg28 rfl),trivial⟩ fun a F=>aJ wkP F rfl rfl agg28 rfl rfl rfl H 9 rfl rfl rfl (fl rfl) fun w H=>?_))
 replace H:=H.nf 14 rfl
 refine nl (wr ?_)
 replace H:=H.frz 1 rfl
 replace H:=H.mR (R:=R_api_Whole) (cs:=[.slice p0 (x0.1).length c0,.slice p1 (x0.2).length c1,.slice p2 (r0).length c2]) (x:=((x0.1,x0.2),r0)) (fun gg=>⟨[Value.slice p0 (x0.1).length c0,.slice p1 (x0.2).length c1],_,rfl,⟨[Value.slice p0 (x0.1).length c0],_,rfl,⟨_,_,rfl,(gg 5 _ rfl).choose_spec⟩,⟨_,_,rfl,(gg 6 _ rfl).choose_spec⟩⟩,⟨_,_,rfl,(gg 0 _ rfl).choose_spec⟩⟩)
 cases hm
 refine sN F rfl (⟨_,rfl,agg28.run_load (H.blk 10 rfl).row rfl⟩) ?_
 exact ⟨_,rfl,[.slice p0 (x0.1).length c0,.slice p1 (x0.2).length c1,.slice p2 (r0).length c2],rfl,(H.pm 15 [0] rfl:)⟩
instance:Ctr Tryz.prog 15 0 (type_of% @w_rWriteW):=⟨enters Tryz.func15 (by kernel_rfl) rfl,@w_rWriteW⟩
theorem aFn {w_:T_api_Whole} {cs0:List Value} {w0 w:World} {l:List HP}  {r:T_api_Whole} (hm:mH w_=some r) (H:St w0 w (HP.rc R_api_Whole cs0 w_::l)) :
  Calls Tryz.prog 7 [.agg cs0.toArray].toArray w (fun e w'=>∃ v,e=.returned v/\∃ (cs1:List Value),v=.agg cs1.toArray/\St w0 w' (HP.rc R_api_Whole cs1 r::l)):=by
 unfold mH at hm
 have h0:∀ (b0:Nat) (v1_:Value) (v2_:Value),LH2 3 [1,2,3] [(3,b0)] (fun (s0:(List T_api_Seat)×Int) (p0:Option Addr) (c0:Nat) z=>(4,.int .i64 (s0.2))::z) (fun s0 p0 c0 z=>HP.blk b0 ([ v1_,v2_,.slice p0 (s0.1).length c0]) 28::HP.ow R_api_Seat 49 p0 c0 s0.1::z):=fun _ _ _=>⟨trivial⟩
 exact au Tryz.func7
instance:Ctr Tryz.prog 7 0 (type_of% @aFn):=⟨enters Tryz.func7 (by kernel_rfl) rfl,@aFn⟩
theorem ent30:En Tryz.prog 30:=enters Tryz.func30 (by kernel_rfl) rfl
theorem aDc:AggT Tryz.prog 50 24 [.int .i64 0,.int .u64 0,.int .i64 0,.int .i64 0,.slice none 0 0,.slice none 0 0,.int .i64 0,.int .u64 0,.int .i64 0,.int .i64 0,.slice none 0 0,.slice none 0 0,.int .i64 0,.int .u64 0,.int .i64 0,.int .i64 0,.slice none 0 0,.slice none 0 0,.int .i64 0,.int .u64 0,.int .i64 0,.int .i64 0,.slice none 0 0,.slice none 0 0]:=⟨by rw [Tryz.underlying50];rfl,by kernel_rfl,by kernel_rfl⟩
instance:AggC Tryz.prog 50 24 [.int .i64 0,.int .u64 0,.int .i64 0,.int .i64 0,.slice none 0 0,.slice none 0 0,.int .i64 0,.int .u64 0,.int .i64 0,.int .i64 0,.slice none 0 0,.slice none 0 0,.int .i64 0,.int .u64 0,.int .i64 0,.int .i64 0,.slice none 0 0,.slice none 0 0,.int .i64 0,.int .u64 0,.int .i64 0,.int .i64 0,.slice none 0 0,.slice none 0 0]:=⟨aDc⟩
theorem aJ3:∀ (p0_0:Option Addr) (x0_0:List T_triremeref11_Node) (c0_0:Nat) (p0_1:Option Addr) (x0_1:List T_triremeref12_Snap) (c0_1:Nat) (s1:List Value) (h1:s1.length=24),Tryz.prog.built 52 [(0,.agg ([.slice p0_0 (x0_0).length c0_0,.slice p0_1 (x0_1).length c0_1]).toArray),(1,.agg (s1).toArray)]=some (([Value.slice p0_0 (x0_0).length c0_0,Value.slice p0_1 (x0_1).length c0_1]++(s1):List Value)).toArray:=fun p0_0 x0_0 c0_0 p0_1 x0_1 c0_1 s1 h1=>match s1,h1 with | [a0_0,a0_1,a0_2,a0_3,a0_4,a0_5,a0_6,a0_7,a0_8,a0_9,a0_10,a0_11,a0_12,a0_13,a0_14,a0_15,a0_16,a0_17,a0_18,a0_19,a0_20,a0_21,a0_22,a0_23],_=>by kernel_rfl
theorem w_rDoW {w_:T_triremeref13_Whole} {c:T_api_Call} {gen:Int} {cs0:List Value} {cs1:List Value} {w0 w:World} {l:List HP}  {r:T_triremeref13_Whole×T_api_Answer×Int} (hm:rDoW w_ c gen=some r) (H:St w0 w (HP.rc R_triremeref13_Whole cs0 w_::HP.rc R_api_Call cs1 c::l)) :
  Calls Tryz.prog 12 [.agg cs0.toArray,.agg cs1.toArray,.int .u64 (gen)].toArray w (fun e w'=>∃ v,e=.returned v/\∃ (cs2:List Value) (cs3:List Value),v=.tuple [.agg cs2.toArray,.agg cs3.toArray,.int .i64 (r.2.2)].toArray/\St w0 w' (HP.rc R_triremeref13_Whole cs2 r.1::HP.rc R_api_Answer cs3 r.2.1::l)):=by
 unfold rDoW at hm
 refine dM Tryz.func12 rfl rfl rfl ?_
 intro a F
 refine sr (gB wkP F rfl rfl rfl rfl rfl H fun b0 w a H F=>gB wkP F rfl rfl rfl rfl rfl H fun b1 w a H F=>?_)
 replace H:=H.oN R_triremeref11_Node 128
 replace H:=H.oN R_triremeref12_Snap 96
 replace H:=H.oN rByte 5
 replace H:=H.oN rStr 9
 replace H:=H.frz 1 rfl
 replace H:=H.frz 1 rfl
 replace H:=H.mR (R:=R_api_Seat) (cs:=[.int .i64 (0),.int .u64 (0),.int .i64 (0),.int .i64 (0),.slice none (([]:List UInt8)).length 0,.slice none (([]:List (List UInt8))).length 0]) (x:=(0,0,(0,0,([]:List UInt8),([]:List (List UInt8))))) (fun gg=>⟨[Value.int .i64 (0)],_,rfl,rfl,⟨[Value.int .u64 (0)],_,rfl,rfl,⟨[Value.int .i64 (0)],_,rfl,rfl,⟨[Value.int .i64 (0)],_,rfl,rfl,⟨[Value.slice none (([]:List UInt8)).length 0],_,rfl,⟨_,_,rfl,(gg 1 _ rfl).choose_spec⟩,⟨_,_,rfl,(gg 0 _ rfl).choose_spec⟩⟩⟩⟩⟩⟩)
 replace H:=H.arrRep 4 0 rfl
 refine bE wkP F rfl rfl rfl qR rfl H fun b2 w a H F=>?_
 replace H:=H.oN rByte 5
 replace H:=H.oN rStr 9
 refine bE wkP F rfl rfl rfl dA rfl H fun b3 w a H F=>bb [0] F H rfl fun a F=>?_
 replace H:=H.nf 14 rfl
 refine nl (sq (sr (bk [0] F H rfl ⟨mO,trivial⟩ fun a F=>?_)))
 have G:=F;replace H:=rc_api_Call (H.pk 13 rfl);obtain ⟨v9,rfl,J⟩:=H;have H:=J;have F:=G;clear G J
 refine bk [11000,0,0] F H rfl ⟨rfl,plain3,trivial⟩ fun a F=>?_
 rcases spP 16 F rfl hm with ⟨hg0,hm,F⟩ | ⟨hg0,hm,F⟩
 refine bb [0,0,0,0] F H rfl fun a F=>nl (cT F rfl (sr (bk [12999] F H rfl ⟨rfl,(bY agg52 (H.rL 13 rfl)),trivial⟩ fun a F=>?_)))
 replace H:=H.oN rByte 5
 replace H:=H.oN rStr 9
 refine sv F rfl (bU F rfl rfl (cs:=[.int .i64 (0),.int .i64 (0),.slice none (([]:List UInt8)).length 0,.slice none (([]:List (List UInt8))).length 0]) (by kernel_rfl)) fun a F=>?_
 refine aJ wkP F rfl rfl agg52 rfl rfl rfl H 6 rfl (H.rL 15 rfl) (by simp only [List.length_append,List.length_cons,List.length_nil,bA,aR,H.rL 7 rfl]<;>rfl) (H.rF 15 rfl) fun w H=>?_
 refine aJ wkP F rfl rfl agg47 rfl rfl rfl H 3 rfl rfl rfl (fl rfl) fun w H=>bb [0] F H rfl fun a F=>?_
 replace H:=H.nf 16 rfl
 refine nl (wr (tr ?_))
 replace H:=H.frz 1 rfl
 replace H:=H.frz 1 rfl
 replace H:=mk_api_Answer H 0 0 1 rfl 0 rfl
 cases hm
 refine jU F rfl (⟨_,rfl,agg52.run_load (H.blk 7 rfl).row (H.rL 16 rfl)⟩) (⟨_,rfl,agg47.run_load (H.blk 4 rfl).row rfl⟩) rfl ?_
 exact ⟨_,rfl,cs0,[.int .i64 (0),.int .i64 (0),.slice none (([]:List UInt8)).length 0,.slice none (([]:List (List UInt8))).length 0],rfl,(H.pm 17 [16,0] rfl:)⟩
 refine bk [0,11000,0,0] F H rfl ⟨mO,rfl,plain3,trivial⟩ fun a F=>?_
 refine nl (cPm F rfl hm (fun hg1 hm=>?_) (fun hg1 hm=>?_))
 refine sr (bk [12999] F H rfl ⟨rfl,(bY agg52 (H.rL 13 rfl)),trivial⟩ fun a F=>?_)
 replace H:=H.oN rByte 5
 replace H:=H.oN rStr 9
 refine sv F rfl (bU F rfl rfl (cs:=[.int .i64 (0),.int .i64 (0),.slice none (([]:List UInt8)).length 0,.slice none (([]:List (List UInt8))).length 0]) (by kernel_rfl)) fun a F=>?_
 refine aJ wkP F rfl rfl agg52 rfl rfl rfl H 6 rfl (H.rL 15 rfl) (by simp only [List.length_append,List.length_cons,List.length_nil,bA,aR,H.rL 7 rfl]<;>rfl) (H.rF 15 rfl) fun w H=>?_
 refine aJ wkP F rfl rfl agg47 rfl rfl rfl H 3 rfl rfl rfl (fl rfl) fun w H=>bb [0] F H rfl fun a F=>?_
 replace H:=H.nf 16 rfl
 refine nl (wr (tr ?_))
 replace H:=H.frz 1 rfl
 replace H:=H.frz 1 rfl
 replace H:=mk_api_Answer H 0 0 1 rfl 0 rfl
 cases hm
 refine jU F rfl (⟨_,rfl,agg52.run_load (H.blk 7 rfl).row (H.rL 16 rfl)⟩) (⟨_,rfl,agg47.run_load (H.blk 4 rfl).row rfl⟩) rfl ?_
 exact ⟨_,rfl,cs0,[.int .i64 (0),.int .i64 (0),.slice none (([]:List UInt8)).length 0,.slice none (([]:List (List UInt8))).length 0],rfl,(H.pm 17 [16,0] rfl:)⟩
 refine sk (ct (sr (bk [0,11000,2] F H rfl ⟨mO,rfl,plain3,jY,trivial⟩ fun a F=>?_)))
 have G:=F;replace H:=rc_triremeref13_Whole (H.pk 13 rfl);obtain ⟨u12,v13,rfl,J⟩:=H;have H:=J;have F:=G;clear G J
 obtain ⟨x0,ex0,hm⟩:=ob hm
 refine sv F rfl (oI F pC rfl rfl rfl ex0 (H.arrLen 1 rfl)) fun a F=>?_
 obtain ⟨A15,X15,C15,he15,hA15,H⟩:=H.arrAt 1 rfl ex0
 refine sv F rfl (dJ F fA rfl rfl (wF (E:=u12) ((H.blk 15 rfl).row) he15 (by simp only [List.length_append,List.length_cons,List.length_nil,bA,aR,H.rL 1 rfl]<;>rfl) hA15) (H.rL 0 rfl)) fun a F=>?_
 replace H:=H.oN rByte 5
 replace H:=H.oN rStr 9
 refine bE wkP F rfl rfl rfl yG rfl H fun b4 w a H F=>aJ wkP F rfl rfl fA rfl rfl rfl H 0 rfl (H.rL 3 rfl) rfl (H.rF 3 rfl) fun w H=>?_
 replace H:=H.nf 19 rfl
 refine nl (sq (sr (bk [1,17001,1] F H rfl ⟨kW,rfl,plain29,oD,trivial⟩ fun a F=>?_)))
 have G:=F;replace H:=rc_api_Seat (H.pk 3 rfl);obtain ⟨v17,rfl,J⟩:=H;have H:=J;have F:=G;clear G J
 refine bk [1001,0,0] F H rfl ⟨rfl,plain29,trivial⟩ fun a F=>?_
 rcases spP 33 F rfl hm with ⟨hg2,hm,F⟩ | ⟨hg2,hm,F⟩
 refine bb [0,0,0,0] F H rfl fun a F=>nl (cT F rfl ?_)
 refine sr (bk [18999] F H rfl ⟨rfl,(bY agg52 (by simp only [List.length_append,List.length_cons,List.length_nil,bA,aR,H.rL 4 rfl,H.rL 5 rfl]<;>rfl)),trivial⟩ fun a F=>?_)
 replace H:=H.oN rByte 5
 replace H:=H.oN rStr 9
 refine sv F rfl (bU F rfl rfl (cs:=[.int .i64 (0),.int .i64 (0),.slice none (([]:List UInt8)).length 0,.slice none (([]:List (List UInt8))).length 0]) (by kernel_rfl)) fun a F=>?_
 refine aJ wkP F rfl rfl agg52 rfl rfl rfl H 12 rfl (by simp only [List.length_append,List.length_cons,List.length_nil,bA,aR,H.rL 6 rfl,H.rL 7 rfl]<;>rfl) (by simp only [List.length_append,List.length_cons,List.length_nil,bA,aR,H.rL 13 rfl]<;>rfl) (flA (H.rF 6 rfl) (H.rF 7 rfl)) fun w H=>?_
 refine aJ wkP F rfl rfl agg47 rfl rfl rfl H 9 rfl rfl rfl (fl rfl) fun w H=>bb [0] F H rfl fun a F=>?_
 replace H:=H.nf 21 rfl
 refine nl (wr (tr ?_))
 replace H:=H.mR (R:=R_triremeref13_Whole) (cs:=u12++(v13)) (x:=(w_.1,w_.2)) (fun gg=>⟨u12,_,rfl,(gg 6 _ rfl).choose_spec,(gg 7 _ rfl).choose_spec⟩)
 replace H:=H.frz 2 rfl
 replace H:=H.frz 2 rfl
 replace H:=mk_api_Answer H 0 0 1 rfl 0 rfl
 cases hm
 refine jU F rfl (⟨_,rfl,agg52.run_load (H.blk 14 rfl).row (by simp only [List.length_append,List.length_cons,List.length_nil,bA,aR,H.rL 8 rfl,H.rL 9 rfl]<;>rfl)⟩) (⟨_,rfl,agg47.run_load (H.blk 11 rfl).row rfl⟩) rfl ?_
 exact ⟨_,rfl,u12++(v13),[.int .i64 (0),.int .i64 (0),.slice none (([]:List UInt8)).length 0,.slice none (([]:List (List UInt8))).length 0],rfl,(H.pm 23 [3,0] rfl:)⟩
 refine bk [1,17001,0,0] F H rfl ⟨kW,rfl,plain29,trivial⟩ fun a F=>?_
 refine nl (cPm F rfl hm (fun hg3 hm=>?_) (fun hg3 hm=>?_))
 refine sr (bk [18999] F H rfl ⟨rfl,(bY agg52 (by simp only [List.length_append,List.length_cons,List.length_nil,bA,aR,H.rL 4 rfl,H.rL 5 rfl]<;>rfl)),trivial⟩ fun a F=>?_)
 replace H:=H.oN rByte 5
 replace H:=H.oN rStr 9
 refine sv F rfl (bU F rfl rfl (cs:=[.int .i64 (0),.int .i64 (0),.slice none (([]:List UInt8)).length 0,.slice none (([]:List (List UInt8))).length 0]) (by kernel_rfl)) fun a F=>?_
 refine aJ wkP F rfl rfl agg52 rfl rfl rfl H 12 rfl (by simp only [List.length_append,List.length_cons,List.length_nil,bA,aR,H.rL 6 rfl,H.rL 7 rfl]<;>rfl) (by simp only [List.length_append,List.length_cons,List.length_nil,bA,aR,H.rL 13 rfl]<;>rfl) (flA (H.rF 6 rfl) (H.rF 7 rfl)) fun w H=>?_
 refine aJ wkP F rfl rfl agg47 rfl rfl rfl H 9 rfl rfl rfl (fl rfl) fun w H=>bb [0] F H rfl fun a F=>?_
 replace H:=H.nf 21 rfl
 refine nl (wr (tr ?_))
 replace H:=H.mR (R:=R_triremeref13_Whole) (cs:=u12++(v13)) (x:=(w_.1,w_.2)) (fun gg=>⟨u12,_,rfl,(gg 6 _ rfl).choose_spec,(gg 7 _ rfl).choose_spec⟩)
 replace H:=H.frz 2 rfl
 replace H:=H.frz 2 rfl
 replace H:=mk_api_Answer H 0 0 1 rfl 0 rfl
 cases hm
 refine jU F rfl (⟨_,rfl,agg52.run_load (H.blk 14 rfl).row (by simp only [List.length_append,List.length_cons,List.length_nil,bA,aR,H.rL 8 rfl,H.rL 9 rfl]<;>rfl)⟩) (⟨_,rfl,agg47.run_load (H.blk 11 rfl).row rfl⟩) rfl ?_
 exact ⟨_,rfl,u12++(v13),[.int .i64 (0),.int .i64 (0),.slice none (([]:List UInt8)).length 0,.slice none (([]:List (List UInt8))).length 0],rfl,(H.pm 23 [3,0] rfl:)⟩
 refine sk (ct (sq (sr (bk [1,17001,1,1001,0] F H rfl ⟨kW,rfl,plain29,oD,rfl,plain29,trivial⟩ fun a F=>?_))))
 refine nl (cPm F rfl hm (fun hg4 hm=>?_) (fun hg4 hm=>?_))
 refine sq (eT [3,4] [] (scL [1000,1,2,2003,2004,5]) [0,1] H rfl rfl (by kernel_rfl) (by kernel_rfl) fun w H=>?_)
 refine mbk [18999,2] F H rfl ⟨rfl,(bY agg52 (by simp only [List.length_append,List.length_cons,List.length_nil,bA,aR,H.rL 4 rfl,H.rL 5 rfl]<;>rfl)),wI,trivial⟩ fun a F=>?_
 refine bH F rfl rfl rfl rfl (fun u hu=>dJ F agg47 rfl rfl (lW (A:=[.int .i64 (x0.1),.int .u64 (x0.2.1)]) (X:=v17) (w:=_) ((hu.choose_spec.blk 1 rfl).row) (by simp only [List.length_append,List.length_cons,List.length_nil,bA,aR])) (hu.choose_spec.rL 0 rfl)) fun a F=>?_
 refine aE rfl rfl ?_
 refine aJ wkP F rfl rfl agg52 rfl rfl rfl H 10 rfl (by simp only [List.length_append,List.length_cons,List.length_nil,bA,aR,H.rL 4 rfl,H.rL 5 rfl]<;>rfl) (by simp only [List.length_append,List.length_cons,List.length_nil,bA,aR,H.rL 11 rfl]<;>rfl) (flA (H.rF 4 rfl) (H.rF 5 rfl)) fun w H=>?_
 refine lz ?_;refine ct ⟨⟨_,(H.pm 19 [0,1,0,2,3,4,5,6,7,8,9,10,11,12,13,14,15,16,17,18] rfl:)⟩,?_⟩
 refine aE rfl rfl (aJ wkP F rfl rfl agg47 rfl rfl rfl H 7 rfl (H.rL 0 rfl) rfl (H.rF 0 rfl) fun w H=>?_)
 refine lz ?_;refine ct ⟨⟨_,(H.pm 19 [0,1,0,2,3,4,5,6,7,8,9,10,11,12,13,14,15,16,17,18] rfl:)⟩,?_⟩
 refine mb [0] F H rfl fun a F=>bR (ct (wr (tr ?_)))
 replace H:=H.mR (R:=R_triremeref13_Whole) (cs:=u12++(v13)) (x:=(w_.1,w_.2)) (fun gg=>⟨u12,_,rfl,(gg 4 _ rfl).choose_spec,(gg 5 _ rfl).choose_spec⟩)
 cases hm
 refine jU F rfl (⟨_,rfl,agg52.run_load (H.blk 11 rfl).row (by simp only [List.length_append,List.length_cons,List.length_nil,bA,aR,H.rL 5 rfl,H.rL 6 rfl]<;>rfl)⟩) (⟨_,rfl,agg47.run_load (H.blk 8 rfl).row (H.rL 1 rfl)⟩) rfl ?_
 exact ⟨_,rfl,u12++(v13),v17,rfl,(H.pm 20 [0,1] rfl:)⟩
 refine sk (ct (sr (bk [0] F H rfl ⟨yB,trivial⟩ fun a F=>sv F rfl (dJ F jM rfl rfl (iL (A:=([]:List Value)) (X:=u12) (C:=v13) (w:=_) ((H.blk 18 rfl).row) rfl) (H.rL 4 rfl)) fun a F=>bk [2] F H rfl ⟨aAa,trivial⟩ fun a F=>sv F rfl (dJ F rX rfl rfl (lW (A:=[.int .i64 (c.1),.int .u64 (c.2.1)]) (X:=v9) (w:=_) ((H.blk 17 rfl).row) (by simp only [List.length_append,List.length_cons,List.length_nil,bA,aR])) (H.rL 6 rfl)) fun a F=>bb [0] F H rfl fun a F=>?_)))
 obtain ⟨x1,ex1,hm⟩:=ob hm
 refine sd F rfl ent30 (w_rDoS ex1 (H.pm 19 [4,6,0,1,2,3,4,5,6,7,8,9,10,11,12,13,14,15,16,17,18] rfl:):) ?_;rintro _ w a ⟨cs4,cs5,rfl,H⟩ F
 refine bb [0,0,0] F H rfl fun a F=>?_
 replace H:=H.oN R_triremeref11_Node 128
 replace H:=H.oN R_triremeref12_Snap 96
 refine bE wkP F rfl rfl rfl zE rfl H fun b5 w a H F=>?_
 replace H:=H.oN rByte 5
 replace H:=H.oN rStr 9
 refine bE wkP F rfl rfl rfl dA rfl H fun b6 w a H F=>aJ wkP F rfl rfl jM rfl rfl rfl H 3 rfl (H.rL 6 rfl) rfl (H.rF 6 rfl) fun w H=>aJ wkP F rfl rfl agg47 rfl rfl rfl H 0 rfl (H.rL 7 rfl) rfl (H.rF 7 rfl) fun w H=>?_
 replace H:=H.nf 27 rfl
 refine nl (sr (bk [3999,2] F H rfl ⟨rfl,(bY jM (H.rL 6 rfl)),jY,trivial⟩ fun a F=>?_))
 refine sv F rfl (dJ F aDc rfl rfl (lW (A:=u12) (X:=v13) (w:=_) ((H.blk 26 rfl).row) (by simp only [List.length_append,List.length_cons,List.length_nil,bA,aR,H.rL 12 rfl]<;>rfl)) (H.rL 13 rfl)) fun a F=>?_
 have G:=F;replace H:=rc_triremeref12_State (H.pk 6 rfl);obtain ⟨p0,c0,p1,c1,rfl,J⟩:=H;have H:=J;have F:=G;clear G J
 refine sv F rfl (bU F rfl rfl (cs:=[Value.slice p0 (x1.1.1).length c0,Value.slice p1 (x1.1.2).length c1]++(v13)) (aJ3 p0 x1.1.1 c0 p1 x1.1.2 c1 v13 (H.rL 14 rfl))) fun a F=>?_
 replace H:=H.oN R_triremeref11_Node 128
 replace H:=H.oN R_triremeref12_Snap 96
 replace H:=H.oN rByte 5
 replace H:=H.oN rStr 9
 replace H:=H.frz 1 rfl
 replace H:=H.frz 1 rfl
 replace H:=H.mR (R:=R_api_Seat) (cs:=[.int .i64 (0),.int .u64 (0),.int .i64 (0),.int .i64 (0),.slice none (([]:List UInt8)).length 0,.slice none (([]:List (List UInt8))).length 0]) (x:=(0,0,(0,0,([]:List UInt8),([]:List (List UInt8))))) (fun gg=>⟨[Value.int .i64 (0)],_,rfl,rfl,⟨[Value.int .u64 (0)],_,rfl,rfl,⟨[Value.int .i64 (0)],_,rfl,rfl,⟨[Value.int .i64 (0)],_,rfl,rfl,⟨[Value.slice none (([]:List UInt8)).length 0],_,rfl,⟨_,_,rfl,(gg 1 _ rfl).choose_spec⟩,⟨_,_,rfl,(gg 0 _ rfl).choose_spec⟩⟩⟩⟩⟩⟩)
 replace H:=H.arrRep 4 0 rfl
 refine bE wkP F rfl rfl rfl qR rfl H fun b7 w a H F=>?_
 refine aJ wkP F rfl rfl agg52 rfl rfl rfl H 0 rfl (by simp only [List.length_append,List.length_cons,List.length_nil,bA,aR,H.rL 21 rfl]<;>rfl) (by simp only [List.length_append,List.length_cons,List.length_nil,bA,aR,H.rL 1 rfl]<;>rfl) (flA (fl rfl) (H.rF 21 rfl)) fun w H=>?_
 replace H:=H.nf 35 rfl
 refine nl (sr (bk [0,33000,0,33000,1,33001,9999] F H rfl ⟨mO,rfl,plain3,mO,rfl,plain3,kW,rfl,plain29,rfl,(bY agg47 (H.rL 15 rfl)),trivial⟩ fun a F=>?_))
 have G:=F;replace H:=rc_api_Answer (H.pk 15 rfl);obtain ⟨p2,c2,p3,c3,rfl,J⟩:=H;have H:=J;have F:=G;clear G J
 refine sv F rfl (bU F rfl rfl (cs:=[.int .i64 (c.1),.int .u64 (c.2.1),.int .i64 (x1.2.1),.int .i64 (x1.2.2.1),.slice p2 (x1.2.2.2.1).length c2,.slice p3 (x1.2.2.2.2).length c3]) (by kernel_rfl)) fun a F=>bk [2] F H rfl ⟨jY,trivial⟩ fun a F=>?_
 obtain ⟨x2,ex2,hm⟩:=ob hm
 refine sv F rfl (oI F pC rfl rfl rfl ex2 (H.arrLen 22 rfl)) fun a F=>?_
 replace H:=H.mR (R:=R_api_Seat) (cs:=[.int .i64 (c.1),.int .u64 (c.2.1),.int .i64 (x1.2.1),.int .i64 (x1.2.2.1),.slice p2 (x1.2.2.2.1).length c2,.slice p3 (x1.2.2.2.2).length c3]) (x:=(c.1,c.2.1,(x1.2.1,x1.2.2.1,x1.2.2.2.1,x1.2.2.2.2))) (fun gg=>⟨[Value.int .i64 (c.1)],_,rfl,rfl,⟨[Value.int .u64 (c.2.1)],_,rfl,rfl,⟨[Value.int .i64 (x1.2.1)],_,rfl,rfl,⟨[Value.int .i64 (x1.2.2.1)],_,rfl,rfl,⟨[Value.slice p2 (x1.2.2.2.1).length c2],_,rfl,⟨_,_,rfl,(gg 0 _ rfl).choose_spec⟩,⟨_,_,rfl,(gg 1 _ rfl).choose_spec⟩⟩⟩⟩⟩⟩)
 obtain ⟨A36,X36,C36,D36,he36,hA36,hX36,hD36,H⟩:=H.arrPut 23 rfl ex2 0 rfl
 refine aGj wkP F rfl rfl fA rfl rfl rfl H 4 rfl (E:=[.slice p0 (x1.1.1).length c0,.slice p1 (x1.1.2).length c1]) (D:=([]:List Value)) (by simp only [List.append_assoc,List.cons_append,List.nil_append,List.append_nil]) he36 (by simp only [List.length_append,List.length_cons,List.length_nil,bA,aR]) hA36 hX36 (H.rL 1 rfl) (H.rF 1 rfl) hD36 fun w H=>?_
 replace H:St w0 w (HP.rc (cW R_api_Seat 4) D36 ((w_.2).set (c.1:Int).toNat (c.1,c.2.1,(x1.2.1,x1.2.2.1,x1.2.2.2.1,x1.2.2.2.2)))::HP.rc R_api_Seat ([.int .i64 (c.1),.int .u64 (c.2.1),.int .i64 (x1.2.1),.int .i64 (x1.2.2.1),.slice p2 (x1.2.2.2.1).length c2,.slice p3 (x1.2.2.2.2).length c3]) (c.1,c.2.1,(x1.2.1,x1.2.2.1,x1.2.2.2.1,x1.2.2.2.2))::HP.sl rByte p2 c2 x1.2.2.2.1::HP.sl rStr p3 c3 x1.2.2.2.2::HP.blk b7 ([Value.slice p0 (x1.1.1).length c0,Value.slice p1 (x1.1.2).length c1]++(D36)) 52::HP.rc (cW R_api_Seat 4) ((List.replicate 4 ([Value.int .i64 (0),.int .u64 (0),.int .i64 (0),.int .i64 (0),.slice none (([]:List UInt8)).length 0,.slice none (([]:List (List UInt8))).length 0])).flatten) (List.replicate 4 (0,0,(0,0,([]:List UInt8),([]:List (List UInt8)))))::HP.rc R_api_Seat ([.int .i64 (0),.int .u64 (0),.int .i64 (0),.int .i64 (0),.slice none (([]:List UInt8)).length 0,.slice none (([]:List (List UInt8))).length 0]) (0,0,(0,0,([]:List UInt8),([]:List (List UInt8))))::HP.sl rStr none 0 ([]:List (List UInt8))::HP.sl rByte none 0 ([]:List UInt8)::HP.ow R_triremeref12_Snap 96 none 0 ([]:List T_triremeref12_Snap)::HP.ow R_triremeref11_Node 128 none 0 ([]:List T_triremeref11_Node)::HP.sl R_triremeref11_Node p0 c0 x1.1.1::HP.sl R_triremeref12_Snap p1 c1 x1.1.2::HP.blk b6 ([.int .i64 (x1.2.1),.int .i64 (x1.2.2.1),.slice p2 (x1.2.2.2.1).length c2,.slice p3 (x1.2.2.2.2).length c3]) 47::HP.ow rStr 9 none 0 ([]:List (List UInt8))::HP.ow rByte 5 none 0 ([]:List UInt8)::HP.blk b5 ([.slice p0 (x1.1.1).length c0,.slice p1 (x1.1.2).length c1]) 43::HP.ow R_triremeref12_Snap 96 none 0 ([]:List T_triremeref12_Snap)::HP.ow R_triremeref11_Node 128 none 0 ([]:List T_triremeref11_Node)::HP.rc R_api_Answer v17 x0.2.2::HP.blk b4 ([Value.int .i64 (x0.1),Value.int .u64 (x0.2.1)]++(v17)) 49::HP.ow rStr 9 none 0 ([]:List (List UInt8))::HP.ow rByte 5 none 0 ([]:List UInt8)::HP.rc R_triremeref12_State u12 w_.1::HP.rc (cW R_api_Seat 4) v13 w_.2::HP.rc R_api_Op v9 c.2.2::HP.blk b3 ([.int .i64 (0),.int .i64 (0),.slice none (([]:List UInt8)).length 0,.slice none (([]:List (List UInt8))).length 0]) 47::HP.ow rStr 9 none 0 ([]:List (List UInt8))::HP.ow rByte 5 none 0 ([]:List UInt8)::HP.blk b2 ([Value.slice none (([]:List T_triremeref11_Node)).length 0,Value.slice none (([]:List T_triremeref12_Snap)).length 0]++((List.replicate 4 ([Value.int .i64 (0),.int .u64 (0),.int .i64 (0),.int .i64 (0),.slice none (([]:List UInt8)).length 0,.slice none (([]:List (List UInt8))).length 0])).flatten)) 52::HP.rc (cW R_api_Seat 4) ((List.replicate 4 ([Value.int .i64 (0),.int .u64 (0),.int .i64 (0),.int .i64 (0),.slice none (([]:List UInt8)).length 0,.slice none (([]:List (List UInt8))).length 0])).flatten) (List.replicate 4 (0,0,(0,0,([]:List UInt8),([]:List (List UInt8)))))::HP.rc R_api_Seat ([.int .i64 (0),.int .u64 (0),.int .i64 (0),.int .i64 (0),.slice none (([]:List UInt8)).length 0,.slice none (([]:List (List UInt8))).length 0]) (0,0,(0,0,([]:List UInt8),([]:List (List UInt8))))::HP.sl rStr none 0 ([]:List (List UInt8))::HP.sl rByte none 0 ([]:List UInt8)::HP.ow R_triremeref12_Snap 96 none 0 ([]:List T_triremeref12_Snap)::HP.ow R_triremeref11_Node 128 none 0 ([]:List T_triremeref11_Node)::HP.blk b1 ([Value.int .i64 (c.1),Value.int .u64 (c.2.1)]++(v9)) 34::HP.blk b0 (u12++(v13)) 52::l):=H.blkEq 4 rfl ([Value.slice p0 (x1.1.1).length c0,Value.slice p1 (x1.1.2).length c1]++(D36)) (by simp only [List.append_assoc,List.cons_append,List.nil_append,List.append_nil])
 refine nl (sq (eT [2,3] [] (scL [1000,1,2002,2003,4]) [13] H rfl rfl (by kernel_rfl) (by kernel_rfl) fun w H=>?_))
 refine mbk [4999] F H rfl ⟨rfl,(bY agg52 (by simp only [List.length_append,List.length_cons,List.length_nil,bA,aR,H.rL 0 rfl]<;>rfl)),trivial⟩ fun a F=>?_
 refine bH F rfl rfl rfl rfl (fun u hu=>dJ F agg47 rfl rfl ((hu.choose_spec.blk 0 rfl).row) rfl) fun a F=>?_
 refine aE rfl rfl ?_
 refine aJ wkP F rfl rfl agg52 rfl rfl rfl H 29 rfl (by simp only [List.length_append,List.length_cons,List.length_nil,bA,aR,H.rL 0 rfl]<;>rfl) (by simp only [List.length_append,List.length_cons,List.length_nil,bA,aR,H.rL 30 rfl]<;>rfl) (flA (fl rfl) (H.rF 0 rfl)) fun w H=>?_
 refine lz ?_;refine ct ⟨⟨_,(H.pm 38 [13,0,1,2,3,4,5,6,7,8,9,10,11,12,14,15,16,17,18,19,20,21,22,23,24,25,26,27,28,29,30,31,32,33,34,35,36,37] rfl:)⟩,?_⟩
 refine aE rfl rfl (aJ wkP F rfl rfl agg47 rfl rfl rfl H 26 rfl rfl rfl (fl rfl) fun w H=>?_)
 refine lz ?_;refine ct ⟨⟨_,(H.pm 38 [13,0,1,2,3,4,5,6,7,8,9,10,11,12,14,15,16,17,18,19,20,21,22,23,24,25,26,27,28,29,30,31,32,33,34,35,36,37] rfl:)⟩,?_⟩
 refine mb [0] F H rfl fun a F=>bR (ct (wr ?_))
 replace H:=H.mR (R:=R_triremeref13_Whole) (cs:=[Value.slice p0 (x1.1.1).length c0,Value.slice p1 (x1.1.2).length c1]++(D36)) (x:=((x1.1.1,x1.1.2),(w_.2).set (c.1:Int).toNat (c.1,c.2.1,(x1.2.1,x1.2.2.1,x1.2.2.2.1,x1.2.2.2.2)))) (fun gg=>⟨[Value.slice p0 (x1.1.1).length c0,.slice p1 (x1.1.2).length c1],_,rfl,⟨[Value.slice p0 (x1.1.1).length c0],_,rfl,⟨_,_,rfl,(gg 11 _ rfl).choose_spec⟩,⟨_,_,rfl,(gg 12 _ rfl).choose_spec⟩⟩,(gg 0 _ rfl).choose_spec⟩)
 replace H:=mk_api_Answer H x1.2.1 x1.2.2.1 3 rfl 4 rfl
 cases hm
 refine jU F rfl (⟨_,rfl,agg52.run_load (H.blk 31 rfl).row (by simp only [List.length_append,List.length_cons,List.length_nil,bA,aR,H.rL 2 rfl]<;>rfl)⟩) (⟨_,rfl,agg47.run_load (H.blk 28 rfl).row rfl⟩) rfl ?_
 exact ⟨_,rfl,[Value.slice p0 (x1.1.1).length c0,Value.slice p1 (x1.1.2).length c1]++(D36),[.int .i64 (x1.2.1),.int .i64 (x1.2.2.1),.slice p2 (x1.2.2.2.1).length c2,.slice p3 (x1.2.2.2.2).length c3],rfl,(H.pm 40 [1,0] rfl:)⟩
instance:Ctr Tryz.prog 12 0 (type_of% @w_rDoW):=⟨enters Tryz.func12 (by kernel_rfl) rfl,@w_rDoW⟩
theorem xT {w_:T_api_Whole} {c:T_api_Call} {gen:Int} {cs0:List Value} {cs1:List Value} {w0 w:World} {l:List HP}  {r:Bool} (hm:nY w_ c gen=some r) (H:St w0 w (HP.rc R_api_Whole cs0 w_::HP.rc R_api_Call cs1 c::l)) :
  Calls Tryz.prog 3 [.agg cs0.toArray,.agg cs1.toArray,.int .u64 (gen)].toArray w (fun e w'=>∃ v,e=.returned v/\v=.bool (r)/\St w0 w' (l)):=by
 unfold nY at hm
 have h0:MH 15 [2,11,12,17] [] (scP [(1,0),(1,1),(2,2),(0,3),(0,4),(0,5),(0,6),(0,7),(0,8),(0,9),(1,10),(2,11),(2,12),(0,13),(0,14),(1,15),(1,16),(2,17),(0,18),(0,19)]) [11]:=⟨trivial⟩
 exact au Tryz.func3
instance:Ctr Tryz.prog 3 0 (type_of% @xT):=⟨enters Tryz.func3 (by kernel_rfl) rfl,@xT⟩
end Go.Proofs.YtkcgdaihfblncaaGreatDoor
namespace Go.Tri
open Go.RowKit
def hJ {σ:Type} (step:Nat->σ->σ):Nat->Nat->σ->σ
 | 0,_,s=>s
 | m+1,i,s=>hJ step m (i+1) (step i s)
theorem aGg {σ ρ:Type} {f:σ×Int->Option ((σ×Int) ⊕ ρ)} (step:Nat->σ->σ) (fin:σ->ρ) (n:Nat) (I:Nat->σ->Prop)
  (hs:∀ i s,i<n->I i s->f (s,(i:Int))=some (.inl (step i s,((i+1:Nat):Int)))/\I (i+1) (step i s)) (he:∀ s,I n s->f (s,(n:Int))=some (.inr (fin s))) :
  ∀ (m i:Nat) (s:σ),i+m=n->I i s->aH f (s,(i:Int))=some (fin (hJ step m i s))/\I n (hJ step m i s)
 | 0,i,s,h,hi=>by
  have:i=n:=by omega
  subst this
  rw [dN,he s hi]
  exact ⟨rfl,hi⟩
 | m+1,i,s,h,hi=>by
  obtain ⟨h1,h2⟩:=hs i s (by omega) hi
  rw [dN,h1]
  exact aGg step fin n I hs he m (i+1) (step i s) (by omega) h2
theorem aJ1 {σ ρ:Type} {f:σ×Int->Option ((σ×Int) ⊕ ρ)} (step:Nat->σ->σ) (fin:σ->ρ) (n:Nat) (I:Nat->σ->Prop)
  (hs:∀ i s,i<n->I i s->f (s,(i:Int))=some (.inl (step i s,((i+1:Nat):Int)))/\I (i+1) (step i s)) (he:∀ s,I n s->f (s,(n:Int))=some (.inr (fin s))) {s0:σ} (h0:I 0 s0) :
  aH f (s0,0)=some (fin (hJ step n 0 s0))/\I n (hJ step n 0 s0):=aGg step fin n I hs he n 0 s0 (by omega) h0
theorem aJg {σ:Type} {f g:Nat->σ->σ} (I:Nat->σ->Prop) (n:Nat) (h:∀ i s,i<n->I i s->f i s=g i s/\I (i+1) (f i s)):∀ (m i:Nat) (s:σ),i+m=n->I i s->hJ f m i s=hJ g m i s
 | 0,_,_,_,_=>rfl
 | m+1,i,s,hm,hi=>by
  obtain ⟨h1,h2⟩:=h i s (by omega) hi
  show hJ f m (i+1) (f i s)=hJ g m (i+1) (g i s)
  rw [<- h1]
  exact aJg I n h m (i+1) (f i s) (by omega) h2
theorem cM {α:Type} {xs:List α} {i:Nat} {x:α} (h:xs[i]?=some x):aD xs (i:Int)=some x:=by
 unfold aD;rw [if_pos (by omega)];simpa using h
theorem aX {α:Type} {xs:List α} {i:Nat} (h:i<xs.length):aD xs (i:Int)=some xs[i]:=cM (List.getElem?_eq_getElem h)
theorem iT {α:Type} {xs:List α} {i:Int} {n:Nat} (d:α) (hi:i=(n:Int)) (h:n<xs.length):aD xs i=some (xs.getD n d):=by
 subst hi
 rw [aX h];simp [List.getD,List.getElem?_eq_getElem h]
theorem cD {α:Type} {xs:List α} {i j:Nat} (h1:i<=j) (h2:j<=xs.length):aY xs (i:Int) (j:Int)=some ((xs.take j).drop i):=by
 unfold aY;rw [if_pos ⟨by omega,by omega,by omega⟩];simp
theorem bI {α:Type} [Cap α] {xs ys:List α} (h:xs.length+ys.length<=274877906944):aL xs ys=some (xs++ys):=by
 unfold aL;rw [if_pos (Nat.le_trans h Cap.le)]
theorem cR {xs ys:List UInt8} (h:xs.length+ys.length<=140737488355328):aL xs ys=some (xs++ys):=by
 unfold aL;rw [if_pos (show xs.length+ys.length<=Cap.cap UInt8 from h)]
theorem wrap_u8' (n:Int):IntKind.u8.wrap n=n % 256:=by
 unfold IntKind.wrap;simp [IntKind.signed,IntKind.bits]
theorem aF {n:Int} (h1:-9223372036854775808<=n) (h2:n<=9223372036854775807):IntKind.i64.wrap n=n:=wrap_i64 rfl h1 h2
theorem aNc {n:Nat} (h2:n<=9223372036854775807):IntKind.i64.wrap (n:Int)=n:=wrap_i64 rfl (by omega) (by omega)
theorem lE {n:Int} (h1:0<=n) (h2:n<18446744073709551616):IntKind.u64.wrap n=n:=wrap_u64 rfl h1 (by omega)
theorem xZ (c:UInt8):u8O (c.toNat:Int)=some c:=by
 unfold u8O
 have:=c.toNat_lt
 rw [if_pos ⟨by omega,by omega⟩]
 simp [u8]
theorem lZ {n:Int} (h1:0<=n) (h2:n<256):u8O n=some (u8 n):=by unfold u8O;rw [if_pos ⟨h1,h2⟩]
theorem wE {σ ρ:Type} {f:σ×Int->Option ((σ×Int) ⊕ ρ)} (step:Nat->σ->σ) (fin:σ->ρ) (I:Nat->σ->Prop)
  (hs:∀ i s,I (i+1) s->f (s,(i:Int))=some (.inl (step i s,(i:Int)-1))/\I i (step i s)) (he:∀ s,I 0 s->f (s,-1)=some (.inr (fin s))) :
  ∀ (n:Nat) (s:σ),I n s->aH f (s,(n:Int)-1)=some (fin ((List.range n).reverse.foldl (fun s i=>step i s) s))
 | 0,s,h=>by
  rw [dN]
  have:f (s,((0:Nat):Int)-1)=some (.inr (fin s)):=he s h
  rw [this];rfl
 | n+1,s,h=>by
  obtain ⟨h1,h2⟩:=hs n s h
  rw [dN]
  have e:((n+1:Nat):Int)-1=n:=by omega
  rw [e,h1]
  show aH f (step n s,(n:Int)-1)=_
  rw [wE step fin I hs he n (step n s) h2,List.range_succ,List.reverse_append]
  rfl
theorem aH1 (n m:Nat) (h:m≠0):mA (n:Int) (m:Int)=some ((n % m:Nat):Int):=by
 unfold mA
 rw [if_neg (by omega),Int.tmod_eq_emod_of_nonneg (by omega)];rfl
theorem aOy (n m:Nat) (h:m≠0) (hn:n<=9223372036854775807):kN .i64 (n:Int) (m:Int)=some ((n / m:Nat):Int):=by
 unfold kN
 rw [if_neg (by omega),Int.tdiv_eq_ediv_of_nonneg (by omega)]
 have:((n:Int) / (m:Int))=((n / m:Nat):Int):=rfl
 rw [this,aNc (Nat.le_trans (Nat.div_le_self _ _) hn)]
theorem qJ (k:IntKind) (n c:Nat) (hc:c<=k.bits):cL k (n:Int) (c:Int)=((n / 2 ^ c:Nat):Int):=by
 unfold cL
 rw [show min (c:Int).toNat k.bits=c by omega,Int.fdiv_eq_ediv_of_nonneg _ (by exact_mod_cast Nat.zero_le (2 ^ c))]
 push_cast;rfl
theorem mW {σ ρ:Type} {f:σ->Option (σ ⊕ ρ)} (I:Nat->σ->Prop) (Q:ρ->Prop) (n:Nat)
  (hs:∀ i s,i<n->I i s->(∃ s',f s=some (.inl s')/\I (i+1) s')\/(∃ r,f s=some (.inr r)/\Q r))
  (he:∀ s,I n s->∃ r,f s=some (.inr r)/\Q r):∀ (m i:Nat) (s:σ),i+m=n->I i s->∃ r,aH f s=some r/\Q r
 | 0,i,s,h,hi=>by
  obtain rfl:i=n:=by omega
  obtain ⟨r,h1,h2⟩:=he s hi
  exact ⟨r,by rw [dN,h1];rfl,h2⟩
 | m+1,i,s,h,hi=>by
  rcases hs i s (by omega) hi with ⟨s',h1,h2⟩ | ⟨r,h1,h2⟩
  ·obtain ⟨r,h3,h4⟩:=mW I Q n hs he m (i+1) s' (by omega) h2
   exact ⟨r,by rw [dN,h1];exact h3,h4⟩
  ·exact ⟨r,by rw [dN,h1];rfl,h2⟩
theorem dR {σ ρ τ:Type} {f:σ->Option (σ ⊕ ρ)} {k:ρ->Option τ} {C:Option τ->Prop} (I:Nat->σ->Prop) (Q:ρ->Prop) (n:Nat) {s0:σ} (h0:I 0 s0)
  (hs:∀ i s,i<n->I i s->(∃ s',f s=some (.inl s')/\I (i+1) s')\/(∃ r,f s=some (.inr r)/\Q r))
  (he:∀ s,I n s->∃ r,f s=some (.inr r)/\Q r) (hk:∀ r,Q r->C (k r)):C (Option.bind (aH f s0) k):=by
 obtain ⟨r,h1,h2⟩:=mW I Q n hs he n 0 s0 (by omega) h0
 rw [h1];exact hk r h2
theorem cK {σ ρ τ:Type} {f:σ->Option (σ ⊕ ρ)} {k:ρ->Option τ} {t:τ} (I:Nat->σ->Prop) (Q:ρ->Prop) (n:Nat) {s0:σ} (h0:I 0 s0)
  (hs:∀ i s,i<n->I i s->(∃ s',f s=some (.inl s')/\I (i+1) s')\/(∃ r,f s=some (.inr r)/\Q r))
  (he:∀ s,I n s->∃ r,f s=some (.inr r)/\Q r) (hk:∀ r,Q r->k r=some t):Option.bind (aH f s0) k=some t :=
 dR (C:=fun o=>o=some t) I Q n h0 hs he hk
section
variable {α σ ρ:Type}
theorem rY (xs:List α) (g:α->Option ρ) (e:ρ) {f:Int->Option (Int ⊕ ρ)} (h1:∀ (i:Nat) (h:i<xs.length),f (i:Int)=some (match g xs[i] with | none=>.inl ((i+1:Nat):Int) | some r=>.inr r)) (h2:f (xs.length:Int)=some (.inr e)):aH f 0=some ((xs.findSome? g).getD e):=by
 have key:∀ (m i:Nat),i+m=xs.length->aH f (i:Int)=some (((xs.drop i).findSome? g).getD e):=by
  intro m
  induction m with
  | zero =>
   intro i h
   obtain rfl:i=xs.length:=by omega
   rw [dN,h2];simp
  | succ m ih =>
   intro i h
   have hi:i<xs.length:=by omega
   rw [dN,h1 i hi,List.drop_eq_getElem_cons hi]
   cases hg:g xs[i] with
   | none=>simp only [obS,List.findSome?_cons,hg];exact ih (i+1) (by omega)
   | some r=>simp only [obS,List.findSome?_cons,hg,Option.getD_some]
 have:=key xs.length 0 (by omega)
 simpa using this
theorem aFc {τ:Type} (mk:σ->Int->τ) (xs:List α) (g:σ->α->σ) (fin:σ->ρ) (s0:σ) (I:Nat->σ->Prop) {f:τ->Option (τ ⊕ ρ)} (h0:I 0 s0) (h1:∀ (i:Nat) (s:σ) (h:i<xs.length),I i s->f (mk s (i:Int))=some (.inl (mk (g s xs[i]) ((i+1:Nat):Int)))/\I (i+1) (g s xs[i])) (h2:∀ s,I xs.length s->f (mk s (xs.length:Int))=some (.inr (fin s))):aH f (mk s0 0)=some (fin (xs.foldl g s0))/\I xs.length (xs.foldl g s0):=by
 have key:∀ (m i:Nat) (s:σ),i+m=xs.length->I i s->aH f (mk s (i:Int))=some (fin ((xs.drop i).foldl g s))/\I xs.length ((xs.drop i).foldl g s):=by
  intro m
  induction m with
  | zero =>
   intro i s h hi
   obtain rfl:i=xs.length:=by omega
   rw [dN,h2 s hi];simp [hi]
  | succ m ih =>
   intro i s h hs
   have hi:i<xs.length:=by omega
   obtain ⟨h3,h4⟩:=h1 i s hi hs
   rw [dN,h3,List.drop_eq_getElem_cons hi]
   exact ih (i+1) _ (by omega) h4
 have:=key xs.length 0 s0 (by omega) h0
 simpa using this
theorem wN {β:Type} {f:σ->β->Option (σ ⊕ ρ)} (g:σ->β->σ):∀ (l:List β) (s:σ),(∀ x∈l,∀ s,f s x=some (.inl (g s x)))->bW f s l=some (.inl (l.foldl g s))
 | [],_,_=>rfl
 | x::l,s,h=>by
  show (f s x).bind _=_
  rw [h x List.mem_cons_self]
  exact wN g l _ fun y hy=>h y (List.mem_cons_of_mem _ hy)
theorem xI {β:Type} {f:σ->β->Option (σ ⊕ ρ)} (g:σ->β->σ) (I:List β->σ->Prop) (l0:List β):∀ (l pre:List β) (s:σ),pre++l=l0->I pre s->(∀ pre x post s,pre++x::post=l0->I pre s->f s x=some (.inl (g s x))/\I (pre++[x]) (g s x))->bW f s l=some (.inl (l.foldl g s))/\I l0 (l.foldl g s)
 | [],pre,s,he,hi,_=>⟨rfl,by simpa [<- he] using hi⟩
 | x::l,pre,s,he,hi,h=>by
  obtain ⟨h1,h2⟩:=h pre x l s he hi
  have h3:=xI g I l0 l (pre++[x]) (g s x) (by simpa using he) h2 h
  refine ⟨?_,h3.2⟩
  show (f s x).bind _=_
  rw [h1];exact h3.1
end
def nmC (c:UInt8):Bool:=decide (33<=c.toNat)&&decide (c.toNat<=126)&&decide (c.toNat≠47)
def bB (x:List UInt8):Bool:=x.all nmC&&decide (x≠[])&&decide (x.length<=8)
def NP (xs:List (List UInt8)):Prop:=∀ x∈xs,bB x=true
def pth (xs:List (List UInt8)):List UInt8:=47::jn xs
theorem aPo {x:List UInt8} (h:bB x=true):∀ c∈x,c≠47:=by
 intro c hc e
 simp only [bB,Bool.and_eq_true,List.all_eq_true] at h
 have:=h.1.1 c hc
 simp only [nmC,Bool.and_eq_true,decide_eq_true_eq] at this
 exact this.2 (by rw [e];rfl)
theorem aLw {x:List UInt8} (h:bB x=true):∀ c∈x,c≠0:=by
 intro c hc e
 simp only [bB,Bool.and_eq_true,List.all_eq_true] at h
 have:=h.1.1 c hc
 simp only [nmC,Bool.and_eq_true,decide_eq_true_eq] at this
 have h0:=this.1.1
 rw [e] at h0
 exact absurd h0 (by decide)
theorem aBy {x:List UInt8} (h:bB x=true):x≠[]:=by
 simp only [bB,Bool.and_eq_true,decide_eq_true_eq] at h
 exact h.1.2
theorem qQ:jn []=[]:=rfl
theorem mI (x:List UInt8):jn [x]=x:=by simp [jn,Lib.join,List.intercalate,List.intersperse]
theorem jX (x y:List UInt8) (r:List (List UInt8)):jn (x::y::r)=x++47::jn (y::r):=by simp [jn,Lib.join,List.intercalate,List.intersperse]
theorem oL:∀ (a b:List (List UInt8)),a≠[]->b≠[]->jn (a++b)=jn a++47::jn b
 | [],_,h,_=>(h rfl).elim
 | [x],y::r,_,_=>by rw [mI];exact jX x y r
 | [_],[],_,h=>(h rfl).elim
 | x::y::a,b,_,h=>by
  have:=oL (y::a) b (by simp) h
  rw [List.cons_append,List.cons_append,jX,jX,<- List.cons_append,this];simp
theorem aEv (r:List UInt8):sp r≠[]:=by
 cases r with
 | nil=>simp [sp]
 | cons c r =>
  simp only [sp]
  split
  ·simp
  ·split<;>simp
theorem xR:∀ r:List UInt8,jn (sp r)=r
 | []=>rfl
 | c::r=>by
  have ih:=xR r
  obtain ⟨h,t,e⟩:∃ h t,sp r=h::t:=by
   cases hs:sp r with
   | nil=>exact (aEv r hs).elim
   | cons h t=>exact ⟨h,t,rfl⟩
  simp only [sp]
  rw [e] at ih ⊢
  split
  ·rename_i hc
   rw [jX,ih,hc];rfl
  ·cases t with
   | nil=>rw [mI] at ih ⊢;rw [ih]
   | cons y t=>rw [jX] at ih ⊢;rw [<- ih];rfl
theorem wU:∀ {x:List UInt8},(∀ c∈x,c≠47)->sp x=[x]
 | [],_=>rfl
 | c::x,h=>by
  have:=wU (x:=x) fun c hc=>h c (List.mem_cons_of_mem _ hc)
  simp [sp,this,h c List.mem_cons_self]
theorem xX:∀ {x:List UInt8} (r:List UInt8),(∀ c∈x,c≠47)->sp (x++47::r)=x::sp r
 | [],r,_=>by simp [sp]
 | c::x,r,h=>by
  have:=xX (x:=x) r fun c hc=>h c (List.mem_cons_of_mem _ hc)
  simp [sp,this,h c List.mem_cons_self]
theorem mY:∀ {xs:List (List UInt8)},xs≠[]->(∀ x∈xs,∀ c∈x,c≠47)->sp (jn xs)=xs
 | [],h,_=>(h rfl).elim
 | [x],_,h=>by rw [mI];exact wU (h x List.mem_cons_self)
 | x::y::r,_,h=>by
  rw [jX,xX _ (h x List.mem_cons_self),mY (by simp) fun z hz=>h z (List.mem_cons_of_mem _ hz)]
theorem aDn (r:List UInt8):(sp r).length<=r.length+1:=by
 induction r with
 | nil=>simp [sp]
 | cons c r ih =>
  simp only [sp]
  split
  ·simp;omega
  ·split
   ·rename_i e;rw [e] at ih;simp at ih ⊢;omega
   ·simp
def okP (p:List UInt8):Bool:=decide (p=[47]) || ((p.head?==some 47)&&decide (p.length<=24)&&(sp p.tail).all bB)
def nmP (p:List UInt8):List (List UInt8):=if p=[47] then [] else if okP p=true then sp p.tail else []
theorem NP.sl {xs:List (List UInt8)} (h:NP xs):∀ x∈xs,∀ c∈x,c≠47:=fun x hx=>aPo (h x hx)
theorem jn_ne {xs:List (List UInt8)} (h:NP xs) (hn:xs≠[]):jn xs≠[]:=by
 intro e
 have:=mY hn h.sl
 rw [e] at this
 have h1:([]:List UInt8)∈xs:=by rw [<- this];simp [sp]
 exact aBy (h _ h1) rfl
theorem zA {xs:List (List UInt8)} (h:NP xs) (hl:(pth xs).length<=24):okP (pth xs)=true:=by
 unfold okP
 by_cases hn:xs=[]
 ·subst hn;rfl
 ·have h1:(pth xs).head?=some 47:=rfl
  have h2:(pth xs).tail=jn xs:=rfl
  rw [h1,h2,mY hn h.sl]
  simp only [Bool.or_eq_true,Bool.and_eq_true,decide_eq_true_eq,List.all_eq_true]
  exact .inr ⟨⟨rfl,hl⟩,h⟩
theorem sJ {xs:List (List UInt8)} (h:NP xs) (hl:(pth xs).length<=24):nmP (pth xs)=xs:=by
 unfold nmP
 by_cases hn:xs=[]
 ·subst hn;rfl
 ·have h2:(pth xs).tail=jn xs:=rfl
  rw [if_neg (fun e=>jn_ne h hn (by simpa [pth] using e)),if_pos (zA h hl),h2,mY hn h.sl]
theorem bJ {p:List UInt8} (h:okP p=true):NP (nmP p)/\p=pth (nmP p)/\p.length<=24:=by
 have h':=h
 unfold okP at h
 simp only [Bool.or_eq_true,Bool.and_eq_true,decide_eq_true_eq,List.all_eq_true] at h
 by_cases hp:p=[47]
 ·subst hp;exact ⟨fun x hx=>by simp [nmP] at hx,rfl,by decide⟩
 ·obtain ⟨⟨h1,h2⟩,h3⟩:=h.resolve_left hp
  unfold nmP
  rw [if_neg hp,if_pos h']
  refine ⟨h3,?_,h2⟩
  unfold pth
  rw [xR]
  cases p with
  | nil=>simp at h1
  | cons c p=>simp at h1;subst h1;rfl
theorem lR {p:List UInt8} (h:okP p=false):nmP p=[]:=by
 unfold nmP
 split
 ·rfl
 ·rw [if_neg (by rw [h];decide)]
theorem uI:nmP [47]=[]:=rfl
theorem fN {p:List UInt8} (h:okP p=true) (hr:p≠[47]):nmP p≠[]:=fun e=>hr (by rw [(bJ h).2.1,e];rfl)
theorem lC (p:List UInt8):(nmP p).length<=p.length+1:=by
 unfold nmP
 split
 ·simp
 ·split
  ·have:=aDn p.tail;simp at this;omega
  ·simp
theorem jS {xs:List (List UInt8)} (i:Nat):(jn (xs.take i)).length<=(jn xs).length:=by
 by_cases h1:xs.take i=[]
 ·rw [h1];simp [qQ]
 ·by_cases h2:xs.drop i=[]
  ·rw [List.take_of_length_le (List.drop_eq_nil_iff.1 h2)];exact Nat.le_refl _
  ·have:=oL _ _ h1 h2
   rw [List.take_append_drop] at this
   rw [this];simp
theorem aA8 (p:List UInt8):(jn (nmP p)).length<=p.length:=by
 by_cases h:okP p=true
 ·have:=(bJ h).2.1
  have h2:=congrArg List.length this
  simp only [pth,List.length_cons] at h2
  omega
 ·rw [lR (by simpa using h)];simp [qQ]
end Go.Tri
namespace Go.Proofs.YtkcgdaihfblncaaGreatDoor
open Go.RowKit Go.Tri
theorem tL (x:List UInt8) (h:x.length<=1500000000):jL x=some (bB x):=by
 unfold jL
 rw [rY x (fun c=>if nmC c=true then none else some (.inr false)) (.inl ()) (fun i hi=>?_) ?_]
 ·simp only [obS]
  by_cases ha:x.all nmC=true
  ·have:x.findSome? (fun c=>if nmC c=true then none else some (Sum.inr false:Unit ⊕ Bool))=none:=by
    rw [List.findSome?_eq_none_iff]
    intro c hc
    rw [if_pos (List.all_eq_true.1 ha c hc)]
   rw [this]
   show (if x=[] then some false else some (decide ((x.length:Int)<=8)))=_
   unfold bB
   rw [ha]
   by_cases hx:x=[]
   ·simp [hx]
   ·rw [if_neg hx];simp [hx];omega
  ·have:x.findSome? (fun c=>if nmC c=true then none else some (Sum.inr false:Unit ⊕ Bool))=some (.inr false):=by
    have ha':¬ ∀ c∈x,nmC c=true:=fun h=>ha (List.all_eq_true.2 h)
    clear ha h
    induction x with
    | nil=>exact (ha' (by simp)).elim
    | cons c x ih =>
     rw [List.findSome?_cons]
     by_cases hc:nmC c=true
     ·rw [if_pos hc]
      exact ih fun h=>ha' fun d hd=>by
       rcases List.mem_cons.1 hd with rfl | hd
       ·exact hc
       ·exact h d hd
     ·rw [if_neg hc]
   rw [this]
   show some false=_
   unfold bB
   rw [show x.all nmC=false by simpa using ha];rfl
 ·rw [if_neg (by omega)]
 ·rw [if_pos (by omega),aX hi]
  simp only [obS]
  unfold nmC
  by_cases h1:(x[i].toNat:Int)<33
  ·rw [if_pos h1,if_neg (by simp;omega)]
  ·rw [if_neg h1]
   by_cases h2:126<(x[i].toNat:Int)
   ·rw [if_pos h2,if_neg (by simp;omega)]
   ·rw [if_neg h2]
    by_cases h3:(x[i].toNat:Int)=47
    ·rw [if_pos h3,if_neg (by simp;omega)]
    ·rw [if_neg h3,if_pos (by simp;omega),aF (by omega) (by omega)]
     rfl
theorem aPe (xs:List (List UInt8)) (hx:xs.length<=2000000001) (h:∀ x∈xs,x.length<=1500000000):qA xs=some (!xs.all bB):=by
 unfold qA tB
 have key:∀ (i:Nat) (hi:i<xs.length),oA xs[i]=some (!bB xs[i]):=fun i hi=>by
  unfold oA
  rw [tL _ (h _ (List.getElem_mem _))];rfl
 refine (congrArg (fun o=>Option.bind o _) (cK (t:=if xs.all bB=true then (-1:Int) else ((xs.findIdx fun x=>!bB x:Nat):Int)) (fun k (s:Int)=>s=(k:Int)/\∀ j (hj:j<xs.length),j<k->bB xs[j]=true) (fun r=>(r=.inl ()/\xs.all bB=true)\/(∃ k:Nat,r=.inr (k:Int)/\∃ hk:k<xs.length,bB xs[k]=false/\∀ j (hj:j<xs.length),j<k->bB xs[j]=true)) xs.length ⟨rfl,fun j hj hk=>by omega⟩ ?_ ?_ ?_)).trans ?_
 ·rintro i _ hi ⟨rfl,hne⟩
  simp only [key i hi,aX hi,obS]
  rw [if_pos (by omega)]
  by_cases hb:bB xs[i]=true
  ·rw [if_neg (by rw [hb];decide),aF (by omega) (by omega)]
   exact .inl ⟨_,rfl,rfl,fun j hj hk=>by
    by_cases e:j=i
    ·subst e;exact hb
    ·exact hne j hj (by omega)⟩
  ·have hb:bB xs[i]=false:=by simpa using hb
   rw [if_pos (by rw [hb];rfl)]
   exact .inr ⟨_,rfl,.inr ⟨i,rfl,hi,hb,hne⟩⟩
 ·rintro _ ⟨rfl,hne⟩
  refine ⟨.inl (),by rw [if_neg (by omega)],.inl ⟨rfl,List.all_eq_true.2 fun x hx=>?_⟩⟩
  obtain ⟨j,hj,rfl⟩:=List.getElem_of_mem hx
  exact hne j hj hj
 ·rintro _ (⟨rfl,h1⟩ | ⟨k,rfl,hk,hb,hne⟩)
  ·rw [if_pos h1];rfl
  ·have hall:¬ xs.all bB=true:=fun hh=>by
    have:=List.all_eq_true.1 hh _ (List.getElem_mem hk)
    rw [hb] at this;cases this
   have hf:xs.findIdx (fun x=>!bB x)=k:=by
    rw [List.findIdx_eq hk]
    exact ⟨by simp [hb],fun j hj=>by simp [hne j (by omega) hj]⟩
   rw [if_neg hall,hf];rfl
 ·simp only [obS]
  by_cases ha:xs.all bB=true
  ·rw [if_pos ha,ha];rfl
  ·rw [if_neg ha,show xs.all bB=false by simpa using ha]
   simp
theorem aO9 (r:List UInt8):∀ x∈sp r,x.length<=r.length:=by
 induction r with
 | nil=>intro x hx;simp [sp] at hx;simp [hx]
 | cons c r ih =>
  intro x hx
  simp only [sp] at hx
  split at hx
  ·rcases List.mem_cons.1 hx with rfl | hx
   ·simp
   ·have:=ih x hx;simp;omega
  ·split at hx
   ·rename_i h t e
    rw [e] at ih
    rcases List.mem_cons.1 hx with rfl | hx
    ·have:=ih h List.mem_cons_self;simp;omega
    ·have:=ih x (List.mem_cons_of_mem _ hx);simp;omega
   ·simp at hx;simp [hx]
theorem lN (p:List UInt8) (h:p.length<=1500000000):fT p=some (nmP p,okP p):=by
 unfold fT
 by_cases hr:p=[47]
 ·rw [if_pos hr,hr];rfl
 rw [if_neg hr]
 have hcut:pF p [47]=some (if p.head?=some 47 then p.tail else p,decide (p.head?=some 47)):=by
  unfold pF Lib.trimPrefix Lib.hasPrefix
  cases p with
  | nil=>rfl
  | cons c p =>
   by_cases hc:c=47
   ·subst hc;simp [List.isPrefixOf]
   ·have:([47]:List UInt8).isPrefixOf (c::p)=false:=by simp [List.isPrefixOf,Ne.symm hc]
    rw [this];simp [hc]
 rw [hcut]
 simp only [obS]
 generalize hq:(if p.head?=some 47 then p.tail else p)=q
 have hql:q.length<=p.length:=by
  rw [<- hq];split
  ·simp
  ·exact Nat.le_refl _
 have hsplit:pY q [47]=some (sp q):=by
  unfold pY genSplit rR
  rw [if_pos ⟨rfl,rfl,rfl,by omega⟩];rfl
 rw [hsplit]
 simp only [obS]
 by_cases h1:p.head?=some 47
 ·rw [if_pos h1] at hq
  subst hq
  rw [if_neg (by simp [h1])]
  by_cases h2:24<(p.length:Int)
  ·rw [if_pos h2]
   have hk:okP p=false:=by
    unfold okP
    rw [decide_eq_false hr,decide_eq_false (show ¬ p.length<=24 by omega)];simp
   rw [lR hk,hk]
  ·rw [if_neg h2,aPe _ (by have:=aDn p.tail;omega) fun x hx=>by have:=aO9 _ x hx;omega]
   simp only [obS]
   have hk:okP p=(sp p.tail).all bB:=by
    unfold okP
    rw [decide_eq_false hr,decide_eq_true (show p.length<=24 by omega),h1];simp
   by_cases h3:(sp p.tail).all bB=true
   ·rw [h3] at hk
    rw [if_neg (by rw [h3];decide)]
    unfold nmP
    rw [if_neg hr,if_pos hk,hk]
   ·have h3':(sp p.tail).all bB=false:=by simpa using h3
    rw [h3'] at hk
    rw [if_pos (by rw [h3'];rfl),lR hk,hk]
 ·have hk:okP p=false:=by
   unfold okP
   rw [decide_eq_false hr]
   simp [h1]
  rw [if_pos (by simp [h1]),lR hk,hk]
theorem oB (p:List UInt8) (h:p.length<=1500000000):gL p=some (if okP p=true then 0 else 90):=by
 unfold gL
 rw [lN p h]
 simp only [obS]
 cases okP p<;>rfl
theorem aDj (xs:List (List UInt8)) (h1:xs.length<=2000000000) (h2:(jn xs).length<=2000000000):kL xs=some (pth xs):=by
 unfold kL tA rO
 rw [if_pos ⟨rfl,h1,h2⟩]
 simp only [obS]
 rw [cR (by simp;omega)];rfl
def par (p:List UInt8):List UInt8:=if nmP p=[] then [] else pth (nmP p).dropLast
def bas (p:List UInt8):List UInt8:=(nmP p).getLast?.getD []
theorem wY (p:List UInt8) (h:p.length<=1500000000):jT p=some (par p):=by
 unfold jT par
 rw [lN p (by omega)]
 simp only [obS]
 have hl:=lC p
 have hj:=aA8 p
 by_cases h0:nmP p=[]
 ·rw [if_pos (by rw [h0];rfl),if_pos h0]
 ·have hp:0<(nmP p).length:=List.length_pos_iff.2 h0
  rw [if_neg (by omega),if_neg h0,aF (by omega) (by omega)]
  rw [show ((nmP p).length:Int)-1=(((nmP p).length-1:Nat):Int) by omega,show (0:Int)=((0:Nat):Int) from rfl,cD (Nat.zero_le _) (by omega)]
  simp only [obS,List.drop_zero]
  have ht:(nmP p).take ((nmP p).length-1)=(nmP p).dropLast:=by rw [List.dropLast_eq_take]
  have:=jS (xs:=nmP p) ((nmP p).length-1)
  rw [ht] at this ⊢
  rw [aDj _ (by simp;omega) (by omega)];rfl
theorem aNf (p:List UInt8) (h:p.length<=1500000000):oX p=some (bas p):=by
 unfold oX bas
 rw [lN p (by omega)]
 simp only [obS]
 have hl:=lC p
 by_cases h0:nmP p=[]
 ·rw [if_pos (by rw [h0];rfl),h0];rfl
 ·have hp:0<(nmP p).length:=List.length_pos_iff.2 h0
  rw [if_neg (by omega),aF (by omega) (by omega),show ((nmP p).length:Int)-1=(((nmP p).length-1:Nat):Int) by omega,aX (by omega)]
  simp only [obS]
  rw [List.getLast?_eq_getElem?,List.getElem?_eq_getElem (by omega)];rfl
theorem aGa (x y:List (List UInt8)) (hx:x.length<=2000000001):kX x y=some (decide (x=y)):=by
 unfold kX
 by_cases hl:(x.length:Int)=(y.length:Int)
 ·rw [if_pos hl]
  refine cK (fun k (s:Int)=>s=(k:Int)/\∀ j,j<k->x.getD j []=y.getD j []) (fun r=>(r=.inl ()/\x=y)\/(r=.inr false/\x≠y)) x.length ⟨rfl,fun j hj=>by omega⟩ ?_ ?_ ?_
  ·rintro k _ hk ⟨rfl,hne⟩
   rw [if_pos (by omega),iT [] rfl hk,iT [] rfl (show k<y.length by omega)]
   simp only [obS]
   by_cases e:x.getD k []=y.getD k []
   ·rw [if_pos e,aF (by omega) (by omega)]
    exact .inl ⟨_,rfl,rfl,fun j hj=>by
     by_cases ej:j=k
     ·subst ej;exact e
     ·exact hne j (by omega)⟩
   ·rw [if_neg e]
    exact .inr ⟨_,rfl,.inr ⟨rfl,fun h=>e (by rw [h])⟩⟩
  ·rintro _ ⟨rfl,hne⟩
   refine ⟨.inl (),?_,.inl ⟨rfl,List.ext_getElem (by omega) fun j h1 h2=>?_⟩⟩
   ·rw [if_neg (by omega)]
   ·have:=hne j h1
    simpa [List.getD_eq_getElem?_getD,List.getElem?_eq_getElem h1,List.getElem?_eq_getElem h2] using this
  ·rintro _ (⟨rfl,h1⟩ | ⟨rfl,h1⟩)
   ·simp [h1]
   ·simp [h1]
 ·rw [if_neg hl,decide_eq_false fun h=>hl (by rw [h])]
def aK (p q:List UInt8):Bool:=okP p&&okP q&&decide (nmP p <+: nmP q)
theorem aBb (p q:List UInt8) (hp:p.length<=1500000000) (hq:q.length<=1500000000):lT p q=some (aK p q):=by
 unfold lT aK
 rw [lN p (by omega),lN q (by omega)]
 simp only [obS]
 have hl:=lC p
 cases okP p with
 | false=>rfl
 | true =>
  cases okP q with
  | false=>rfl
  | true =>
   rw [if_pos rfl,if_pos rfl]
   by_cases hle:((nmP p).length:Int)<=((nmP q).length:Int)
   ·rw [if_pos hle,show (0:Int)=((0:Nat):Int) from rfl,cD (Nat.zero_le _) (by omega)]
    simp only [obS,List.drop_zero]
    rw [aGa _ _ (by omega)]
    simp only [obS,Bool.true_and]
    congr 1
    rw [decide_eq_decide]
    constructor
    ·intro h;rw [h];exact List.take_prefix _ _
    ·intro h;exact List.prefix_iff_eq_take.1 h
   ·rw [if_neg hle]
    congr 1
    symm
    simp only [Bool.true_and,decide_eq_false_iff_not]
    intro h
    have:=h.length_le
    omega
theorem aKe (p:List UInt8) (h:p.length<=1500000000):pD p=some ((List.range (nmP p).length).map fun i=>pth ((nmP p).take i)):=by
  unfold pD
  rw [lN p (by omega)]
  simp only [obS]
  have hl:=lC p
  have hj:=aA8 p
  have key:=aJ1 (σ:=List (List UInt8)) (ρ:=List (List UInt8)) (f:=(fun (s47:(List (List UInt8))×Int)=>if s47.2<(((nmP p,okP p).1).length:Int) then ((aY (nmP p,okP p).1 0 s47.2).bind fun x51 =>
(kL x51).bind fun x52 =>
(aL s47.1 ([x52])).bind fun x55 =>
some (.inl (x55,IntKind.i64.wrap (s47.2+1))))
 else (some (.inr s47.1)))) (fun i s=>s++[pth ((nmP p).take i)]) id (nmP p).length (fun i s=>s=(List.range i).map fun j=>pth ((nmP p).take j)) (fun i s hi hs=>?_) (fun s hs=>?_) (s0:=[]) rfl
  · rw [key.1]
    simp only [obS,id]
    rw [key.2]
  · have ht:=jS (xs:=nmP p) i
    refine ⟨?_,by rw [hs,List.range_succ,List.map_append];rfl⟩
    show (if (i:Int)<((nmP p).length:Int) then _ else _)=_
    rw [if_pos (by omega),show (0:Int)=((0:Nat):Int) from rfl,cD (Nat.zero_le _) (by show i<=(nmP p).length;omega)]
    simp only [obS,List.drop_zero]
    rw [aDj _ (by simp;omega) (by omega)]
    simp only [obS]
    rw [bI (by rw [hs];simp;omega)]
    simp only [obS]
    rw [aF (by omega) (by omega)];rfl
  · show (if ((nmP p).length:Int)<((nmP p).length:Int) then _ else _)=_
    rw [if_neg (by omega)];rfl
abbrev FS:=List UInt8->Option (Bool×List UInt8)
abbrev CS:=List UInt8->Option (List UInt8)
def tw (r:List UInt8):List UInt8:=r.takeWhile (·≠0)
theorem aK1 (r:List UInt8) (h:r.length<=1000000):∃ b c,nS r [0]=some (tw r,b,c):=by
 have key:∀ r:List UInt8,(Lib.indexByte r 0=-1/\tw r=r)\/∃ i:Nat,Lib.indexByte r 0=i/\i<r.length/\tw r=r.take i:=by
  intro r
  induction r with
  | nil=>exact .inl ⟨rfl,rfl⟩
  | cons c r ih =>
   by_cases hc:c=0
   ·subst hc
    exact .inr ⟨0,by simp [Lib.indexByte],by simp,by simp [tw]⟩
   ·have h1:tw (c::r)=c::tw r:=by simp [tw,hc]
    rcases ih with ⟨h2,h3⟩ | ⟨i,h2,h3,h4⟩
    ·exact .inl ⟨by simp [Lib.indexByte,hc,h2],by rw [h1,h3]⟩
    ·refine .inr ⟨i+1,?_,by simp;omega,by rw [h1,h4];rfl⟩
     simp only [Lib.indexByte,h2]
     rw [if_neg (by simpa using hc),if_neg (by simp)]
     omega
 unfold nS qM sP rN
 simp only [obS]
 rcases key r with ⟨h1,h2⟩ | ⟨i,h1,h2,h3⟩
 ·rw [h1,if_neg (by omega)]
  exact ⟨_,_,by rw [h2];rfl⟩
 ·rw [h1,if_pos (by omega),show (0:Int)=((0:Nat):Int) from rfl,cD (Nat.zero_le _) (by omega)]
  simp only [obS,List.drop_zero,List.length_cons,List.length_nil]
  rw [aF (by omega) (by omega),show ((i:Int)+((0+1:Nat):Int))=((i+1:Nat):Int) by omega,cD (by omega) (Nat.le_refl _)]
  exact ⟨_,_,by rw [h3];rfl⟩
def r1 (s:CS×FS) (x:P2):CS×FS:=match x.1 with
 | []=>s
 | a::r=>if a=99 then (aI (tw r) ((s.1 (tw r)).getD []++x.2) s.1,s.2) else if a=110 then (s.1,aI r (decide (x.2=[100]),[]) s.2) else s
def gE (s:CS×FS):FS:=fun p=>match s.2 p with
 | some (false,_)=>some (false,(s.1 p).getD [])
 | x=>x
def rdF (L:List P2):FS:=gE (L.foldl r1 (bG,bG))
theorem vZ (s:CS×FS) (x:P2) (n m:Nat) (h:∀ p,((s.1 p).getD []).length<=n) (hx:x.2.length<=m):∀ p,(((r1 s x).1 p).getD []).length<=n+m:=by
 intro p
 unfold r1
 split
 ·have:=h p;omega
 ·split
  ·simp only [aI]
   split
   ·have:=h (tw ‹List UInt8›);simp;omega
   ·have:=h p;omega
  ·split
   ·exact Nat.le_trans (h p) (Nat.le_add_right _ _)
   ·exact Nat.le_trans (h p) (Nat.le_add_right _ _)
def Crd {β:Type} (m:List UInt8->Option β) (n:Nat):Prop:=∃ l,Enum m l/\l.length<=n
theorem Crd.nil {β:Type}:Crd (bG:List UInt8->Option β) 0:=⟨[],⟨List.nodup_nil,fun _=>rfl⟩,Nat.le_refl _⟩
theorem Crd.mono {β:Type} {m:List UInt8->Option β} {n k:Nat} (h:Crd m n) (hn:n<=k):Crd m k:=by
 obtain ⟨l,h1,h2⟩:=h;exact ⟨l,h1,by omega⟩
theorem bC {β:Type} {m:List UInt8->Option β} {l:List (List UInt8×β)} (h:Enum m l) {k:List UInt8} {v:β}:(k,v)∈l↔m k=some v:=by
 rw [h.2 k];exact ⟨fun hm=>cO h.1 hm,dT⟩
theorem vL {β:Type} {m:List UInt8->Option β} {l:List (List UInt8×β)} (h:Enum m l) (k:List UInt8):Enum (bZ k m) (l.filter fun x=>x.1≠k):=by
 have hn:((l.filter fun x=>x.1≠k).map (·.1)).Nodup:=List.Nodup.sublist (List.Sublist.map _ List.filter_sublist) h.1
 refine ⟨hn,fun j=>?_⟩
 unfold bZ
 by_cases e:j=k
 ·rw [if_pos e]
  symm
  refine gN fun hm=>?_
  obtain ⟨x,hx,hj⟩:=List.mem_map.1 hm
  have:=(List.mem_filter.1 hx).2
  simp only [decide_eq_true_eq] at this
  exact this (by rw [hj,e])
 ·rw [if_neg e]
  cases hv:m j with
  | some v=>exact (cO hn (List.mem_filter.2 ⟨(bC h).2 hv,by simpa using e⟩)).symm
  | none =>
   symm
   refine gN fun hm=>?_
   obtain ⟨x,hx,hj⟩:=List.mem_map.1 hm
   obtain ⟨a,b⟩:=x
   have:=(bC h).1 (List.mem_filter.1 hx).1
   simp only at hj
   rw [hj,hv] at this;cases this
theorem sO {β:Type} {m:List UInt8->Option β} {l:List (List UInt8×β)} (h:Enum m l) (k:List UInt8) (v:β):Enum (aI k v m) ((k,v)::l.filter fun x=>x.1≠k):=by
 have hd:=vL h k
 refine ⟨?_,fun j=>?_⟩
 ·simp only [List.map_cons,List.nodup_cons]
  refine ⟨fun hm=>?_,hd.1⟩
  obtain ⟨x,hx,hj⟩:=List.mem_map.1 hm
  have:=(List.mem_filter.1 hx).2
  simp only [decide_eq_true_eq] at this
  exact this hj
 ·simp only [aZ]
  unfold aI
  by_cases e:j=k
  ·rw [if_pos e,if_pos e.symm]
  ·rw [if_neg e,if_neg (Ne.symm e),<- hd.2 j]
   unfold bZ;rw [if_neg e]
theorem Crd.set {β:Type} {m:List UInt8->Option β} {n:Nat} (h:Crd m n) (k:List UInt8) (v:β):Crd (aI k v m) (n+1):=by
 obtain ⟨l,h1,h2⟩:=h
 refine ⟨_,sO h1 k v,?_⟩
 have:=List.length_filter_le (fun x:List UInt8×β=>decide (x.1≠k)) l
 simp only [List.length_cons]
 omega
theorem Crd.del {β:Type} {m:List UInt8->Option β} {n:Nat} (h:Crd m n) (k:List UInt8):Crd (bZ k m) n:=by
 obtain ⟨l,h1,h2⟩:=h
 refine ⟨_,vL h1 k,?_⟩
 have:=List.length_filter_le (fun x:List UInt8×β=>decide (x.1≠k)) l
 omega
theorem zB (s:CS×FS) (x:P2) (n:Nat) (h:Crd s.2 n):Crd (r1 s x).2 (n+1):=by
 unfold r1
 split
 ·exact h.mono (by omega)
 ·split
  ·exact h.mono (by omega)
  ·split
   ·exact h.set _ _
   ·exact h.mono (by omega)
open Classical in
theorem aJ5 (c:CS) (t:FS):∀ (l:List (List UInt8×(Bool×List UInt8))),(∀ k v,(k,v)∈l->t k=some v)->∀ p,(l.foldl (fun (s:FS) x=>if x.2.1=false then aI x.1 (false,(c x.1).getD []) s else s) t) p=if (∃ d,(p,false,d)∈l) then some (false,(c p).getD []) else t p:=by
 have key:∀ (l:List (List UInt8×(Bool×List UInt8))) (u:FS) p,(l.foldl (fun (s:FS) x=>if x.2.1=false then aI x.1 (false,(c x.1).getD []) s else s) u) p=if (∃ d,(p,false,d)∈l) then some (false,(c p).getD []) else u p:=by
  intro l
  induction l with
  | nil=>intro u p;rw [if_neg (by simp)];rfl
  | cons x l ih =>
   intro u p
   obtain ⟨k,b,d⟩:=x
   rw [List.foldl_cons,ih]
   by_cases h1:∃ d,(p,false,d)∈l
   ·rw [if_pos h1,if_pos (by obtain ⟨d,h⟩:=h1;exact ⟨d,List.mem_cons_of_mem _ h⟩)]
   ·rw [if_neg h1]
    by_cases hb:b=false
    ·subst hb
     simp only [if_true]
     by_cases e:p=k
     ·subst e
      rw [if_pos ⟨d,List.mem_cons_self⟩]
      simp [aI]
     ·rw [if_neg]
      ·simp [aI,e]
      ·rintro ⟨d',h⟩
       rcases List.mem_cons.1 h with h | h
       ·cases h;exact e rfl
       ·exact h1 ⟨d',h⟩
    ·rw [if_neg (by simpa using hb),if_neg]
     rintro ⟨d',h⟩
     rcases List.mem_cons.1 h with h | h
     ·cases h;exact hb rfl
     ·exact h1 ⟨d',h⟩
 intro l _ p
 exact key l t p
theorem yM (L:List P2) (hn:L.length<=1000000) (hb:∀ x∈L,x.1.length<=100000/\x.2.length<=100000):lS L=some (rdF L):=by
 unfold lS
 rw [(aFc (fun (s:CS×FS) (i:Int)=>(s.1,s.2,i)) L r1 id (bG,bG) (fun i s=>(∀ p,((s.1 p).getD []).length<=i*100000)/\Crd s.2 i) ⟨fun p=>by simp [bG],Crd.nil⟩ (fun i s hi hI=>⟨?_,fun p=>by have:=vZ s L[i] (i*100000) 100000 hI.1 (hb _ (List.getElem_mem hi)).2 p;omega,zB s _ i hI.2⟩) (fun s _=>?_)).1]
 ·have hI:=(aFc (f:=fun (t:CS×FS×Int)=>if t.2.2<(L.length:Int) then (aD L t.2.2).bind fun x=>some (.inl ((r1 (t.1,t.2.1) x).1,(r1 (t.1,t.2.1) x).2,t.2.2+1)) else some (.inr (t.1,t.2.1))) (fun (s:CS×FS) (i:Int)=>(s.1,s.2,i)) L r1 id (bG,bG) (fun i s=>(∀ p,((s.1 p).getD []).length<=i*100000)/\Crd s.2 i) ⟨fun p=>by simp [bG],Crd.nil⟩ (fun i s hi hI=>⟨by
    show (if (i:Int)<_ then _ else _)=_
    rw [if_pos (by omega),show aD L ((s.1,s.2,(i:Int)):CS×FS×Int).2.2=some L[i] from aX hi];rfl,fun p=>by have:=vZ s L[i] (i*100000) 100000 hI.1 (hb _ (List.getElem_mem hi)).2 p;omega,zB s _ i hI.2⟩) (fun s _=>by
    show (if (L.length:Int)<_ then _ else _)=_
    rw [if_neg (by omega)];rfl)).2
  simp only [obS,id]
  generalize hS:L.foldl r1 (bG,bG)=S at hI ⊢
  obtain ⟨l,hE,hl⟩:=hI.2
  refine mP hE fun l' hE'=>?_
  rw [wN (fun (s:FS) x=>if x.2.1=false then aI x.1 (false,(S.1 x.1).getD []) s else s) l' S.2 (fun x _ s=>by
   obtain ⟨k,b,d⟩:=x
   cases b<;>rfl)]
  simp only [obS,Sum.elim_inl]
  congr 1
  funext p
  rw [aJ5 S.1 S.2 l' (fun k v h=>(bC hE').1 h) p]
  unfold rdF gE
  rw [hS]
  by_cases h:∃ d,(p,false,d)∈l'
  ·rw [if_pos h]
   obtain ⟨d,h⟩:=h
   rw [(bC hE').1 h]
  ·rw [if_neg h]
   cases hp:S.2 p with
   | none=>rfl
   | some v =>
    obtain ⟨b,d⟩:=v
    cases b with
    | false=>exact (h ⟨d,(bC hE').2 hp⟩).elim
    | true=>rfl
 ·have hbi:=hb _ (List.getElem_mem hi)
  show (if (i:Int)<(L.length:Int) then _ else _)=_
  rw [if_pos (by omega),show aD L ((i:Nat):Int)=some L[i] from aX hi]
  generalize hx:L[i]=x at hbi ⊢
  obtain ⟨k,v⟩:=x
  simp only [obS]
  rw [aF (by omega) (by omega)]
  cases k with
  | nil =>
   rw [if_neg (by simp)]
   simp only [obS]
   rw [if_neg (by simp),if_neg (by simp)]
   rfl
  | cons a r =>
   have hs1:aY (a::r) 0 1=some [a]:=by
    have:=cD (xs:=a::r) (i:=0) (j:=1) (by omega) (by simp)
    simpa using this
   have hs2:aY (a::r) 1 ((a::r).length:Int)=some r:=by
    have:=cD (xs:=a::r) (i:=1) (j:=(a::r).length) (by simp) (Nat.le_refl _)
    simpa using this
   rw [if_pos (by simp),hs1,hs2]
   simp only [obS,List.cons.injEq,and_true]
   simp only [List.length_cons] at hbi
   unfold r1
   by_cases h99:a=99
   ·obtain ⟨b',c',hc⟩:=aK1 r (by omega)
    have hl:=hI.1 (tw r)
    rw [if_pos h99,hc]
    simp only [obS,if_pos h99]
    rw [cR (by omega)]
    rfl
   ·rw [if_neg h99]
    simp only [if_neg h99]
    by_cases h110:a=110
    ·simp only [if_pos h110]
     by_cases hv:(v.length:Int)=1
     ·obtain ⟨y,rfl⟩:∃ y,v=[y]:=List.length_eq_one_iff.1 (by omega)
      rw [if_pos hv,show aD [y] 0=some y from rfl]
      simp only [obS]
      have:((y.toNat:Int)=100)↔([y]=([100]:List UInt8)):=by
       rw [List.cons.injEq]
       simp only [and_true]
       rw [<- UInt8.toNat_inj]
       show _↔y.toNat=100
       omega
      rw [decide_eq_decide.2 this];rfl
     ·rw [if_neg hv]
      have:¬ v=[100]:=fun e=>hv (by rw [e];rfl)
      rw [decide_eq_false this];rfl
    ·simp only [if_neg h110];rfl
 ·show (if (L.length:Int)<(L.length:Int) then _ else _)=_
  rw [if_neg (by omega)];rfl
theorem iU (L:List P2):Crd (rdF L) L.length:=by
 have key:∀ (L:List P2) (s:CS×FS) (n:Nat),Crd s.2 n->Crd (L.foldl r1 s).2 (n+L.length):=by
  intro L
  induction L with
  | nil=>intro s n h;exact h
  | cons x L ih=>intro s n h;exact (ih (r1 s x) (n+1) (zB s x n h)).mono (by simp;omega)
 obtain ⟨l,hE,hl⟩:=key L (bG,bG) 0 Crd.nil
 generalize hS:L.foldl r1 (bG,bG)=S at hE
 refine ⟨l.map fun x=>(x.1,if x.2.1=false then (false,(S.1 x.1).getD []) else x.2),⟨by rw [List.map_map];exact hE.1,fun p=>?_⟩,by simp;omega⟩
 unfold rdF gE
 rw [hS]
 have hnd:((l.map fun x:List UInt8×(Bool×List UInt8)=>(x.1,if x.2.1=false then (false,(S.1 x.1).getD []) else x.2)).map (·.1)).Nodup:=by rw [List.map_map];exact hE.1
 cases hp:S.2 p with
 | none =>
  symm
  refine gN fun hm=>?_
  rw [List.map_map] at hm
  obtain ⟨⟨a,b⟩,hx,hj⟩:=List.mem_map.1 hm
  have:=(bC hE).1 hx
  replace hj:a=p:=hj
  rw [hj,hp] at this;cases this
 | some v =>
  obtain ⟨b,d⟩:=v
  have hm:=(bC hE).2 hp
  symm
  refine (cO hnd (List.mem_map.2 ⟨_,hm,rfl⟩)).trans ?_
  cases b<;>rfl
end Go.Proofs.YtkcgdaihfblncaaGreatDoor
