/- Texts RefA, RefS, RefT. -/
import Derived.Test.YtkcgdaihfblncaaGreatDoorQ10
import Derived.Test.YtkcgdaihfblncaaGreatDoorQ7
set_option linter.unusedSimpArgs false
set_option linter.unusedVariables false
namespace Go.Proofs.YtkcgdaihfblncaaGreatDoor
open Go.RowKit Go.Tri
variable {w0 w:World} {l:List HP}
set_option maxRecDepth 100000
set_option maxHeartbeats 4000000
theorem w_m_triremeref09_Name {x0_:List UInt8}  {r:Bool} (hm:m_triremeref09_Name x0_=some r) (H:St w0 w (l)) :
  Calls Tryz.prog 39 [.string (txb (x0_))].toArray w (fun e w'=>∃ v,e=.returned v/\v=.bool (r)/\St w0 w' (l)):=by
 unfold m_triremeref09_Name at hm
 have h0:LH0 4 [0] [] (fun (s0:Int) z=>(3,.int .i64 (s0))::z) (fun s0 z=>z):=⟨trivial⟩
 exact au Tryz.func39
instance:Ctr Tryz.prog 39 0 (type_of% @w_m_triremeref09_Name):=⟨enters Tryz.func39 (by kernel_rfl) rfl,@w_m_triremeref09_Name⟩
theorem w_m_triremeref09_Split {x0_:List UInt8}  {r:(List (List UInt8))×Bool} (hm:m_triremeref09_Split x0_=some r) (H:St w0 w (l)) :
  Calls Tryz.prog 98 [.string (txb (x0_))].toArray w (fun e w'=>∃ v,e=.returned v/\∃ (p0:Option Addr) (c0:Nat),v=.tuple [.slice p0 (r.1).length c0,.bool (r.2)].toArray/\St w0 w' (HP.sl rStr p0 c0 r.1::l)):=by
 unfold m_triremeref09_Split at hm
 have h0:LH2 8 [0] [] (fun (s0:(List (List UInt8))×Int×Int) (p1:Option Addr) (c1:Nat) z=>(4,.slice p1 (s0.1).length c1)::(5,.int .i64 (s0.2.1))::(6,.int .i64 (s0.2.2))::z) (fun s0 p1 c1 z=>HP.ow rStr 9 p1 c1 s0.1::z):=⟨trivial⟩
 exact au Tryz.func98
instance:Ctr Tryz.prog 98 0 (type_of% @w_m_triremeref09_Split):=⟨enters Tryz.func98 (by kernel_rfl) rfl,@w_m_triremeref09_Split⟩
theorem w_m_triremeref09_Join {x0_:List (List UInt8)} {p0:Option Addr} {c0:Nat} {r:(List UInt8)} (hm:m_triremeref09_Join x0_=some r) (H:St w0 w (HP.sl rStr p0 c0 x0_::l)) :
  Calls Tryz.prog 99 [.slice p0 (x0_).length c0].toArray w (fun e w'=>∃ v,e=.returned v/\v=.string (txb (r))/\St w0 w' (l)):=by
 unfold m_triremeref09_Join at hm
 have h0:LH0 5 [0] [] (fun (s0:(List UInt8)×Int) z=>(3,.string (txb (s0.1)))::(4,.int .i64 (s0.2))::z) (fun s0 z=>z):=⟨trivial⟩
 exact au Tryz.func99
instance:Ctr Tryz.prog 99 0 (type_of% @w_m_triremeref09_Join):=⟨enters Tryz.func99 (by kernel_rfl) rfl,@w_m_triremeref09_Join⟩
theorem w_m_triremeref09_Right {x0_:List UInt8}  {r:Bool} (hm:m_triremeref09_Right x0_=some r) (H:St w0 w (l)) :
  Calls Tryz.prog 66 [.string (txb (x0_))].toArray w (fun e w'=>∃ v,e=.returned v/\v=.bool (r)/\St w0 w' (l)):=by
 unfold m_triremeref09_Right at hm
 exact au Tryz.func66
instance:Ctr Tryz.prog 66 0 (type_of% @w_m_triremeref09_Right):=⟨enters Tryz.func66 (by kernel_rfl) rfl,@w_m_triremeref09_Right⟩
theorem w_m_triremeref09_Parent {x0_:List UInt8}  {r:(List UInt8)} (hm:m_triremeref09_Parent x0_=some r) (H:St w0 w (l)) :
  Calls Tryz.prog 67 [.string (txb (x0_))].toArray w (fun e w'=>∃ v,e=.returned v/\v=.string (txb (r))/\St w0 w' (l)):=by
 unfold m_triremeref09_Parent at hm
 exact au Tryz.func67
instance:Ctr Tryz.prog 67 0 (type_of% @w_m_triremeref09_Parent):=⟨enters Tryz.func67 (by kernel_rfl) rfl,@w_m_triremeref09_Parent⟩
theorem w_m_triremeref09_Base {x0_:List UInt8}  {r:(List UInt8)} (hm:m_triremeref09_Base x0_=some r) (H:St w0 w (l)) :
  Calls Tryz.prog 122 [.string (txb (x0_))].toArray w (fun e w'=>∃ v,e=.returned v/\v=.string (txb (r))/\St w0 w' (l)):=by
 unfold m_triremeref09_Base at hm
 exact au Tryz.func122
instance:Ctr Tryz.prog 122 0 (type_of% @w_m_triremeref09_Base):=⟨enters Tryz.func122 (by kernel_rfl) rfl,@w_m_triremeref09_Base⟩
theorem w_m_triremeref09_Within {x0_:List UInt8} {x1_:List UInt8}  {r:Bool} (hm:m_triremeref09_Within x0_ x1_=some r) (H:St w0 w (l)) :
  Calls Tryz.prog 121 [.string (txb (x0_)),.string (txb (x1_))].toArray w (fun e w'=>∃ v,e=.returned v/\v=.bool (r)/\St w0 w' (l)):=by
 unfold m_triremeref09_Within at hm
 exact au Tryz.func121
instance:Ctr Tryz.prog 121 0 (type_of% @w_m_triremeref09_Within):=⟨enters Tryz.func121 (by kernel_rfl) rfl,@w_m_triremeref09_Within⟩
theorem aCf {a_:List (List UInt8)} {b_:List (List UInt8)} {p0:Option Addr} {c0:Nat} {p1:Option Addr} {c1:Nat} {r:Bool} (hm:nC a_ b_=some r) (H:St w0 w (HP.sl rStr p0 c0 a_::HP.sl rStr p1 c1 b_::l)) :
  Calls Tryz.prog 31 [.slice p0 (a_).length c0,.slice p1 (b_).length c1].toArray w (fun e w'=>∃ v,e=.returned v/\v=.bool (r)/\St w0 w' (l)):=by
 unfold nC at hm
 have h0:LH0 4 [0,1] [] (fun (s0:Int) z=>(5,.int .i64 (s0))::z) (fun s0 z=>z):=⟨trivial⟩
 exact au Tryz.func31
instance:Ctr Tryz.prog 31 0 (type_of% @aCf):=⟨enters Tryz.func31 (by kernel_rfl) rfl,@aCf⟩
theorem wP {a_:T_api_Answer} {b_:T_api_Answer} {cs0:List Value} {cs1:List Value} {r:Bool} (hm:gP a_ b_=some r) (H:St w0 w (HP.rc R_api_Answer cs0 a_::HP.rc R_api_Answer cs1 b_::l)) :
  Calls Tryz.prog 13 [.agg cs0.toArray,.agg cs1.toArray].toArray w (fun e w'=>∃ v,e=.returned v/\v=.bool (r)/\St w0 w' (l)):=by
 unfold gP at hm
 exact au Tryz.func13
instance:Ctr Tryz.prog 13 0 (type_of% @wP):=⟨enters Tryz.func13 (by kernel_rfl) rfl,@wP⟩
theorem elem40:ElemT Tryz.prog 40 128 3 48 (.agg [.string ByteArray.empty,.bool false,.slice none 0 0].toArray):=⟨Tryz.underlying40,by kernel_rfl,by kernel_rfl,by decide⟩
instance:ElmC Tryz.prog 40 128 3 48 (.agg [.string ByteArray.empty,.bool false,.slice none 0 0].toArray):=⟨elem40⟩
theorem oK:aM Tryz.prog 128 0 0:=by unfold aM;rw [Tryz.underlying128];kernel_rfl
instance:FldC Tryz.prog 128 0 0:=⟨oK⟩
theorem w_m_triremeref11_Find {x0_:List T_triremeref11_Node} {x1_:List UInt8} {p0:Option Addr} {c0:Nat} {r:Int} (hm:m_triremeref11_Find x0_ x1_=some r) (H:St w0 w (HP.sl R_triremeref11_Node p0 c0 x0_::l)) :
  Calls Tryz.prog 65 [.slice p0 (x0_).length c0,.string (txb (x1_))].toArray w (fun e w'=>∃ v,e=.returned v/\v=.int .i64 (r)/\St w0 w' (l)):=by
 unfold m_triremeref11_Find at hm
 have h0:LH0 2 [0,1] [] (fun (s0:Int) z=>(5,.int .i64 (s0))::z) (fun s0 z=>z):=⟨trivial⟩
 exact au Tryz.func65
instance:Ctr Tryz.prog 65 1 (type_of% @w_m_triremeref11_Find):=⟨enters Tryz.func65 (by kernel_rfl) rfl,@w_m_triremeref11_Find⟩
theorem w_m_triremeref11_put {x0_:List T_api_Pair} {x1_:T_api_Pair} {p0:Option Addr} {c0:Nat} {cs0:List Value} {r:(List T_api_Pair)} (hm:m_triremeref11_put x0_ x1_=some r) (H:St w0 w (HP.sl R_api_Pair p0 c0 x0_::HP.rc R_api_Pair cs0 x1_::l)) :
  Calls Tryz.prog 97 [.slice p0 (x0_).length c0,.agg cs0.toArray].toArray w (fun e w'=>∃ v,e=.returned v/\∃ (p1:Option Addr) (c1:Nat),v=.slice p1 (r).length c1/\St w0 w' (HP.sl R_api_Pair p1 c1 r::l)):=by
 unfold m_triremeref11_put at hm
 have h0:MH 1 [0,2,4,5] [] (.step 0 1 (.step 0 3 (.fork 0 (.fork 2 (.step 2 4 (.step 2 5 (.step 0 6 .done))) 4 (.step 2 2 (.step 2 5 (.step 0 6 .done)))) 4 (.step 2 0 (.step 2 2 (.step 2 5 (.step 0 6 .done))))))) [3]:=⟨trivial⟩
 have h1:LH2 3 [] [] (fun (s0:(List T_api_Pair)×Int) (p2:Option Addr) (c2:Nat) z=>(5,.slice p2 (s0.1).length c2)::(6,.int .i64 (s0.2))::z) (fun s0 p2 c2 z=>HP.ow R_api_Pair 126 p2 c2 s0.1::z):=⟨trivial⟩
 exact au Tryz.func97
instance:Ctr Tryz.prog 97 0 (type_of% @w_m_triremeref11_put):=⟨enters Tryz.func97 (by kernel_rfl) rfl,@w_m_triremeref11_put⟩
theorem eZ:AggT Tryz.prog 128 3 [.string ByteArray.empty,.bool false,.slice none 0 0]:=⟨by rw [Tryz.underlying128];rfl,by kernel_rfl,by kernel_rfl⟩
instance:AggC Tryz.prog 128 3 [.string ByteArray.empty,.bool false,.slice none 0 0]:=⟨eZ⟩
theorem sY:AggT Tryz.prog 128 3 ([.string (txb ([])),.bool false,.slice none (([]:List UInt8)).length 0]):=⟨by rw [Tryz.underlying128];rfl,by kernel_rfl,by kernel_rfl⟩
theorem mX:aM Tryz.prog 128 1 1:=by unfold aM;rw [Tryz.underlying128];kernel_rfl
instance:FldC Tryz.prog 128 1 1:=⟨mX⟩
theorem ent97:En Tryz.prog 97:=enters Tryz.func97 (by kernel_rfl) rfl
theorem gS:aM Tryz.prog 128 2 2:=by unfold aM;rw [Tryz.underlying128];kernel_rfl
instance:FldC Tryz.prog 128 2 2:=⟨gS⟩
theorem w_m_triremeref11_Pairs {x0_:List T_triremeref11_Node} {p0:Option Addr} {c0:Nat} {r:(List T_api_Pair)} (hm:m_triremeref11_Pairs x0_=some r) (H:St w0 w (HP.sl R_triremeref11_Node p0 c0 x0_::l)) :
  Calls Tryz.prog 63 [.slice p0 (x0_).length c0].toArray w (fun e w'=>∃ v,e=.returned v/\∃ (p1:Option Addr) (c1:Nat),v=.slice p1 (r).length c1/\St w0 w' (HP.sl R_api_Pair p1 c1 r::l)):=by
 unfold m_triremeref11_Pairs at hm
 refine dM Tryz.func63 rfl rfl rfl ?_
 intro a F
 refine sb [0] F H rfl fun a F=>nl (sr (jI (R:=R_api_Pair) wkP F rfl rfl rfl elem22 rfl H fun b0 w a H F=>bb [0] F H rfl fun a F=>?_))
 replace H:=H.nf 2 rfl
 refine nl (sq (sb [0] F H rfl fun a F=>?_))
 refine nl (xm2 2 [] [] F H hm rfl rfl (fun r0 (p2:Option Addr) (c2:Nat) z=>(3,.slice p2 (r0).length c2)::z) (fun r0 p2 c2 z=>HP.sl R_api_Pair p2 c2 r0::z) (fun r0 hm=>?_) (fun r0 a w hm p2 c2 F H=>?_))
 refine bl ?_
 replace H:=H.frz 0 rfl
 refine xl2 2 [0] [1] F H hm rfl rfl (fun (s0:(List T_api_Pair)×Int) (p3:Option Addr) (c3:Nat) z=>(3,.slice p3 (s0.1).length c3)::(4,.int .i64 (s0.2))::z) (fun s0 p3 c3 z=>HP.sl R_api_Pair p3 c3 s0.1::z) ⟨(some ⟨b0,0,none⟩),0,F.sl rfl,H⟩ (fun s0 a w o p3 c3 F H hm=>?_)
 refine sq (sr (bk [0,0,0,0] F H rfl ⟨⟨_,Tryz.underlying40⟩,trivial⟩ fun a F=>?_))
 refine nl (cPm F rfl hm (fun hg0 hm=>?_) (fun hg0 hm=>?_))
 refine sk (ct (sq (xm2 2 [0,4] [1] F H hm rfl rfl (fun r1 (p4:Option Addr) (c4:Nat) z=>(3,.slice p4 (r1).length c4)::z) (fun r1 p4 c4 z=>HP.sl R_api_Pair p4 c4 r1::z) (fun r1 hm=>?_) (fun r1 a w hm p4 c4 F H=>?_))))
 refine bl (sb [0,0] F H rfl fun a F=>?_)
 obtain ⟨x0,ex0,hm⟩:=ob hm
 obtain ⟨b1,o0,hp0,cs0,H⟩:=H.slE 1 rfl ex0
 refine sv F rfl (dW F elem40 rfl rfl rfl hp0 ex0) fun a F=>bk [999] F H rfl ⟨rfl,(bY eZ (H.rL 1 rfl)),trivial⟩ fun a F=>?_
 replace H:=H.oN rByte 5
 refine bE wkP F rfl rfl rfl sY rfl H fun b2 w a H F=>aJ wkP F rfl rfl eZ rfl rfl rfl H 0 rfl (H.rL 3 rfl) rfl (H.rF 3 rfl) fun w H=>?_
 replace H:=H.nf 6 rfl
 refine nl (sq (sr (bk [1] F H rfl ⟨mX,trivial⟩ fun a F=>?_)))
 have G:=F;replace H:=rc_triremeref11_Node (H.pk 3 rfl);obtain ⟨p5,c5,rfl,J⟩:=H;have H:=J;have F:=G;clear G J
 refine bk [1001] F H rfl ⟨rfl,plain4,trivial⟩ fun a F=>?_
 refine nl (cB F rfl (fun hg1=>?_) (fun hg1=>?_))
 replace hm:=ifT hg1 hm
 refine sr (bk [0,0,1000] F H rfl ⟨oK,rfl,plain9,trivial⟩ fun a F=>?_)
 obtain ⟨x1,ex1,hm⟩:=ob hm
 refine sv F rfl (mU F rfl rfl rfl ex1) fun a F=>?_
 refine iI (e:=5) (xs:=x1) wkP F rfl rfl rfl u9 u30 u5 rfl rfl H fun b3 c6 w a H F=>?_
 obtain ⟨x2,ex2,hm⟩:=ob hm
 refine dU wkP F rfl rfl rfl elem30 zero5 rfl rfl rfl rfl (by simp [Value.cells]) (by decide) H fun b4 w a H F=>?_
 replace H:=H.bO (R:=rByte) (x:=x2) (fun gg=>(congrArg (fun z=>[Value.int .u8 z]) (cP ex2).symm))
 refine qN wkP F rfl rfl rfl u30 u5 rfl rfl H 0 rfl fun w a H F=>?_
 refine sv F rfl (bU F rfl rfl (cs:=[.slice (some ⟨b3,0,none⟩) (x1).length c6,.slice (some ⟨b4,0,none⟩) ([x2]).length (([x2]).length)]) (by kernel_rfl)) fun a F=>?_
 replace H:=H.cvFrz 1 rfl
 replace H:=mk_api_Pair H 0 rfl 1 rfl
 obtain ⟨x3,ex3,hm⟩:=ob hm
 refine sd F rfl ent97 (w_m_triremeref11_put ex3 (H.pm 9 [7,0,0,1,2,3,4,5,6,7,8] rfl:):) ?_;rintro _ w a ⟨p6,c7,rfl,H⟩ F
 refine bb [0] F H rfl fun a F=>?_
 replace H:=H.nf 10 rfl
 refine nl (ex (cx (ch ?_)))
 cases hm
 exact ct ⟨p6,c7,F.sl rfl,(H.pm 10 [0,9] rfl:)⟩
 replace hm:=ifF (nT hg1) hm
 refine sk (ct (sr (bk [2,1002,0,0] F H rfl ⟨gS,rfl,plain30,⟨_,u30⟩,trivial⟩ fun a F=>nl (sr (bk [0,0,1000] F H rfl ⟨oK,rfl,plain9,trivial⟩ fun a F=>?_)))))
 obtain ⟨x4,ex4,hm⟩:=ob hm
 refine sv F rfl (mU F rfl rfl rfl ex4) fun a F=>?_
 refine iI (e:=5) (xs:=x4) wkP F rfl rfl rfl u9 u30 u5 rfl rfl H fun b5 c8 w a H F=>?_
 refine bb [0] F H rfl fun a F=>?_
 obtain ⟨x5,ex5,hm⟩:=ob hm
 refine sv F rfl (aHf F rfl rfl rfl ex5) fun a F=>bk [1,0] F H rfl ⟨u3,u5,trivial⟩ fun a F=>?_
 obtain ⟨x6,ex6,hm⟩:=ob hm
 refine sv F rfl (aHb F rfl rfl rfl ex6) fun a F=>bk [1] F H rfl ⟨u3,u5,trivial⟩ fun a F=>?_
 obtain ⟨x7,ex7,hm⟩:=ob hm
 obtain ⟨x8,ex8,hm⟩:=ob hm
 obtain ⟨x9,ex9,hm⟩:=ob hm
 refine dU wkP F rfl rfl rfl elem30 zero5 rfl rfl rfl rfl (by simp [Value.cells]) (by decide) H fun b6 w a H F=>?_
 replace H:St w0 w (HP.ow rByte 5 (some ⟨b6,0,none⟩) (([x7,x8,x9]).length) ([x7,x8,x9])::HP.cv 5 b5 c8 x4::HP.sl rByte p5 c5 x0.2.2::HP.blk b2 ([.string (txb (x0.1)),.bool (x0.2.1),.slice p5 (x0.2.2).length c5]) 128::HP.ow rByte 5 none 0 ([]:List UInt8)::HP.row b1 (o0+(s0.2:Int).toNat*3) ([.string (txb (x0.1)),.bool (x0.2.1),.slice p5 (x0.2.2).length c5])::HP.sl R_api_Pair p3 c3 s0.1::HP.sl R_triremeref11_Node p0 c0 x0_::l):=H.blkOw (R:=rByte) 0 rfl (fun gg=>⟨[[.int .u8 (102)],[.int .u8 (IntKind.u8.wrap (x5))],[.int .u8 (IntKind.u8.wrap (x6))]],rfl,(congrArg (fun z=>[Value.int .u8 z]) (cP ex7).symm),(congrArg (fun z=>[Value.int .u8 z]) (cP ex8).symm),(congrArg (fun z=>[Value.int .u8 z]) (cP ex9).symm),trivial⟩) (by simp)
 refine sv F rfl (bU F rfl rfl (cs:=[.slice (some ⟨b5,0,none⟩) (x4).length c8,.slice (some ⟨b6,0,none⟩) ([x7,x8,x9]).length (([x7,x8,x9]).length)]) (by kernel_rfl)) fun a F=>?_
 replace H:=H.cvFrz 1 rfl
 replace H:=H.frz 1 rfl
 replace H:=mk_api_Pair H 1 rfl 0 rfl
 obtain ⟨x10,ex10,hm⟩:=ob hm
 refine sd F rfl ent97 (w_m_triremeref11_put ex10 (H.pm 9 [7,0,0,1,2,3,4,5,6,7,8] rfl:):) ?_;rintro _ w a ⟨p7,c9,rfl,H⟩ F
 refine bb [0] F H rfl fun a F=>?_
 replace H:=H.nf 10 rfl
 refine nb [0] F H rfl fun a F=>?_
 refine nl (xm2 10 [0,4] [4,5,6,7,9] F H hm rfl rfl (fun r2 (p8:Option Addr) (c10:Nat) z=>(3,.slice p8 (r2).length c10)::z) (fun r2 p8 c10 z=>HP.sl R_api_Pair p8 c10 r2::z) (fun r2 hm=>?_) (fun r2 a w hm p8 c10 F H=>?_))
 refine bl (xl2 10 [0,4,5,6] [4,5,6,7,9] F H hm rfl rfl (fun (s1:(List T_api_Pair)×Int) (p9:Option Addr) (c11:Nat) z=>(3,.slice p9 (s1.1).length c11)::(7,.int .i64 (s1.2))::z) (fun s1 p9 c11 z=>HP.sl R_api_Pair p9 c11 s1.1::z) ⟨p7,c9,F.sl rfl,(H.pm 10 [0,4,5,6,7,9] rfl:)⟩ (fun s1 a w o p9 c11 F H hm=>sq (sb [0,0,0,0] F H rfl fun a F=>?_)))
 refine nl (cPm F rfl hm (fun hg2 hm=>?_) (fun hg2 hm=>?_))
 refine sk (ct (sq (xm2 6 [0,4,5,6,7] [1,2,3,4,5] F H hm rfl rfl (fun r3 (p10:Option Addr) (c12:Nat) z=>(3,.slice p10 (r3).length c12)::z) (fun r3 p10 c12 z=>HP.sl R_api_Pair p10 c12 r3::z) (fun r3 hm=>?_) (fun r3 a w hm p10 c12 F H=>?_))))
 refine bl (sb [0,0,0,0] F H rfl fun a F=>nl (sq (sb [0,0,0] F H rfl fun a F=>?_)))
 refine nl (xm0 6 [0,3,4,5,6,7] [0,1,2,3,4,5] F H hm rfl rfl (fun r4 z=>(8,.int .i64 (r4))::z) (fun r4 z=>z) (fun r4 hm=>?_) (fun r4 a w hm F H=>?_))
 refine cPm F rfl hm (fun hg3 hm=>?_) (fun hg3 hm=>?_)
 refine rl (bb [0,0] F H rfl fun a F=>lz ?_)
 cases hm
 exact ct ⟨F.sl rfl,H⟩
 refine sk ?_
 cases hm
 exact ct ⟨F.sl rfl,H⟩
 refine ct (xm2 6 [0,4,5,6,7] [1,2,3,4,5] F H hm rfl rfl (fun r5 (p11:Option Addr) (c13:Nat) z=>(3,.slice p11 (r5).length c13)::z) (fun r5 p11 c13 z=>HP.sl R_api_Pair p11 c13 r5::z) (fun r5 hm=>?_) (fun r5 a w hm p11 c13 F H=>?_))
 obtain ⟨x11,ex11,hm⟩:=ob hm
 obtain ⟨x12,ex12,hm⟩:=ob hm
 have hc6818:=H.slCap 1 rfl
 replace H:=H.slSubN 1 rfl 1 rfl ex12
 refine iK [4,7,8,16] [] (.step 0 0 (.step 0 1 (.step 0 2 (.step 0 3 (.step 0 5 (.step 0 6 (.step 0 9 (.step 0 10 (.step 0 11 (.step 0 12 (.step 0 13 (.step 0 14 (.fork 4 (.step 2 7 (.step 2 8 (.step 0 15 (.step 2 16 (.step 0 17 .done))))) 7 (.step 2 4 (.step 2 8 (.step 0 15 (.step 2 16 (.step 0 17 .done)))))))))))))))))) (fun u=>∃ ls,St w0 u (HP.blk b2 ([.string (txb (x0.1)),.bool (x0.2.1),.slice p5 (x0.2.2).length c5]) 128::ls)) (by kernel_rfl) (by kernel_rfl) ⟨_,(H.drew.pm 7 [3,0,1,2,4,5,6] rfl:)⟩ ?_
 replace H:=H.drew
 generalize w.drew=w at H ⊢
 refine mbk [0,0] F H rfl ⟨oK,trivial⟩ fun a F=>?_
 refine bH F rfl rfl rfl rfl (fun u hu=>bS F plain9 rfl rfl (eM (v:=.string (txb (x0.1))) ((hu.choose_spec.blk 0 rfl).row) rfl)) fun a F=>?_
 refine bH F rfl rfl rfl rfl (fun u hu=>mU F rfl rfl rfl ex11) fun a F=>?_
 refine mbk [0,1,2] F H rfl ⟨u3,u5,gS,trivial⟩ fun a F=>?_
 refine bH F rfl rfl rfl rfl (fun u hu=>bS F plain30 rfl rfl (eM (v:=.slice p5 (x0.2.2).length c5) ((hu.choose_spec.blk 0 rfl).row) rfl)) fun a F=>?_
 refine mb [0,0,0] F H rfl fun a F=>?_
 refine bH F rfl rfl rfl rfl (fun u hu=>yU F elem30 rfl rfl rfl rfl ex12 hc6818) fun a F=>?_
 refine eE rfl rfl rfl rfl ?_ ?_
 refine aE rfl rfl ?_
 refine iI (e:=5) (xs:=x11) wkP F rfl rfl rfl u9 u30 u5 rfl rfl H fun b7 c14 w a H F=>?_
 refine lz ?_;refine ct ⟨⟨_,(H.pm 8 [4,0,1,2,3,5,6,7] rfl:)⟩,?_⟩
 refine aE rfl rfl ?_
 obtain ⟨x13,ex13,hm⟩:=ob hm
 obtain ⟨x14,ex14,hm⟩:=ob hm
 refine dU wkP F rfl rfl rfl elem30 zero5 rfl rfl rfl rfl (by simp [Value.cells]) (by decide) H fun b8 w a H F=>?_
 replace H:St w0 w (HP.ow rByte 5 (some ⟨b8,0,none⟩) (([x13,x14]).length) ([x13,x14])::HP.cv 5 b7 c14 x11::HP.sl rByte (shp p5 c5 ((IntKind.i64.wrap (64*s1.2)):Int).toNat 1) (c5-((IntKind.i64.wrap (64*s1.2)):Int).toNat) x12::HP.sl R_api_Pair p9 c11 s1.1::HP.sl rByte p5 c5 x0.2.2::HP.blk b2 ([.string (txb (x0.1)),.bool (x0.2.1),.slice p5 (x0.2.2).length c5]) 128::HP.ow rByte 5 none 0 ([]:List UInt8)::HP.row b1 (o0+(s0.2:Int).toNat*3) ([.string (txb (x0.1)),.bool (x0.2.1),.slice p5 (x0.2.2).length c5])::HP.sl R_triremeref11_Node p0 c0 x0_::l):=H.blkOw (R:=rByte) 0 rfl (fun gg=>⟨[[.int .u8 (0)],[.int .u8 (IntKind.u8.wrap (s1.2))]],rfl,(congrArg (fun z=>[Value.int .u8 z]) (cP ex13).symm),(congrArg (fun z=>[Value.int .u8 z]) (cP ex14).symm),trivial⟩) (by simp)
 refine lz ?_;refine ct ⟨⟨_,(H.pm 9 [5,0,1,2,3,4,6,7,8] rfl:)⟩,?_⟩
 refine aE rfl rfl ?_
 replace H:=H.frz 0 rfl
 obtain ⟨x15,ex15,hm⟩:=ob hm
 refine qV wkP F rfl rfl rfl rfl rfl rfl elem30 rfl ex15 rfl H 1 0 rfl rfl fun p12 c15 w a H F=>?_
 refine lz ?_;refine ct ⟨⟨_,(H.pm 9 [5,0,1,2,3,4,6,7,8] rfl:)⟩,?_⟩
 refine bH F rfl rfl rfl rfl (fun u hu=>bU F rfl rfl (cs:=[.slice p12 (x15).length c15,.slice (shp p5 c5 ((IntKind.i64.wrap (64*s1.2)):Int).toNat 1) (x12).length (c5-((IntKind.i64.wrap (64*s1.2)):Int).toNat)]) (by kernel_rfl)) fun a F=>?_
 refine aE rfl rfl ?_
 replace H:=mk_api_Pair H 0 rfl 2 rfl
 obtain ⟨x16,ex16,hm⟩:=ob hm
 refine sd F rfl ent97 (w_m_triremeref11_put ex16 (H.pm 10 [4,0,0,1,2,3,4,5,6,7,8,9] rfl:):) ?_;rintro _ w a ⟨p13,c16,rfl,H⟩ F
 refine lz ?_;refine ct ⟨⟨_,(H.pm 11 [7,0,1,2,3,4,5,6,8,9,10] rfl:)⟩,?_⟩
 refine mb [0] F H rfl fun a F=>bR ?_
 cases hm
 exact ct ⟨p13,c16,F.sl rfl,(H.pm 11 [0,6,7,8,9,10] rfl:)⟩
 refine aE rfl rfl ?_
 obtain ⟨x17,ex17,hm⟩:=ob hm
 obtain ⟨x18,ex18,hm⟩:=ob hm
 refine dU wkP F rfl rfl rfl elem30 zero5 rfl rfl rfl rfl (by simp [Value.cells]) (by decide) H fun b9 w a H F=>?_
 replace H:St w0 w (HP.ow rByte 5 (some ⟨b9,0,none⟩) (([x17,x18]).length) ([x17,x18])::HP.sl rByte (shp p5 c5 ((IntKind.i64.wrap (64*s1.2)):Int).toNat 1) (c5-((IntKind.i64.wrap (64*s1.2)):Int).toNat) x12::HP.sl R_api_Pair p9 c11 s1.1::HP.sl rByte p5 c5 x0.2.2::HP.blk b2 ([.string (txb (x0.1)),.bool (x0.2.1),.slice p5 (x0.2.2).length c5]) 128::HP.ow rByte 5 none 0 ([]:List UInt8)::HP.row b1 (o0+(s0.2:Int).toNat*3) ([.string (txb (x0.1)),.bool (x0.2.1),.slice p5 (x0.2.2).length c5])::HP.sl R_triremeref11_Node p0 c0 x0_::l):=H.blkOw (R:=rByte) 0 rfl (fun gg=>⟨[[.int .u8 (0)],[.int .u8 (IntKind.u8.wrap (s1.2))]],rfl,(congrArg (fun z=>[Value.int .u8 z]) (cP ex17).symm),(congrArg (fun z=>[Value.int .u8 z]) (cP ex18).symm),trivial⟩) (by simp)
 refine lz ?_;refine ct ⟨⟨_,(H.pm 8 [4,0,1,2,3,5,6,7] rfl:)⟩,?_⟩
 refine aE rfl rfl ?_
 refine iI (e:=5) (xs:=x11) wkP F rfl rfl rfl u9 u30 u5 rfl rfl H fun b10 c17 w a H F=>?_
 refine lz ?_;refine ct ⟨⟨_,(H.pm 9 [5,0,1,2,3,4,6,7,8] rfl:)⟩,?_⟩
 refine aE rfl rfl ?_
 replace H:=H.frz 1 rfl
 obtain ⟨x19,ex19,hm⟩:=ob hm
 refine qV wkP F rfl rfl rfl rfl rfl rfl elem30 rfl ex19 rfl H 1 0 rfl rfl fun p14 c18 w a H F=>?_
 refine lz ?_;refine ct ⟨⟨_,(H.pm 9 [5,0,1,2,3,4,6,7,8] rfl:)⟩,?_⟩
 refine bH F rfl rfl rfl rfl (fun u hu=>bU F rfl rfl (cs:=[.slice p14 (x19).length c18,.slice (shp p5 c5 ((IntKind.i64.wrap (64*s1.2)):Int).toNat 1) (x12).length (c5-((IntKind.i64.wrap (64*s1.2)):Int).toNat)]) (by kernel_rfl)) fun a F=>?_
 refine aE rfl rfl ?_
 replace H:=mk_api_Pair H 0 rfl 2 rfl
 obtain ⟨x20,ex20,hm⟩:=ob hm
 refine sd F rfl ent97 (w_m_triremeref11_put ex20 (H.pm 10 [4,0,0,1,2,3,4,5,6,7,8,9] rfl:):) ?_;rintro _ w a ⟨p15,c19,rfl,H⟩ F
 refine lz ?_;refine ct ⟨⟨_,(H.pm 11 [7,0,1,2,3,4,5,6,8,9,10] rfl:)⟩,?_⟩
 refine mb [0] F H rfl fun a F=>bR ?_
 cases hm
 exact ct ⟨p15,c19,F.sl rfl,(H.pm 11 [0,6,7,8,9,10] rfl:)⟩
 refine bn ?_
 cases hm
 exact ct ⟨p11,c13,F.sl rfl,H⟩
 refine ct (rl (bb [0,0,0] F H rfl fun a F=>?_))
 refine lz (ct ?_);cases hm
 exact ⟨_,rfl,⟨p10,c12,F.sl rfl,H⟩⟩
 refine ex (cx (cx ?_));cases hm;refine ⟨_,rfl,?_⟩;rintro rfl
 refine ch (ct ?_)
 exact ⟨p9,c11,F.sl rfl,H⟩
 refine bn ?_
 cases hm
 exact ct ⟨p8,c10,F.sl rfl,(H.pm 6 [0,5] rfl:)⟩
 refine ct (rl (bb [0,0,0] F H rfl fun a F=>?_))
 refine lz (ct ?_);cases hm
 exact ⟨_,rfl,⟨p4,c4,F.sl rfl,H⟩⟩
 refine ex (cx (cx ?_));cases hm;refine ⟨_,rfl,?_⟩;rintro rfl
 refine ch (ct ?_)
 exact ⟨p3,c3,F.sl rfl,(H.pm 2 [0] rfl:)⟩
 refine ct (sb [0,0] F H rfl fun a F=>nl (wr ?_))
 cases hm
 refine eF F rfl rfl ?_
 exact ⟨_,rfl,p2,c2,rfl,H⟩
instance:Ctr Tryz.prog 63 0 (type_of% @w_m_triremeref11_Pairs):=⟨enters Tryz.func63 (by kernel_rfl) rfl,@w_m_triremeref11_Pairs⟩
theorem w_m_triremeref11_Look {x0_:List T_triremeref11_Node} {x1_:List UInt8} {p0:Option Addr} {c0:Nat} {r:Int×Int} (hm:m_triremeref11_Look x0_ x1_=some r) (H:St w0 w (HP.sl R_triremeref11_Node p0 c0 x0_::l)) :
  Calls Tryz.prog 95 [.slice p0 (x0_).length c0,.string (txb (x1_))].toArray w (fun e w'=>∃ v,e=.returned v/\v=.tuple [.int .i64 (r.1),.int .i64 (r.2)].toArray/\St w0 w' (l)):=by
 unfold m_triremeref11_Look at hm
 have h0:LH0 5 [0,1,6] [] (fun (s0:Int) z=>(8,.int .i64 (s0))::z) (fun s0 z=>z):=⟨trivial⟩
 exact au Tryz.func95
instance:Ctr Tryz.prog 95 0 (type_of% @w_m_triremeref11_Look):=⟨enters Tryz.func95 (by kernel_rfl) rfl,@w_m_triremeref11_Look⟩
theorem ent95:En Tryz.prog 95:=enters Tryz.func95 (by kernel_rfl) rfl
theorem w_m_triremeref11_Room {x0_:List T_triremeref11_Node} {x1_:List UInt8} {p0:Option Addr} {c0:Nat} {r:Int} (hm:m_triremeref11_Room x0_ x1_=some r) (H:St w0 w (HP.sl R_triremeref11_Node p0 c0 x0_::l)) :
  Calls Tryz.prog 91 [.slice p0 (x0_).length c0,.string (txb (x1_))].toArray w (fun e w'=>∃ v,e=.returned v/\v=.int .i64 (r)/\St w0 w' (l)):=by
 unfold m_triremeref11_Room at hm
 exact au Tryz.func91
instance:Ctr Tryz.prog 91 0 (type_of% @w_m_triremeref11_Room):=⟨enters Tryz.func91 (by kernel_rfl) rfl,@w_m_triremeref11_Room⟩
theorem w_m_triremeref11_Below {x0_:List T_triremeref11_Node} {x1_:List UInt8} {p0:Option Addr} {c0:Nat} {r:(List (List UInt8))} (hm:m_triremeref11_Below x0_ x1_=some r) (H:St w0 w (HP.sl R_triremeref11_Node p0 c0 x0_::l)) :
  Calls Tryz.prog 96 [.slice p0 (x0_).length c0,.string (txb (x1_))].toArray w (fun e w'=>∃ v,e=.returned v/\∃ (p1:Option Addr) (c1:Nat),v=.slice p1 (r).length c1/\St w0 w' (HP.sl rStr p1 c1 r::l)):=by
 unfold m_triremeref11_Below at hm
 have h0:LH2 3 [0,1] [] (fun (s0:(List (List UInt8))×Int) (p2:Option Addr) (c2:Nat) z=>(5,.slice p2 (s0.1).length c2)::(6,.int .i64 (s0.2))::z) (fun s0 p2 c2 z=>HP.ow rStr 9 p2 c2 s0.1::z):=⟨trivial⟩
 have h1:LH2 9 [0,1,6] [] (fun (s1:(List (List UInt8))×Int) (p3:Option Addr) (c3:Nat) z=>(5,.slice p3 (s1.1).length c3)::(8,.int .i64 (s1.2))::z) (fun s1 p3 c3 z=>HP.ow rStr 9 p3 c3 s1.1::z):=⟨trivial⟩
 exact au Tryz.func96
instance:Ctr Tryz.prog 96 0 (type_of% @w_m_triremeref11_Below):=⟨enters Tryz.func96 (by kernel_rfl) rfl,@w_m_triremeref11_Below⟩
theorem w_m_triremeref11_resized {x0_:List UInt8} {x1_:Int} {p0:Option Addr} {c0:Nat} {r:(List UInt8)} (hm:m_triremeref11_resized x0_ x1_=some r) (H:St w0 w (HP.sl rByte p0 c0 x0_::l)) :
  Calls Tryz.prog 120 [.slice p0 (x0_).length c0,.int .i64 (x1_)].toArray w (fun e w'=>∃ v,e=.returned v/\∃ (p1:Option Addr) (c1:Nat),v=.slice p1 (r).length c1/\St w0 w' (HP.sl rByte p1 c1 r::l)):=by
 unfold m_triremeref11_resized at hm
 have h0:LH2 3 [0,1] [] (fun (s0:(List UInt8)×Int) (p2:Option Addr) (c2:Nat) z=>(5,.slice p2 (s0.1).length c2)::(6,.int .i64 (s0.2))::z) (fun s0 p2 c2 z=>HP.ow rByte 5 p2 c2 s0.1::z):=⟨trivial⟩
 exact au Tryz.func120
instance:Ctr Tryz.prog 120 0 (type_of% @w_m_triremeref11_resized):=⟨enters Tryz.func120 (by kernel_rfl) rfl,@w_m_triremeref11_resized⟩
theorem w_m_triremeref11_no {x0_:List T_triremeref11_Node} {x1_:Int} {p0:Option Addr} {c0:Nat} {r:(List T_triremeref11_Node)×T_api_Answer} (hm:m_triremeref11_no x0_ x1_=some r) (H:St w0 w (HP.sl R_triremeref11_Node p0 c0 x0_::l)) :
  Calls Tryz.prog 92 [.slice p0 (x0_).length c0,.int .i64 (x1_)].toArray w (fun e w'=>∃ v,e=.returned v/\∃ (p1:Option Addr) (c1:Nat) (cs0:List Value),v=.tuple [.slice p1 (r.1).length c1,.agg cs0.toArray].toArray/\St w0 w' (HP.sl R_triremeref11_Node p1 c1 r.1::HP.rc R_api_Answer cs0 r.2::l)):=by
 unfold m_triremeref11_no at hm
 exact au Tryz.func92
instance:Ctr Tryz.prog 92 0 (type_of% @w_m_triremeref11_no):=⟨enters Tryz.func92 (by kernel_rfl) rfl,@w_m_triremeref11_no⟩
theorem ent92:En Tryz.prog 92:=enters Tryz.func92 (by kernel_rfl) rfl
theorem ent120:En Tryz.prog 120:=enters Tryz.func120 (by kernel_rfl) rfl
theorem w_rChange {list:List T_triremeref11_Node} {oq:T_api_Op} {p0:Option Addr} {c0:Nat} {cs0:List Value} {r:(List T_triremeref11_Node)×T_api_Answer} (hm:rChange list oq=some r) (H:St w0 w (HP.sl R_triremeref11_Node p0 c0 list::HP.rc R_api_Op cs0 oq::l)) :
  Calls Tryz.prog 93 [.slice p0 (list).length c0,.agg cs0.toArray].toArray w (fun e w'=>∃ v,e=.returned v/\∃ (p1:Option Addr) (c1:Nat) (cs1:List Value),v=.tuple [.slice p1 (r.1).length c1,.agg cs1.toArray].toArray/\St w0 w' (HP.sl R_triremeref11_Node p1 c1 r.1::HP.rc R_api_Answer cs1 r.2::l)):=by
 unfold rChange at hm
 refine dM Tryz.func93 rfl rfl rfl ?_
 intro a F
 refine sr (gB wkP F rfl rfl rfl rfl rfl H fun b0 w a H F=>bb [0] F H rfl fun a F=>?_)
 replace H:=H.oN rByte 5
 replace H:=H.oN rStr 9
 refine bE wkP F rfl rfl rfl dA rfl H fun b1 w a H F=>?_
 replace H:=H.nf 6 rfl
 refine nl (sr (bk [0,1] F H rfl ⟨fD,trivial⟩ fun a F=>?_))
 have G:=F;replace H:=rc_api_Op (H.pk 5 rfl);obtain ⟨p2,c2,rfl,J⟩:=H;have H:=J;have F:=G;clear G J
 refine bk [4001] F H rfl ⟨rfl,plain9,trivial⟩ fun a F=>?_
 obtain ⟨x0,ex0,hm⟩:=ob hm
 refine sd F rfl ent95 (w_m_triremeref11_Look ex0 (H.pm 6 [5,0,1,2,3,4,5] rfl:):) ?_;rintro _ w a ⟨rfl,H⟩ F
 refine bb (List.replicate 5 0) F H rfl fun a F=>?_
 replace H:=H.nf 6 rfl
 refine nl (sq (sb [0,0] F H rfl fun a F=>?_))
 refine nl (cNm F rfl hm (fun hg0 hm=>?_) (fun hg0 hm=>?_))
 refine sb [0,0] F H rfl fun a F=>?_
 obtain ⟨x1,ex1,hm⟩:=ob hm
 refine sd F rfl ent92 (w_m_triremeref11_no ex1 (H.pm 6 [5,0,1,2,3,4,5] rfl:):) ?_;rintro _ w a ⟨p3,c3,cs2,rfl,H⟩ F
 refine bb [0,0,0] F H rfl fun a F=>aJ wkP F rfl rfl agg47 rfl rfl rfl H 3 rfl (H.rL 1 rfl) rfl (H.rF 1 rfl) fun w H=>?_
 replace H:=H.nf 8 rfl
 refine nl (wr (tr ?_))
 cases hm
 refine cG F rfl rfl (⟨_,rfl,agg47.run_load (H.blk 3 rfl).row (H.rL 1 rfl)⟩) ?_
 exact ⟨_,rfl,p3,c3,cs2,rfl,(H.pm 8 [0,1] rfl:)⟩
 refine sk (ct (sb [0,0] F H rfl fun a F=>?_))
 obtain ⟨x2,ex2,hm⟩:=ob hm
 obtain ⟨b2,o0,hp0,cs3,H⟩:=H.slE 5 rfl ex2
 refine sv F rfl (dW F elem40 rfl rfl rfl hp0 ex2) fun a F=>bk [999] F H rfl ⟨rfl,(bY eZ (H.rL 1 rfl)),trivial⟩ fun a F=>?_
 replace H:=H.oN rByte 5
 refine bE wkP F rfl rfl rfl sY rfl H fun b3 w a H F=>aJ wkP F rfl rfl eZ rfl rfl rfl H 0 rfl (H.rL 3 rfl) rfl (H.rF 3 rfl) fun w H=>?_
 replace H:=H.nf 10 rfl
 refine nl (sq (sr (bk [1] F H rfl ⟨mX,trivial⟩ fun a F=>?_)))
 have G:=F;replace H:=rc_triremeref11_Node (H.pk 3 rfl);obtain ⟨p4,c4,rfl,J⟩:=H;have H:=J;have F:=G;clear G J
 refine bk [1001] F H rfl ⟨rfl,plain4,trivial⟩ fun a F=>?_
 refine nl (cB F rfl (fun hg1=>?_) (fun hg1=>?_))
 replace hm:=ifT hg1 hm
 refine sb [0] F H rfl fun a F=>?_
 obtain ⟨x3,ex3,hm⟩:=ob hm
 refine sd F rfl ent92 (w_m_triremeref11_no ex3 (H.pm 10 [9,0,1,2,3,4,5,6,7,8,9] rfl:):) ?_;rintro _ w a ⟨p5,c5,cs4,rfl,H⟩ F
 refine bb [0,0,0] F H rfl fun a F=>aJ wkP F rfl rfl agg47 rfl rfl rfl H 7 rfl (H.rL 1 rfl) rfl (H.rF 1 rfl) fun w H=>?_
 replace H:=H.nf 12 rfl
 refine nl (wr (tr ?_))
 cases hm
 refine cG F rfl rfl (⟨_,rfl,agg47.run_load (H.blk 7 rfl).row (H.rL 1 rfl)⟩) ?_
 exact ⟨_,rfl,p5,c5,cs4,rfl,(H.pm 12 [0,1] rfl:)⟩
 replace hm:=ifF (nT hg1) hm
 refine sk (ct (sq (sq (xm0 10 [0,3,5,6,8] [0,1,2,3,4,5,6,7,8,9] F H hm rfl rfl (fun r0 z=>(55,.bool (r0))::z) (fun r0 z=>z) (fun r0 hm=>?_) (fun r0 a w hm F H=>?_)))))
 refine rl (bk [0,8000,0,0] F H rfl ⟨eS,rfl,plain3,trivial⟩ fun a F=>?_)
 rcases spN 41 F rfl hm with ⟨hg2,hm,F⟩ | ⟨hg2,hm,F⟩
 refine bk [0,0,0,0,0,0,8000,0,0] F H rfl ⟨eS,rfl,plain3,trivial⟩ fun a F=>?_
 rcases spN 50 F rfl hm with ⟨hg3,hm,F⟩ | ⟨hg3,hm,F⟩
 refine bb (List.replicate 5 0) F H rfl fun a F=>lz ?_
 cases hm
 exact ct ⟨F.sl rfl,H⟩
 refine bk [4,8004,0,0,0] F H rfl ⟨kG,rfl,plain3,trivial⟩ fun a F=>lz ?_
 cases hm
 exact ct ⟨F.sl rfl,H⟩
 refine bk [3,8003,0,0,0] F H rfl ⟨fB,rfl,plain3,trivial⟩ fun a F=>?_
 rcases spP 46 F rfl hm with ⟨hg4,hm,F⟩ | ⟨hg4,hm,F⟩
 refine bb (List.replicate 9 0) F H rfl fun a F=>lz ?_
 cases hm
 exact ct ⟨F.sl rfl,H⟩
 refine bk [0,8000,0,0] F H rfl ⟨eS,rfl,plain3,trivial⟩ fun a F=>?_
 rcases spN 50 F rfl hm with ⟨hg5,hm,F⟩ | ⟨hg5,hm,F⟩
 refine bb (List.replicate 5 0) F H rfl fun a F=>lz ?_
 cases hm
 exact ct ⟨F.sl rfl,H⟩
 refine bk [4,8004,0,0,0] F H rfl ⟨kG,rfl,plain3,trivial⟩ fun a F=>lz ?_
 cases hm
 exact ct ⟨F.sl rfl,H⟩
 refine ct (cB F rfl (fun hg6=>?_) (fun hg6=>?_))
 replace hm:=ifT hg6 hm
 refine sb [0] F H rfl fun a F=>?_
 obtain ⟨x4,ex4,hm⟩:=ob hm
 refine sd F rfl ent92 (w_m_triremeref11_no ex4 (H.pm 10 [9,0,1,2,3,4,5,6,7,8,9] rfl:):) ?_;rintro _ w a ⟨p6,c6,cs5,rfl,H⟩ F
 refine bb [0,0,0] F H rfl fun a F=>aJ wkP F rfl rfl agg47 rfl rfl rfl H 7 rfl (H.rL 1 rfl) rfl (H.rF 1 rfl) fun w H=>?_
 replace H:=H.nf 12 rfl
 refine nl (wr (tr ?_))
 cases hm
 refine cG F rfl rfl (⟨_,rfl,agg47.run_load (H.blk 7 rfl).row (H.rL 1 rfl)⟩) ?_
 exact ⟨_,rfl,p6,c6,cs5,rfl,(H.pm 12 [0,1] rfl:)⟩
 replace hm:=ifF (nT hg6) hm
 refine sk (ct (sr ?_))
 replace H:=H.oN rByte 5
 replace H:=H.oN rStr 9
 refine sv F rfl (bU F rfl rfl (cs:=[.int .i64 (0),.int .i64 (0),.slice none (([]:List UInt8)).length 0,.slice none (([]:List (List UInt8))).length 0]) (by kernel_rfl)) fun a F=>?_
 replace H:=H.oN rByte 5
 replace H:=H.oN rStr 9
 refine bE wkP F rfl rfl rfl dA rfl H fun b4 w a H F=>aJ wkP F rfl rfl agg47 rfl rfl rfl H 0 rfl rfl rfl (fl rfl) fun w H=>?_
 replace H:=H.nf 15 rfl
 refine nl (sr (bk [2,6002,0] F H rfl ⟨gS,rfl,plain30,trivial⟩ fun a F=>nl (sq (sr (bk [0,13000] F H rfl ⟨eS,rfl,plain3,trivial⟩ fun a F=>nl ?_)))))
 refine xr4 15 [0,5,6,8,9] [1,2,3,5,6,7,8,9,10,11,12,13,14] F H hm rfl rfl (fun r1 (p7:Option Addr) (c7:Nat) (p8:Option Addr) (c8:Nat) z=>(10,.slice p8 (r1.2).length c8)::z) (fun r1 p7 c7 p8 c8 z=>HP.blk b4 ([.int .i64 (0),.int .i64 (r1.1.1),.slice p7 (r1.1.2).length c7,.slice none (([]:List (List UInt8))).length 0]) 47::HP.ow rByte 5 p7 c7 r1.1.2::HP.sl rByte p8 c8 r1.2::z) (fun o1 hm hm0=>?_) (fun r1 a w hm p7 c7 p8 c8 F H=>?_)
 refine bl (sb [0,0] F H rfl fun a F=>nl ?_)
 refine xr4 15 [0,5,6,8,9] [1,2,3,5,6,7,8,9,10,11,12,13,14] F H hm rfl rfl (fun r2 (p9:Option Addr) (c9:Nat) (p10:Option Addr) (c10:Nat) z=>(10,.slice p10 (r2.2).length c10)::z) (fun r2 p9 c9 p10 c10 z=>HP.blk b4 ([.int .i64 (0),.int .i64 (r2.1.1),.slice p9 (r2.1.2).length c9,.slice none (([]:List (List UInt8))).length 0]) 47::HP.ow rByte 5 p9 c9 r2.1.2::HP.sl rByte p10 c10 r2.2::z) (fun o2 hm hm1=>?_) (fun r2 a w hm p9 c9 p10 c10 F H=>?_)
 refine cPm F rfl hm (fun hg7 hm=>?_) (fun hg7 hm=>?_)
 refine sr (bk [2,6002,0,1] F H rfl ⟨gS,rfl,plain30,⟨_,u30⟩,fJ,trivial⟩ fun a F=>cN wkP F rfl rfl zero3 rfl rfl rfl rfl rfl H 0 rfl rfl fun w H=>?_)
 replace H:=H.nf 15 rfl
 refine nb [0] F H rfl fun a F=>nl ?_
 refine xm2 15 [0,5,6,8,9,10] [1,2,3,5,6,7,8,9,10,11,12,13,14] F H hm rfl rfl (fun r3 (p11:Option Addr) (c11:Nat) z=>z) (fun r3 p11 c11 z=>HP.blk b4 ([.int .i64 (0),.int .i64 (((x2.2.2).length:Int)),.slice p11 (r3).length c11,.slice none (([]:List (List UInt8))).length 0]) 47::HP.ow rByte 5 p11 c11 r3::z) (fun r3 hm=>?_) (fun r3 a w hm p11 c11 F H=>?_)
 refine bl ?_
 refine xl2 15 [0,3,5,6,8,9,10] [1,2,3,5,6,7,8,9,10,11,12,13,14] F H hm rfl rfl (fun (s0:(List UInt8)×Int) (p12:Option Addr) (c12:Nat) z=>(11,.int .i64 (s0.2))::z) (fun s0 p12 c12 z=>HP.blk b4 ([.int .i64 (0),.int .i64 (((x2.2.2).length:Int)),.slice p12 (s0.1).length c12,.slice none (([]:List (List UInt8))).length 0]) 47::HP.ow rByte 5 p12 c12 s0.1::z) ⟨none,0,F.sl rfl,(H.pm 15 [0,4,1,2,3,5,6,7,8,9,10,11,12,13,14] rfl:)⟩ (fun s0 a w o p12 c12 F H hm=>?_)
 refine sq (sr (bk [0,2,6002,0,0] F H rfl ⟨gS,rfl,plain30,⟨_,u30⟩,trivial⟩ fun a F=>?_))
 refine nl (cPm F rfl hm (fun hg8 hm=>?_) (fun hg8 hm=>?_))
 refine sk (ct (sq ?_))
 refine xm2 15 [0,3,5,6,8,9,10,11] [2,3,4,5,6,7,8,9,10,11,12,13,14] F H hm rfl rfl (fun r4 (p13:Option Addr) (c13:Nat) z=>z) (fun r4 p13 c13 z=>HP.blk b4 ([.int .i64 (0),.int .i64 (((x2.2.2).length:Int)),.slice p13 (r4).length c13,.slice none (([]:List (List UInt8))).length 0]) 47::HP.ow rByte 5 p13 c13 r4::z) (fun r4 hm=>?_) (fun r4 a w hm p13 c13 F H=>?_)
 refine bl (sq (xm0 15 [0,3,5,6,8,9,10,11] [0,1,2,3,4,5,6,7,8,9,10,11,12,13,14] F H hm rfl rfl (fun r5 z=>(159,.bool (r5))::z) (fun r5 z=>z) (fun r5 hm=>?_) (fun r5 a w hm F H=>?_)))
 refine rl (bk [0,3,13003,0,0] F H rfl ⟨fB,rfl,plain3,trivial⟩ fun a F=>?_)
 rcases spP 144 F rfl hm with ⟨hg9,hm,F⟩ | ⟨hg9,hm,F⟩
 refine bk [0,3,13003,0,4,13004,0,0,0] F H rfl ⟨fB,rfl,plain3,kG,rfl,plain3,trivial⟩ fun a F=>?_
 rcases spP 153 F rfl hm with ⟨hg10,hm,F⟩ | ⟨hg10,hm,F⟩
 refine bk [0,3,13003,0,0,0] F H rfl ⟨fB,rfl,plain3,trivial⟩ fun a F=>lz ?_
 cases hm
 exact ct ⟨F.sl rfl,H⟩
 refine bb (List.replicate 6 0) F H rfl fun a F=>lz ?_
 cases hm
 exact ct ⟨F.sl rfl,H⟩
 refine bb (List.replicate 15 0) F H rfl fun a F=>lz ?_
 cases hm
 exact ct ⟨F.sl rfl,H⟩
 refine ct ?_
 refine xm2 15 [0,3,5,6,8,9,10,11] [2,3,4,5,6,7,8,9,10,11,12,13,14] F H hm rfl rfl (fun r6 (p14:Option Addr) (c14:Nat) z=>z) (fun r6 p14 c14 z=>HP.blk b4 ([.int .i64 (0),.int .i64 (((x2.2.2).length:Int)),.slice p14 (r6).length c14,.slice none (([]:List (List UInt8))).length 0]) 47::HP.ow rByte 5 p14 c14 r6::z) (fun r6 hm=>?_) (fun r6 a w hm p14 c14 F H=>?_)
 refine cB F rfl (fun hg11=>?_) (fun hg11=>?_)
 replace hm:=ifT hg11 hm
 obtain ⟨x5,ex5,hm⟩:=ob hm
 obtain ⟨b5,o3,hp1,cs6,H⟩:=H.slE 5 rfl ex5
 obtain rfl:=H.rcB 1 rfl
 replace H:=H.dp 1 rfl
 refine eT [7,8,10] [10] (scL [0,1,2,1003,4,5,1006,2007,2008,9,3010]) [1] H rfl rfl (by kernel_rfl) (by kernel_rfl) fun w H=>?_
 refine mbk [2] F H rfl ⟨oW,trivial⟩ fun a F=>?_
 refine bH F rfl rfl rfl rfl (fun u hu=>bS F plain30 rfl rfl (eM (v:=.slice p12 (s0.1).length c12) ((hu.choose_spec.blk 0 rfl).row) rfl)) fun a F=>?_
 refine mbk [2,7002,0] F H rfl ⟨gS,rfl,plain30,trivial⟩ fun a F=>?_
 refine bH F rfl rfl rfl rfl (fun u hu=>dW F elem30 rfl rfl rfl hp1 ex5) fun a F=>?_
 refine mbk [0] F H rfl ⟨rfl,plain5,trivial⟩ fun a F=>aE rfl rfl ?_
 obtain ⟨x6,ex6,hm⟩:=ob hm
 refine dU wkP F rfl rfl rfl elem30 zero5 rfl rfl rfl rfl (by simp [Value.cells]) (by decide) H fun b6 w a H F=>?_
 replace H:=H.bO (R:=rByte) (x:=x6) (fun gg=>(congrArg (fun z=>[Value.int .u8 z]) (cP ex6).symm))
 refine lz ?_;refine ct ⟨⟨_,(H.pm 17 [2,0,1,3,4,5,6,7,8,9,10,11,12,13,14,15,16] rfl:)⟩,?_⟩
 refine aE rfl rfl ?_
 replace H:=H.frz 0 rfl
 obtain ⟨x7,ex7,hm⟩:=ob hm
 refine cE wkP F rfl rfl rfl rfl rfl rfl elem30 rfl ex7 H 3 0 rfl rfl fun p15 c15 w a H F=>?_
 refine lz ?_;refine ct ⟨⟨_,(H.pm 17 [2,0,1,3,4,5,6,7,8,9,10,11,12,13,14,15,16] rfl:)⟩,?_⟩
 refine mbk [2] F H rfl ⟨oW,trivial⟩ fun a F=>dF rfl rfl (cN wkP F rfl rfl zero30 rfl rfl rfl rfl rfl H 2 rfl rfl fun w H=>?_)
 refine lz ?_;refine ct ?_
 refine bR ?_
 cases hm
 exact ct ⟨p15,c15,F.sl rfl,(H.pm 17 [2,3,4,5,6,7,8,9,10,11,12,13,14,15,16] rfl:)⟩
 replace hm:=ifF (nT hg11) hm
 refine sk ?_
 cases hm
 exact ct ⟨p12,c12,F.sl rfl,H⟩
 refine bn ?_
 cases hm
 exact ct ⟨p14,c14,F.sl rfl,H⟩
 refine ct (rl (bb [0,0,0] F H rfl fun a F=>?_))
 refine lz (ct ?_);cases hm
 exact ⟨_,rfl,⟨p13,c13,F.sl rfl,H⟩⟩
 refine ex (cx (cx ?_));cases hm;refine ⟨_,rfl,?_⟩;rintro rfl
 refine ch (ct ?_)
 exact ⟨p12,c12,F.sl rfl,H⟩
 cases hm
 exact ct ⟨_,rfl,p11,c11,p4,c4,F.sl rfl,(H.pm 15 [0,1,5,2,3,4,5,6,7,8,9,10,11,12,13,14] rfl:)⟩
 refine sb [0,0] F H rfl fun a F=>nl ?_
 refine xr2 15 [0,5,6,8,9] [1,2,3,4,5,6,7,8,9,10,11,12,13,14] F H hm rfl rfl (fun r7 (p16:Option Addr) (c16:Nat) z=>(10,.slice p16 (r7.2).length c16)::z) (fun r7 p16 c16 z=>HP.blk b4 ([.int .i64 (0),.int .i64 (r7.1),.slice none (([]:List UInt8)).length 0,.slice none (([]:List (List UInt8))).length 0]) 47::HP.sl rByte p16 c16 r7.2::z) (fun o4 hm hm2=>?_) (fun r7 a w hm p16 c16 F H=>?_)
 refine cPm F rfl hm (fun hg12 hm=>?_) (fun hg12 hm=>?_)
 refine sq (sr (bk [4,13004,0] F H rfl ⟨kG,rfl,plain3,trivial⟩ fun a F=>?_))
 refine nl (cPm F rfl hm (fun hg13 hm=>?_) (fun hg13 hm=>?_))
 refine sb [0] F H rfl fun a F=>?_
 obtain ⟨x8,ex8,hm⟩:=ob hm
 refine sd F rfl ent92 (w_m_triremeref11_no ex8 (H.pm 15 [14,0,1,2,3,4,5,6,7,8,9,10,11,12,13,14] rfl:):) ?_;rintro _ w a ⟨p17,c17,cs7,rfl,H⟩ F
 refine bb [0,0,0] F H rfl fun a F=>aJ wkP F rfl rfl agg47 rfl rfl rfl H 12 rfl (H.rL 1 rfl) rfl (H.rF 1 rfl) fun w H=>?_
 replace H:=H.nf 17 rfl
 refine nl (wr (tr (tr ?_)))
 cases hm
 replace hm:=cC hm2
 refine tr ?_
 cases hm
 replace hm:=cC hm1
 refine br (tr ?_)
 cases hm
 replace hm:=cC hm0
 refine tr ?_
 cases hm
 refine cG F rfl rfl (⟨_,rfl,agg47.run_load (H.blk 12 rfl).row (H.rL 1 rfl)⟩) ?_
 exact ⟨_,rfl,p17,c17,cs7,rfl,(H.pm 17 [0,1] rfl:)⟩
 refine sk (ct (rl (bk [2,6002,4,13004] F H rfl ⟨gS,rfl,plain30,kG,rfl,plain3,trivial⟩ fun a F=>?_)))
 obtain ⟨x9,ex9,hm⟩:=ob hm
 refine sd F rfl ent120 (w_m_triremeref11_resized ex9 (H.pm 15 [5,0,1,2,3,4,5,6,7,8,9,10,11,12,13,14] rfl:):) ?_;rintro _ w a ⟨p18,c18,rfl,H⟩ F
 refine bb [0] F H rfl fun a F=>?_
 replace H:=H.nf 16 rfl
 refine lz ?_
 cases hm
 exact ct ⟨_,rfl,p18,c18,F.sl rfl,(H.pm 16 [1,0,2,3,4,5,6,7,8,9,10,11,12,13,14,15] rfl:)⟩
 refine sr (bk [5,13005,0,1] F H rfl ⟨iX,rfl,plain30,⟨_,u30⟩,fJ,trivial⟩ fun a F=>cN wkP F rfl rfl zero3 rfl rfl rfl rfl rfl H 0 rfl rfl fun w H=>?_)
 replace H:=H.nf 15 rfl
 refine nl (sq (sr (bk [3,13003,0,0] F H rfl ⟨fB,rfl,plain3,trivial⟩ fun a F=>?_)))
 rcases spP 72 F rfl hm with ⟨hg14,hm,F⟩ | ⟨hg14,hm,F⟩
 refine bb (List.replicate 7 0) F H rfl fun a F=>nl (cT F rfl (sb [0] F H rfl fun a F=>?_))
 obtain ⟨x10,ex10,hm⟩:=ob hm
 refine sd F rfl ent92 (w_m_triremeref11_no ex10 (H.pm 15 [14,0,1,2,3,4,5,6,7,8,9,10,11,12,13,14] rfl:):) ?_;rintro _ w a ⟨p19,c19,cs8,rfl,H⟩ F
 refine bb [0,0,0] F H rfl fun a F=>aJ wkP F rfl rfl agg47 rfl rfl rfl H 12 rfl (H.rL 1 rfl) rfl (H.rF 1 rfl) fun w H=>?_
 replace H:=H.nf 17 rfl
 refine nl (wr (tr (tr ?_)))
 cases hm
 replace hm:=cC hm2
 refine tr ?_
 cases hm
 replace hm:=cC hm1
 refine br (tr ?_)
 cases hm
 replace hm:=cC hm0
 refine tr ?_
 cases hm
 refine cG F rfl rfl (⟨_,rfl,agg47.run_load (H.blk 12 rfl).row (H.rL 1 rfl)⟩) ?_
 exact ⟨_,rfl,p19,c19,cs8,rfl,(H.pm 17 [0,1] rfl:)⟩
 refine bk [3,13003,1,1,0,0,0] F H rfl ⟨fB,rfl,plain3,fJ,rfl,plain3,trivial⟩ fun a F=>?_
 refine nl (cPm F rfl hm (fun hg15 hm=>?_) (fun hg15 hm=>?_))
 refine sb [0] F H rfl fun a F=>?_
 obtain ⟨x11,ex11,hm⟩:=ob hm
 refine sd F rfl ent92 (w_m_triremeref11_no ex11 (H.pm 15 [14,0,1,2,3,4,5,6,7,8,9,10,11,12,13,14] rfl:):) ?_;rintro _ w a ⟨p20,c20,cs9,rfl,H⟩ F
 refine bb [0,0,0] F H rfl fun a F=>aJ wkP F rfl rfl agg47 rfl rfl rfl H 12 rfl (H.rL 1 rfl) rfl (H.rF 1 rfl) fun w H=>?_
 replace H:=H.nf 17 rfl
 refine nl (wr (tr (tr ?_)))
 cases hm
 replace hm:=cC hm2
 refine tr ?_
 cases hm
 replace hm:=cC hm1
 refine br (tr ?_)
 cases hm
 replace hm:=cC hm0
 refine tr ?_
 cases hm
 refine cG F rfl rfl (⟨_,rfl,agg47.run_load (H.blk 12 rfl).row (H.rL 1 rfl)⟩) ?_
 exact ⟨_,rfl,p20,c20,cs9,rfl,(H.pm 17 [0,1] rfl:)⟩
 refine sk (ct (sb [0] F H rfl fun a F=>?_))
 refine nl (xm2 15 [0,5,6,8,9] [0,1,2,3,4,5,6,7,8,9,10,11,12,13,14] F H hm rfl rfl (fun r8 (p21:Option Addr) (c21:Nat) z=>(10,.slice p21 (r8).length c21)::z) (fun r8 p21 c21 z=>HP.sl rByte p21 c21 r8::z) (fun r8 hm=>?_) (fun r8 a w hm p21 c21 F H=>?_))
 refine bl ?_
 refine xl2 15 [0,3,5,6,8,9] [0,1,2,3,4,5,6,7,8,9,10,11,12,13,14] F H hm rfl rfl (fun (s1:(List UInt8)×Int) (p22:Option Addr) (c22:Nat) z=>(10,.slice p22 (s1.1).length c22)::(12,.int .i64 (s1.2))::z) (fun s1 p22 c22 z=>HP.sl rByte p22 c22 s1.1::z) ⟨p4,c4,F.sl rfl,(H.pm 15 [5,0,1,2,3,4,5,6,7,8,9,10,11,12,13,14] rfl:)⟩ (fun s1 a w o p22 c22 F H hm=>?_)
 refine sq (sr (bk [0,1,1001,0] F H rfl ⟨fJ,rfl,plain3,trivial⟩ fun a F=>?_))
 refine nl (cPm F rfl hm (fun hg16 hm=>?_) (fun hg16 hm=>?_))
 refine sk (ct (sq (xm2 16 [0,3,5,6,8,9,12] [1,2,3,4,5,6,7,8,9,10,11,12,13,14,15] F H hm rfl rfl (fun r9 (p23:Option Addr) (c23:Nat) z=>(10,.slice p23 (r9).length c23)::z) (fun r9 p23 c23 z=>HP.sl rByte p23 c23 r9::z) (fun r9 hm=>?_) (fun r9 a w hm p23 c23 F H=>?_))))
 refine bl (sq (sr (bk [0,0,3,14003,0,0,0] F H rfl ⟨⟨_,u30⟩,fB,rfl,plain3,trivial⟩ fun a F=>?_)))
 refine nl (xm2 16 [0,3,5,6,8,9,12] [1,2,3,4,5,6,7,8,9,10,11,12,13,14,15] F H hm rfl rfl (fun r10 (p24:Option Addr) (c24:Nat) z=>(10,.slice p24 (r10).length c24)::z) (fun r10 p24 c24 z=>HP.sl rByte p24 c24 r10::z) (fun r10 hm=>?_) (fun r10 a w hm p24 c24 F H=>?_))
 refine cPm F rfl hm (fun hg17 hm=>?_) (fun hg17 hm=>?_)
 refine rl (bk [0,3,14003,0,0,0] F H rfl ⟨fB,rfl,plain3,trivial⟩ fun a F=>?_)
 obtain ⟨x12,ex12,hm⟩:=ob hm
 refine sd F rfl ent120 (w_m_triremeref11_resized ex12 (H.pm 16 [0,0,1,2,3,4,5,6,7,8,9,10,11,12,13,14,15] rfl:):) ?_;rintro _ w a ⟨p25,c25,rfl,H⟩ F
 refine bb [0] F H rfl fun a F=>?_
 replace H:=H.nf 17 rfl
 refine lz ?_
 cases hm
 exact ct ⟨p25,c25,F.sl rfl,(H.pm 17 [0,2,3,4,5,6,7,8,9,10,11,12,13,14,15,16] rfl:)⟩
 refine sk ?_
 cases hm
 exact ct ⟨p22,c22,F.sl rfl,H⟩
 refine ct (xm2 16 [0,3,5,6,8,9,12] [1,2,3,4,5,6,7,8,9,10,11,12,13,14,15] F H hm rfl rfl (fun r11 (p26:Option Addr) (c26:Nat) z=>(10,.slice p26 (r11).length c26)::z) (fun r11 p26 c26 z=>HP.sl rByte p26 c26 r11::z) (fun r11 hm=>?_) (fun r11 a w hm p26 c26 F H=>?_))
 obtain ⟨x13,ex13,hm⟩:=ob hm
 have hc8882:=H.slCap 0 rfl
 replace H:=H.slSubN 1 rfl 0 rfl ex13
 obtain ⟨x14,ex14,hm⟩:=ob hm
 obtain ⟨b7,o5,hp2,cs10,H⟩:=H.slE 11 rfl ex14
 obtain rfl:=H.rcB 1 rfl
 replace H:=H.dp 1 rfl
 obtain ⟨x15,ex15,hm⟩:=ob hm
 have hc8887:=H.slCap 2 rfl
 replace H:=H.slSubN 1 rfl 2 rfl ex15
 refine iK [0,7,13,14,22] [] (.step 0 1 (.step 0 2 (.step 0 3 (.step 0 4 (.step 0 5 (.step 0 6 (.step 0 8 (.step 0 9 (.step 0 10 (.step 0 11 (.step 0 12 (.step 0 15 (.step 0 16 (.step 0 17 (.step 0 18 (.step 0 19 (.step 0 20 (.step 0 21 (.fork 0 (.fork 7 (.step 2 13 (.step 2 14 (.step 2 22 (.step 0 23 .done)))) 13 (.step 2 7 (.step 2 14 (.step 2 22 (.step 0 23 .done))))) 13 (.step 2 0 (.step 2 7 (.step 2 14 (.step 2 22 (.step 0 23 .done)))))))))))))))))))))))) (fun u=>∃ ls,St w0 u (HP.row b7 (o5+(s1.2:Int).toNat*1) ([.int .u8 (((x14).toNat:Int))])::HP.blk b0 ([.int .i64 (oq.1),.string (txb (oq.2.1)),.string (txb (oq.2.2.1)),.int .i64 (oq.2.2.2.1),.int .i64 (oq.2.2.2.2.1),.slice p2 (oq.2.2.2.2.2).length c2]) 32::ls)) (by kernel_rfl) (by kernel_rfl) ⟨_,(H.drew.pm 19 [1,17,0,1,2,3,4,5,6,7,8,9,10,11,12,13,14,15,16,18] rfl:)⟩ ?_
 replace H:=H.drew
 generalize w.drew=w at H ⊢
 refine mbk [0,3] F H rfl ⟨fB,trivial⟩ fun a F=>?_
 refine bH F rfl rfl rfl rfl (fun u hu=>bS F plain3 rfl rfl (eM (v:=.int .i64 (oq.2.2.2.1)) ((hu.choose_spec.blk 1 rfl).row) rfl)) fun a F=>?_
 refine mb [0,0] F H rfl fun a F=>?_
 refine bH F rfl rfl rfl rfl (fun u hu=>nI F elem30 rfl rfl rfl ex13 hc8882) fun a F=>?_
 refine mbk [5] F H rfl ⟨iX,trivial⟩ fun a F=>?_
 refine bH F rfl rfl rfl rfl (fun u hu=>bS F plain30 rfl rfl (eM (v:=.slice p2 (oq.2.2.2.2.2).length c2) ((hu.choose_spec.blk 1 rfl).row) rfl)) fun a F=>?_
 refine mb [0] F H rfl fun a F=>?_
 refine bH F rfl rfl rfl rfl (fun u hu=>dW F elem30 rfl rfl rfl hp2 ex14) fun a F=>?_
 refine bH F rfl rfl rfl rfl (fun u hu=>bS F plain5 rfl rfl ((hu.choose_spec.rowAt 0 rfl) 0 _ rfl)) fun a F=>?_
 refine mbk [0,3] F H rfl ⟨fB,trivial⟩ fun a F=>?_
 refine bH F rfl rfl rfl rfl (fun u hu=>bS F plain3 rfl rfl (eM (v:=.int .i64 (oq.2.2.2.1)) ((hu.choose_spec.blk 1 rfl).row) rfl)) fun a F=>?_
 refine mb [0,0,0] F H rfl fun a F=>?_
 refine bH F rfl rfl rfl rfl (fun u hu=>iS F elem30 rfl rfl rfl ex15 hc8887) fun a F=>?_
 refine eE rfl rfl rfl rfl ?_ ?_
 refine aE rfl rfl (jI (R:=rByte) wkP F rfl rfl rfl elem30 rfl H fun b8 w a H F=>?_)
 refine lz ?_;refine ct ⟨⟨_,(H.pm 20 [2,18,0,1,2,3,4,5,6,7,8,9,10,11,12,13,14,15,16,17,19] rfl:)⟩,?_⟩
 refine eE rfl rfl rfl rfl ?_ ?_
 refine aE rfl rfl ?_
 obtain ⟨x16,ex16,hm⟩:=ob hm
 refine cE wkP F rfl rfl rfl rfl rfl rfl elem30 rfl ex16 H 0 3 rfl rfl fun p27 c27 w a H F=>?_
 refine lz ?_;refine ct ⟨⟨_,(H.pm 20 [2,18,0,1,2,3,4,5,6,7,8,9,10,11,12,13,14,15,16,17,19] rfl:)⟩,?_⟩
 refine aE rfl rfl ?_
 obtain ⟨x17,ex17,hm⟩:=ob hm
 refine dU wkP F rfl rfl rfl elem30 zero5 rfl rfl rfl rfl (by simp [Value.cells]) (by decide) H fun b9 w a H F=>?_
 replace H:=H.bO (R:=rByte) (x:=x17) (fun gg=>(congrArg (fun z=>[Value.int .u8 z]) (cP ex17).symm))
 refine lz ?_;refine ct ⟨⟨_,(H.pm 21 [3,19,0,1,2,3,4,5,6,7,8,9,10,11,12,13,14,15,16,17,18,20] rfl:)⟩,?_⟩
 refine aE rfl rfl ?_
 replace H:=H.frz 0 rfl
 obtain ⟨x18,ex18,hm⟩:=ob hm
 refine cE wkP F rfl rfl rfl rfl rfl rfl elem30 rfl ex18 H 1 0 rfl rfl fun p28 c28 w a H F=>?_
 refine lz ?_;refine ct ⟨⟨_,(H.pm 21 [3,19,0,1,2,3,4,5,6,7,8,9,10,11,12,13,14,15,16,17,18,20] rfl:)⟩,?_⟩
 refine aE rfl rfl ?_
 obtain ⟨x19,ex19,hm⟩:=ob hm
 refine cE wkP F rfl rfl rfl rfl rfl rfl elem30 rfl ex19 H 1 2 rfl rfl fun p29 c29 w a H F=>?_
 refine lz ?_;refine ct ⟨⟨_,(H.pm 21 [3,19,0,1,2,3,4,5,6,7,8,9,10,11,12,13,14,15,16,17,18,20] rfl:)⟩,?_⟩
 replace H:=H.frz 1 rfl
 refine mb [0] F H rfl fun a F=>bR ?_
 cases hm
 exact ct ⟨p29,c29,F.sl rfl,(H.pm 21 [0,6,7,8,9,10,11,12,13,14,15,16,17,18,19,20] rfl:)⟩
 refine aE rfl rfl ?_
 obtain ⟨x20,ex20,hm⟩:=ob hm
 obtain ⟨x21,ex21,hm⟩:=ob hm
 refine dU wkP F rfl rfl rfl elem30 zero5 rfl rfl rfl rfl (by simp [Value.cells]) (by decide) H fun b10 w a H F=>?_
 replace H:=H.bO (R:=rByte) (x:=x21) (fun gg=>(congrArg (fun z=>[Value.int .u8 z]) (cP ex21).symm))
 refine lz ?_;refine ct ⟨⟨_,(H.pm 21 [3,19,0,1,2,3,4,5,6,7,8,9,10,11,12,13,14,15,16,17,18,20] rfl:)⟩,?_⟩
 refine aE rfl rfl ?_
 refine cE wkP F rfl rfl rfl rfl rfl rfl elem30 rfl ex20 H 1 4 rfl rfl fun p30 c30 w a H F=>?_
 refine lz ?_;refine ct ⟨⟨_,(H.pm 21 [3,19,0,1,2,3,4,5,6,7,8,9,10,11,12,13,14,15,16,17,18,20] rfl:)⟩,?_⟩
 refine aE rfl rfl ?_
 replace H:=H.frz 0 rfl
 obtain ⟨x22,ex22,hm⟩:=ob hm
 refine cE wkP F rfl rfl rfl rfl rfl rfl elem30 rfl ex22 H 1 0 rfl rfl fun p31 c31 w a H F=>?_
 refine lz ?_;refine ct ⟨⟨_,(H.pm 21 [3,19,0,1,2,3,4,5,6,7,8,9,10,11,12,13,14,15,16,17,18,20] rfl:)⟩,?_⟩
 refine aE rfl rfl ?_
 obtain ⟨x23,ex23,hm⟩:=ob hm
 refine cE wkP F rfl rfl rfl rfl rfl rfl elem30 rfl ex23 H 1 2 rfl rfl fun p32 c32 w a H F=>?_
 refine lz ?_;refine ct ⟨⟨_,(H.pm 21 [3,19,0,1,2,3,4,5,6,7,8,9,10,11,12,13,14,15,16,17,18,20] rfl:)⟩,?_⟩
 replace H:=H.frz 1 rfl
 refine mb [0] F H rfl fun a F=>bR ?_
 cases hm
 exact ct ⟨p32,c32,F.sl rfl,(H.pm 21 [0,6,7,8,9,10,11,12,13,14,15,16,17,18,19,20] rfl:)⟩
 refine aE rfl rfl ?_
 obtain ⟨x24,ex24,hm⟩:=ob hm
 obtain ⟨x25,ex25,hm⟩:=ob hm
 refine dU wkP F rfl rfl rfl elem30 zero5 rfl rfl rfl rfl (by simp [Value.cells]) (by decide) H fun b11 w a H F=>?_
 replace H:=H.bO (R:=rByte) (x:=x25) (fun gg=>(congrArg (fun z=>[Value.int .u8 z]) (cP ex25).symm))
 refine lz ?_;refine ct ⟨⟨_,(H.pm 20 [2,18,0,1,2,3,4,5,6,7,8,9,10,11,12,13,14,15,16,17,19] rfl:)⟩,?_⟩
 refine aE rfl rfl (jI (R:=rByte) wkP F rfl rfl rfl elem30 rfl H fun b12 w a H F=>?_)
 refine lz ?_;refine ct ⟨⟨_,(H.pm 21 [3,19,0,1,2,3,4,5,6,7,8,9,10,11,12,13,14,15,16,17,18,20] rfl:)⟩,?_⟩
 refine aE rfl rfl ?_
 refine cE wkP F rfl rfl rfl rfl rfl rfl elem30 rfl ex24 H 0 4 rfl rfl fun p33 c33 w a H F=>?_
 refine lz ?_;refine ct ⟨⟨_,(H.pm 21 [3,19,0,1,2,3,4,5,6,7,8,9,10,11,12,13,14,15,16,17,18,20] rfl:)⟩,?_⟩
 refine aE rfl rfl ?_
 replace H:=H.frz 1 rfl
 obtain ⟨x26,ex26,hm⟩:=ob hm
 refine cE wkP F rfl rfl rfl rfl rfl rfl elem30 rfl ex26 H 1 0 rfl rfl fun p34 c34 w a H F=>?_
 refine lz ?_;refine ct ⟨⟨_,(H.pm 21 [3,19,0,1,2,3,4,5,6,7,8,9,10,11,12,13,14,15,16,17,18,20] rfl:)⟩,?_⟩
 refine aE rfl rfl ?_
 obtain ⟨x27,ex27,hm⟩:=ob hm
 refine cE wkP F rfl rfl rfl rfl rfl rfl elem30 rfl ex27 H 1 2 rfl rfl fun p35 c35 w a H F=>?_
 refine lz ?_;refine ct ⟨⟨_,(H.pm 21 [3,19,0,1,2,3,4,5,6,7,8,9,10,11,12,13,14,15,16,17,18,20] rfl:)⟩,?_⟩
 replace H:=H.frz 1 rfl
 refine mb [0] F H rfl fun a F=>bR ?_
 cases hm
 exact ct ⟨p35,c35,F.sl rfl,(H.pm 21 [0,6,7,8,9,10,11,12,13,14,15,16,17,18,19,20] rfl:)⟩
 refine bn ?_
 cases hm
 exact ct ⟨p26,c26,F.sl rfl,H⟩
 refine ct (rl (bb [0,0,0] F H rfl fun a F=>?_))
 refine lz (ct ?_);cases hm
 exact ⟨_,rfl,⟨p23,c23,F.sl rfl,H⟩⟩
 refine ex (cx (cx ?_));cases hm;refine ⟨_,rfl,?_⟩;rintro rfl
 refine ch (ct ?_)
 exact ⟨p22,c22,F.sl rfl,H⟩
 cases hm
 exact ct ⟨_,rfl,p21,c21,F.sl rfl,(H.pm 16 [1,0,2,3,4,5,6,7,8,9,10,11,12,13,14,15] rfl:)⟩
 cases hm
 exact ct ⟨_,rfl,none,0,p16,c16,F.sl rfl,(H.pm 16 [0,5,1,2,3,4,6,7,8,9,10,11,12,13,14,15] rfl:)⟩
 refine bn ?_
 cases hm
 exact ct ⟨_,rfl,p9,c9,p10,c10,F.sl rfl,H⟩
 refine ct (sr (jI (R:=R_triremeref11_Node) wkP F rfl rfl rfl elem40 rfl H fun b13 w a H F=>bb [0] F H rfl fun a F=>?_))
 obtain ⟨x28,ex28,hm⟩:=ob hm
 refine cE wkP F rfl rfl rfl rfl rfl rfl elem40 rfl ex28 H 0 16 rfl rfl fun p36 c36 w a H F=>?_
 refine bb [0] F H rfl fun a F=>?_
 replace H:=H.nf 17 rfl
 refine nl (sr (bk [0,0,0,8000,0] F H rfl ⟨oK,rfl,plain9,trivial⟩ fun a F=>sv F rfl (bU F rfl rfl (cs:=[.string (txb (x2.1)),.bool false,.slice p8 (r1.2).length c8]) (by kernel_rfl)) fun a F=>?_))
 obtain ⟨x29,ex29,hm⟩:=ob hm
 obtain ⟨b14,hp3⟩:=H.owP 0 rfl (eR ex29).2
 obtain ⟨css0,H⟩:=H.oxOpen 0 rfl
 obtain ⟨cs11,hcs0,hcl0,H⟩:=H.oxEl 0 rfl (eR ex29).2
 refine sv F rfl (dW F elem40 rfl rfl rfl hp3 ex29) fun a F=>?_
 replace H:=H.oxShut 1 rfl
 refine aDf wkP F rfl rfl eZ rfl rfl rfl rfl H 1 rfl hp3 ex29 (zz:=(x2.1,false,r1.2)) (fun gg=>⟨_,_,rfl,rfl,⟨_,_,rfl,rfl,⟨_,_,rfl,(gg 4 _ rfl).choose_spec⟩⟩⟩) (fl rfl) rfl fun w H=>?_
 replace H:St w0 w (HP.rc R_triremeref11_Node cs11 x29::HP.ow R_triremeref11_Node 128 p36 c36 ((x28).set (x0.1:Int).toNat (x2.1,false,r1.2))::HP.blk b4 ([.int .i64 (0),.int .i64 (r1.1.1),.slice p7 (r1.1.2).length c7,.slice none (([]:List (List UInt8))).length 0]) 47::HP.ow rByte 5 p7 c7 r1.1.2::HP.sl rByte p8 c8 r1.2::HP.ow rStr 9 none 0 ([]:List (List UInt8))::HP.ow rByte 5 none 0 ([]:List UInt8)::HP.ow rStr 9 none 0 ([]:List (List UInt8))::HP.sl rByte p4 c4 x2.2.2::HP.blk b3 ([.string (txb (x2.1)),.bool (x2.2.1),.slice p4 (x2.2.2).length c4]) 128::HP.ow rByte 5 none 0 ([]:List UInt8)::HP.row b2 (o0+(x0.1:Int).toNat*3) ([.string (txb (x2.1)),.bool (x2.2.1),.slice p4 (x2.2.2).length c4])::HP.sl rByte p2 c2 oq.2.2.2.2.2::HP.blk b1 ([.int .i64 (0),.int .i64 (0),.slice none (([]:List UInt8)).length 0,.slice none (([]:List (List UInt8))).length 0]) 47::HP.ow rStr 9 none 0 ([]:List (List UInt8))::HP.ow rByte 5 none 0 ([]:List UInt8)::HP.blk b0 ([.int .i64 (oq.1),.string (txb (oq.2.1)),.string (txb (oq.2.2.1)),.int .i64 (oq.2.2.2.1),.int .i64 (oq.2.2.2.2.1),.slice p2 (oq.2.2.2.2.2).length c2]) 32::HP.sl R_triremeref11_Node p0 c0 list::l):=(by have h:=H;first | exact h | (simp only [List.length_set] at h ⊢;exact h))
 replace F:=F.bool (k:=186) (u:=.slice p36 ((x28).set (x0.1:Int).toNat (x2.1,false,r1.2)).length c36) rfl (by simp only [List.length_set])
 replace F:=F.bool (k:=13) (u:=.slice p36 ((x28).set (x0.1:Int).toNat (x2.1,false,r1.2)).length c36) rfl (by simp only [List.length_set])
 replace F:=F.bool (k:=187) (u:=.slice p36 ((x28).set (x0.1:Int).toNat (x2.1,false,r1.2)).length c36) rfl (by simp only [List.length_set])
 refine nl (sq (eT [3] [3] (scL [0,1001,2,3003]) [] H rfl rfl (by kernel_rfl) (by kernel_rfl) fun w H=>mbk [0,2999,0] F H rfl ⟨rfl,(bY agg47 rfl),trivial⟩ fun a F=>dF rfl rfl (aJ wkP F rfl rfl agg47 rfl rfl rfl H 13 rfl rfl rfl (fl rfl) fun w H=>?_)))
 refine lz ?_;refine ct ?_
 refine bR (ct (wr ?_))
 replace H:=H.frz 1 rfl
 replace H:=H.frz 3 rfl
 replace H:=H.frz 7 rfl
 replace H:=mk_api_Answer H 0 r1.1.1 1 rfl 0 rfl
 cases hm
 refine cG F rfl rfl (⟨_,rfl,agg47.run_load (H.blk 14 rfl).row rfl⟩) ?_
 exact ⟨_,rfl,p36,c36,[.int .i64 (0),.int .i64 (r1.1.1),.slice p7 (r1.1.2).length c7,.slice none (([]:List (List UInt8))).length 0],rfl,(H.pm 19 [3,0] rfl:)⟩
instance:Ctr Tryz.prog 93 0 (type_of% @w_rChange):=⟨enters Tryz.func93 (by kernel_rfl) rfl,@w_rChange⟩
theorem ent91:En Tryz.prog 91:=enters Tryz.func91 (by kernel_rfl) rfl
theorem w_m_triremeref11_rename {x0_:List T_triremeref11_Node} {x1_:T_api_Op} {p0:Option Addr} {c0:Nat} {cs0:List Value} {r:(List T_triremeref11_Node)×T_api_Answer} (hm:m_triremeref11_rename x0_ x1_=some r) (H:St w0 w (HP.sl R_triremeref11_Node p0 c0 x0_::HP.rc R_api_Op cs0 x1_::l)) :
  Calls Tryz.prog 94 [.slice p0 (x0_).length c0,.agg cs0.toArray].toArray w (fun e w'=>∃ v,e=.returned v/\∃ (p1:Option Addr) (c1:Nat) (cs1:List Value),v=.tuple [.slice p1 (r.1).length c1,.agg cs1.toArray].toArray/\St w0 w' (HP.sl R_triremeref11_Node p1 c1 r.1::HP.rc R_api_Answer cs1 r.2::l)):=by
 unfold m_triremeref11_rename at hm
 have h0:LH2 13 [0,3,5] [] (fun (s0:(List T_triremeref11_Node)×Int) (p2:Option Addr) (c2:Nat) z=>(8,.slice p2 (s0.1).length c2)::(9,.int .i64 (s0.2))::z) (fun s0 p2 c2 z=>HP.ow R_triremeref11_Node 128 p2 c2 s0.1::z):=⟨trivial⟩
 have h1:MH 17 [10] [10] (scP [(0,0),(1,1),(0,2),(1,3),(0,4),(1,5),(0,6),(0,7),(0,8),(0,9),(3,10)]) []:=⟨trivial⟩
 exact au Tryz.func94
instance:Ctr Tryz.prog 94 0 (type_of% @w_m_triremeref11_rename):=⟨enters Tryz.func94 (by kernel_rfl) rfl,@w_m_triremeref11_rename⟩
theorem ent93:En Tryz.prog 93:=enters Tryz.func93 (by kernel_rfl) rfl
theorem ent94:En Tryz.prog 94:=enters Tryz.func94 (by kernel_rfl) rfl
theorem ent96:En Tryz.prog 96:=enters Tryz.func96 (by kernel_rfl) rfl
theorem w_m_triremeref11_Do {x0_:List T_triremeref11_Node} {x1_:T_api_Op} {p0:Option Addr} {c0:Nat} {cs0:List Value} {r:(List T_triremeref11_Node)×T_api_Answer} (hm:m_triremeref11_Do x0_ x1_=some r) (H:St w0 w (HP.sl R_triremeref11_Node p0 c0 x0_::HP.rc R_api_Op cs0 x1_::l)) :
  Calls Tryz.prog 61 [.slice p0 (x0_).length c0,.agg cs0.toArray].toArray w (fun e w'=>∃ v,e=.returned v/\∃ (p1:Option Addr) (c1:Nat) (cs1:List Value),v=.tuple [.slice p1 (r.1).length c1,.agg cs1.toArray].toArray/\St w0 w' (HP.sl R_triremeref11_Node p1 c1 r.1::HP.rc R_api_Answer cs1 r.2::l)):=by
 unfold m_triremeref11_Do at hm
 refine dM Tryz.func61 rfl rfl rfl ?_
 intro a F
 refine sr (gB wkP F rfl rfl rfl rfl rfl H fun b0 w a H F=>bb [0] F H rfl fun a F=>?_)
 replace H:=H.oN rByte 5
 replace H:=H.oN rStr 9
 refine bE wkP F rfl rfl rfl dA rfl H fun b1 w a H F=>?_
 replace H:=H.nf 6 rfl
 refine nl (sq (sr (bk [0] F H rfl ⟨eS,trivial⟩ fun a F=>?_)))
 have G:=F;replace H:=rc_api_Op (H.pk 5 rfl);obtain ⟨p2,c2,rfl,J⟩:=H;have H:=J;have F:=G;clear G J
 refine bk [4000] F H rfl ⟨rfl,plain3,trivial⟩ fun a F=>?_
 refine nl (xr0 6 [0,3,5] [0,1,2,3,4,5] F H hm rfl rfl (fun r0 z=>z) (fun r0 z=>z) (fun o0 hm hm0=>?_) (fun r0 a w hm F H=>?_))
 refine bl (sq (sb [0,0] F H rfl fun a F=>?_))
 refine nl (xm0 6 [0,3,5,14] [0,1,2,3,4,5] F H hm rfl rfl (fun r1 z=>(19,.bool (r1))::z) (fun r1 z=>z) (fun r1 hm=>?_) (fun r1 a w hm F H=>?_))
 refine cPm F rfl hm (fun hg0 hm=>?_) (fun hg0 hm=>?_)
 refine sk ?_
 cases hm
 exact ct ⟨F.sl rfl,H⟩
 refine rl (bb [0,0] F H rfl fun a F=>lz ?_)
 cases hm
 exact ct ⟨F.sl rfl,H⟩
 refine ct (xr0 6 [0,3,5] [0,1,2,3,4,5] F H hm rfl rfl (fun r2 z=>z) (fun r2 z=>z) (fun o1 hm hm1=>?_) (fun r2 a w hm F H=>?_))
 refine cB F rfl (fun hg1=>?_) (fun hg1=>?_)
 replace hm:=ifT hg1 hm
 refine sr (bk [0,1,4001] F H rfl ⟨fD,rfl,plain9,trivial⟩ fun a F=>?_)
 obtain ⟨x0,ex0,hm⟩:=ob hm
 refine sd F rfl ent91 (w_m_triremeref11_Room ex0 (H.pm 6 [5,0,1,2,3,4,5] rfl:):) ?_;rintro _ w a ⟨rfl,H⟩ F
 refine bb [0] F H rfl fun a F=>?_
 replace H:=H.nf 6 rfl
 refine nl (sq (sb [0,0] F H rfl fun a F=>?_))
 refine nl (cNm F rfl hm (fun hg2 hm=>?_) (fun hg2 hm=>?_))
 refine sb [0,0] F H rfl fun a F=>?_
 obtain ⟨x1,ex1,hm⟩:=ob hm
 refine sd F rfl ent92 (w_m_triremeref11_no ex1 (H.pm 6 [5,0,1,2,3,4,5] rfl:):) ?_;rintro _ w a ⟨p3,c3,cs2,rfl,H⟩ F
 refine bb [0,0,0] F H rfl fun a F=>aJ wkP F rfl rfl agg47 rfl rfl rfl H 3 rfl (H.rL 1 rfl) rfl (H.rF 1 rfl) fun w H=>?_
 replace H:=H.nf 8 rfl
 refine nl (wr (tr (tr ?_)))
 cases hm
 replace hm:=cC hm1
 refine br (tr ?_)
 cases hm
 replace hm:=cC hm0
 refine tr ?_
 cases hm
 refine cG F rfl rfl (⟨_,rfl,agg47.run_load (H.blk 3 rfl).row (H.rL 1 rfl)⟩) ?_
 exact ⟨_,rfl,p3,c3,cs2,rfl,(H.pm 8 [0,1] rfl:)⟩
 refine sk (ct (sq (xm2 6 [5] [0,1,2,3,4] F H hm rfl rfl (fun r3 (p4:Option Addr) (c4:Nat) z=>(4,.slice p4 (r3).length c4)::z) (fun r3 p4 c4 z=>HP.ow R_triremeref11_Node 128 p4 c4 r3::z) (fun r3 hm=>?_) (fun r3 a w hm p4 c4 F H=>?_))))
 replace H:=H.oN rByte 5
 replace H:=H.oN rByte 5
 replace H:=H.oN rStr 9
 refine iK [0,2,9,10,13] [13] (.step 0 1 (.step 0 3 (.step 0 4 (.step 0 5 (.step 0 6 (.step 0 7 (.step 0 8 (.step 0 11 (.fork 0 (.fork 2 (.step 2 9 (.step 2 10 (.step 0 12 (.step 3 13 .done)))) 9 (.step 2 2 (.step 2 10 (.step 0 12 (.step 3 13 .done))))) 9 (.step 2 0 (.step 2 2 (.step 2 10 (.step 0 12 (.step 3 13 .done)))))))))))))) (fun u=>∃ ls,St w0 u (HP.blk b0 ([.int .i64 (x1_.1),.string (txb (x1_.2.1)),.string (txb (x1_.2.2.1)),.int .i64 (x1_.2.2.2.1),.int .i64 (x1_.2.2.2.2.1),.slice p2 (x1_.2.2.2.2.2).length c2]) 32::ls)) (by kernel_rfl) (by kernel_rfl) ⟨_,(H.drew.pm 9 [7,0,1,2,3,4,5,6,8] rfl:)⟩ ?_
 replace H:=H.drew
 generalize w.drew=w at H ⊢
 refine mbk [0,1] F H rfl ⟨fD,trivial⟩ fun a F=>?_
 refine bH F rfl rfl rfl rfl (fun u hu=>bS F plain9 rfl rfl (eM (v:=.string (txb (x1_.2.1))) ((hu.choose_spec.blk 0 rfl).row) rfl)) fun a F=>?_
 refine mbk [0] F H rfl ⟨eS,trivial⟩ fun a F=>?_
 refine bH F rfl rfl rfl rfl (fun u hu=>bS F plain3 rfl rfl (eM (v:=.int .i64 (x1_.1)) ((hu.choose_spec.blk 0 rfl).row) rfl)) fun a F=>?_
 refine mb [0] F H rfl fun a F=>?_
 refine bH F rfl rfl rfl rfl (fun u hu=>bU F rfl rfl (cs:=[.string (txb (x1_.2.1)),.bool (decide (x1_.1=2)),.slice none (([]:List UInt8)).length 0]) (by kernel_rfl)) fun a F=>?_
 refine bH F rfl rfl rfl rfl (fun u hu=>bU F rfl rfl (cs:=[.int .i64 (0),.int .i64 (0),.slice none (([]:List UInt8)).length 0,.slice none (([]:List (List UInt8))).length 0]) (by kernel_rfl)) fun a F=>?_
 refine eE rfl rfl rfl rfl ?_ ?_
 refine aE rfl rfl (jI (R:=R_triremeref11_Node) wkP F rfl rfl rfl elem40 rfl H fun b2 w a H F=>?_)
 refine lz ?_;refine ct ⟨⟨_,(H.pm 10 [8,0,1,2,3,4,5,6,7,9] rfl:)⟩,?_⟩
 refine eE rfl rfl rfl rfl ?_ ?_
 refine aE rfl rfl ?_
 obtain ⟨x2,ex2,hm⟩:=ob hm
 refine cE wkP F rfl rfl rfl rfl rfl rfl elem40 rfl ex2 H 0 9 rfl rfl fun p5 c5 w a H F=>?_
 refine lz ?_;refine ct ⟨⟨_,(H.pm 10 [8,0,1,2,3,4,5,6,7,9] rfl:)⟩,?_⟩
 refine aE rfl rfl ?_
 replace H:=H.frz 3 rfl
 refine gQ wkP F rfl rfl rfl eZ elem40 rfl rfl rfl (by decide) H fun b3 w a H F=>?_
 replace H:=H.bO (R:=R_triremeref11_Node) (x:=(x1_.2.1,decide (x1_.1=2),([]:List UInt8))) (fun gg=>⟨_,_,rfl,rfl,⟨_,_,rfl,rfl,⟨_,_,rfl,(gg 1 _ rfl).choose_spec⟩⟩⟩)
 refine lz ?_;refine ct ⟨⟨_,(H.pm 11 [9,0,1,2,3,4,5,6,7,8,10] rfl:)⟩,?_⟩
 refine aE rfl rfl ?_
 replace H:=H.frz 0 rfl
 obtain ⟨x3,ex3,hm⟩:=ob hm
 refine cE wkP F rfl rfl rfl rfl rfl rfl elem40 rfl ex3 H 2 0 rfl rfl fun p6 c6 w a H F=>?_
 refine lz ?_;refine ct ⟨⟨_,(H.pm 11 [9,0,1,2,3,4,5,6,7,8,10] rfl:)⟩,?_⟩
 refine mb [0] F H rfl fun a F=>dF rfl rfl (aJ wkP F rfl rfl agg47 rfl rfl rfl H 6 rfl rfl rfl (fl rfl) fun w H=>?_)
 refine lz ?_;refine ct ?_
 refine bR ?_
 cases hm
 exact ct ⟨p6,c6,F.sl rfl,(H.pm 11 [2,5,6,7,8,9] rfl:)⟩
 refine aE rfl rfl ?_
 replace H:=H.frz 3 rfl
 refine gQ wkP F rfl rfl rfl eZ elem40 rfl rfl rfl (by decide) H fun b4 w a H F=>?_
 replace H:=H.bO (R:=R_triremeref11_Node) (x:=(x1_.2.1,decide (x1_.1=2),([]:List UInt8))) (fun gg=>⟨_,_,rfl,rfl,⟨_,_,rfl,rfl,⟨_,_,rfl,(gg 1 _ rfl).choose_spec⟩⟩⟩)
 refine lz ?_;refine ct ⟨⟨_,(H.pm 11 [9,0,1,2,3,4,5,6,7,8,10] rfl:)⟩,?_⟩
 refine aE rfl rfl ?_
 obtain ⟨x4,ex4,hm⟩:=ob hm
 refine cE wkP F rfl rfl rfl rfl rfl rfl elem40 rfl ex4 H 2 10 rfl rfl fun p7 c7 w a H F=>?_
 refine lz ?_;refine ct ⟨⟨_,(H.pm 11 [9,0,1,2,3,4,5,6,7,8,10] rfl:)⟩,?_⟩
 refine aE rfl rfl ?_
 replace H:=H.frz 0 rfl
 obtain ⟨x5,ex5,hm⟩:=ob hm
 refine cE wkP F rfl rfl rfl rfl rfl rfl elem40 rfl ex5 H 2 0 rfl rfl fun p8 c8 w a H F=>?_
 refine lz ?_;refine ct ⟨⟨_,(H.pm 11 [9,0,1,2,3,4,5,6,7,8,10] rfl:)⟩,?_⟩
 refine mb [0] F H rfl fun a F=>dF rfl rfl (aJ wkP F rfl rfl agg47 rfl rfl rfl H 6 rfl rfl rfl (fl rfl) fun w H=>?_)
 refine lz ?_;refine ct ?_
 refine bR ?_
 cases hm
 exact ct ⟨p8,c8,F.sl rfl,(H.pm 11 [2,5,6,7,8,9] rfl:)⟩
 refine aE rfl rfl ?_
 replace H:=H.frz 2 rfl
 refine gQ wkP F rfl rfl rfl eZ elem40 rfl rfl rfl (by decide) H fun b5 w a H F=>?_
 replace H:=H.bO (R:=R_triremeref11_Node) (x:=(x1_.2.1,decide (x1_.1=2),([]:List UInt8))) (fun gg=>⟨_,_,rfl,rfl,⟨_,_,rfl,rfl,⟨_,_,rfl,(gg 1 _ rfl).choose_spec⟩⟩⟩)
 refine lz ?_;refine ct ⟨⟨_,(H.pm 10 [8,0,1,2,3,4,5,6,7,9] rfl:)⟩,?_⟩
 refine aE rfl rfl (jI (R:=R_triremeref11_Node) wkP F rfl rfl rfl elem40 rfl H fun b6 w a H F=>?_)
 refine lz ?_;refine ct ⟨⟨_,(H.pm 11 [9,0,1,2,3,4,5,6,7,8,10] rfl:)⟩,?_⟩
 refine aE rfl rfl ?_
 obtain ⟨x6,ex6,hm⟩:=ob hm
 refine cE wkP F rfl rfl rfl rfl rfl rfl elem40 rfl ex6 H 0 10 rfl rfl fun p9 c9 w a H F=>?_
 refine lz ?_;refine ct ⟨⟨_,(H.pm 11 [9,0,1,2,3,4,5,6,7,8,10] rfl:)⟩,?_⟩
 refine aE rfl rfl ?_
 replace H:=H.frz 1 rfl
 obtain ⟨x7,ex7,hm⟩:=ob hm
 refine cE wkP F rfl rfl rfl rfl rfl rfl elem40 rfl ex7 H 1 0 rfl rfl fun p10 c10 w a H F=>?_
 refine lz ?_;refine ct ⟨⟨_,(H.pm 11 [9,0,1,2,3,4,5,6,7,8,10] rfl:)⟩,?_⟩
 refine mb [0] F H rfl fun a F=>dF rfl rfl (aJ wkP F rfl rfl agg47 rfl rfl rfl H 6 rfl rfl rfl (fl rfl) fun w H=>?_)
 refine lz ?_;refine ct ?_
 refine bR ?_
 cases hm
 exact ct ⟨p10,c10,F.sl rfl,(H.pm 11 [1,5,6,7,8,9] rfl:)⟩
 refine ct (wr (tr ?_))
 cases hm
 replace hm:=cC hm1
 refine br (tr ?_)
 cases hm
 replace hm:=cC hm0
 refine tr ?_
 replace H:=H.frz 0 rfl
 replace H:=H.frz 4 rfl
 replace H:=H.frz 4 rfl
 replace H:=mk_api_Answer H 0 0 1 rfl 0 rfl
 cases hm
 refine cG F rfl rfl (⟨_,rfl,agg47.run_load (H.blk 5 rfl).row rfl⟩) ?_
 exact ⟨_,rfl,p4,c4,[.int .i64 (0),.int .i64 (0),.slice none (([]:List UInt8)).length 0,.slice none (([]:List (List UInt8))).length 0],rfl,(H.pm 7 [3,0] rfl:)⟩
 replace hm:=ifF (nT hg1) hm
 refine sq (sb [0,0] F H rfl fun a F=>?_)
 refine nl (xm0 6 [0,3,5,14] [0,1,2,3,4,5] F H hm rfl rfl (fun r4 z=>(45,.bool (r4))::z) (fun r4 z=>z) (fun r4 hm=>?_) (fun r4 a w hm F H=>?_))
 refine cPm F rfl hm (fun hg3 hm=>?_) (fun hg3 hm=>?_)
 refine sk ?_
 cases hm
 exact ct ⟨F.sl rfl,H⟩
 refine sb [0,0] F H rfl fun a F=>?_
 refine nl (xm0 6 [0,3,5,14] [0,1,2,3,4,5] F H hm rfl rfl (fun r5 z=>(45,.bool (r5))::z) (fun r5 z=>z) (fun r5 hm=>?_) (fun r5 a w hm F H=>?_))
 refine cPm F rfl hm (fun hg4 hm=>?_) (fun hg4 hm=>?_)
 refine sk ?_
 cases hm
 exact ct ⟨F.sl rfl,H⟩
 refine rl (bb [0,0] F H rfl fun a F=>lz ?_)
 cases hm
 exact ct ⟨F.sl rfl,H⟩
 cases hm
 exact ct ⟨F.sl rfl,H⟩
 refine ct (xr0 6 [0,3,5] [0,1,2,3,4,5] F H hm rfl rfl (fun r6 z=>z) (fun r6 z=>z) (fun o2 hm hm2=>?_) (fun r6 a w hm F H=>?_))
 refine cB F rfl (fun hg5=>?_) (fun hg5=>?_)
 replace hm:=ifT hg5 hm
 refine sr (bk [0,4999] F H rfl ⟨rfl,(bY rX rfl),trivial⟩ fun a F=>?_)
 replace H:=mk_api_Op H x1_.1 x1_.2.1 x1_.2.2.1 x1_.2.2.2.1 x1_.2.2.2.2.1 0 rfl
 obtain ⟨x8,ex8,hm⟩:=ob hm
 refine sd F rfl ent93 (w_rChange ex8 (H.pm 7 [6,0,0,1,2,3,4,5,6] rfl:):) ?_;rintro _ w a ⟨p11,c11,cs3,rfl,H⟩ F
 refine bb [0,0,0] F H rfl fun a F=>aJ wkP F rfl rfl agg47 rfl rfl rfl H 4 rfl (H.rL 1 rfl) rfl (H.rF 1 rfl) fun w H=>?_
 replace H:=H.nf 9 rfl
 refine nl (wr (tr ?_))
 cases hm
 replace hm:=cC hm2
 refine tr ?_
 cases hm
 replace hm:=cC hm1
 refine br (tr ?_)
 cases hm
 replace hm:=cC hm0
 refine tr ?_
 cases hm
 refine cG F rfl rfl (⟨_,rfl,agg47.run_load (H.blk 4 rfl).row (H.rL 1 rfl)⟩) ?_
 exact ⟨_,rfl,p11,c11,cs3,rfl,(H.pm 9 [0,1] rfl:)⟩
 replace hm:=ifF (nT hg5) hm
 refine sb [0,0] F H rfl fun a F=>?_
 refine nl (xr0 6 [0,3,5] [0,1,2,3,4,5] F H hm rfl rfl (fun r7 z=>z) (fun r7 z=>z) (fun o3 hm hm3=>?_) (fun r7 a w hm F H=>?_))
 refine cPm F rfl hm (fun hg6 hm=>?_) (fun hg6 hm=>?_)
 refine sr (bk [0,4999] F H rfl ⟨rfl,(bY rX rfl),trivial⟩ fun a F=>?_)
 replace H:=mk_api_Op H x1_.1 x1_.2.1 x1_.2.2.1 x1_.2.2.2.1 x1_.2.2.2.2.1 0 rfl
 obtain ⟨x9,ex9,hm⟩:=ob hm
 refine sd F rfl ent94 (w_m_triremeref11_rename ex9 (H.pm 7 [6,0,0,1,2,3,4,5,6] rfl:):) ?_;rintro _ w a ⟨p12,c12,cs4,rfl,H⟩ F
 refine bb [0,0,0] F H rfl fun a F=>aJ wkP F rfl rfl agg47 rfl rfl rfl H 4 rfl (H.rL 1 rfl) rfl (H.rF 1 rfl) fun w H=>?_
 replace H:=H.nf 9 rfl
 refine nl (wr (tr ?_))
 cases hm
 replace hm:=cC hm3
 refine tr ?_
 cases hm
 replace hm:=cC hm2
 refine tr ?_
 cases hm
 replace hm:=cC hm1
 refine br (tr ?_)
 cases hm
 replace hm:=cC hm0
 refine tr ?_
 cases hm
 refine cG F rfl rfl (⟨_,rfl,agg47.run_load (H.blk 4 rfl).row (H.rL 1 rfl)⟩) ?_
 exact ⟨_,rfl,p12,c12,cs4,rfl,(H.pm 9 [0,1] rfl:)⟩
 refine sq (sb [0,0] F H rfl fun a F=>?_)
 refine nl (xm0 6 [0,3,5] [0,1,2,3,4,5] F H hm rfl rfl (fun r8 z=>(61,.bool (r8))::z) (fun r8 z=>z) (fun r8 hm=>?_) (fun r8 a w hm F H=>?_))
 refine cPm F rfl hm (fun hg7 hm=>?_) (fun hg7 hm=>?_)
 refine sk ?_
 cases hm
 exact ct ⟨F.sl rfl,H⟩
 refine sb [0,0] F H rfl fun a F=>?_
 refine nl (xm0 6 [0,3,5] [0,1,2,3,4,5] F H hm rfl rfl (fun r9 z=>(61,.bool (r9))::z) (fun r9 z=>z) (fun r9 hm=>?_) (fun r9 a w hm F H=>?_))
 refine cPm F rfl hm (fun hg8 hm=>?_) (fun hg8 hm=>?_)
 refine sk ?_
 cases hm
 exact ct ⟨F.sl rfl,H⟩
 refine rl (bb [0,0] F H rfl fun a F=>lz ?_)
 cases hm
 exact ct ⟨F.sl rfl,H⟩
 cases hm
 exact ct ⟨F.sl rfl,H⟩
 refine ct (cB F rfl (fun hg9=>?_) (fun hg9=>?_))
 replace hm:=ifT hg9 hm
 refine sk ?_
 cases hm
 exact ct ⟨_,rfl,F.sl rfl,H⟩
 replace hm:=ifF (nT hg9) hm
 refine sb [0] F H rfl fun a F=>?_
 obtain ⟨x10,ex10,hm⟩:=ob hm
 refine sd F rfl ent92 (w_m_triremeref11_no ex10 (H.pm 6 [5,0,1,2,3,4,5] rfl:):) ?_;rintro _ w a ⟨p13,c13,cs5,rfl,H⟩ F
 refine bb [0,0,0] F H rfl fun a F=>aJ wkP F rfl rfl agg47 rfl rfl rfl H 3 rfl (H.rL 1 rfl) rfl (H.rF 1 rfl) fun w H=>?_
 replace H:=H.nf 8 rfl
 refine nl (wr (tr ?_))
 cases hm
 replace hm:=cC hm3
 refine tr ?_
 cases hm
 replace hm:=cC hm2
 refine tr ?_
 cases hm
 replace hm:=cC hm1
 refine br (tr ?_)
 cases hm
 replace hm:=cC hm0
 refine tr ?_
 cases hm
 refine cG F rfl rfl (⟨_,rfl,agg47.run_load (H.blk 3 rfl).row (H.rL 1 rfl)⟩) ?_
 exact ⟨_,rfl,p13,c13,cs5,rfl,(H.pm 8 [0,1] rfl:)⟩
 cases hm
 exact ct ⟨_,rfl,F.sl rfl,H⟩
 cases hm
 exact ct ⟨_,rfl,F.sl rfl,H⟩
 refine bn ?_
 cases hm
 exact ct ⟨_,rfl,F.sl rfl,H⟩
 refine ct (sr (bk [0,1,4001] F H rfl ⟨fD,rfl,plain9,trivial⟩ fun a F=>?_))
 obtain ⟨x11,ex11,hm⟩:=ob hm
 refine sd F rfl ent95 (w_m_triremeref11_Look ex11 (H.pm 6 [5,0,1,2,3,4,5] rfl:):) ?_;rintro _ w a ⟨rfl,H⟩ F
 refine bb (List.replicate 5 0) F H rfl fun a F=>?_
 replace H:=H.nf 6 rfl
 refine nl (sq (sb [0,0] F H rfl fun a F=>?_))
 refine nl (cNm F rfl hm (fun hg10 hm=>?_) (fun hg10 hm=>?_))
 refine sb [0,0] F H rfl fun a F=>?_
 obtain ⟨x12,ex12,hm⟩:=ob hm
 refine sd F rfl ent92 (w_m_triremeref11_no ex12 (H.pm 6 [5,0,1,2,3,4,5] rfl:):) ?_;rintro _ w a ⟨p14,c14,cs6,rfl,H⟩ F
 refine bb [0,0,0] F H rfl fun a F=>aJ wkP F rfl rfl agg47 rfl rfl rfl H 3 rfl (H.rL 1 rfl) rfl (H.rF 1 rfl) fun w H=>?_
 replace H:=H.nf 8 rfl
 refine nl (wr (tr ?_))
 cases hm
 refine cG F rfl rfl (⟨_,rfl,agg47.run_load (H.blk 3 rfl).row (H.rL 1 rfl)⟩) ?_
 exact ⟨_,rfl,p14,c14,cs6,rfl,(H.pm 8 [0,1] rfl:)⟩
 refine sk (ct (sq ?_))
 refine xm4 6 [0,3,5,7] [0,1,2,3,4,5] F H hm rfl rfl (fun r10 (b7:Nat) (cs7:List Value) (p15:Option Addr) (c15:Nat) z=>(9,.pointer (some ⟨b7,0,none⟩))::(10,.slice p15 (r10.2).length c15)::z) (fun r10 b7 cs7 p15 c15 z=>HP.blk b7 (cs7) 128::HP.rc R_triremeref11_Node cs7 r10.1::HP.sl rStr p15 c15 r10.2::z) (fun r10 hm=>?_) (fun r10 a w hm b7 cs7 p15 c15 F H=>?_)
 obtain ⟨x13,ex13,hm⟩:=ob hm
 obtain ⟨b8,o4,hp0,cs8,H⟩:=H.slE 5 rfl ex13
 refine iK [7,8,9] [] (.step 0 0 (.step 0 1 (.step 0 2 (.step 0 3 (.step 0 4 (.step 0 5 (.step 0 6 (.fork 7 (.step 2 8 (.step 2 9 (.step 0 10 .done))) 8 (.step 2 7 (.step 2 9 (.step 0 10 .done))))))))))) (fun u=>∃ ls,St w0 u (HP.row b8 (o4+(x11.1:Int).toNat*3) cs8::HP.rc R_triremeref11_Node cs8 x13::HP.blk b0 ([.int .i64 (x1_.1),.string (txb (x1_.2.1)),.string (txb (x1_.2.2.1)),.int .i64 (x1_.2.2.2.1),.int .i64 (x1_.2.2.2.2.1),.slice p2 (x1_.2.2.2.2.2).length c2]) 32::ls)) (by kernel_rfl) (by kernel_rfl) ⟨_,(H.drew.pm 8 [0,1,6,0,1,2,3,4,5,7] rfl:)⟩ ?_
 replace H:=H.drew
 generalize w.drew=w at H ⊢
 refine mb [0,0] F H rfl fun a F=>?_
 refine bH F rfl rfl rfl rfl (fun u hu=>dW F elem40 rfl rfl rfl hp0 ex13) fun a F=>?_
 refine bH F rfl rfl rfl rfl (fun u hu=>dJ F eZ rfl rfl (hu.choose_spec.rowAt 0 rfl) (hu.choose_spec.rL 1 rfl)) fun a F=>?_
 refine mbk [0,1] F H rfl ⟨fD,trivial⟩ fun a F=>?_
 refine bH F rfl rfl rfl rfl (fun u hu=>bS F plain9 rfl rfl (eM (v:=.string (txb (x1_.2.1))) ((hu.choose_spec.blk 2 rfl).row) rfl)) fun a F=>?_
 refine eE rfl rfl rfl rfl ?_ ?_
 refine aE rfl rfl ?_
 obtain ⟨x14,ex14,hm⟩:=ob hm
 refine sd F rfl ent96 (w_m_triremeref11_Below ex14 (H.pm 8 [7,0,1,2,3,4,5,6,7] rfl:):) ?_;rintro _ w a ⟨p16,c16,rfl,H⟩ F
 refine lz ?_;refine ct ⟨⟨_,(H.pm 9 [1,2,7,0,1,2,3,4,5,6,8] rfl:)⟩,?_⟩
 refine aE rfl rfl ?_
 replace H:=H.oN rByte 5
 refine bE wkP F rfl rfl rfl sY rfl H fun b9 w a H F=>?_
 refine lz ?_;refine ct ⟨⟨_,(H.pm 11 [3,4,9,0,1,2,3,4,5,6,7,8,10] rfl:)⟩,?_⟩
 refine aE rfl rfl (aJ wkP F rfl rfl eZ rfl rfl rfl H 0 rfl (H.rL 4 rfl) rfl (H.rF 4 rfl) fun w H=>?_)
 refine lz ?_;refine ct ⟨⟨_,(H.pm 11 [3,4,9,0,1,2,3,4,5,6,7,8,10] rfl:)⟩,?_⟩
 refine mb [0] F H rfl fun a F=>bR ?_
 cases hm
 exact ct ⟨b9,cs8,p16,c16,F.sl rfl,(H.pm 11 [0,4,2,5,6,7,8,9,10] rfl:)⟩
 refine aE rfl rfl ?_
 replace H:=H.oN rByte 5
 refine bE wkP F rfl rfl rfl sY rfl H fun b10 w a H F=>?_
 refine lz ?_;refine ct ⟨⟨_,(H.pm 10 [2,3,8,0,1,2,3,4,5,6,7,9] rfl:)⟩,?_⟩
 refine aE rfl rfl ?_
 obtain ⟨x15,ex15,hm⟩:=ob hm
 refine sd F rfl ent96 (w_m_triremeref11_Below ex15 (H.pm 10 [9,0,1,2,3,4,5,6,7,8,9] rfl:):) ?_;rintro _ w a ⟨p17,c17,rfl,H⟩ F
 refine lz ?_;refine ct ⟨⟨_,(H.pm 11 [3,4,9,0,1,2,3,4,5,6,7,8,10] rfl:)⟩,?_⟩
 refine aE rfl rfl (aJ wkP F rfl rfl eZ rfl rfl rfl H 1 rfl (H.rL 4 rfl) rfl (H.rF 4 rfl) fun w H=>?_)
 refine lz ?_;refine ct ⟨⟨_,(H.pm 11 [3,4,9,0,1,2,3,4,5,6,7,8,10] rfl:)⟩,?_⟩
 refine mb [0] F H rfl fun a F=>bR ?_
 cases hm
 exact ct ⟨b10,cs8,p17,c17,F.sl rfl,(H.pm 11 [1,4,0,5,6,7,8,9,10] rfl:)⟩
 refine ct (sq (sr (bk [0,7000,0] F H rfl ⟨eS,rfl,plain3,trivial⟩ fun a F=>?_)))
 refine nl (cPm F rfl hm (fun hg11 hm=>?_) (fun hg11 hm=>?_))
 refine sq (sr (bk [1] F H rfl ⟨mX,trivial⟩ fun a F=>?_))
 have G:=F;replace H:=rc_triremeref11_Node (H.pk 1 rfl);obtain ⟨p18,c18,rfl,J⟩:=H;have H:=J;have F:=G;clear G J
 refine bk [1001] F H rfl ⟨rfl,plain4,trivial⟩ fun a F=>?_
 refine nl (cB F rfl (fun hg12=>?_) (fun hg12=>?_))
 replace hm:=ifT hg12 hm
 refine sb [0] F H rfl fun a F=>?_
 obtain ⟨x16,ex16,hm⟩:=ob hm
 refine dU wkP F rfl rfl rfl elem30 zero5 rfl rfl rfl rfl (by simp [Value.cells]) (by decide) H fun b11 w a H F=>?_
 replace H:=H.bO (R:=rByte) (x:=x16) (fun gg=>(congrArg (fun z=>[Value.int .u8 z]) (cP ex16).symm))
 refine qN wkP F rfl rfl rfl u30 u5 rfl rfl H 0 rfl fun w a H F=>?_
 refine bk [0,0] F H rfl ⟨⟨_,u45⟩,trivial⟩ fun a F=>?_
 replace H:=H.oN rStr 9
 refine sv F rfl (bU F rfl rfl (cs:=[.int .i64 (0),.int .i64 (((r10.2).length:Int)),.slice (some ⟨b11,0,none⟩) ([x16]).length (([x16]).length),.slice none (([]:List (List UInt8))).length 0]) (by kernel_rfl)) fun a F=>bb [0] F H rfl fun a F=>aJ wkP F rfl rfl agg47 rfl rfl rfl H 6 rfl rfl rfl (fl rfl) fun w H=>?_
 replace H:=H.nf 11 rfl
 refine nl (wr (tr (tr ?_)))
 replace H:=H.frz 0 rfl
 replace H:=mk_api_Answer H 0 ((r10.2).length:Int) 1 rfl 0 rfl
 cases hm
 refine cG F rfl rfl (⟨_,rfl,agg47.run_load (H.blk 7 rfl).row rfl⟩) ?_
 exact ⟨_,rfl,p0,c0,[.int .i64 (0),.int .i64 (((r10.2).length:Int)),.slice (some ⟨b11,0,none⟩) ([x16]).length (([x16]).length),.slice none (([]:List (List UInt8))).length 0],rfl,(H.pm 12 [11,0] rfl:)⟩
 replace hm:=ifF (nT hg12) hm
 refine sk (ct (sq (eT [1,2,8] [8] (scL [0,3,4,5,7,2001,2002,6,3008]) [1] H rfl rfl (by kernel_rfl) (by kernel_rfl) fun w H=>mbk [0,2] F H rfl ⟨gS,trivial⟩ fun a F=>?_)))
 refine bH F rfl rfl rfl rfl (fun u hu=>bS F plain30 rfl rfl (eM (v:=.slice p18 (r10.1.2.2).length c18) ((hu.choose_spec.blk 0 rfl).row) rfl)) fun a F=>?_
 refine mbk [0,0] F H rfl ⟨⟨_,u30⟩,trivial⟩ fun a F=>aE rfl rfl ?_
 obtain ⟨x17,ex17,hm⟩:=ob hm
 refine dU wkP F rfl rfl rfl elem30 zero5 rfl rfl rfl rfl (by simp [Value.cells]) (by decide) H fun b12 w a H F=>?_
 replace H:=H.bO (R:=rByte) (x:=x17) (fun gg=>(congrArg (fun z=>[Value.int .u8 z]) (cP ex17).symm))
 refine lz ?_;refine ct ⟨⟨_,(H.pm 10 [2,0,1,3,4,5,6,7,8,9] rfl:)⟩,?_⟩
 refine aE rfl rfl ?_
 refine qN wkP F rfl rfl rfl u30 u5 rfl rfl H 0 rfl fun w a H F=>?_
 refine lz ?_;refine ct ⟨⟨_,(H.pm 10 [2,0,1,3,4,5,6,7,8,9] rfl:)⟩,?_⟩
 replace H:=H.oN rStr 9
 refine bH F rfl rfl rfl rfl (fun u hu=>bU F rfl rfl (cs:=[.int .i64 (0),.int .i64 (((r10.1.2.2).length:Int)),.slice (some ⟨b12,0,none⟩) ([x17]).length (([x17]).length),.slice none (([]:List (List UInt8))).length 0]) (by kernel_rfl)) fun a F=>?_
 refine dF rfl rfl (aJ wkP F rfl rfl agg47 rfl rfl rfl H 6 rfl rfl rfl (fl rfl) fun w H=>?_)
 refine lz ?_;refine ct ?_
 refine bR (ct (wr (tr ?_)))
 replace H:=H.frz 0 rfl
 replace H:=mk_api_Answer H 0 ((r10.1.2.2).length:Int) 1 rfl 0 rfl
 cases hm
 refine cG F rfl rfl (⟨_,rfl,agg47.run_load (H.blk 7 rfl).row rfl⟩) ?_
 exact ⟨_,rfl,p0,c0,[.int .i64 (0),.int .i64 (((r10.1.2.2).length:Int)),.slice (some ⟨b12,0,none⟩) ([x17]).length (([x17]).length),.slice none (([]:List (List UInt8))).length 0],rfl,(H.pm 12 [11,0] rfl:)⟩
 refine sk (ct (sq (sr (bk [0,7000,0] F H rfl ⟨eS,rfl,plain3,trivial⟩ fun a F=>?_))))
 refine nl (cPm F rfl hm (fun hg13 hm=>?_) (fun hg13 hm=>?_))
 refine sq (sr (bk [1] F H rfl ⟨mX,trivial⟩ fun a F=>?_))
 have G:=F;replace H:=rc_triremeref11_Node (H.pk 1 rfl);obtain ⟨p19,c19,rfl,J⟩:=H;have H:=J;have F:=G;clear G J
 refine bk [1001,0] F H rfl ⟨rfl,plain4,trivial⟩ fun a F=>?_
 refine nl (cB F rfl (fun hg14=>?_) (fun hg14=>?_))
 replace hm:=ifT hg14 hm
 refine sb [0] F H rfl fun a F=>?_
 obtain ⟨x18,ex18,hm⟩:=ob hm
 refine sd F rfl ent92 (w_m_triremeref11_no ex18 (H.pm 9 [8,0,1,2,3,4,5,6,7,8] rfl:):) ?_;rintro _ w a ⟨p20,c20,cs9,rfl,H⟩ F
 refine bb [0,0,0] F H rfl fun a F=>aJ wkP F rfl rfl agg47 rfl rfl rfl H 6 rfl (H.rL 1 rfl) rfl (H.rF 1 rfl) fun w H=>?_
 replace H:=H.nf 11 rfl
 refine nl (wr (tr (tr ?_)))
 cases hm
 refine cG F rfl rfl (⟨_,rfl,agg47.run_load (H.blk 6 rfl).row (H.rL 1 rfl)⟩) ?_
 exact ⟨_,rfl,p20,c20,cs9,rfl,(H.pm 11 [0,1] rfl:)⟩
 replace hm:=ifF (nT hg14) hm
 refine sk (ct (sr (bk [0,0] F H rfl ⟨⟨_,u45⟩,trivial⟩ fun a F=>?_)))
 replace H:=H.oN rByte 5
 replace H:=H.oN rStr 9
 refine sv F rfl (bU F rfl rfl (cs:=[.int .i64 (0),.int .i64 (((r10.2).length:Int)),.slice none (([]:List UInt8)).length 0,.slice none (([]:List (List UInt8))).length 0]) (by kernel_rfl)) fun a F=>?_
 replace H:=H.oN rByte 5
 replace H:=H.oN rStr 9
 refine bE wkP F rfl rfl rfl dA rfl H fun b13 w a H F=>aJ wkP F rfl rfl agg47 rfl rfl rfl H 0 rfl rfl rfl (fl rfl) fun w H=>?_
 replace H:=H.nf 14 rfl
 refine nl (sq (sb [0] F H rfl fun a F=>?_))
 refine nl (xm2 14 [0,5,11] [1,2,4,5,6,8,9,10,11,12,13] F H hm rfl rfl (fun r11 (p21:Option Addr) (c21:Nat) z=>z) (fun r11 p21 c21 z=>HP.blk b13 ([.int .i64 (0),.int .i64 (((r10.2).length:Int)),.slice none (([]:List UInt8)).length 0,.slice p21 (r11).length c21]) 47::HP.ow rStr 9 p21 c21 r11::z) (fun r11 hm=>?_) (fun r11 a w hm p21 c21 F H=>?_))
 refine bl ?_
 refine xl2 14 [0,3,5,10,11] [1,2,4,5,6,7,8,9,10,11,12,13] F H hm rfl rfl (fun (s0:(List (List UInt8))×Int) (p22:Option Addr) (c22:Nat) z=>(12,.int .i64 (s0.2))::z) (fun s0 p22 c22 z=>HP.blk b13 ([.int .i64 (0),.int .i64 (((r10.2).length:Int)),.slice none (([]:List UInt8)).length 0,.slice p22 (s0.1).length c22]) 47::HP.ow rStr 9 p22 c22 s0.1::z) ⟨none,0,F.sl rfl,(H.pm 14 [0,3,1,2,4,5,6,7,8,9,10,11,12,13] rfl:)⟩ (fun s0 a w o p22 c22 F H hm=>?_)
 refine sq (sr (bk [0,0,0,0] F H rfl ⟨⟨_,u45⟩,trivial⟩ fun a F=>?_))
 refine nl (cPm F rfl hm (fun hg15 hm=>?_) (fun hg15 hm=>?_))
 refine sk (ct (sq ?_))
 refine xm2 14 [0,3,5,10,11,12] [2,3,4,5,6,7,8,9,10,11,12,13] F H hm rfl rfl (fun r12 (p23:Option Addr) (c23:Nat) z=>z) (fun r12 p23 c23 z=>HP.blk b13 ([.int .i64 (0),.int .i64 (((r10.2).length:Int)),.slice none (([]:List UInt8)).length 0,.slice p23 (r12).length c23]) 47::HP.ow rStr 9 p23 c23 r12::z) (fun r12 hm=>?_) (fun r12 a w hm p23 c23 F H=>?_)
 refine bl (sq ?_)
 obtain ⟨x19,ex19,hm⟩:=ob hm
 obtain ⟨b14,o5,hp1,cs10,H⟩:=H.slE 7 rfl ex19
 obtain rfl:=H.rS 1 rfl
 replace H:=H.dp 1 rfl
 by_cases hg16:(eY x19 x1_.2.2.1)=true
 replace hm:=ifT hg16 hm
 refine qr H (by kernel_rfl) (by kernel_rfl) ?_
 refine qb [0,0] F rfl fun a F=>qv F rfl (fun u hu=>dW F elem45 rfl rfl rfl hp1 ex19) fun a F=>qbk [0,2,13002] F rfl ⟨rfl,plain9,tU,rfl,plain9,trivial⟩ fun a F=>qv F rfl (fun u hu=>uS (l:=x19) (m:=x1_.2.2.1) F rfl rfl rfl) fun a F=>qb [0] F rfl fun a F=>?_
 replace F:=F.vT 131 hg16 rfl
 refine qbk [3,1003,0,0,0] F rfl ⟨lX,rfl,plain45,⟨_,u45⟩,trivial⟩ fun a F=>?_
 refine pT fun w H=>?_
 refine ct (xm2 15 [0,3,5,10,11,12] [0,3,4,5,6,7,8,9,10,11,12,13,14] F H hm rfl rfl (fun r13 (p24:Option Addr) (c24:Nat) z=>z) (fun r13 p24 c24 z=>HP.blk b13 ([.int .i64 (0),.int .i64 (((r10.2).length:Int)),.slice none (([]:List UInt8)).length 0,.slice p24 (r13).length c24]) 47::HP.ow rStr 9 p24 c24 r13::z) (fun r13 hm=>?_) (fun r13 a w hm p24 c24 F H=>?_))
 refine cPm F rfl hm (fun hg17 hm=>?_) (fun hg17 hm=>?_)
 obtain ⟨x20,ex20,hm⟩:=ob hm
 obtain ⟨cs11,H⟩:=H.slF 8 rfl hp1 ex20
 obtain rfl:=H.rS 1 rfl
 replace H:=H.dp 1 rfl
 refine eT [6,7,9] [9] (scL [0,1,2,3,4,1005,2006,2007,8,3009]) [2] H rfl rfl (by kernel_rfl) (by kernel_rfl) fun w H=>?_
 refine mbk [3] F H rfl ⟨lX,trivial⟩ fun a F=>?_
 refine bH F rfl rfl rfl rfl (fun u hu=>bS F plain45 rfl rfl (eM (v:=.slice p22 (s0.1).length c22) ((hu.choose_spec.blk 0 rfl).row) rfl)) fun a F=>?_
 refine mb [0,0] F H rfl fun a F=>?_
 refine bH F rfl rfl rfl rfl (fun u hu=>dW F elem45 rfl rfl rfl hp1 ex20) fun a F=>?_
 refine mbk [0] F H rfl ⟨rfl,plain9,trivial⟩ fun a F=>aE rfl rfl (dU wkP F rfl rfl rfl elem45 zero9 rfl rfl rfl rfl (by simp [Value.cells]) (by decide) H fun b15 w a H F=>?_)
 replace H:=H.bO (R:=rStr) (x:=x20) (fun gg=>rfl)
 refine lz ?_;refine ct ⟨⟨_,(H.pm 17 [3,0,1,2,4,5,6,7,8,9,10,11,12,13,14,15,16] rfl:)⟩,?_⟩
 refine aE rfl rfl ?_
 replace H:=H.frz 0 rfl
 obtain ⟨x21,ex21,hm⟩:=ob hm
 refine cE wkP F rfl rfl rfl rfl rfl rfl elem45 rfl ex21 H 4 0 rfl rfl fun p25 c25 w a H F=>?_
 refine lz ?_;refine ct ⟨⟨_,(H.pm 17 [3,0,1,2,4,5,6,7,8,9,10,11,12,13,14,15,16] rfl:)⟩,?_⟩
 refine mbk [3] F H rfl ⟨lX,trivial⟩ fun a F=>dF rfl rfl (cN wkP F rfl rfl yT rfl rfl rfl rfl rfl H 3 rfl rfl fun w H=>?_)
 refine lz ?_;refine ct ?_
 refine bR ?_
 cases hm
 exact ct ⟨p25,c25,F.sl rfl,(H.pm 17 [3,4,2,5,6,7,8,9,10,11,12,13,14,15,16] rfl:)⟩
 refine sk ?_
 cases hm
 exact ct ⟨p22,c22,F.sl rfl,(H.pm 15 [1,2,0,3,4,5,6,7,8,9,10,11,12,13,14] rfl:)⟩
 refine bn ?_
 cases hm
 exact ct ⟨p24,c24,F.sl rfl,(H.pm 15 [0,1,3,4,5,6,7,8,9,10,11,12,13,14] rfl:)⟩
 replace hm:=ifF hg16 hm
 refine qr H (by kernel_rfl) (by kernel_rfl) ?_
 refine qb [0,0] F rfl fun a F=>qv F rfl (fun u hu=>dW F elem45 rfl rfl rfl hp1 ex19) fun a F=>qbk [0,2,13002] F rfl ⟨rfl,plain9,tU,rfl,plain9,trivial⟩ fun a F=>qv F rfl (fun u hu=>uS (l:=x19) (m:=x1_.2.2.1) F rfl rfl rfl) fun a F=>qb [0] F rfl fun a F=>?_
 replace F:=F.vF 131 hg16 rfl
 refine qb (List.replicate 5 0) F rfl fun a F=>?_
 refine pT fun w H=>?_
 refine ct (cF F rfl (sk (bn ?_)))
 cases hm
 exact ct ⟨p22,c22,F.sl rfl,(H.pm 15 [1,2,3,4,5,6,7,8,9,10,11,12,13,14] rfl:)⟩
 refine ct (rl (bb [0,0,0] F H rfl fun a F=>?_))
 refine lz (ct ?_);cases hm
 exact ⟨_,rfl,⟨p23,c23,F.sl rfl,H⟩⟩
 refine ex (cx (cx ?_));cases hm;refine ⟨_,rfl,?_⟩;rintro rfl
 refine ch (ct ?_)
 exact ⟨p22,c22,F.sl rfl,(H.pm 14 [0,1,2,3,4,5,6,8,9,10,11,12,13] rfl:)⟩
 refine ct (sq (eT [3] [3] (scL [0,1001,2,3003]) [] H rfl rfl (by kernel_rfl) (by kernel_rfl) fun w H=>mbk [0,999,0] F H rfl ⟨rfl,(bY agg47 rfl),trivial⟩ fun a F=>dF rfl rfl (aJ wkP F rfl rfl agg47 rfl rfl rfl H 8 rfl rfl rfl (fl rfl) fun w H=>?_)))
 refine lz ?_;refine ct ?_
 refine bR (ct (wr (tr ?_)))
 replace H:=H.frz 4 rfl
 replace H:=H.frz 2 rfl
 replace H:=mk_api_Answer H 0 ((r10.2).length:Int) 1 rfl 0 rfl
 cases hm
 refine cG F rfl rfl (⟨_,rfl,agg47.run_load (H.blk 9 rfl).row rfl⟩) ?_
 exact ⟨_,rfl,p0,c0,[.int .i64 (0),.int .i64 (((r10.2).length:Int)),.slice none (([]:List UInt8)).length 0,.slice p21 (r11).length c21],rfl,(H.pm 14 [13,0] rfl:)⟩
 refine sk (ct (sq (sr (bk [1,7001] F H rfl ⟨fD,rfl,plain9,trivial⟩ fun a F=>sv F rfl (rA (l:=x1_.2.1) (m:=[47]) F rfl rfl rfl) fun a F=>?_))))
 refine nl (cPm F rfl hm (fun hg18 hm=>?_) (fun hg18 hm=>?_))
 refine sb [0] F H rfl fun a F=>?_
 obtain ⟨x22,ex22,hm⟩:=ob hm
 refine sd F rfl ent92 (w_m_triremeref11_no ex22 (H.pm 9 [8,0,1,2,3,4,5,6,7,8] rfl:):) ?_;rintro _ w a ⟨p26,c26,cs12,rfl,H⟩ F
 refine bb [0,0,0] F H rfl fun a F=>aJ wkP F rfl rfl agg47 rfl rfl rfl H 6 rfl (H.rL 1 rfl) rfl (H.rF 1 rfl) fun w H=>?_
 replace H:=H.nf 11 rfl
 refine nl (wr (tr ?_))
 cases hm
 refine cG F rfl rfl (⟨_,rfl,agg47.run_load (H.blk 6 rfl).row (H.rL 1 rfl)⟩) ?_
 exact ⟨_,rfl,p26,c26,cs12,rfl,(H.pm 11 [0,1] rfl:)⟩
 refine sk (ct (sq (sr (bk [0,0,0] F H rfl ⟨⟨_,u45⟩,trivial⟩ fun a F=>?_))))
 refine nl (cPm F rfl hm (fun hg19 hm=>?_) (fun hg19 hm=>?_))
 refine sb [0] F H rfl fun a F=>?_
 obtain ⟨x23,ex23,hm⟩:=ob hm
 refine sd F rfl ent92 (w_m_triremeref11_no ex23 (H.pm 9 [8,0,1,2,3,4,5,6,7,8] rfl:):) ?_;rintro _ w a ⟨p27,c27,cs13,rfl,H⟩ F
 refine bb [0,0,0] F H rfl fun a F=>aJ wkP F rfl rfl agg47 rfl rfl rfl H 6 rfl (H.rL 1 rfl) rfl (H.rF 1 rfl) fun w H=>?_
 replace H:=H.nf 11 rfl
 refine nl (wr (tr ?_))
 cases hm
 refine cG F rfl rfl (⟨_,rfl,agg47.run_load (H.blk 6 rfl).row (H.rL 1 rfl)⟩) ?_
 exact ⟨_,rfl,p27,c27,cs13,rfl,(H.pm 11 [0,1] rfl:)⟩
 refine sk (ct (sq ?_))
 obtain ⟨x24,ex24,hm⟩:=ob hm
 have hc833:=H.slCap 8 rfl
 replace H:=H.slSubN 3 rfl 8 rfl ex24
 obtain ⟨x25,ex25,hm⟩:=ob hm
 have hc835:=H.slCap 9 rfl
 replace H:=H.slSubN 3 rfl 9 rfl ex25
 replace H:=H.oN rByte 5
 replace H:=H.oN rStr 9
 refine eT [0,4,9,12] [12] (scL [1,2,3,5,6,7,8,10,2000,2004,2009,11,3012]) [] H rfl rfl (by kernel_rfl) (by kernel_rfl) fun w H=>?_
 refine mb [0,0] F H rfl fun a F=>?_
 refine bH F rfl rfl rfl rfl (fun u hu=>nI F elem40 rfl rfl rfl ex24 hc833) fun a F=>?_
 refine mb [0,0,0] F H rfl fun a F=>?_
 refine bH F rfl rfl rfl rfl (fun u hu=>iS F elem40 rfl rfl rfl ex25 hc835) fun a F=>?_
 refine bH F rfl rfl rfl rfl (fun u hu=>bU F rfl rfl (cs:=[.int .i64 (0),.int .i64 (0),.slice none (([]:List UInt8)).length 0,.slice none (([]:List (List UInt8))).length 0]) (by kernel_rfl)) fun a F=>?_
 refine aE rfl rfl (jI (R:=R_triremeref11_Node) wkP F rfl rfl rfl elem40 rfl H fun b16 w a H F=>?_)
 refine lz ?_;refine ct ⟨⟨_,H⟩,?_⟩
 refine aE rfl rfl ?_
 obtain ⟨x26,ex26,hm⟩:=ob hm
 refine cE wkP F rfl rfl rfl rfl rfl rfl elem40 rfl ex26 H 0 4 rfl rfl fun p28 c28 w a H F=>?_
 refine lz ?_;refine ct ⟨⟨_,H⟩,?_⟩
 refine aE rfl rfl ?_
 obtain ⟨x27,ex27,hm⟩:=ob hm
 refine cE wkP F rfl rfl rfl rfl rfl rfl elem40 rfl ex27 H 0 3 rfl rfl fun p29 c29 w a H F=>?_
 refine lz ?_;refine ct ⟨⟨_,H⟩,?_⟩
 refine mb [0] F H rfl fun a F=>dF rfl rfl (aJ wkP F rfl rfl agg47 rfl rfl rfl H 9 rfl rfl rfl (fl rfl) fun w H=>?_)
 refine lz ?_;refine ct ?_
 refine bR (ct (wr ?_))
 replace H:=H.frz 0 rfl
 replace H:=H.frz 2 rfl
 replace H:=H.frz 2 rfl
 replace H:=mk_api_Answer H 0 0 1 rfl 0 rfl
 cases hm
 refine cG F rfl rfl (⟨_,rfl,agg47.run_load (H.blk 10 rfl).row rfl⟩) ?_
 exact ⟨_,rfl,p29,c29,[.int .i64 (0),.int .i64 (0),.slice none (([]:List UInt8)).length 0,.slice none (([]:List (List UInt8))).length 0],rfl,(H.pm 15 [3,0] rfl:)⟩
instance:Ctr Tryz.prog 61 0 (type_of% @w_m_triremeref11_Do):=⟨enters Tryz.func61 (by kernel_rfl) rfl,@w_m_triremeref11_Do⟩
set_option maxRecDepth 100000
set_option maxHeartbeats 4000000
theorem aOd:aM Tryz.prog 43 0 0:=by unfold aM;rw [Tryz.underlying43];kernel_rfl
instance:FldC Tryz.prog 43 0 0:=⟨aOd⟩
theorem plain40:Plain Tryz.prog 40:=by unfold Plain;rw [Tryz.underlying40];rfl
instance:PlnC Tryz.prog 40:=⟨plain40⟩
theorem aKy:aM Tryz.prog 43 1 1:=by unfold aM;rw [Tryz.underlying43];kernel_rfl
instance:FldC Tryz.prog 43 1 1:=⟨aKy⟩
theorem aJy:Plain Tryz.prog 41:=by unfold Plain;rw [Tryz.underlying41];rfl
instance:PlnC Tryz.prog 41:=⟨aJy⟩
theorem aJh:ElemT Tryz.prog 41 96 3 48 (.agg [.string ByteArray.empty,.int .u64 0,.slice none 0 0].toArray):=⟨Tryz.underlying41,by kernel_rfl,by kernel_rfl,by decide⟩
instance:ElmC Tryz.prog 41 96 3 48 (.agg [.string ByteArray.empty,.int .u64 0,.slice none 0 0].toArray):=⟨aJh⟩
theorem aId:aM Tryz.prog 96 2 2:=by unfold aM;rw [Tryz.underlying96];kernel_rfl
instance:FldC Tryz.prog 96 2 2:=⟨aId⟩
theorem w_rUnits {s:T_triremeref12_State} {cs0:List Value} {r:Int} (hm:rUnits s=some r) (H:St w0 w (HP.rc R_triremeref12_State cs0 s::l)) :
  Calls Tryz.prog 40 [.agg cs0.toArray].toArray w (fun e w'=>∃ v,e=.returned v/\v=.int .i64 (r)/\St w0 w' (l)):=by
 unfold rUnits at hm
 have h0:LH0 3 [1] [] (fun (s0:Int×Int) z=>(3,.int .i64 (s0.1))::(4,.int .i64 (s0.2))::z) (fun s0 z=>z):=⟨trivial⟩
 exact au Tryz.func40
instance:Ctr Tryz.prog 40 0 (type_of% @w_rUnits):=⟨enters Tryz.func40 (by kernel_rfl) rfl,@w_rUnits⟩
theorem agg96:AggT Tryz.prog 96 3 [.string ByteArray.empty,.int .u64 0,.slice none 0 0]:=⟨by rw [Tryz.underlying96];rfl,by kernel_rfl,by kernel_rfl⟩
instance:AggC Tryz.prog 96 3 [.string ByteArray.empty,.int .u64 0,.slice none 0 0]:=⟨agg96⟩
theorem aP4:aM Tryz.prog 96 0 0:=by unfold aM;rw [Tryz.underlying96];kernel_rfl
instance:FldC Tryz.prog 96 0 0:=⟨aP4⟩
theorem aNp:aM Tryz.prog 96 1 1:=by unfold aM;rw [Tryz.underlying96];kernel_rfl
instance:FldC Tryz.prog 96 1 1:=⟨aNp⟩
theorem w_rWriteS {s:T_triremeref12_State} {cs0:List Value} {r:T_api_State} (hm:rWriteS s=some r) (H:St w0 w (HP.rc R_triremeref12_State cs0 s::l)) :
  Calls Tryz.prog 34 [.agg cs0.toArray].toArray w (fun e w'=>∃ v,e=.returned v/\∃ (cs1:List Value),v=.agg cs1.toArray/\St w0 w' (HP.rc R_api_State cs1 r::l)):=by
 unfold rWriteS at hm
 have h0:∀ (b0:Nat),LH0 3 [1,2,3] [(3,b0)] (fun (s0:bX×Int) z=>(4,.int .i64 (s0.2))::z) (fun s0 z=>jW b0 s0.1::z):=fun _=>⟨trivial⟩
 have h1:MH 6 [8,10,11,13] [13] (scP [(0,0),(0,1),(0,2),(0,3),(0,4),(0,5),(0,6),(1,7),(2,8),(0,9),(2,10),(2,11),(0,12),(3,13)]) [3,5]:=⟨trivial⟩
 exact au Tryz.func34
instance:Ctr Tryz.prog 34 0 (type_of% @w_rWriteS):=⟨enters Tryz.func34 (by kernel_rfl) rfl,@w_rWriteS⟩
theorem w_rFindS {s:T_triremeref12_State} {name:List UInt8} {cs0:List Value} {r:Int} (hm:rFindS s name=some r) (H:St w0 w (HP.rc R_triremeref12_State cs0 s::l)) :
  Calls Tryz.prog 90 [.agg cs0.toArray,.string (txb (name))].toArray w (fun e w'=>∃ v,e=.returned v/\v=.int .i64 (r)/\St w0 w' (l)):=by
 unfold rFindS at hm
 have h0:∀ (b0:Nat),LH1 2 [1,2] [(2,b0)] (fun (s0:T_triremeref12_State×Int) (cs1:List Value) z=>(5,.int .i64 (s0.2))::z) (fun s0 cs1 z=>HP.blk b0 (cs1) 43::HP.rc R_triremeref12_State cs1 s0.1::z):=fun _=>⟨trivial⟩
 exact au Tryz.func90
instance:Ctr Tryz.prog 90 0 (type_of% @w_rFindS):=⟨enters Tryz.func90 (by kernel_rfl) rfl,@w_rFindS⟩
theorem zE:AggT Tryz.prog 43 2 ([.slice none (([]:List T_triremeref11_Node)).length 0,.slice none (([]:List T_triremeref12_Snap)).length 0]):=⟨by rw [Tryz.underlying43];rfl,by kernel_rfl,by kernel_rfl⟩
theorem jM:AggT Tryz.prog 43 2 [.slice none 0 0,.slice none 0 0]:=⟨by rw [Tryz.underlying43];rfl,by kernel_rfl,by kernel_rfl⟩
instance:AggC Tryz.prog 43 2 [.slice none 0 0,.slice none 0 0]:=⟨jM⟩
theorem aPa:Zero1 Tryz.prog 41 (.slice none 0 0):=⟨by kernel_rfl,rfl⟩
instance:ZerC Tryz.prog 41 (.slice none 0 0):=⟨aPa⟩
theorem aLu:Zero1 Tryz.prog 40 (.slice none 0 0):=⟨by kernel_rfl,rfl⟩
instance:ZerC Tryz.prog 40 (.slice none 0 0):=⟨aLu⟩
theorem w_rSnap {s:T_triremeref12_State} {oq:T_api_Op} {gen:Int} {cs0:List Value} {cs1:List Value} {r:T_triremeref12_State×Int} (hm:rSnap s oq gen=some r) (H:St w0 w (HP.rc R_triremeref12_State cs0 s::HP.rc R_api_Op cs1 oq::l)) :
  Calls Tryz.prog 60 [.agg cs0.toArray,.agg cs1.toArray,.int .u64 (gen)].toArray w (fun e w'=>∃ v,e=.returned v/\∃ (cs2:List Value),v=.tuple [.agg cs2.toArray,.int .i64 (r.2)].toArray/\St w0 w' (HP.rc R_triremeref12_State cs2 r.1::l)):=by
 unfold rSnap at hm
 have h0:MH 4 [2,5,7,8] [8] (.step 0 0 (.step 0 1 (.step 0 3 (.step 0 4 (.fork 2 (.fork 5 (.step 0 6 (.step 2 7 (.step 3 8 .done))) 7 (.step 2 5 (.step 0 6 (.step 3 8 .done)))) 7 (.step 2 2 (.step 2 5 (.step 0 6 (.step 3 8 .done))))))))) [3]:=⟨trivial⟩
 have h1:∀ (b0:Nat),LH0 10 [6,9] [(9,b0)] (fun (s0:T_triremeref12_State_o×Int) z=>(10,.int .i64 (s0.2))::z) (fun s0 z=>O_triremeref12_State b0 s0.1::z):=fun _=>⟨trivial⟩
 have h2:MH 13 [10] [10] (scP [(0,0),(1,1),(0,2),(0,3),(1,4),(0,5),(0,6),(0,7),(1,8),(0,9),(3,10)]) []:=⟨trivial⟩
 have h3:MH 21 [0,5,11,13] [13] (scP [(0,1),(0,2),(0,3),(0,4),(0,6),(0,7),(0,8),(0,9),(0,10),(2,0),(2,5),(2,11),(0,12),(3,13)]) [3]:=⟨trivial⟩
 exact au Tryz.func60
instance:Ctr Tryz.prog 60 0 (type_of% @w_rSnap):=⟨enters Tryz.func60 (by kernel_rfl) rfl,@w_rSnap⟩
theorem w_rDoS {s:T_triremeref12_State} {oq:T_api_Op} {gen:Int} {cs0:List Value} {cs1:List Value} {r:T_triremeref12_State×T_api_Answer} (hm:rDoS s oq gen=some r) (H:St w0 w (HP.rc R_triremeref12_State cs0 s::HP.rc R_api_Op cs1 oq::l)) :
  Calls Tryz.prog 30 [.agg cs0.toArray,.agg cs1.toArray,.int .u64 (gen)].toArray w (fun e w'=>∃ v,e=.returned v/\∃ (cs2:List Value) (cs3:List Value),v=.tuple [.agg cs2.toArray,.agg cs3.toArray].toArray/\St w0 w' (HP.rc R_triremeref12_State cs2 r.1::HP.rc R_api_Answer cs3 r.2::l)):=by
 unfold rDoS at hm
 have h0:∀ (b0:Nat),LH2 15 [3,4,6,7,8,9] [(9,b0)] (fun (s0:(List (List UInt8))×Int) (p0:Option Addr) (c0:Nat) z=>(12,.int .i64 (s0.2))::z) (fun s0 p0 c0 z=>HP.blk b0 ([.int .i64 (0),.int .i64 (((s.2).length:Int)),.slice none (([]:List UInt8)).length 0,.slice p0 (s0.1).length c0]) 47::HP.ow rStr 9 p0 c0 s0.1::z):=fun _=>⟨trivial⟩
 have h1:MH 18 [8,9,11] [11] (scP [(0,0),(0,1),(0,2),(1,3),(0,4),(0,5),(0,6),(1,7),(2,8),(2,9),(0,10),(3,11)]) [9]:=⟨trivial⟩
 have h2:MH 22 [4,5] [5] (scP [(1,0),(0,1),(0,2),(0,3),(2,4),(3,5)]) [9]:=⟨trivial⟩
 have h3:MH 23 [2,3] [3] (scP [(1,0),(0,1),(2,2),(3,3)]) [9]:=⟨trivial⟩
 exact au Tryz.func30
instance:Ctr Tryz.prog 30 0 (type_of% @w_rDoS):=⟨enters Tryz.func30 (by kernel_rfl) rfl,@w_rDoS⟩
set_option maxRecDepth 100000
set_option maxHeartbeats 4000000
theorem w_rFindO {list:List T_triremeref11_Node} {p:List UInt8} {p0:Option Addr} {c0:Nat} {r:Int} (hm:rFindO list p=some r) (H:St w0 w (HP.ow R_triremeref11_Node 128 p0 c0 list::l)) :
  Calls Tryz.prog 65 [.slice p0 (list).length c0,.string (txb (p))].toArray w (fun e w'=>∃ v,e=.returned v/\v=.int .i64 (r)/\St w0 w' (HP.ow R_triremeref11_Node 128 p0 c0 list::l)):=by
 unfold rFindO at hm
 have h0:LH0 2 [0,1] [] (fun (s0:Int) z=>(5,.int .i64 (s0))::z) (fun s0 z=>z):=⟨trivial⟩
 exact au Tryz.func65
instance:Ctr Tryz.prog 65 0 (type_of% @w_rFindO):=⟨enters Tryz.func65 (by kernel_rfl) rfl,@w_rFindO⟩
theorem aAp {oq:T_api_Op} {cs0:List Value} {r:T_api_Op} (hm:kP oq=some r) (H:St w0 w (HP.rc R_api_Op cs0 oq::l)) :
  Calls Tryz.prog 8 [.agg cs0.toArray].toArray w (fun e w'=>∃ v,e=.returned v/\∃ (cs1:List Value),v=.agg cs1.toArray/\St w0 w' (HP.rc R_api_Op cs1 r::l)):=by
 unfold kP at hm
 exact au Tryz.func8
instance:Ctr Tryz.prog 8 0 (type_of% @aAp):=⟨enters Tryz.func8 (by kernel_rfl) rfl,@aAp⟩
theorem aEo {list:List T_api_Pair} {p0:Option Addr} {c0:Nat} {r:Bool} (hm:oF list=some r) (H:St w0 w (HP.sl R_api_Pair p0 c0 list::l)) :
  Calls Tryz.prog 68 [.slice p0 (list).length c0].toArray w (fun e w'=>∃ v,e=.returned v/\v=.bool (r)/\St w0 w' (l)):=by
 unfold oF at hm
 have h0:LH0 2 [0] [] (fun (s0:Int) z=>(3,.int .i64 (s0))::z) (fun s0 z=>z):=⟨trivial⟩
 exact au Tryz.func68
instance:Ctr Tryz.prog 68 0 (type_of% @aEo):=⟨enters Tryz.func68 (by kernel_rfl) rfl,@aEo⟩
theorem w_rNodes {pairs:List T_api_Pair} {p0:Option Addr} {c0:Nat} {r:(List T_triremeref11_Node)×Bool} (hm:rNodes pairs=some r) (H:St w0 w (HP.sl R_api_Pair p0 c0 pairs::l)) :
  Calls Tryz.prog 38 [.slice p0 (pairs).length c0].toArray w (fun e w'=>∃ v,e=.returned v/\∃ (p1:Option Addr) (c1:Nat),v=.tuple [.slice p1 (r.1).length c1,.bool (r.2)].toArray/\St w0 w' (HP.sl R_triremeref11_Node p1 c1 r.1::l)):=by
 unfold rNodes at hm
 have h0:LH2 3 [0] [] (fun (s0:(List T_triremeref11_Node)×Int) (p2:Option Addr) (c2:Nat) z=>(4,.slice p2 (s0.1).length c2)::(5,.int .i64 (s0.2))::z) (fun s0 p2 c2 z=>HP.ow R_triremeref11_Node 128 p2 c2 s0.1::z):=⟨trivial⟩
 have h1:MH 7 [8,9] [] (scP [(0,0),(0,1),(0,2),(0,3),(0,4),(0,5),(0,6),(0,7),(2,8),(2,9),(0,10)]) []:=⟨trivial⟩
 have h2:LH2 9 [0] [] (fun (s1:(List T_triremeref11_Node)×Int) (p3:Option Addr) (c3:Nat) z=>(4,.slice p3 (s1.1).length c3)::(8,.int .i64 (s1.2))::z) (fun s1 p3 c3 z=>HP.ow R_triremeref11_Node 128 p3 c3 s1.1::z):=⟨trivial⟩
 have h3:MH 16 [2,8,14,17] [17] (scP [(0,0),(0,1),(0,3),(0,4),(0,5),(0,6),(0,7),(0,9),(0,10),(0,11),(0,12),(0,13),(2,2),(2,8),(2,14),(0,15),(0,16),(3,17)]) []:=⟨trivial⟩
 have h4:LH0 18 [0,4] [] (fun (s2:Int) z=>(11,.int .i64 (s2))::z) (fun s2 z=>z):=⟨trivial⟩
 exact au Tryz.func38
instance:Ctr Tryz.prog 38 0 (type_of% @w_rNodes):=⟨enters Tryz.func38 (by kernel_rfl) rfl,@w_rNodes⟩
theorem w_rReadS {s:T_api_State} {cs0:List Value} {r:T_triremeref12_State×Bool} (hm:rReadS s=some r) (H:St w0 w (HP.rc R_api_State cs0 s::l)) :
  Calls Tryz.prog 20 [.agg cs0.toArray].toArray w (fun e w'=>∃ v,e=.returned v/\∃ (cs1:List Value),v=.tuple [.agg cs1.toArray,.bool (r.2)].toArray/\St w0 w' (HP.rc R_triremeref12_State cs1 r.1::l)):=by
 unfold rReadS at hm
 have h0:∀ (b0:Nat),LH0 4 [1,2,6] [(6,b0)] (fun (s0:T_triremeref12_State_o×Bool×Int) z=>(5,.bool (s0.2.1))::(7,.int .i64 (s0.2.2))::z) (fun s0 z=>O_triremeref12_State b0 s0.1::z):=fun _=>⟨trivial⟩
 have h1:MH 10 [4,7] [] (scP [(0,0),(0,1),(0,2),(1,3),(2,4),(0,5),(0,6),(2,7),(0,8)]) [6]:=⟨trivial⟩
 exact au Tryz.func20
instance:Ctr Tryz.prog 20 0 (type_of% @w_rReadS):=⟨enters Tryz.func20 (by kernel_rfl) rfl,@w_rReadS⟩
theorem aBu {s:T_api_State} {cs0:List Value} {r:T_api_State} (hm:nM s=some r) (H:St w0 w (HP.rc R_api_State cs0 s::l)) :
  Calls Tryz.prog 18 [.agg cs0.toArray].toArray w (fun e w'=>∃ v,e=.returned v/\∃ (cs1:List Value),v=.agg cs1.toArray/\St w0 w' (HP.rc R_api_State cs1 r::l)):=by
 unfold nM at hm
 have h0:∀ (b0:Nat),LH0 3 [1,2,3] [(3,b0)] (fun (s0:bX×Int) z=>(4,.int .i64 (s0.2))::z) (fun s0 z=>jW b0 s0.1::z):=fun _=>⟨trivial⟩
 have h1:MH 6 [8,10,11,13] [13] (scP [(0,0),(0,1),(0,2),(0,3),(0,4),(0,5),(0,6),(1,7),(2,8),(0,9),(2,10),(2,11),(0,12),(3,13)]) [3,5]:=⟨trivial⟩
 exact au Tryz.func18
instance:Ctr Tryz.prog 18 0 (type_of% @aBu):=⟨enters Tryz.func18 (by kernel_rfl) rfl,@aBu⟩
end Go.Proofs.YtkcgdaihfblncaaGreatDoor
