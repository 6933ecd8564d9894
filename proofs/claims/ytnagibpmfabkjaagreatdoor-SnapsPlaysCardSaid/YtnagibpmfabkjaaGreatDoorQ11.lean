/- Texts RefS, P. -/
import Derived.Test.YtnagibpmfabkjaaGreatDoorQ10
import Derived.Test.YtnagibpmfabkjaaGreatDoorQ3
set_option linter.unusedSimpArgs false
set_option linter.unusedVariables false
namespace Go.Proofs.YtnagibpmfabkjaaGreatDoor
open Go.RowKit Go.Tri
set_option maxRecDepth 100000
set_option maxHeartbeats 4000000
theorem agz51:AggT Tryz.prog 51 2 ([.slice none (([]:List T_triremeref11_Node)).length 0,.slice none (([]:List T_triremeref12_Snap)).length 0]):=⟨by rw [Tryz.underlying51];rfl,by kernel_rfl,by kernel_rfl⟩
theorem agg51:AggT Tryz.prog 51 2 [.slice none 0 0,.slice none 0 0]:=⟨by rw [Tryz.underlying51];rfl,by kernel_rfl,by kernel_rfl⟩
theorem w_rNewS   {w0 w:World} {l:List HP}  {r:T_triremeref12_State} (hm:rNewS =some r) (H:St w0 w (l)) :
  Calls Tryz.prog 30 [].toArray w (fun e w'=>∃ v,e=.returned v∧∃ (cs1:List Value),v=.agg cs1.toArray∧St w0 w' (HP.rc R_triremeref12_State cs1 r::l)):=by
 unfold rNewS at hm
 refine x_enter Tryz.func30 rfl rfl rfl ?_
 intro a F
 refine sr ?_
 replace H:=H.owNil R_triremeref11_Node 120
 replace H:=H.owNil R_triremeref12_Snap 109
 refine s_allocA wkP F rfl rfl rfl agz51 rfl H fun b2 w a H F=>?_
 replace H:=H.nf 3 rfl
 refine nl (sr ?_)
 replace H:=H.owNil rByte 5
 refine sv F rfl (y_build F rfl rfl (cs:=[.string (txb ([47])),.bool true,.slice none (([]:List UInt8)).length 0]) (by kernel_rfl)) fun a F=>?_
 replace H:=H.frz 0 rfl
 refine s_build1 wkP F rfl rfl rfl agg120 elem48 rfl rfl rfl (by decide) H fun b3 w a H F=>?_
 replace H:=H.blkOw1 (R:=R_triremeref11_Node) (x:=([47],true,([]:List UInt8))) (fun gg=>⟨_,_,rfl,rfl,⟨_,_,rfl,rfl,⟨_,_,rfl,(gg 1 _ rfl).choose_spec⟩⟩⟩)
 replace H:=H.owNil R_triremeref12_Snap 109
 refine sv F rfl (y_build F rfl rfl (cs:=[.slice (some ⟨b3,0,none⟩) ([([47],true,([]:List UInt8))]).length (([([47],true,([]:List UInt8))]).length),.slice none (([]:List T_triremeref12_Snap)).length 0]) (by kernel_rfl)) fun a F=>?_
 refine s_storeA wkP F rfl rfl agg51 rfl rfl rfl H 3 rfl rfl rfl (fl rfl) fun w H=>?_
 replace H:=H.nf 6 rfl
 refine nl (wr ?_)
 replace H:=H.frz 1 rfl
 replace H:=H.frz 1 rfl
 replace H:=H.mkRc (R:=R_triremeref12_State) (cs:=[.slice (some ⟨b3,0,none⟩) ([([47],true,([]:List UInt8))]).length (([([47],true,([]:List UInt8))]).length),.slice none (([]:List T_triremeref12_Snap)).length 0]) (x:=([([47],true,([]:List UInt8))],([]:List T_triremeref12_Snap))) (fun gg=>⟨_,_,rfl,⟨_,_,rfl,(gg 1 _ rfl).choose_spec⟩,⟨_,_,rfl,(gg 0 _ rfl).choose_spec⟩⟩)
 cases hm
 refine x_resC1 F rfl (⟨_,rfl,agg51.run_load (H.blk 4 rfl).row rfl⟩) ?_
 exact ⟨_,rfl,[.slice (some ⟨b3,0,none⟩) ([([47],true,([]:List UInt8))]).length (([([47],true,([]:List UInt8))]).length),.slice none (([]:List T_triremeref12_Snap)).length 0],rfl,(H.pm 7 [0] rfl:)⟩
theorem fld51_0:FieldT Tryz.prog 51 0 0:=by unfold FieldT;rw [Tryz.underlying51];kernel_rfl
theorem plain48:Plain Tryz.prog 48:=by unfold Plain;rw [Tryz.underlying48];rfl
theorem ent57:En Tryz.prog 57:=enters Tryz.func57 (by kernel_rfl) rfl
theorem fld51_1:FieldT Tryz.prog 51 1 1:=by unfold FieldT;rw [Tryz.underlying51];kernel_rfl
theorem plain49:Plain Tryz.prog 49:=by unfold Plain;rw [Tryz.underlying49];rfl
theorem elem49:ElemT Tryz.prog 49 109 3 48 (.agg [.string ByteArray.empty,.int .u64 0,.slice none 0 0].toArray):=⟨Tryz.underlying49,by kernel_rfl,by kernel_rfl,by decide⟩
theorem fld109_2:FieldT Tryz.prog 109 2 2:=by unfold FieldT;rw [Tryz.underlying109];kernel_rfl
theorem w_rUnits {s:T_triremeref12_State} {cs1:List Value} {w0 w:World} {l:List HP}  {r:Int} (hm:rUnits s=some r) (H:St w0 w (HP.rc R_triremeref12_State cs1 s::l)) :
  Calls Tryz.prog 50 [.agg cs1.toArray].toArray w (fun e w'=>∃ v,e=.returned v∧v=.int .i64 (r)∧St w0 w' (l)):=by
 unfold rUnits at hm
 refine x_enter Tryz.func50 rfl rfl rfl ?_
 intro a F
 refine sr (s_boxA wkP F rfl rfl rfl rfl rfl H fun b2 w a H F=>?_)
 refine bb [0] F H rfl fun a F=>?_
 replace H:=H.nf 2 rfl
 refine nl (sr (bk [0] F H rfl ⟨fld51_0,trivial⟩ fun a F=>?_))
 have G:=F;replace H:=rc_triremeref12_State (H.pk 1 rfl);obtain ⟨p3,c4,p5,c6,rfl,J⟩:=H;have H:=J;have F:=G;clear G J
 refine bk [2000] F H rfl ⟨rfl,plain48,trivial⟩ fun a F=>?_
 obtain ⟨x7,ex7,hm⟩:=ob hm
 refine sd F rfl ent57 (w_m_triremeref11_Pairs ex7 (H.pm 3 [0,0,1,2] rfl:):) ?_;rintro _ w a ⟨p8,c8,rfl,H⟩ F
 refine bk [0,0] F H rfl ⟨⟨_,Tryz.underlying24⟩,trivial⟩ fun a F=>?_
 replace H:=H.nf 4 rfl
 refine nl (sq (sb [0] F H rfl fun a F=>?_))
 refine nl (xm0 4 [] [1,2,3] F H hm rfl rfl (fun r34 z=>(3,.int .i64 (r34))::z) (fun r34 z=>z) (fun r34 hm=>?_) (fun r34 a w hm F H=>?_))
 refine bl (xl0 4 [1] [1,2,3] F H hm rfl rfl (fun (s51:Int×Int) z=>(3,.int .i64 (s51.1))::(4,.int .i64 (s51.2))::z) (fun s51 z=>z) ⟨F.sl rfl,(H.pm 4 [1,2,3] rfl:)⟩ (fun s51 a w o F H hm=>?_))
 refine sq (sr (bk [0,1,2001,0,0] F H rfl ⟨fld51_1,rfl,plain49,⟨_,Tryz.underlying49⟩,trivial⟩ fun a F=>?_))
 refine nl (cPm F rfl hm (fun hg52 hm=>?_) (fun hg52 hm=>?_))
 refine sk (ct (sq (bl (rl (bk [0,1,2001,0] F H rfl ⟨fld51_1,rfl,plain49,trivial⟩ fun a F=>?_)))))
 obtain ⟨x53,ex53,hm⟩:=ob hm
 obtain ⟨b54,o54,hp54⟩:=H.slP 1 rfl (idxO_some ex53).2
 obtain ⟨cs55,hcl55,H⟩:=H.slEl 1 rfl hp54 (idxO_some ex53).2
 clear hcl55
 refine sv F rfl (y_idxS F elem49 rfl rfl rfl hp54 ex53) fun a F=>bk [2] F H rfl ⟨fld109_2,trivial⟩ fun a F=>?_
 have G:=F;replace H:=rc_triremeref12_Snap (H.pk 1 rfl);obtain ⟨p56,c57,rfl,J⟩:=H;have H:=J;have F:=G;clear G J
 refine bk [1002] F H rfl ⟨rfl,plain48,trivial⟩ fun a F=>?_
 obtain ⟨x58,ex58,hm⟩:=ob hm
 refine sd F rfl ent57 (w_m_triremeref11_Pairs ex58 (H.pm 5 [0,0,1,2,3,4] rfl:):) ?_;rintro _ w a ⟨p59,c59,rfl,H⟩ F
 refine bk [0,0,0,0] F H rfl ⟨⟨_,Tryz.underlying24⟩,trivial⟩ fun a F=>?_
 replace H:=H.nf 6 rfl
 refine lz (bn (ct (rl (bb [0,0,0] F H rfl fun a F=>?_))))
 refine lz (ct ?_);cases hm
 exact ⟨_,rfl,⟨F.sl rfl,(H.pm 6 [3,4,5] rfl:)⟩⟩
 refine ex (cx (cx ?_));cases hm;refine ⟨_,rfl,?_⟩;rintro rfl
 refine ch (ct ?_)
 exact ⟨F.sl rfl,H⟩
 refine ct (sb [0,0] F H rfl fun a F=>?_)
 refine nl (wr ?_)
 cases hm
 refine x_ret1 F rfl rfl ?_
 exact ⟨_,rfl,rfl,(H.pm 3 [] rfl:)⟩
theorem agg109:AggT Tryz.prog 109 3 [.string ByteArray.empty,.int .u64 0,.slice none 0 0]:=⟨by rw [Tryz.underlying109];rfl,by kernel_rfl,by kernel_rfl⟩
theorem agz109:AggT Tryz.prog 109 3 ([.string (txb ([])),.int .u64 (0),.slice none (([]:List T_triremeref11_Node)).length 0]):=⟨by rw [Tryz.underlying109];rfl,by kernel_rfl,by kernel_rfl⟩
theorem fld109_0:FieldT Tryz.prog 109 0 0:=by unfold FieldT;rw [Tryz.underlying109];kernel_rfl
theorem fld109_1:FieldT Tryz.prog 109 1 1:=by unfold FieldT;rw [Tryz.underlying109];kernel_rfl
theorem w_rWriteS {s:T_triremeref12_State} {cs1:List Value} {w0 w:World} {l:List HP}  {r:T_api_State} (hm:rWriteS s=some r) (H:St w0 w (HP.rc R_triremeref12_State cs1 s::l)) :
  Calls Tryz.prog 28 [.agg cs1.toArray].toArray w (fun e w'=>∃ v,e=.returned v∧∃ (cs2:List Value),v=.agg cs2.toArray∧St w0 w' (HP.rc R_api_State cs2 r::l)):=by
 unfold rWriteS at hm
 refine x_enter Tryz.func28 rfl rfl rfl ?_
 intro a F
 refine sr (s_boxA wkP F rfl rfl rfl rfl rfl H fun b3 w a H F=>?_)
 replace H:=H.owNil R_api_Pair 103
 replace H:=H.owNil R_api_Snap 41
 refine s_allocA wkP F rfl rfl rfl agz27 rfl H fun b4 w a H F=>?_
 replace H:=H.nf 5 rfl
 refine nl (sr (bk [0] F H rfl ⟨fld51_0,trivial⟩ fun a F=>?_))
 have G:=F;replace H:=rc_triremeref12_State (H.pk 4 rfl);obtain ⟨p5,c6,p7,c8,rfl,J⟩:=H;have H:=J;have F:=G;clear G J
 refine bk [5000] F H rfl ⟨rfl,plain48,trivial⟩ fun a F=>?_
 obtain ⟨x9,ex9,hm⟩:=ob hm
 refine sd F rfl ent57 (w_m_triremeref11_Pairs ex9 (H.pm 6 [0,0,1,2,3,4,5] rfl:):) ?_;rintro _ w a ⟨p10,c10,rfl,H⟩ F
 replace H:=H.owNil R_api_Snap 41
 refine sv F rfl (y_build F rfl rfl (cs:=[.slice p10 (x9).length c10,.slice none (([]:List T_api_Snap)).length 0]) (by kernel_rfl)) fun a F=>?_
 replace H:=H.owNil R_api_Pair 103
 replace H:=H.owNil R_api_Snap 41
 refine s_allocA wkP F rfl rfl rfl agz27 rfl H fun b11 w a H F=>?_
 refine s_storeA wkP F rfl rfl agg27 rfl rfl rfl H 0 rfl rfl rfl (fl rfl) fun w H=>?_
 replace H:=H.nf 11 rfl
 refine nl (sq (sb [0] F H rfl fun a F=>?_))
 refine nl ?_
 replace H:=O_api_State_s (x1:=([]:List T_api_Snap)) (H.pm 11 [0,4,3,1,2,4,5,6,7,8,9,10] rfl:)
 replace H:=H.frz 8 rfl
 replace H:=O_api_State_s (x0:=([]:List T_api_Pair)) (x1:=([]:List T_api_Snap)) (H.pm 10 [7,0,8,0,1,2,3,4,5,6,9] rfl:)
 refine xm0 9 [2,3] [0,3,4,6,7,8] F H hm rfl rfl (fun r61 z=>z) (fun r61 z=>O_api_State b11 r61::z) (fun r61 hm=>?_) (fun r61 a w hm F H=>?_)
 refine bl (xl0 9 [1,2,3] [0,3,4,6,7,8] F H hm rfl rfl (fun (s94:T_api_State_o×Int) z=>(4,.int .i64 (s94.2))::z) (fun s94 z=>O_api_State b11 s94.1::z) ⟨F.sl rfl,(H.pm 9 [2,0,3,4,6,7,8] rfl:)⟩ (fun s94 a w o F H hm=>?_))
 refine sq (sr (bk [0,1,6001,0,0] F H rfl ⟨fld51_1,rfl,plain49,⟨_,Tryz.underlying49⟩,trivial⟩ fun a F=>?_))
 replace H:=H.nf 7 rfl
 refine nl (cPm F rfl hm (fun hg95 hm=>?_) (fun hg95 hm=>?_))
 refine sk (ct (sq (bl (sr (bk [1,6001,0] F H rfl ⟨fld51_1,rfl,plain49,trivial⟩ fun a F=>?_)))))
 obtain ⟨x96,ex96,hm⟩:=ob hm
 obtain ⟨b97,o97,hp97⟩:=H.slP 5 rfl (idxO_some ex96).2
 obtain ⟨cs98,hcl98,H⟩:=H.slEl 5 rfl hp97 (idxO_some ex96).2
 clear hcl98
 refine sv F rfl (y_idxS F elem49 rfl rfl rfl hp97 ex96) fun a F=>bk [999] F H rfl ⟨rfl,(aggn agg109 (H.rcLen 1 rfl)),trivial⟩ fun a F=>?_
 replace H:=H.owNil R_triremeref11_Node 120
 refine s_allocA wkP F rfl rfl rfl agz109 rfl H fun b99 w a H F=>?_
 refine s_storeA wkP F rfl rfl agg109 rfl rfl rfl H 0 rfl (H.rcLen 3 rfl) rfl (H.rcFlat 3 rfl) fun w H=>?_
 replace H:=H.nf 11 rfl
 refine nl ?_
 obtain ⟨p100,c101,p102,c103,H⟩:=O_api_State_o (H.pk 4 rfl)
 have G:=F;replace H:=rc_triremeref12_Snap (H.pk 6 rfl);obtain ⟨p104,c105,rfl,J⟩:=H;have H:=J;have F:=G;clear G J
 refine mix_region [8,10,11,13] [13] (.step 0 0 (.step 0 1 (.step 0 2 (.step 0 3 (.step 0 4 (.step 0 5 (.step 0 6 (.step 1 7 (.step 2 8 (.step 0 9 (.step 2 10 (.step 2 11 (.step 0 12 (.step 3 13 .done)))))))))))))) (fun u=>∃ ls,St w0 u (HP.blk b11 ([.slice p100 (s94.1.1).length c101,.slice p102 (s94.1.2).length c103]) 27::HP.blk b99 ([.string (txb (x96.1)),.int .u64 (x96.2.1),.slice p104 (x96.2.2).length c105]) 109::ls)) (by kernel_rfl) (by kernel_rfl) ⟨_,(H.drew.pm 13 [1,4,0,2,3,5,6,7,8,9,10,11,12] rfl:)⟩ ?_
 replace H:=H.drew
 generalize w.drew=w at H ⊢
 refine mbk [1] F H rfl ⟨fld27_1,trivial⟩ fun a F=>?_
 refine m_pure F rfl rfl rfl rfl (fun u hu=>y_load1 F plain25 rfl rfl (row_at (v:=.slice p102 (s94.1.2).length c103) ((hu.choose_spec.blk 0 rfl).row) rfl)) fun a F=>?_
 refine mbk [0] F H rfl ⟨fld109_0,trivial⟩ fun a F=>?_
 refine m_pure F rfl rfl rfl rfl (fun u hu=>y_load1 F plain9 rfl rfl (row_at (v:=.string (txb (x96.1))) ((hu.choose_spec.blk 1 rfl).row) rfl)) fun a F=>?_
 refine mbk [1] F H rfl ⟨fld109_1,trivial⟩ fun a F=>?_
 refine m_pure F rfl rfl rfl rfl (fun u hu=>y_load1 F plain38 rfl rfl (row_at (v:=.int .u64 (x96.2.1)) ((hu.choose_spec.blk 1 rfl).row) rfl)) fun a F=>?_
 refine mbk [2,4002] F H rfl ⟨fld109_2,rfl,plain48,trivial⟩ fun a F=>?_
 refine m_heavy rfl rfl ?_
 obtain ⟨x106,ex106,hm⟩:=ob hm
 refine sd F rfl ent57 (w_m_triremeref11_Pairs ex106 (H.pm 13 [0,0,1,2,3,4,5,6,7,8,9,10,11,12] rfl:):) ?_;rintro _ w a ⟨p107,c107,rfl,H⟩ F
 refine lz ?_;refine ct ⟨⟨_,(H.pm 14 [2,5,0,1,3,4,6,7,8,9,10,11,12,13] rfl:)⟩,?_⟩
 refine m_pure F rfl rfl rfl rfl (fun u hu=>y_build F rfl rfl (cs:=[.string (txb (x96.1)),.int .u64 (x96.2.1),.slice p107 (x106).length c107]) (by kernel_rfl)) fun a F=>?_
 refine m_heavy rfl rfl ?_
 refine s_build1 wkP F rfl rfl rfl agg41 elem25 rfl rfl rfl (by decide) H fun b108 w a H F=>?_
 replace H:=H.blkOw1 (R:=R_api_Snap) (x:=(x96.1,x96.2.1,x106)) (fun gg=>⟨_,_,rfl,rfl,⟨_,_,rfl,rfl,⟨_,_,rfl,(gg 1 _ rfl).choose_spec⟩⟩⟩)
 refine lz ?_;refine ct ⟨⟨_,(H.pm 15 [3,6,0,1,2,4,5,7,8,9,10,11,12,13,14] rfl:)⟩,?_⟩
 refine m_heavy rfl rfl ?_
 replace H:=H.frz 0 rfl
 obtain ⟨x110,ex110,hm⟩:=ob hm
 refine s_app wkP F rfl rfl rfl rfl rfl rfl elem25 rfl ex110 H 5 0 rfl rfl fun p109 c109 w a H F=>?_
 refine lz ?_;refine ct ⟨⟨_,(H.pm 15 [3,6,0,1,2,4,5,7,8,9,10,11,12,13,14] rfl:)⟩,?_⟩
 refine mbk [1] F H rfl ⟨fld27_1,trivial⟩ fun a F=>?_
 refine m_last rfl rfl ?_
 refine s_st1 wkP F rfl rfl zero25 rfl rfl rfl rfl rfl H 3 rfl rfl fun w H=>?_
 refine lz ?_;refine ct ?_
 refine m_nil ?_
 refine bn (ct (rl (bb [0,0,0] F H rfl fun a F=>?_)))
 replace H:=H.nf 15 rfl
 refine lz ?_
 replace H:=O_api_State_s (H.pm 15 [3,4,5,0,1,2,4,6,7,8,9,10,11,12,13,14] rfl:)
 refine ct ?_;cases hm
 exact ⟨_,rfl,⟨F.sl rfl,(H.pm 14 [0,8,9,10,11,12,13] rfl:)⟩⟩
 refine ex (cx (cx ?_));cases hm;refine ⟨_,rfl,?_⟩;rintro rfl
 refine ch (ct ?_)
 exact ⟨F.sl rfl,H⟩
 refine ct (sr ?_)
 obtain ⟨p111,c112,p113,c114,H⟩:=O_api_State_o (H.pk 0 rfl)
 refine bk [999] F H rfl ⟨rfl,(aggn agg27 rfl),trivial⟩ fun a F=>?_
 obtain ⟨p115,c116,p117,c118,H⟩:=O_api_State_o (H.pk 3 rfl)
 refine s_storeA wkP F rfl rfl agg27 rfl rfl rfl H 0 rfl rfl rfl (fl rfl) fun w H=>?_
 replace H:=H.nf 11 rfl
 refine nl (wr ?_)
 replace H:=H.frz 5 rfl
 replace H:=H.mkRc (R:=R_api_State) (cs:=[.slice p111 (r61.1).length c112,.slice p113 (r61.2).length c114]) (x:=(r61.1,r61.2)) (fun gg=>⟨_,_,rfl,⟨_,_,rfl,(gg 5 _ rfl).choose_spec⟩,⟨_,_,rfl,(gg 0 _ rfl).choose_spec⟩⟩)
 cases hm
 refine x_resC1 F rfl (⟨_,rfl,agg27.run_load (H.blk 2 rfl).row rfl⟩) ?_
 exact ⟨_,rfl,[.slice p111 (r61.1).length c112,.slice p113 (r61.2).length c114],rfl,(H.pm 12 [0] rfl:)⟩
theorem w_rFindS {s:T_triremeref12_State} {name:List UInt8} {cs1:List Value} {w0 w:World} {l:List HP}  {r:Int} (hm:rFindS s name=some r) (H:St w0 w (HP.rc R_triremeref12_State cs1 s::l)) :
  Calls Tryz.prog 84 [.agg cs1.toArray,.string (txb (name))].toArray w (fun e w'=>∃ v,e=.returned v∧v=.int .i64 (r)∧St w0 w' (l)):=by
 unfold rFindS at hm
 refine x_enter Tryz.func84 rfl rfl rfl ?_
 intro a F
 refine sr (s_boxA wkP F rfl rfl rfl rfl rfl H fun b2 w a H F=>?_)
 refine bb [0] F H rfl fun a F=>?_
 replace H:=H.nf 2 rfl
 refine nl (sq (sb [0] F H rfl fun a F=>?_))
 refine nl (xr1 2 [] [] F H hm rfl rfl (fun r40 (cs41:List Value) z=>z) (fun r40 cs41 z=>HP.blk b2 (cs41) 51::HP.rc R_triremeref12_State cs41 r40::z) (fun o40 hm hm40=>?_) (fun r40 a w hm cs41 F H=>?_))
 refine bl (xl1 2 [1,2] [] F H hm rfl rfl (fun (s66:T_triremeref12_State×Int) (cs67:List Value) z=>(5,.int .i64 (s66.2))::z) (fun s66 cs67 z=>HP.blk b2 (cs67) 51::HP.rc R_triremeref12_State cs67 s66.1::z) ⟨cs1,F.sl rfl,H⟩ (fun s66 a w o cs67 F H hm=>?_))
 refine sq (sr (bk [0,1] F H rfl ⟨fld51_1,trivial⟩ fun a F=>?_))
 have G:=F;replace H:=rc_triremeref12_State (H.pk 1 rfl);obtain ⟨p68,c69,p70,c71,rfl,J⟩:=H;have H:=J;have F:=G;clear G J
 refine bk [2001,0,0] F H rfl ⟨rfl,plain49,⟨_,Tryz.underlying49⟩,trivial⟩ fun a F=>nl (cPm F rfl hm (fun hg72 hm=>?_) (fun hg72 hm=>?_))
 refine sk (ct (sq (bl (sr (bk [1,2001,0] F H rfl ⟨fld51_1,rfl,plain49,trivial⟩ fun a F=>?_)))))
 obtain ⟨x73,ex73,hm⟩:=ob hm
 obtain ⟨b74,o74,hp74⟩:=H.slP 1 rfl (idxO_some ex73).2
 obtain ⟨cs75,hcl75,H⟩:=H.slEl 1 rfl hp74 (idxO_some ex73).2
 clear hcl75
 refine sv F rfl (y_idxS F elem49 rfl rfl rfl hp74 ex73) fun a F=>bk [0] F H rfl ⟨fld109_0,trivial⟩ fun a F=>?_
 have G:=F;replace H:=rc_triremeref12_Snap (H.pk 1 rfl);obtain ⟨p76,c77,rfl,J⟩:=H;have H:=J;have F:=G;clear G J
 refine bk [1000,0] F H rfl ⟨rfl,plain9,trivial⟩ fun a F=>sv F rfl (y_eqT (l:=x73.1) (m:=name) F rfl rfl rfl) fun a F=>?_
 refine nl (cPm F rfl hm (fun hg78 hm=>?_) (fun hg78 hm=>?_))
 refine sb [0,0] F H rfl fun a F=>?_
 refine nl (wr (br (tr (tr ?_))));cases hm;refine ⟨_,rfl,?_⟩;rintro rfl
 refine br (tr ?_)
 replace hm:=elimR hm40
 refine tr ?_
 cases hm
 refine x_ret1 F rfl rfl ?_
 exact ⟨_,rfl,rfl,(H.pm 5 [] rfl:)⟩
 refine sk (bn (ct (rl (bb [0,0,0] F H rfl fun a F=>?_))))
 refine lz (ct ?_);cases hm
 replace H:=H.mkRc (R:=R_triremeref12_State) (cs:=[.slice p68 (s66.1.1).length c69,.slice p70 (s66.1.2).length c71]) (x:=(s66.1.1,s66.1.2)) (fun gg=>⟨_,_,rfl,⟨_,_,rfl,(gg 2 _ rfl).choose_spec⟩,⟨_,_,rfl,(gg 3 _ rfl).choose_spec⟩⟩)
 exact ⟨_,rfl,⟨[.slice p68 (s66.1.1).length c69,.slice p70 (s66.1.2).length c71],F.sl rfl,(H.pm 6 [5,0] rfl:)⟩⟩
 refine ex (cx (cx ?_));cases hm;refine ⟨_,rfl,?_⟩;rintro rfl
 refine ch (ct ?_)
 replace H:=H.mkRc (R:=R_triremeref12_State) (cs:=[.slice p68 (s66.1.1).length c69,.slice p70 (s66.1.2).length c71]) (x:=(s66.1.1,s66.1.2)) (fun gg=>⟨_,_,rfl,⟨_,_,rfl,(gg 0 _ rfl).choose_spec⟩,⟨_,_,rfl,(gg 1 _ rfl).choose_spec⟩⟩)
 exact ⟨_,rfl,[.slice p68 (s66.1.1).length c69,.slice p70 (s66.1.2).length c71],F.cut _ trivial,(H.pm 4 [3,0] rfl:)⟩
 refine ct (sb [0] F H rfl fun a F=>?_)
 refine nl (wr ?_)
 cases hm
 refine x_ret1 F rfl rfl ?_
 exact ⟨_,rfl,rfl,(H.pm 2 [] rfl:)⟩
theorem ent84:En Tryz.prog 84:=enters Tryz.func84 (by kernel_rfl) rfl
theorem zero49:Zero1 Tryz.prog 49 (.slice none 0 0):=⟨by kernel_rfl,rfl⟩
theorem zero48:Zero1 Tryz.prog 48 (.slice none 0 0):=⟨by kernel_rfl,rfl⟩
theorem w_rSnap {s:T_triremeref12_State} {oq:T_api_Op} {gen:Int} {cs1:List Value} {cs2:List Value} {w0 w:World} {l:List HP}  {r:T_triremeref12_State×Int} (hm:rSnap s oq gen=some r) (H:St w0 w (HP.rc R_triremeref12_State cs1 s::HP.rc R_api_Op cs2 oq::l)) :
  Calls Tryz.prog 54 [.agg cs1.toArray,.agg cs2.toArray,.int .u64 (gen)].toArray w (fun e w'=>∃ v,e=.returned v∧∃ (cs3:List Value),v=.tuple [.agg cs3.toArray,.int .i64 (r.2)].toArray∧St w0 w' (HP.rc R_triremeref12_State cs3 r.1::l)):=by
 unfold rSnap at hm
 refine x_enter Tryz.func54 rfl rfl rfl ?_
 intro a F
 refine sr (s_boxA wkP F rfl rfl rfl rfl rfl H fun b4 w a H F=>?_)
 refine s_boxA wkP F rfl rfl rfl rfl rfl H fun b5 w a H F=>?_
 replace H:=H.owNil R_triremeref11_Node 120
 replace H:=H.owNil R_triremeref12_Snap 109
 refine s_allocA wkP F rfl rfl rfl agz51 rfl H fun b6 w a H F=>?_
 refine bb [0] F H rfl fun a F=>?_
 replace H:=H.nf 7 rfl
 refine nl (sq (sr (bk [1] F H rfl ⟨fld31_1,trivial⟩ fun a F=>?_)))
 have G:=F;replace H:=rc_api_Op (H.pk 6 rfl);obtain ⟨p7,c8,rfl,J⟩:=H;have H:=J;have F:=G;clear G J
 refine bk [4001] F H rfl ⟨rfl,plain9,trivial⟩ fun a F=>?_
 obtain ⟨x9,ex9,hm⟩:=ob hm
 refine sd F rfl ent49 (w_m_triremeref09_Name ex9 H:) ?_;rintro _ w a ⟨rfl,H⟩ F
 refine bb [0] F H rfl fun a F=>?_
 replace H:=H.nf 7 rfl
 refine nl (cB F rfl (fun hg10=>?_) (fun hg10=>?_))
 replace hm:=ifT hg10 hm
 refine sr (bk [5999] F H rfl ⟨rfl,(aggn agg51 (H.rcLen 6 rfl)),trivial⟩ fun a F=>?_)
 refine s_storeA wkP F rfl rfl agg51 rfl rfl rfl H 1 rfl (H.rcLen 6 rfl) rfl (H.rcFlat 6 rfl) fun w H=>?_
 refine bb [0] F H rfl fun a F=>?_
 replace H:=H.nf 7 rfl
 refine nl (wr (tr ?_))
 cases hm
 refine x_resC2 F rfl (⟨_,rfl,agg51.run_load (H.blk 1 rfl).row (H.rcLen 6 rfl)⟩) rfl ?_
 exact ⟨_,rfl,cs1,rfl,(H.pm 7 [6] rfl:)⟩
 replace hm:=ifF (nT hg10) hm
 refine sk (ct (sr (bk [5999,1,4001] F H rfl ⟨rfl,(aggn agg51 (H.rcLen 6 rfl)),fld31_1,rfl,plain9,trivial⟩ fun a F=>?_)))
 obtain ⟨x11,ex11,hm⟩:=ob hm
 refine sd F rfl ent84 (w_rFindS ex11 (H.pm 7 [6,0,1,2,3,4,5,6] rfl:):) ?_;rintro _ w a ⟨rfl,H⟩ F
 refine bb [0] F H rfl fun a F=>?_
 replace H:=H.nf 7 rfl
 refine nl (sq ?_)
 replace H:=H.frz 3 rfl
 replace H:=O_triremeref12_State_s (x0:=([]:List T_triremeref11_Node)) (x1:=([]:List T_triremeref12_Snap)) (H.pm 7 [2,0,3,0,1,4,5,6] rfl:)
 refine xm2 6 [2,3,4,6,8] [0,2,3] F H hm rfl rfl (fun r27 (cs28:List Value) (b29:Nat) z=>(9,.pointer (some ⟨b29,0,none⟩))::z) (fun r27 cs28 b29 z=>HP.blk b4 (cs28) 51::HP.rc R_triremeref12_State cs28 r27.1::O_triremeref12_State b29 r27.2::z) (fun r27 hm=>?_) (fun r27 a w hm cs28 b29 F H=>?_)
 have G:=F;replace H:=rc_triremeref12_State (H.pk 5 rfl);obtain ⟨p30,c31,p32,c33,rfl,J⟩:=H;have H:=J;have F:=G;clear G J
 refine mix_region [2,5,7,8] [8] (.step 0 0 (.step 0 1 (.step 0 3 (.step 0 4 (.fork 2 (.fork 5 (.step 0 6 (.step 2 7 (.step 3 8 .done))) 7 (.step 2 5 (.step 0 6 (.step 3 8 .done)))) 7 (.step 2 2 (.step 2 5 (.step 0 6 (.step 3 8 .done))))))))) (fun u=>∃ ls,St w0 u (HP.blk b4 ([.slice p30 (s.1).length c31,.slice p32 (s.2).length c33]) 51::ls)) (by kernel_rfl) (by kernel_rfl) ⟨_,(H.drew.pm 7 [6,0,1,2,3,4,5] rfl:)⟩ ?_
 replace H:=H.drew
 generalize w.drew=w at H ⊢
 refine mbk [0] F H rfl ⟨fld51_0,trivial⟩ fun a F=>?_
 refine m_pure F rfl rfl rfl rfl (fun u hu=>y_load1 F plain48 rfl rfl (row_at (v:=.slice p30 (s.1).length c31) ((hu.choose_spec.blk 0 rfl).row) rfl)) fun a F=>?_
 refine mbk [1] F H rfl ⟨fld51_1,trivial⟩ fun a F=>?_
 refine m_pure F rfl rfl rfl rfl (fun u hu=>y_load1 F plain49 rfl rfl (row_at (v:=.slice p32 (s.2).length c33) ((hu.choose_spec.blk 0 rfl).row) rfl)) fun a F=>?_
 refine m_fork rfl rfl rfl rfl ?_ ?_
 refine m_heavy rfl rfl ?_
 refine s_build0O (R:=R_triremeref12_Snap) wkP F rfl rfl rfl elem49 rfl H fun b34 w a H F=>?_
 refine lz ?_;refine ct ⟨⟨_,(H.pm 8 [7,0,1,2,3,4,5,6] rfl:)⟩,?_⟩
 refine m_fork rfl rfl rfl rfl ?_ ?_
 refine m_heavy rfl rfl ?_
 obtain ⟨x36,ex36,hm⟩:=ob hm
 refine s_app wkP F rfl rfl rfl rfl rfl rfl elem49 rfl ex36 H 0 2 rfl rfl fun p35 c35 w a H F=>?_
 refine lz ?_;refine ct ⟨⟨_,(H.pm 8 [7,0,1,2,3,4,5,6] rfl:)⟩,?_⟩
 refine m_pure F rfl rfl rfl rfl (fun u hu=>y_build F rfl rfl (cs:=[.slice p30 (s.1).length c31,.slice p35 (x36).length c35]) (by kernel_rfl)) fun a F=>?_
 refine m_heavy rfl rfl ?_
 replace H:=H.owNil R_triremeref11_Node 120
 replace H:=H.owNil R_triremeref12_Snap 109
 refine s_allocA wkP F rfl rfl rfl agz51 rfl H fun b37 w a H F=>?_
 refine lz ?_;refine ct ⟨⟨_,(H.pm 11 [10,0,1,2,3,4,5,6,7,8,9] rfl:)⟩,?_⟩
 refine m_last rfl rfl ?_
 refine s_storeA wkP F rfl rfl agg51 rfl rfl rfl H 0 rfl rfl rfl (fl rfl) fun w H=>?_
 refine lz ?_;refine ct ?_
 refine m_nil ?_
 replace H:=O_triremeref12_State_s (H.pm 11 [0,4,3,1,2,4,5,6,7,8,9,10] rfl:)
 cases hm
 refine ct ?_
 replace H:=H.mkRc (R:=R_triremeref12_State) (cs:=[.slice p30 (s.1).length c31,.slice p32 (s.2).length c33]) (x:=(s.1,s.2)) (fun gg=>⟨_,_,rfl,⟨_,_,rfl,(gg 3 _ rfl).choose_spec⟩,⟨_,_,rfl,(gg 4 _ rfl).choose_spec⟩⟩)
 exact ⟨[.slice p30 (s.1).length c31,.slice p32 (s.2).length c33],b37,F.sl rfl,(H.pm 11 [10,0,1,6,8,9] rfl:)⟩
 refine m_heavy rfl rfl ?_
 replace H:=H.owNil R_triremeref11_Node 120
 replace H:=H.owNil R_triremeref12_Snap 109
 refine s_allocA wkP F rfl rfl rfl agz51 rfl H fun b38 w a H F=>?_
 refine lz ?_;refine ct ⟨⟨_,(H.pm 11 [10,0,1,2,3,4,5,6,7,8,9] rfl:)⟩,?_⟩
 refine m_heavy rfl rfl ?_
 obtain ⟨x40,ex40,hm⟩:=ob hm
 refine s_app wkP F rfl rfl rfl rfl rfl rfl elem49 rfl ex40 H 3 5 rfl rfl fun p39 c39 w a H F=>?_
 refine lz ?_;refine ct ⟨⟨_,(H.pm 11 [10,0,1,2,3,4,5,6,7,8,9] rfl:)⟩,?_⟩
 refine m_pure F rfl rfl rfl rfl (fun u hu=>y_build F rfl rfl (cs:=[.slice p30 (s.1).length c31,.slice p39 (x40).length c39]) (by kernel_rfl)) fun a F=>?_
 refine m_last rfl rfl ?_
 refine s_storeA wkP F rfl rfl agg51 rfl rfl rfl H 0 rfl rfl rfl (fl rfl) fun w H=>?_
 refine lz ?_;refine ct ?_
 refine m_nil ?_
 replace H:=O_triremeref12_State_s (H.pm 11 [0,4,3,1,2,4,5,6,7,8,9,10] rfl:)
 cases hm
 refine ct ?_
 replace H:=H.mkRc (R:=R_triremeref12_State) (cs:=[.slice p30 (s.1).length c31,.slice p32 (s.2).length c33]) (x:=(s.1,s.2)) (fun gg=>⟨_,_,rfl,⟨_,_,rfl,(gg 3 _ rfl).choose_spec⟩,⟨_,_,rfl,(gg 4 _ rfl).choose_spec⟩⟩)
 exact ⟨[.slice p30 (s.1).length c31,.slice p32 (s.2).length c33],b38,F.sl rfl,(H.pm 11 [10,0,1,6,8,9] rfl:)⟩
 refine m_heavy rfl rfl ?_
 replace H:=H.owNil R_triremeref11_Node 120
 replace H:=H.owNil R_triremeref12_Snap 109
 refine s_allocA wkP F rfl rfl rfl agz51 rfl H fun b41 w a H F=>?_
 refine lz ?_;refine ct ⟨⟨_,(H.pm 10 [9,0,1,2,3,4,5,6,7,8] rfl:)⟩,?_⟩
 refine m_heavy rfl rfl ?_
 refine s_build0O (R:=R_triremeref12_Snap) wkP F rfl rfl rfl elem49 rfl H fun b42 w a H F=>?_
 refine lz ?_;refine ct ⟨⟨_,(H.pm 11 [10,0,1,2,3,4,5,6,7,8,9] rfl:)⟩,?_⟩
 refine m_heavy rfl rfl ?_
 obtain ⟨x44,ex44,hm⟩:=ob hm
 refine s_app wkP F rfl rfl rfl rfl rfl rfl elem49 rfl ex44 H 0 5 rfl rfl fun p43 c43 w a H F=>?_
 refine lz ?_;refine ct ⟨⟨_,(H.pm 11 [10,0,1,2,3,4,5,6,7,8,9] rfl:)⟩,?_⟩
 refine m_pure F rfl rfl rfl rfl (fun u hu=>y_build F rfl rfl (cs:=[.slice p30 (s.1).length c31,.slice p43 (x44).length c43]) (by kernel_rfl)) fun a F=>?_
 refine m_last rfl rfl ?_
 refine s_storeA wkP F rfl rfl agg51 rfl rfl rfl H 1 rfl rfl rfl (fl rfl) fun w H=>?_
 refine lz ?_;refine ct ?_
 refine m_nil ?_
 replace H:=O_triremeref12_State_s (H.pm 11 [1,4,0,2,3,4,5,6,7,8,9,10] rfl:)
 cases hm
 refine ct ?_
 replace H:=H.mkRc (R:=R_triremeref12_State) (cs:=[.slice p30 (s.1).length c31,.slice p32 (s.2).length c33]) (x:=(s.1,s.2)) (fun gg=>⟨_,_,rfl,⟨_,_,rfl,(gg 3 _ rfl).choose_spec⟩,⟨_,_,rfl,(gg 4 _ rfl).choose_spec⟩⟩)
 exact ⟨[.slice p30 (s.1).length c31,.slice p32 (s.2).length c33],b41,F.sl rfl,(H.pm 11 [10,0,1,6,8,9] rfl:)⟩
 refine ct (sq (sr (bk [0,5000,0] F H rfl ⟨fld31_0,rfl,plain3,trivial⟩ fun a F=>?_)))
 replace H:=H.nf 6 rfl
 refine nl (cPm F rfl hm (fun hg45 hm=>?_) (fun hg45 hm=>?_))
 refine sq (sb [0,0] F H rfl fun a F=>?_)
 refine nl (cPm F rfl hm (fun hg46 hm=>?_) (fun hg46 hm=>?_))
 refine sr (bk [999] F H rfl ⟨rfl,(aggn agg51 (H.rcLen 1 rfl)),trivial⟩ fun a F=>?_)
 obtain ⟨p47,c48,p49,c50,H⟩:=O_triremeref12_State_o (H.pk 3 rfl)
 refine s_storeA wkP F rfl rfl agg51 rfl rfl rfl H 0 rfl (H.rcLen 4 rfl) rfl (H.rcFlat 4 rfl) fun w H=>?_
 refine bb [0] F H rfl fun a F=>?_
 replace H:=H.nf 8 rfl
 refine nl (wr (tr (tr ?_)))
 cases hm
 refine x_resC2 F rfl (⟨_,rfl,agg51.run_load (H.blk 0 rfl).row (H.rcLen 4 rfl)⟩) rfl ?_
 exact ⟨_,rfl,cs28,rfl,(H.pm 8 [4] rfl:)⟩
 refine sk (ct (sr (bk [1] F H rfl ⟨fld51_1,trivial⟩ fun a F=>?_)))
 obtain ⟨p51,c52,p53,c54,H⟩:=O_triremeref12_State_o (H.pk 2 rfl)
 refine bk [1,1,7001,0,0] F H rfl ⟨rfl,plain49,fld31_1,rfl,plain9,fld51_0,trivial⟩ fun a F=>?_
 have G:=F;replace H:=rc_triremeref12_State (H.pk 4 rfl);obtain ⟨p55,c56,p57,c58,rfl,J⟩:=H;have H:=J;have F:=G;clear G J
 refine bk [5000] F H rfl ⟨rfl,plain48,trivial⟩ fun a F=>sv F rfl (y_build F rfl rfl (cs:=[.string (txb (oq.2.1)),.int .u64 (gen),.slice p55 (r27.1.1).length c56]) (by kernel_rfl)) fun a F=>?_
 refine s_build1 wkP F rfl rfl rfl agg109 elem49 rfl rfl rfl (by decide) H fun b59 w a H F=>?_
 replace H:=H.blkOw1 (R:=R_triremeref12_Snap) (x:=(oq.2.1,gen,r27.1.1)) (fun gg=>⟨_,_,rfl,rfl,⟨_,_,rfl,rfl,⟨_,_,rfl,(gg 1 _ rfl).choose_spec⟩⟩⟩)
 replace H:=H.frz 0 rfl
 obtain ⟨x61,ex61,hm⟩:=ob hm
 refine s_app wkP F rfl rfl rfl rfl rfl rfl elem49 rfl ex61 H 5 0 rfl rfl fun p60 c60 w a H F=>?_
 refine bk [1] F H rfl ⟨fld51_1,trivial⟩ fun a F=>?_
 refine s_st1 wkP F rfl rfl zero49 rfl rfl rfl rfl rfl H 3 rfl rfl fun w H=>?_
 replace H:=H.nf 10 rfl
 refine nl (sq (sr (bk [1,3001,0,0,0] F H rfl ⟨fld51_1,rfl,plain49,⟨_,Tryz.underlying49⟩,trivial⟩ fun a F=>?_)))
 refine nl ?_
 replace H:=O_triremeref12_State_s (H.pm 10 [3,4,5,0,1,2,4,6,7,8,9] rfl:)
 refine xm0 9 [6,9] [2,3,5,6,7,8] F H hm rfl rfl (fun r135 z=>z) (fun r135 z=>O_triremeref12_State b29 r135::z) (fun r135 hm=>?_) (fun r135 a w hm F H=>?_)
 refine bl (xl0 9 [6,9] [2,3,5,6,7,8] F H hm rfl rfl (fun (s184:T_triremeref12_State_o×Int) z=>(10,.int .i64 (s184.2))::z) (fun s184 z=>O_triremeref12_State b29 s184.1::z) ⟨F.sl rfl,(H.pm 9 [0,2,3,5,6,7,8] rfl:)⟩ (fun s184 a w o F H hm=>?_))
 refine sq (sq ?_)
 by_cases hg185:0<s184.2
 replace hm:=ifT hg185 hm
 obtain ⟨p186,c187,p188,c189,H⟩:=O_triremeref12_State_o (H.pk 0 rfl)
 obtain ⟨x190,ex190,hm⟩:=ob hm
 obtain ⟨b191,hp191⟩:=H.owP 2 rfl (idxO_some ex190).2
 obtain ⟨css192,H⟩:=H.oxOpen 2 rfl
 obtain ⟨cs192,hcs192,hcl192,H⟩:=H.oxEl 2 rfl (idxO_some ex190).2
 have G:=F;replace H:=rc_triremeref12_Snap (H.pk 0 rfl);obtain ⟨p193,c194,rfl,J⟩:=H;have H:=J;have F:=G;clear G J
 obtain ⟨x195,ex195,hm⟩:=ob hm
 obtain ⟨cs196,hcs196,hcl196,H⟩:=H.oxEl 3 rfl (idxO_some ex195).2
 have G:=F;replace H:=rc_triremeref12_Snap (H.pk 0 rfl);obtain ⟨p197,c198,rfl,J⟩:=H;have H:=J;have F:=G;clear G J
 refine qr H (by kernel_rfl) (by kernel_rfl) ?_
 refine qb [0,0,0] F rfl fun a F=>?_
 replace F:=F.bT 51 hg185 rfl
 refine qbk [1,2001,0] F rfl ⟨fld51_1,rfl,plain49,trivial⟩ fun a F=>?_
 refine qg_on F rfl rfl rfl rfl ?_
 refine qv F rfl (fun u hu=>y_idxS F elem49 rfl rfl rfl hp191 ex190) fun a F=>?_
 refine qbk [0] F rfl ⟨fld109_0,trivial⟩ fun a F=>?_
 refine qg_on F rfl rfl rfl rfl ?_
 refine qv F rfl (fun u hu=>y_load1 F plain9 rfl rfl (row_at (v:=.string (txb (x190.1))) (hu.oxRow 4 rfl hp191 hcs192 hcl192) rfl)) fun a F=>?_
 refine qbk [1,2001,0,0] F rfl ⟨fld51_1,rfl,plain49,trivial⟩ fun a F=>?_
 refine qg_on F rfl rfl rfl rfl ?_
 refine qv F rfl (fun u hu=>y_idxS F elem49 rfl rfl rfl hp191 ex195) fun a F=>?_
 refine qbk [0] F rfl ⟨fld109_0,trivial⟩ fun a F=>?_
 refine qg_on F rfl rfl rfl rfl ?_
 refine qv F rfl (fun u hu=>y_load1 F plain9 rfl rfl (row_at (v:=.string (txb (x195.1))) (hu.oxRow 4 rfl hp191 hcs196 hcl196) rfl)) fun a F=>?_
 refine qg_on F rfl rfl rfl rfl ?_
 refine qv F rfl (fun u hu=>y_lssT (l:=x190.1) (m:=x195.1) F rfl rfl rfl) fun a F=>?_
 refine qb [0] F rfl fun a F=>?_
 refine q_nil fun w H=>?_
 replace H:=H.oxShut 4 rfl
 refine ct (cB F rfl (fun hg199=>?_) (fun hg199=>?_))
 replace hm:=ifT hg199 hm
 refine sk (ct (sq (bl (sr (bk [1,2001,0] F H rfl ⟨fld51_1,rfl,plain49,trivial⟩ fun a F=>?_)))))
 obtain ⟨x200,ex200,hm⟩:=ob hm
 obtain ⟨css201,H⟩:=H.oxOpen 4 rfl
 obtain ⟨cs201,hcs201,hcl201,H⟩:=H.oxEl 4 rfl (idxO_some ex200).2
 refine sv F rfl (y_idxS F elem49 rfl rfl rfl hp191 ex200) fun a F=>sv F rfl (y_loadA F agg109 rfl rfl (H.oxRow 5 rfl hp191 hcs201 hcl201) (H.rcLen 0 rfl)) fun a F=>?_
 replace H:=H.owNil R_triremeref11_Node 120
 refine s_allocA wkP F rfl rfl rfl agz109 rfl H fun b202 w a H F=>?_
 refine s_storeA wkP F rfl rfl agg109 rfl rfl rfl H 0 rfl (H.rcLen 2 rfl) rfl (H.rcFlat 2 rfl) fun w H=>?_
 replace H:=H.nf 14 rfl
 refine nl ?_
 replace H:=H.oxShut 7 rfl
 refine sq ?_
 obtain ⟨x203,ex203,hm⟩:=ob hm
 obtain ⟨css204,H⟩:=H.oxOpen 7 rfl
 obtain ⟨cs204,hcs204,hcl204,H⟩:=H.oxEl 7 rfl (idxO_some ex203).2
 obtain ⟨x205,ex205,hm⟩:=ob hm
 obtain ⟨cs206,hcs206,hcl206,H⟩:=H.oxEl 8 rfl (idxO_some ex205).2
 refine mix_region [10] [10] (.step 0 0 (.step 1 1 (.step 0 2 (.step 0 3 (.step 1 4 (.step 0 5 (.step 0 6 (.step 0 7 (.step 1 8 (.step 0 9 (.step 3 10 .done))))))))))) (fun u=>∃ ls,St w0 u (ls)) (by kernel_rfl) (by kernel_rfl) ⟨_,H.drew⟩ ?_
 replace H:=H.drew
 generalize w.drew=w at H ⊢
 refine mbk [1,7001,0,1,7001,0,0] F H rfl ⟨fld51_1,rfl,plain49,fld51_1,rfl,plain49,trivial⟩ fun a F=>?_
 refine m_pure F rfl rfl rfl rfl (fun u hu=>y_idxS F elem49 rfl rfl rfl hp191 ex203) fun a F=>?_
 refine m_read F rfl rfl rfl rfl (y_loadA F agg109 rfl rfl (H.oxRow 9 rfl hp191 hcs204 hcl204) (H.rcLen 1 rfl)) fun a F=>?_
 refine m_pure F rfl rfl rfl rfl (fun u hu=>y_idxS F elem49 rfl rfl rfl hp191 ex205) fun a F=>?_
 refine m_last rfl rfl ?_
 replace H:=H.oxShut 9 rfl
 refine s_owSetA wkP F rfl rfl agg109 rfl rfl rfl rfl H 9 rfl hp191 ex205 (zz:=x203) (fun gg=>(gg 1 _ rfl).choose_spec) (H.rcFlat 1 rfl) (H.rcLen 1 rfl) fun w H=>?_
 replace H:St w0 w (HP.rc R_triremeref12_Snap cs206 x205::HP.rc R_triremeref12_Snap cs204 x203::HP.blk b202 (cs201) 109::HP.ow R_triremeref11_Node 120 none 0 ([]:List T_triremeref11_Node)::HP.rc R_triremeref12_Snap cs201 x200::HP.sl R_triremeref11_Node p197 c198 x195.2.2::HP.sl R_triremeref11_Node p193 c194 x190.2.2::HP.blk b29 ([.slice p186 (s184.1.1).length c187,.slice p188 ((s184.1.2).set (s184.2:Int).toNat x203).length c189]) 51::HP.sl R_triremeref11_Node p186 c187 s184.1.1::HP.ow R_triremeref12_Snap 109 p188 c189 ((s184.1.2).set (s184.2:Int).toNat x203)::HP.sl R_triremeref11_Node p55 c56 r27.1.1::HP.sl R_triremeref12_Snap p57 c58 r27.1.2::HP.blk b4 ([.slice p55 (r27.1.1).length c56,.slice p57 (r27.1.2).length c58]) 51::O_triremeref12_State b6 (([]:List T_triremeref11_Node),([]:List T_triremeref12_Snap))::HP.sl rByte p7 c8 oq.2.2.2.2.2::HP.blk b5 ([.int .i64 (oq.1),.string (txb (oq.2.1)),.string (txb (oq.2.2.1)),.int .i64 (oq.2.2.2.1),.int .i64 (oq.2.2.2.2.1),.slice p7 (oq.2.2.2.2.2).length c8]) 31::l):=(by have h:=H;first | exact h | (simp only [List.length_set] at h ⊢;exact h))
 replace F:=F.bool (k:=53) (u:=.slice p188 ((s184.1.2).set (s184.2:Int).toNat x203).length c189) rfl (by simp only [List.length_set])
 replace F:=F.bool (k:=59) (u:=.slice p188 ((s184.1.2).set (s184.2:Int).toNat x203).length c189) rfl (by simp only [List.length_set])
 replace F:=F.bool (k:=70) (u:=.slice p188 ((s184.1.2).set (s184.2:Int).toNat x203).length c189) rfl (by simp only [List.length_set])
 replace F:=F.bool (k:=75) (u:=.slice p188 ((s184.1.2).set (s184.2:Int).toNat x203).length c189) rfl (by simp only [List.length_set])
 replace F:=F.bool (k:=78) (u:=.slice p188 ((s184.1.2).set (s184.2:Int).toNat x203).length c189) rfl (by simp only [List.length_set])
 refine lz ?_;refine ct ?_
 refine m_nil ?_
 refine ct (rl (bk [1,7001,0,0,2999] F H rfl ⟨fld51_1,rfl,plain49,rfl,(aggn agg109 (H.rcLen 4 rfl)),trivial⟩ fun a F=>?_))
 obtain ⟨x207,ex207,hm⟩:=ob hm
 obtain ⟨css208,H⟩:=H.oxOpen 9 rfl
 obtain ⟨cs208,hcs208,hcl208,H⟩:=H.oxEl 9 rfl (idxO_some ex207).2
 refine sv F rfl (y_idxS F elem49 rfl rfl rfl hp191 ex207) fun a F=>?_
 replace H:=H.oxShut 10 rfl
 refine s_owSetA wkP F rfl rfl agg109 rfl rfl rfl rfl H 10 rfl hp191 ex207 (zz:=x200) (fun gg=>(gg 5 _ rfl).choose_spec) (H.rcFlat 5 rfl) (H.rcLen 5 rfl) fun w H=>?_
 replace H:St w0 w (HP.rc R_triremeref12_Snap cs208 x207::HP.rc R_triremeref12_Snap cs206 x205::HP.rc R_triremeref12_Snap cs204 x203::HP.blk b202 (cs201) 109::HP.ow R_triremeref11_Node 120 none 0 ([]:List T_triremeref11_Node)::HP.rc R_triremeref12_Snap cs201 x200::HP.sl R_triremeref11_Node p197 c198 x195.2.2::HP.sl R_triremeref11_Node p193 c194 x190.2.2::HP.blk b29 ([.slice p186 (s184.1.1).length c187,.slice p188 (((s184.1.2).set (s184.2:Int).toNat x203).set (IntKind.i64.wrap (s184.2 - 1):Int).toNat x200).length c189]) 51::HP.sl R_triremeref11_Node p186 c187 s184.1.1::HP.ow R_triremeref12_Snap 109 p188 c189 (((s184.1.2).set (s184.2:Int).toNat x203).set (IntKind.i64.wrap (s184.2 - 1):Int).toNat x200)::HP.sl R_triremeref11_Node p55 c56 r27.1.1::HP.sl R_triremeref12_Snap p57 c58 r27.1.2::HP.blk b4 ([.slice p55 (r27.1.1).length c56,.slice p57 (r27.1.2).length c58]) 51::O_triremeref12_State b6 (([]:List T_triremeref11_Node),([]:List T_triremeref12_Snap))::HP.sl rByte p7 c8 oq.2.2.2.2.2::HP.blk b5 ([.int .i64 (oq.1),.string (txb (oq.2.1)),.string (txb (oq.2.2.1)),.int .i64 (oq.2.2.2.1),.int .i64 (oq.2.2.2.2.1),.slice p7 (oq.2.2.2.2.2).length c8]) 31::l):=(by have h:=H;first | exact h | (simp only [List.length_set] at h ⊢;exact h))
 replace F:=F.bool (k:=53) (u:=.slice p188 (((s184.1.2).set (s184.2:Int).toNat x203).set (IntKind.i64.wrap (s184.2 - 1):Int).toNat x200).length c189) rfl (by simp only [List.length_set])
 replace F:=F.bool (k:=59) (u:=.slice p188 (((s184.1.2).set (s184.2:Int).toNat x203).set (IntKind.i64.wrap (s184.2 - 1):Int).toNat x200).length c189) rfl (by simp only [List.length_set])
 replace F:=F.bool (k:=70) (u:=.slice p188 (((s184.1.2).set (s184.2:Int).toNat x203).set (IntKind.i64.wrap (s184.2 - 1):Int).toNat x200).length c189) rfl (by simp only [List.length_set])
 replace F:=F.bool (k:=75) (u:=.slice p188 (((s184.1.2).set (s184.2:Int).toNat x203).set (IntKind.i64.wrap (s184.2 - 1):Int).toNat x200).length c189) rfl (by simp only [List.length_set])
 replace F:=F.bool (k:=78) (u:=.slice p188 (((s184.1.2).set (s184.2:Int).toNat x203).set (IntKind.i64.wrap (s184.2 - 1):Int).toNat x200).length c189) rfl (by simp only [List.length_set])
 replace F:=F.bool (k:=85) (u:=.slice p188 (((s184.1.2).set (s184.2:Int).toNat x203).set (IntKind.i64.wrap (s184.2 - 1):Int).toNat x200).length c189) rfl (by simp only [List.length_set])
 refine lz (bn (ct (rl (bb [0,0,0] F H rfl fun a F=>?_))))
 refine lz ?_
 replace H:=O_triremeref12_State_s (x1:=((s184.1.2).set (s184.2:Int).toNat x203).set (IntKind.i64.wrap (s184.2 - 1):Int).toNat x200) (H.pm 17 [8,9,10,0,1,2,3,4,5,6,7,9,11,12,13,14,15,16] rfl:)
 refine ct ?_;cases hm
 exact ⟨_,rfl,⟨F.sl rfl,(H.pm 16 [0,10,11,12,13,14,15] rfl:)⟩⟩
 replace hm:=ifF (nT hg199) hm
 refine ex (cx (cx ?_));cases hm;refine ⟨_,rfl,?_⟩;rintro rfl
 refine ch ?_
 replace H:=O_triremeref12_State_s (H.pm 11 [2,3,4,0,1,3,5,6,7,8,9,10] rfl:)
 refine ct ?_
 exact ⟨F.sl rfl,(H.pm 10 [0,4,5,6,7,8,9] rfl:)⟩
 replace hm:=ifF hg185 hm
 refine qr H (by kernel_rfl) (by kernel_rfl) ?_
 refine qb [0,0,0] F rfl fun a F=>?_
 replace F:=F.bF 51 hg185 rfl
 refine qb (List.replicate 15 0) F rfl fun a F=>?_
 refine q_nil fun w H=>?_
 refine ct (cF F rfl ?_)
 refine ex (cx (cx ?_));cases hm;refine ⟨_,rfl,?_⟩;rintro rfl
 refine ch (ct ?_)
 exact ⟨F.sl rfl,H⟩
 refine ct (sr ?_)
 obtain ⟨p209,c210,p211,c212,H⟩:=O_triremeref12_State_o (H.pk 0 rfl)
 refine bk [999] F H rfl ⟨rfl,(aggn agg51 rfl),trivial⟩ fun a F=>?_
 obtain ⟨p213,c214,p215,c216,H⟩:=O_triremeref12_State_o (H.pk 6 rfl)
 refine s_storeA wkP F rfl rfl agg51 rfl rfl rfl H 0 rfl rfl rfl (fl rfl) fun w H=>?_
 refine bb [0] F H rfl fun a F=>?_
 replace H:=H.nf 11 rfl
 refine nl (wr (tr ?_))
 replace H:=H.frz 5 rfl
 replace H:=H.mkRc (R:=R_triremeref12_State) (cs:=[.slice p209 (r135.1).length c210,.slice p211 (r135.2).length c212]) (x:=(r135.1,r135.2)) (fun gg=>⟨_,_,rfl,⟨_,_,rfl,(gg 5 _ rfl).choose_spec⟩,⟨_,_,rfl,(gg 0 _ rfl).choose_spec⟩⟩)
 cases hm
 refine x_resC2 F rfl (⟨_,rfl,agg51.run_load (H.blk 2 rfl).row rfl⟩) rfl ?_
 exact ⟨_,rfl,[.slice p209 (r135.1).length c210,.slice p211 (r135.2).length c212],rfl,(H.pm 12 [0] rfl:)⟩
 refine sk (ct (sq (sb [0,0] F H rfl fun a F=>?_)))
 refine nl (cPm F rfl hm (fun hg217 hm=>?_) (fun hg217 hm=>?_))
 refine sr (bk [999] F H rfl ⟨rfl,(aggn agg51 (H.rcLen 1 rfl)),trivial⟩ fun a F=>?_)
 obtain ⟨p218,c219,p220,c221,H⟩:=O_triremeref12_State_o (H.pk 3 rfl)
 refine s_storeA wkP F rfl rfl agg51 rfl rfl rfl H 0 rfl (H.rcLen 4 rfl) rfl (H.rcFlat 4 rfl) fun w H=>?_
 refine bb [0] F H rfl fun a F=>?_
 replace H:=H.nf 8 rfl
 refine nl (wr (tr ?_))
 cases hm
 refine x_resC2 F rfl (⟨_,rfl,agg51.run_load (H.blk 0 rfl).row (H.rcLen 4 rfl)⟩) rfl ?_
 exact ⟨_,rfl,cs28,rfl,(H.pm 8 [4] rfl:)⟩
 refine sk (ct (sq (sr (bk [0,5000,0] F H rfl ⟨fld31_0,rfl,plain3,trivial⟩ fun a F=>?_))))
 refine nl (cPm F rfl hm (fun hg222 hm=>?_) (fun hg222 hm=>?_))
 refine sr (bk [1] F H rfl ⟨fld51_1,trivial⟩ fun a F=>?_)
 have G:=F;replace H:=rc_triremeref12_State (H.pk 1 rfl);obtain ⟨p223,c224,p225,c226,rfl,J⟩:=H;have H:=J;have F:=G;clear G J
 refine bk [2001,0] F H rfl ⟨rfl,plain49,trivial⟩ fun a F=>?_
 obtain ⟨x227,ex227,hm⟩:=ob hm
 obtain ⟨b228,o228,hp228⟩:=H.slP 1 rfl (idxO_some ex227).2
 obtain ⟨cs229,hcl229,H⟩:=H.slEl 1 rfl hp228 (idxO_some ex227).2
 clear hcl229
 refine sv F rfl (y_idxS F elem49 rfl rfl rfl hp228 ex227) fun a F=>bk [2] F H rfl ⟨fld109_2,trivial⟩ fun a F=>?_
 have G:=F;replace H:=rc_triremeref12_Snap (H.pk 1 rfl);obtain ⟨p230,c231,rfl,J⟩:=H;have H:=J;have F:=G;clear G J
 refine bk [1002,0] F H rfl ⟨rfl,plain48,fld51_0,trivial⟩ fun a F=>?_
 obtain ⟨p232,c233,p234,c235,H⟩:=O_triremeref12_State_o (H.pk 5 rfl)
 refine s_st1 wkP F rfl rfl zero48 rfl rfl rfl rfl rfl H 0 rfl rfl fun w H=>?_
 replace H:=H.nf 11 rfl
 refine nl (sr (bk [999] F H rfl ⟨rfl,(aggn agg51 rfl),trivial⟩ fun a F=>?_))
 obtain ⟨p236,c237,p238,c239,H⟩:=O_triremeref12_State_o (H.pk 8 rfl)
 refine s_storeA wkP F rfl rfl agg51 rfl rfl rfl H 0 rfl rfl rfl (fl rfl) fun w H=>?_
 refine bb [0] F H rfl fun a F=>?_
 replace H:=H.nf 13 rfl
 refine nl (wr (tr ?_))
 replace H:=H.frz 5 rfl
 replace H:=H.mkRc (R:=R_triremeref12_State) (cs:=[.slice p230 (x227.2.2).length c231,.slice p234 (r27.2.2).length c235]) (x:=(x227.2.2,r27.2.2)) (fun gg=>⟨_,_,rfl,⟨_,_,rfl,(gg 6 _ rfl).choose_spec⟩,⟨_,_,rfl,(gg 0 _ rfl).choose_spec⟩⟩)
 cases hm
 refine x_resC2 F rfl (⟨_,rfl,agg51.run_load (H.blk 2 rfl).row rfl⟩) rfl ?_
 exact ⟨_,rfl,[.slice p230 (x227.2.2).length c231,.slice p234 (r27.2.2).length c235],rfl,(H.pm 14 [0] rfl:)⟩
 refine sk (ct (sq ?_))
 have G:=F;replace H:=rc_triremeref12_State (H.pk 1 rfl);obtain ⟨p240,c241,p242,c243,rfl,J⟩:=H;have H:=J;have F:=G;clear G J
 obtain ⟨x245,ex245,hm⟩:=ob hm
 have hc244:=H.slCap 1 rfl
 replace H:=H.slSubN 3 rfl 1 rfl ex245
 obtain ⟨x247,ex247,hm⟩:=ob hm
 have hc246:=H.slCap 2 rfl
 replace H:=H.slSubN 3 rfl 2 rfl ex247
 refine mix_region [0,5,11,13] [13] (.step 0 1 (.step 0 2 (.step 0 3 (.step 0 4 (.step 0 6 (.step 0 7 (.step 0 8 (.step 0 9 (.step 0 10 (.step 2 0 (.step 2 5 (.step 2 11 (.step 0 12 (.step 3 13 .done)))))))))))))) (fun u=>∃ ls,St w0 u (HP.blk b4 ([.slice p240 (r27.1.1).length c241,.slice p242 (r27.1.2).length c243]) 51::ls)) (by kernel_rfl) (by kernel_rfl) ⟨_,(H.drew.pm 9 [4,0,1,2,3,5,6,7,8] rfl:)⟩ ?_
 replace H:=H.drew
 generalize w.drew=w at H ⊢
 refine mbk [1] F H rfl ⟨fld51_1,trivial⟩ fun a F=>?_
 refine m_pure F rfl rfl rfl rfl (fun u hu=>y_load1 F plain49 rfl rfl (row_at (v:=.slice p242 (r27.1.2).length c243) ((hu.choose_spec.blk 0 rfl).row) rfl)) fun a F=>?_
 refine mb [0] F H rfl fun a F=>?_
 refine m_pure F rfl rfl rfl rfl (fun u hu=>y_slH F elem49 rfl rfl rfl ex245 hc244) fun a F=>?_
 refine mbk [1] F H rfl ⟨fld51_1,trivial⟩ fun a F=>?_
 refine m_pure F rfl rfl rfl rfl (fun u hu=>y_load1 F plain49 rfl rfl (row_at (v:=.slice p242 (r27.1.2).length c243) ((hu.choose_spec.blk 0 rfl).row) rfl)) fun a F=>?_
 refine mb [0,0] F H rfl fun a F=>?_
 refine m_pure F rfl rfl rfl rfl (fun u hu=>y_slL F elem49 rfl rfl rfl ex247 hc246) fun a F=>?_
 refine m_heavy rfl rfl ?_
 refine s_build0O (R:=R_triremeref12_Snap) wkP F rfl rfl rfl elem49 rfl H fun b248 w a H F=>?_
 refine lz ?_;refine ct ⟨⟨_,(H.pm 10 [5,0,1,2,3,4,6,7,8,9] rfl:)⟩,?_⟩
 refine m_heavy rfl rfl ?_
 obtain ⟨x250,ex250,hm⟩:=ob hm
 refine s_app wkP F rfl rfl rfl rfl rfl rfl elem49 rfl ex250 H 0 2 rfl rfl fun p249 c249 w a H F=>?_
 refine lz ?_;refine ct ⟨⟨_,(H.pm 10 [5,0,1,2,3,4,6,7,8,9] rfl:)⟩,?_⟩
 refine m_heavy rfl rfl ?_
 obtain ⟨x252,ex252,hm⟩:=ob hm
 refine s_app wkP F rfl rfl rfl rfl rfl rfl elem49 rfl ex252 H 0 1 rfl rfl fun p251 c251 w a H F=>?_
 refine lz ?_;refine ct ⟨⟨_,(H.pm 10 [5,0,1,2,3,4,6,7,8,9] rfl:)⟩,?_⟩
 refine mbk [1] F H rfl ⟨fld51_1,trivial⟩ fun a F=>?_
 refine m_last rfl rfl ?_
 obtain ⟨p253,c254,p255,c256,H⟩:=O_triremeref12_State_o (H.pk 6 rfl)
 refine s_st1 wkP F rfl rfl zero49 rfl rfl rfl rfl rfl H 0 rfl rfl fun w H=>?_
 refine lz ?_;refine ct ?_
 refine m_nil ?_
 refine ct (sr (bk [999] F H rfl ⟨rfl,(aggn agg51 rfl),trivial⟩ fun a F=>?_))
 obtain ⟨p257,c258,p259,c260,H⟩:=O_triremeref12_State_o (H.pk 9 rfl)
 refine s_storeA wkP F rfl rfl agg51 rfl rfl rfl H 0 rfl rfl rfl (fl rfl) fun w H=>?_
 refine bb [0] F H rfl fun a F=>?_
 replace H:=H.nf 14 rfl
 refine nl (wr ?_)
 replace H:=H.frz 6 rfl
 replace H:=H.mkRc (R:=R_triremeref12_State) (cs:=[.slice p253 (r27.2.1).length c254,.slice p251 (x252).length c251]) (x:=(r27.2.1,x252)) (fun gg=>⟨_,_,rfl,⟨_,_,rfl,(gg 5 _ rfl).choose_spec⟩,⟨_,_,rfl,(gg 0 _ rfl).choose_spec⟩⟩)
 cases hm
 refine x_resC2 F rfl (⟨_,rfl,agg51.run_load (H.blk 2 rfl).row rfl⟩) rfl ?_
 exact ⟨_,rfl,[.slice p253 (r27.2.1).length c254,.slice p251 (x252).length c251],rfl,(H.pm 15 [0] rfl:)⟩
theorem ent54:En Tryz.prog 54:=enters Tryz.func54 (by kernel_rfl) rfl
theorem ent55:En Tryz.prog 55:=enters Tryz.func55 (by kernel_rfl) rfl
theorem ent50:En Tryz.prog 50:=enters Tryz.func50 (by kernel_rfl) rfl
theorem w_rDoS {s:T_triremeref12_State} {oq:T_api_Op} {gen:Int} {cs1:List Value} {cs2:List Value} {w0 w:World} {l:List HP}  {r:T_triremeref12_State×T_api_Answer} (hm:rDoS s oq gen=some r) (H:St w0 w (HP.rc R_triremeref12_State cs1 s::HP.rc R_api_Op cs2 oq::l)) :
  Calls Tryz.prog 25 [.agg cs1.toArray,.agg cs2.toArray,.int .u64 (gen)].toArray w (fun e w'=>∃ v,e=.returned v∧∃ (cs3:List Value) (cs4:List Value),v=.tuple [.agg cs3.toArray,.agg cs4.toArray].toArray∧St w0 w' (HP.rc R_triremeref12_State cs3 r.1::HP.rc R_api_Answer cs4 r.2::l)):=by
 unfold rDoS at hm
 refine x_enter Tryz.func25 rfl rfl rfl ?_
 intro a F
 refine sr (s_boxA wkP F rfl rfl rfl rfl rfl H fun b5 w a H F=>?_)
 refine s_boxA wkP F rfl rfl rfl rfl rfl H fun b6 w a H F=>?_
 replace H:=H.owNil R_triremeref11_Node 120
 replace H:=H.owNil R_triremeref12_Snap 109
 refine s_allocA wkP F rfl rfl rfl agz51 rfl H fun b7 w a H F=>?_
 replace H:=H.owNil rByte 5
 replace H:=H.owNil rStr 9
 refine s_allocA wkP F rfl rfl rfl agz35 rfl H fun b8 w a H F=>?_
 replace H:=H.nf 10 rfl
 refine nl (sr (bk [7999] F H rfl ⟨rfl,(aggn agg51 (H.rcLen 8 rfl)),trivial⟩ fun a F=>?_))
 replace H:=H.owNil rByte 5
 replace H:=H.owNil rStr 9
 refine sv F rfl (y_build F rfl rfl (cs:=[.int .i64 (0),.int .i64 (0),.slice none (([]:List UInt8)).length 0,.slice none (([]:List (List UInt8))).length 0]) (by kernel_rfl)) fun a F=>?_
 replace H:=H.owNil R_triremeref11_Node 120
 replace H:=H.owNil R_triremeref12_Snap 109
 refine s_allocA wkP F rfl rfl rfl agz51 rfl H fun b9 w a H F=>?_
 replace H:=H.owNil rByte 5
 replace H:=H.owNil rStr 9
 refine s_allocA wkP F rfl rfl rfl agz35 rfl H fun b10 w a H F=>?_
 refine s_storeA wkP F rfl rfl agg51 rfl rfl rfl H 3 rfl (H.rcLen 16 rfl) rfl (H.rcFlat 16 rfl) fun w H=>?_
 refine s_storeA wkP F rfl rfl agg35 rfl rfl rfl H 0 rfl rfl rfl (fl rfl) fun w H=>?_
 replace H:=H.nf 18 rfl
 refine nl (sq (sr (bk [0] F H rfl ⟨fld31_0,trivial⟩ fun a F=>?_)))
 have G:=F;replace H:=rc_api_Op (H.pk 17 rfl);obtain ⟨p11,c12,rfl,J⟩:=H;have H:=J;have F:=G;clear G J
 refine bk [15000] F H rfl ⟨rfl,plain3,trivial⟩ fun a F=>nl ?_
 replace H:=H.frz 14 rfl
 replace H:=O_triremeref12_State_s (x0:=([]:List T_triremeref11_Node)) (x1:=([]:List T_triremeref12_Snap)) (H.pm 18 [13,0,14,0,1,2,3,4,5,6,7,8,9,10,11,12,15,16,17] rfl:)
 refine xm3 17 [3,6,7,8,9] [0,2,4,5,7,8,11,12,13,14] F H hm rfl rfl (fun r1358 (cs1359:List Value) (cs1360:List Value) (cs1361:List Value) z=>z) (fun r1358 cs1359 cs1360 cs1361 z=>HP.blk b10 (cs1359) 35::HP.blk b9 (cs1360) 51::HP.blk b5 (cs1361) 51::HP.rc R_api_Answer cs1359 r1358.1::HP.rc R_triremeref12_State cs1360 r1358.2.1::HP.rc R_triremeref12_State cs1361 r1358.2.2::z) (fun r1358 hm=>?_) (fun r1358 a w hm cs1359 cs1360 cs1361 F H=>?_)
 refine bl (sq (sb [0,0] F H rfl fun a F=>?_))
 replace H:=H.nf 17 rfl
 refine nl (xm0 17 [2,3,4,6,7,8,9,18] [0,2,3,4,5,6,7,8,9,10,11,12,13,14,15,16] F H hm rfl rfl (fun r1366 z=>(31,.bool (r1366))::z) (fun r1366 z=>z) (fun r1366 hm=>?_) (fun r1366 a w hm F H=>?_))
 refine cPm F rfl hm (fun hg1367 hm=>?_) (fun hg1367 hm=>?_)
 refine sk ?_
 cases hm
 refine ct ?_
 exact ⟨F.sl rfl,(H.pm 17 [0,2,3,4,5,6,7,8,9,10,11,12,13,14,15,16] rfl:)⟩
 refine sb [0,0] F H rfl fun a F=>nl (xm0 17 [2,3,4,6,7,8,9,18] [0,2,3,4,5,6,7,8,9,10,11,12,13,14,15,16] F H hm rfl rfl (fun r1369 z=>(31,.bool (r1369))::z) (fun r1369 z=>z) (fun r1369 hm=>?_) (fun r1369 a w hm F H=>?_))
 refine cPm F rfl hm (fun hg1370 hm=>?_) (fun hg1370 hm=>?_)
 refine sk ?_
 cases hm
 refine ct ?_
 exact ⟨F.sl rfl,(H.pm 17 [0,2,3,4,5,6,7,8,9,10,11,12,13,14,15,16] rfl:)⟩
 refine rl (bb [0,0] F H rfl fun a F=>?_)
 refine lz ?_
 cases hm
 refine ct ?_
 exact ⟨F.sl rfl,(H.pm 17 [0,2,3,4,5,6,7,8,9,10,11,12,13,14,15,16] rfl:)⟩
 cases hm
 refine ct ?_
 exact ⟨F.sl rfl,H⟩
 refine ct ?_
 refine xm3 16 [3,6,7,8,9] [0,1,3,4,6,7,10,11,12,13] F H hm rfl rfl (fun r2037 (cs2038:List Value) (cs2039:List Value) (cs2040:List Value) z=>z) (fun r2037 cs2038 cs2039 cs2040 z=>HP.blk b10 (cs2038) 35::HP.blk b9 (cs2039) 51::HP.blk b5 (cs2040) 51::HP.rc R_api_Answer cs2038 r2037.1::HP.rc R_triremeref12_State cs2039 r2037.2.1::HP.rc R_triremeref12_State cs2040 r2037.2.2::z) (fun r2037 hm=>?_) (fun r2037 a w hm cs2038 cs2039 cs2040 F H=>?_)
 refine cB F rfl (fun hg2041=>?_) (fun hg2041=>?_)
 replace hm:=ifT hg2041 hm
 refine sr (bk [14999,13999,0] F H rfl ⟨rfl,(aggn agg51 (H.rcLen 15 rfl)),rfl,(aggn agg31 rfl),trivial⟩ fun a F=>?_)
 replace H:=H.mkRc (R:=R_api_Op) (cs:=[.int .i64 (oq.1),.string (txb (oq.2.1)),.string (txb (oq.2.2.1)),.int .i64 (oq.2.2.2.1),.int .i64 (oq.2.2.2.2.1),.slice p11 (oq.2.2.2.2.2).length c12]) (x:=(oq.1,oq.2.1,oq.2.2.1,oq.2.2.2.1,oq.2.2.2.2.1,oq.2.2.2.2.2)) (fun gg=>⟨_,_,rfl,rfl,⟨_,_,rfl,rfl,⟨_,_,rfl,rfl,⟨_,_,rfl,rfl,⟨_,_,rfl,rfl,⟨_,_,rfl,(gg 1 _ rfl).choose_spec⟩⟩⟩⟩⟩⟩)
 obtain ⟨x2042,ex2042,hm⟩:=ob hm
 refine sd F rfl ent54 (w_rSnap ex2042 (H.pm 17 [16,0,0,1,2,3,4,5,6,7,8,9,10,11,12,13,14,15,16] rfl:):) ?_;rintro _ w a ⟨cs2043,rfl,H⟩ F
 refine bb [0,0,0] F H rfl fun a F=>?_
 replace H:=H.owNil R_triremeref11_Node 120
 replace H:=H.owNil R_triremeref12_Snap 109
 refine s_allocA wkP F rfl rfl rfl agz51 rfl H fun b2044 w a H F=>?_
 refine s_storeA wkP F rfl rfl agg51 rfl rfl rfl H 0 rfl (H.rcLen 3 rfl) rfl (H.rcFlat 3 rfl) fun w H=>?_
 refine bb [0] F H rfl fun a F=>?_
 replace H:=H.nf 21 rfl
 refine nl (sr (bk [999] F H rfl ⟨rfl,(aggn agg51 (H.rcLen 3 rfl)),trivial⟩ fun a F=>?_))
 refine s_storeA wkP F rfl rfl agg51 rfl rfl rfl H 10 rfl (H.rcLen 3 rfl) (H.rcLen 20 rfl) (H.rcFlat 3 rfl) fun w H=>?_
 replace H:=H.nf 21 rfl
 refine nl (rl (bk [0,0] F H rfl ⟨fld35_0,trivial⟩ fun a F=>?_))
 refine s_st1 wkP F rfl rfl zero32 rfl rfl rfl rfl rfl H 7 rfl rfl fun w H=>?_
 replace H:=H.nf 21 rfl
 refine lz ?_
 cases hm
 refine ct ?_
 replace H:=H.frz 14 rfl
 replace H:=H.frz 14 rfl
 replace H:=H.mkRc (R:=R_api_Answer) (cs:=[.int .i64 (x2042.2),.int .i64 (0),.slice none (([]:List UInt8)).length 0,.slice none (([]:List (List UInt8))).length 0]) (x:=(x2042.2,0,([]:List UInt8),([]:List (List UInt8)))) (fun gg=>⟨_,_,rfl,rfl,⟨_,_,rfl,rfl,⟨_,_,rfl,⟨_,_,rfl,(gg 1 _ rfl).choose_spec⟩,⟨_,_,rfl,(gg 0 _ rfl).choose_spec⟩⟩⟩⟩)
 exact ⟨[.int .i64 (x2042.2),.int .i64 (0),.slice none (([]:List UInt8)).length 0,.slice none (([]:List (List UInt8))).length 0],cs2043,cs1,F.sl rfl,(H.pm 22 [10,13,20,0,6,21,8,9,11,12,14,15,16,17,18,19] rfl:)⟩
 replace hm:=ifF (nT hg2041) hm
 refine sb [0,0] F H rfl fun a F=>nl ?_
 refine xm3 16 [3,6,7,8,9] [0,1,3,4,6,7,10,11,12,13] F H hm rfl rfl (fun r2374 (cs2375:List Value) (cs2376:List Value) (cs2377:List Value) z=>z) (fun r2374 cs2375 cs2376 cs2377 z=>HP.blk b10 (cs2375) 35::HP.blk b9 (cs2376) 51::HP.blk b5 (cs2377) 51::HP.rc R_api_Answer cs2375 r2374.1::HP.rc R_triremeref12_State cs2376 r2374.2.1::HP.rc R_triremeref12_State cs2377 r2374.2.2::z) (fun r2374 hm=>?_) (fun r2374 a w hm cs2375 cs2376 cs2377 F H=>?_)
 refine cPm F rfl hm (fun hg2378 hm=>?_) (fun hg2378 hm=>?_)
 refine sr (bk [1] F H rfl ⟨fld51_1,trivial⟩ fun a F=>?_)
 have G:=F;replace H:=rc_triremeref12_State (H.pk 15 rfl);obtain ⟨p2379,c2380,p2381,c2382,rfl,J⟩:=H;have H:=J;have F:=G;clear G J
 refine bk [16001,0,1] F H rfl ⟨rfl,plain49,⟨_,Tryz.underlying49⟩,fld35_1,trivial⟩ fun a F=>?_
 refine s_st1 wkP F rfl rfl zero3 rfl rfl rfl rfl rfl H 4 rfl rfl fun w H=>?_
 replace H:=H.nf 17 rfl
 refine nb [0] F H rfl fun a F=>nl ?_
 refine xm2 17 [3,6,7,8,9] [0,1,2,3,5,6,7,8,9,11,12,13,14,15,16] F H hm rfl rfl (fun r2540 (p2541:Option Addr) (c2541:Nat) z=>z) (fun r2540 p2541 c2541 z=>HP.blk b10 ([.int .i64 (0),.int .i64 (((s.2).length:Int)),.slice none (([]:List UInt8)).length 0,.slice p2541 (r2540).length c2541]) 35::HP.ow rStr 9 p2541 c2541 r2540::z) (fun r2540 hm=>?_) (fun r2540 a w hm p2541 c2541 F H=>?_)
 refine bl ?_
 refine xl2 17 [3,4,6,7,8,9] [0,1,2,3,5,6,7,8,9,11,12,13,14,15,16] F H hm rfl rfl (fun (s2646:(List (List UInt8))×Int) (p2647:Option Addr) (c2647:Nat) z=>(12,.int .i64 (s2646.2))::z) (fun s2646 p2647 c2647 z=>HP.blk b10 ([.int .i64 (0),.int .i64 (((s.2).length:Int)),.slice none (([]:List UInt8)).length 0,.slice p2647 (s2646.1).length c2647]) 35::HP.ow rStr 9 p2647 c2647 s2646.1::z) ⟨none,0,F.sl rfl,(H.pm 17 [4,10,0,1,2,3,5,6,7,8,9,11,12,13,14,15,16] rfl:)⟩ (fun s2646 a w o p2647 c2647 F H hm=>?_)
 refine sq (sr (bk [0,1,16001,0,0] F H rfl ⟨fld51_1,rfl,plain49,⟨_,Tryz.underlying49⟩,trivial⟩ fun a F=>?_))
 refine nl (cPm F rfl hm (fun hg2648 hm=>?_) (fun hg2648 hm=>?_))
 refine sk (ct (sq ?_))
 refine xm2 17 [3,4,6,7,8,9,12] [2,3,4,5,6,7,8,9,10,11,12,13,14,15,16] F H hm rfl rfl (fun r2673 (p2674:Option Addr) (c2674:Nat) z=>z) (fun r2673 p2674 c2674 z=>HP.blk b10 ([.int .i64 (0),.int .i64 (((s.2).length:Int)),.slice none (([]:List UInt8)).length 0,.slice p2674 (r2673).length c2674]) 35::HP.ow rStr 9 p2674 c2674 r2673::z) (fun r2673 hm=>?_) (fun r2673 a w hm p2674 c2674 F H=>?_)
 refine bl (sq ?_)
 obtain ⟨x2675,ex2675,hm⟩:=ob hm
 obtain ⟨b2676,o2676,hp2676⟩:=H.slP 3 rfl (idxO_some ex2675).2
 obtain ⟨cs2677,hcl2677,H⟩:=H.slEl 3 rfl hp2676 (idxO_some ex2675).2
 clear hcl2677
 have G:=F;replace H:=rc_triremeref12_Snap (H.pk 1 rfl);obtain ⟨p2678,c2679,rfl,J⟩:=H;have H:=J;have F:=G;clear G J
 by_cases hg2680:(gtrB x2675.1 oq.2.2.1)=true
 replace hm:=ifT hg2680 hm
 refine qr H (by kernel_rfl) (by kernel_rfl) ?_
 refine qbk [1,18001,0] F rfl ⟨fld51_1,rfl,plain49,trivial⟩ fun a F=>?_
 refine qv F rfl (fun u hu=>y_idxS F elem49 rfl rfl rfl hp2676 ex2675) fun a F=>?_
 refine qbk [0,1000,2,17002] F rfl ⟨fld109_0,rfl,plain9,fld31_2,rfl,plain9,trivial⟩ fun a F=>?_
 refine qv F rfl (fun u hu=>y_gtrT (l:=x2675.1) (m:=oq.2.2.1) F rfl rfl rfl) fun a F=>?_
 refine qb [0] F rfl fun a F=>?_
 replace F:=F.vT 67 hg2680 rfl
 refine qbk [3,2003,0,0,0] F rfl ⟨fld35_3,rfl,plain33,⟨_,Tryz.underlying33⟩,trivial⟩ fun a F=>?_
 refine q_nil fun w H=>?_
 refine ct ?_
 refine xm2 19 [3,4,6,7,8,9,12] [1,4,5,6,7,8,9,10,11,12,13,14,15,16,17,18] F H hm rfl rfl (fun r2689 (p2690:Option Addr) (c2690:Nat) z=>z) (fun r2689 p2690 c2690 z=>HP.blk b10 ([.int .i64 (0),.int .i64 (((s.2).length:Int)),.slice none (([]:List UInt8)).length 0,.slice p2690 (r2689).length c2690]) 35::HP.ow rStr 9 p2690 c2690 r2689::z) (fun r2689 hm=>?_) (fun r2689 a w hm p2690 c2690 F H=>?_)
 refine cPm F rfl hm (fun hg2691 hm=>?_) (fun hg2691 hm=>?_)
 obtain ⟨x2692,ex2692,hm⟩:=ob hm
 obtain ⟨cs2693,hcl2693,H⟩:=H.slEl 5 rfl hp2676 (idxO_some ex2692).2
 clear hcl2693
 have G:=F;replace H:=rc_triremeref12_Snap (H.pk 1 rfl);obtain ⟨p2694,c2695,rfl,J⟩:=H;have H:=J;have F:=G;clear G J
 refine mix_region [8,9,11] [11] (.step 0 0 (.step 0 1 (.step 0 2 (.step 1 3 (.step 0 4 (.step 0 5 (.step 0 6 (.step 1 7 (.step 2 8 (.step 2 9 (.step 0 10 (.step 3 11 .done)))))))))))) (fun u=>∃ ls,St w0 u (HP.blk b10 ([.int .i64 (0),.int .i64 (((s.2).length:Int)),.slice none (([]:List UInt8)).length 0,.slice p2647 (s2646.1).length c2647]) 35::ls)) (by kernel_rfl) (by kernel_rfl) ⟨_,(H.drew.pm 21 [4,0,1,2,3,5,6,7,8,9,10,11,12,13,14,15,16,17,18,19,20] rfl:)⟩ ?_
 replace H:=H.drew
 generalize w.drew=w at H ⊢
 refine mbk [3] F H rfl ⟨fld35_3,trivial⟩ fun a F=>?_
 refine m_pure F rfl rfl rfl rfl (fun u hu=>y_load1 F plain33 rfl rfl (row_at (v:=.slice p2647 (s2646.1).length c2647) ((hu.choose_spec.blk 0 rfl).row) rfl)) fun a F=>?_
 refine mbk [1,20001,0] F H rfl ⟨fld51_1,rfl,plain49,trivial⟩ fun a F=>?_
 refine m_pure F rfl rfl rfl rfl (fun u hu=>y_idxS F elem49 rfl rfl rfl hp2676 ex2692) fun a F=>?_
 refine mbk [0,1000] F H rfl ⟨fld109_0,rfl,plain9,trivial⟩ fun a F=>?_
 refine m_heavy rfl rfl ?_
 refine s_buildC wkP F rfl rfl rfl elem33 zero9 rfl rfl rfl rfl (by simp [Value.cells]) (by decide) H fun b2696 w a H F=>?_
 replace H:=H.blkOw1 (R:=rStr) (x:=x2692.1) (fun gg=>rfl)
 refine lz ?_;refine ct ⟨⟨_,(H.pm 22 [5,0,1,2,3,4,6,7,8,9,10,11,12,13,14,15,16,17,18,19,20,21] rfl:)⟩,?_⟩
 refine m_heavy rfl rfl ?_
 replace H:=H.frz 0 rfl
 obtain ⟨x2698,ex2698,hm⟩:=ob hm
 refine s_app wkP F rfl rfl rfl rfl rfl rfl elem33 rfl ex2698 H 6 0 rfl rfl fun p2697 c2697 w a H F=>?_
 refine lz ?_;refine ct ⟨⟨_,(H.pm 22 [5,0,1,2,3,4,6,7,8,9,10,11,12,13,14,15,16,17,18,19,20,21] rfl:)⟩,?_⟩
 refine mbk [3] F H rfl ⟨fld35_3,trivial⟩ fun a F=>?_
 refine m_last rfl rfl ?_
 refine s_st1 wkP F rfl rfl zero33 rfl rfl rfl rfl rfl H 5 rfl rfl fun w H=>?_
 refine lz ?_;refine ct ?_
 refine m_nil ?_
 cases hm
 refine ct ?_
 exact ⟨p2697,c2697,F.sl rfl,(H.pm 22 [5,6,4,7,8,9,10,11,12,13,14,15,16,17,18,19,20,21] rfl:)⟩
 refine sk ?_
 cases hm
 refine ct ?_
 exact ⟨p2647,c2647,F.sl rfl,(H.pm 19 [2,3,1,4,5,6,7,8,9,10,11,12,13,14,15,16,17,18] rfl:)⟩
 refine bn ?_
 cases hm
 refine ct ?_
 exact ⟨p2690,c2690,F.sl rfl,(H.pm 18 [0,1,3,4,5,6,7,8,9,10,11,12,13,14,15,16,17] rfl:)⟩
 replace hm:=ifF hg2680 hm
 refine qr H (by kernel_rfl) (by kernel_rfl) ?_
 refine qbk [1,18001,0] F rfl ⟨fld51_1,rfl,plain49,trivial⟩ fun a F=>?_
 refine qv F rfl (fun u hu=>y_idxS F elem49 rfl rfl rfl hp2676 ex2675) fun a F=>?_
 refine qbk [0,1000,2,17002] F rfl ⟨fld109_0,rfl,plain9,fld31_2,rfl,plain9,trivial⟩ fun a F=>?_
 refine qv F rfl (fun u hu=>y_gtrT (l:=x2675.1) (m:=oq.2.2.1) F rfl rfl rfl) fun a F=>?_
 refine qb [0] F rfl fun a F=>?_
 replace F:=F.vF 67 hg2680 rfl
 refine qb (List.replicate 5 0) F rfl fun a F=>?_
 refine q_nil fun w H=>?_
 refine ct (cF F rfl ?_)
 refine sk (bn ?_)
 cases hm
 refine ct ?_
 exact ⟨p2647,c2647,F.sl rfl,(H.pm 19 [2,3,4,5,6,7,8,9,10,11,12,13,14,15,16,17,18] rfl:)⟩
 refine ct (rl (bb [0,0,0] F H rfl fun a F=>?_))
 refine lz (ct ?_);cases hm
 exact ⟨_,rfl,⟨p2674,c2674,F.sl rfl,H⟩⟩
 refine ex (cx (cx ?_));cases hm;refine ⟨_,rfl,?_⟩;rintro rfl
 refine ch (ct ?_)
 exact ⟨p2647,c2647,F.sl rfl,H⟩
 cases hm
 refine ct ?_
 replace H:=H.frz 11 rfl
 replace H:=H.frz 2 rfl
 replace H:=H.mkRc (R:=R_api_Answer) (cs:=[.int .i64 (0),.int .i64 (((s.2).length:Int)),.slice none (([]:List UInt8)).length 0,.slice p2541 (r2540).length c2541]) (x:=(0,((s.2).length:Int),([]:List UInt8),r2540)) (fun gg=>⟨_,_,rfl,rfl,⟨_,_,rfl,rfl,⟨_,_,rfl,⟨_,_,rfl,(gg 1 _ rfl).choose_spec⟩,⟨_,_,rfl,(gg 0 _ rfl).choose_spec⟩⟩⟩⟩)
 replace H:=H.mkRc (R:=R_triremeref12_State) (cs:=[.slice p2379 (s.1).length c2380,.slice p2381 (s.2).length c2382]) (x:=(s.1,s.2)) (fun gg=>⟨_,_,rfl,⟨_,_,rfl,(gg 4 _ rfl).choose_spec⟩,⟨_,_,rfl,(gg 5 _ rfl).choose_spec⟩⟩)
 replace H:=H.mkRc (R:=R_triremeref12_State) (cs:=[.slice p2379 (s.1).length c2380,.slice p2381 (s.2).length c2382]) (x:=(s.1,s.2)) (fun gg=>⟨_,_,rfl,⟨_,_,rfl,(gg 5 _ rfl).choose_spec⟩,⟨_,_,rfl,(gg 6 _ rfl).choose_spec⟩⟩)
 exact ⟨[.int .i64 (0),.int .i64 (((s.2).length:Int)),.slice none (([]:List UInt8)).length 0,.slice p2541 (r2540).length c2541],[.slice p2379 (s.1).length c2380,.slice p2381 (s.2).length c2382],[.slice p2379 (s.1).length c2380,.slice p2381 (s.2).length c2382],F.sl rfl,(H.pm 20 [5,12,19,2,1,0,8,9,10,11,13,14,15,16,17,18] rfl:)⟩
 refine sr (bk [0] F H rfl ⟨fld51_0,trivial⟩ fun a F=>?_)
 have G:=F;replace H:=rc_triremeref12_State (H.pk 15 rfl);obtain ⟨p2699,c2700,p2701,c2702,rfl,J⟩:=H;have H:=J;have F:=G;clear G J
 refine bk [16000,15999] F H rfl ⟨rfl,plain48,rfl,(aggn agg31 rfl),trivial⟩ fun a F=>?_
 replace H:=H.mkRc (R:=R_api_Op) (cs:=[.int .i64 (oq.1),.string (txb (oq.2.1)),.string (txb (oq.2.2.1)),.int .i64 (oq.2.2.2.1),.int .i64 (oq.2.2.2.2.1),.slice p11 (oq.2.2.2.2.2).length c12]) (x:=(oq.1,oq.2.1,oq.2.2.1,oq.2.2.2.1,oq.2.2.2.2.1,oq.2.2.2.2.2)) (fun gg=>⟨_,_,rfl,rfl,⟨_,_,rfl,rfl,⟨_,_,rfl,rfl,⟨_,_,rfl,rfl,⟨_,_,rfl,rfl,⟨_,_,rfl,(gg 3 _ rfl).choose_spec⟩⟩⟩⟩⟩⟩)
 obtain ⟨x2703,ex2703,hm⟩:=ob hm
 refine sd F rfl ent55 (w_m_triremeref11_Do ex2703 (H.pm 18 [1,0,0,1,2,3,4,5,6,7,8,9,10,11,12,13,14,15,16,17] rfl:):) ?_;rintro _ w a ⟨p2704,c2704,cs2705,rfl,H⟩ F
 refine bb [0,0,0] F H rfl fun a F=>?_
 replace H:=H.owNil rByte 5
 replace H:=H.owNil rStr 9
 refine s_allocA wkP F rfl rfl rfl agz35 rfl H fun b2706 w a H F=>?_
 refine bb [0] F H rfl fun a F=>?_
 refine s_storeA wkP F rfl rfl agg35 rfl rfl rfl H 0 rfl (H.rcLen 4 rfl) rfl (H.rcFlat 4 rfl) fun w H=>?_
 replace H:=H.nf 23 rfl
 refine nl (sr (bk [0,1,22001] F H rfl ⟨fld51_1,rfl,plain49,trivial⟩ fun a F=>?_))
 refine sv F rfl (y_build F rfl rfl (cs:=[.slice p2704 (x2703.1).length c2704,.slice p2701 (s.2).length c2702]) (by kernel_rfl)) fun a F=>?_
 refine s_storeA wkP F rfl rfl agg51 rfl rfl rfl H 13 rfl rfl rfl (fl rfl) fun w H=>?_
 replace H:=H.nf 23 rfl
 refine nl (rl (bk [999] F H rfl ⟨rfl,(aggn agg35 (H.rcLen 4 rfl)),trivial⟩ fun a F=>?_))
 refine s_storeA wkP F rfl rfl agg35 rfl rfl rfl H 10 rfl (H.rcLen 4 rfl) rfl (H.rcFlat 4 rfl) fun w H=>?_
 replace H:=H.nf 23 rfl
 refine lz ?_
 cases hm
 refine ct ?_
 replace H:=H.mkRc (R:=R_triremeref12_State) (cs:=[.slice p2704 (x2703.1).length c2704,.slice p2701 (s.2).length c2702]) (x:=(x2703.1,s.2)) (fun gg=>⟨_,_,rfl,⟨_,_,rfl,(gg 3 _ rfl).choose_spec⟩,⟨_,_,rfl,(gg 7 _ rfl).choose_spec⟩⟩)
 replace H:=H.mkRc (R:=R_triremeref12_State) (cs:=[.slice p2699 (s.1).length c2700,.slice p2701 (s.2).length c2702]) (x:=(s.1,s.2)) (fun gg=>⟨_,_,rfl,⟨_,_,rfl,(gg 7 _ rfl).choose_spec⟩,⟨_,_,rfl,(gg 8 _ rfl).choose_spec⟩⟩)
 exact ⟨cs2705,[.slice p2704 (x2703.1).length c2704,.slice p2701 (s.2).length c2702],[.slice p2699 (s.1).length c2700,.slice p2701 (s.2).length c2702],F.sl rfl,(H.pm 25 [12,15,24,6,1,0,10,11,13,14,16,17,20,21,22,23] rfl:)⟩
 cases hm
 refine ct ?_
 exact ⟨cs2375,cs2376,cs2377,F.sl rfl,H⟩
 refine bn ?_
 cases hm
 refine ct ?_
 exact ⟨cs2038,cs2039,cs2040,F.sl rfl,H⟩
 refine ct (sq (sr (bk [0] F H rfl ⟨fld35_0,trivial⟩ fun a F=>?_)))
 have G:=F;replace H:=rc_api_Answer (H.pk 3 rfl);obtain ⟨p2707,c2708,p2709,c2710,rfl,J⟩:=H;have H:=J;have F:=G;clear G J
 refine bk [2000,0,0] F H rfl ⟨rfl,plain32,trivial⟩ fun a F=>?_
 rcases spP 87 F rfl hm with ⟨hg2711,hm,F⟩ | ⟨hg2711,hm,F⟩
 refine bk [3999] F H rfl ⟨rfl,(aggn agg51 (H.rcLen 5 rfl)),trivial⟩ fun a F=>?_
 refine g_onP F rfl rfl rfl rfl ?_
 obtain ⟨x2712,ex2712,hm⟩:=ob hm
 refine sd F rfl ent50 (w_rUnits ex2712 (H.pm 17 [5,0,1,2,3,4,5,6,7,8,9,10,11,12,13,14,15,16] rfl:):) ?_;rintro _ w a ⟨rfl,H⟩ F
 refine bb [0,0] F H rfl fun a F=>?_
 replace H:=H.nf 17 rfl
 refine nl (cPm F rfl hm (fun hg2713 hm=>?_) (fun hg2713 hm=>?_))
 refine sr (bk [4999] F H rfl ⟨rfl,(aggn agg51 (H.rcLen 6 rfl)),trivial⟩ fun a F=>?_)
 replace H:=H.owNil rByte 5
 replace H:=H.owNil rStr 9
 refine sv F rfl (y_build F rfl rfl (cs:=[.int .i64 (98),.int .i64 (0),.slice none (([]:List UInt8)).length 0,.slice none (([]:List (List UInt8))).length 0]) (by kernel_rfl)) fun a F=>?_
 obtain ⟨p2714,c2715,p2716,c2717,H⟩:=O_triremeref12_State_o (H.pk 9 rfl)
 refine s_storeA wkP F rfl rfl agg51 rfl rfl rfl H 0 rfl (H.rcLen 11 rfl) rfl (H.rcFlat 11 rfl) fun w H=>?_
 refine s_storeA wkP F rfl rfl agg35 rfl rfl rfl H 17 rfl rfl rfl (fl rfl) fun w H=>?_
 replace H:=H.nf 21 rfl
 refine nl (wr (tr ?_))
 replace H:=H.frz 4 rfl
 replace H:=H.frz 4 rfl
 replace H:=H.mkRc (R:=R_api_Answer) (cs:=[.int .i64 (98),.int .i64 (0),.slice none (([]:List UInt8)).length 0,.slice none (([]:List (List UInt8))).length 0]) (x:=(98,0,([]:List UInt8),([]:List (List UInt8)))) (fun gg=>⟨_,_,rfl,rfl,⟨_,_,rfl,rfl,⟨_,_,rfl,⟨_,_,rfl,(gg 1 _ rfl).choose_spec⟩,⟨_,_,rfl,(gg 0 _ rfl).choose_spec⟩⟩⟩⟩)
 cases hm
 refine x_resC2 F rfl (⟨_,rfl,agg51.run_load (H.blk 3 rfl).row (H.rcLen 12 rfl)⟩) (⟨_,rfl,agg35.run_load (H.blk 18 rfl).row rfl⟩) ?_
 exact ⟨_,rfl,cs1361,[.int .i64 (98),.int .i64 (0),.slice none (([]:List UInt8)).length 0,.slice none (([]:List (List UInt8))).length 0],rfl,(H.pm 22 [12,0] rfl:)⟩
 refine sk (ct (sq (sr (bk [0,2000,0] F H rfl ⟨fld35_0,rfl,plain32,trivial⟩ fun a F=>?_))))
 refine nl (cNm F rfl hm (fun hg2718 hm=>?_) (fun hg2718 hm=>?_))
 refine sq ?_
 replace H:=H.owNil rByte 5
 replace H:=H.owNil rStr 9
 refine mix_region [4,5] [5] (.step 1 0 (.step 0 1 (.step 0 2 (.step 0 3 (.step 2 4 (.step 3 5 .done)))))) (fun u=>∃ ls,St w0 u (HP.blk b10 ([.int .i64 (r1358.1.1),.int .i64 (r1358.1.2.1),.slice p2707 (r1358.1.2.2.1).length c2708,.slice p2709 (r1358.1.2.2.2).length c2710]) 35::ls)) (by kernel_rfl) (by kernel_rfl) ⟨_,(H.drew.pm 19 [4,0,1,2,3,5,6,7,8,9,10,11,12,13,14,15,16,17,18] rfl:)⟩ ?_
 replace H:=H.drew
 generalize w.drew=w at H ⊢
 refine mbk [6999,0] F H rfl ⟨rfl,(aggn agg51 (H.rcLen 8 rfl)),fld35_0,trivial⟩ fun a F=>?_
 refine m_pure F rfl rfl rfl rfl (fun u hu=>y_load1 F plain32 rfl rfl (row_at (v:=.int .i64 (r1358.1.1)) ((hu.choose_spec.blk 0 rfl).row) rfl)) fun a F=>?_
 refine m_pure F rfl rfl rfl rfl (fun u hu=>y_build F rfl rfl (cs:=[.int .i64 (r1358.1.1),.int .i64 (0),.slice none (([]:List UInt8)).length 0,.slice none (([]:List (List UInt8))).length 0]) (by kernel_rfl)) fun a F=>?_
 refine m_heavy rfl rfl ?_
 obtain ⟨p2719,c2720,p2721,c2722,H⟩:=O_triremeref12_State_o (H.pk 9 rfl)
 refine s_storeA wkP F rfl rfl agg51 rfl rfl rfl H 0 rfl (H.rcLen 11 rfl) rfl (H.rcFlat 11 rfl) fun w H=>?_
 refine lz ?_;refine ct ⟨⟨_,(H.pm 21 [7,0,1,2,3,4,5,6,8,9,10,11,12,13,14,15,16,17,18,19,20] rfl:)⟩,?_⟩
 refine m_last rfl rfl ?_
 refine s_storeA wkP F rfl rfl agg35 rfl rfl rfl H 17 rfl rfl rfl (fl rfl) fun w H=>?_
 refine lz ?_;refine ct ?_
 refine m_nil ?_
 refine ct (wr (tr ?_))
 replace H:=H.frz 4 rfl
 replace H:=H.frz 4 rfl
 replace H:=H.mkRc (R:=R_api_Answer) (cs:=[.int .i64 (r1358.1.1),.int .i64 (0),.slice none (([]:List UInt8)).length 0,.slice none (([]:List (List UInt8))).length 0]) (x:=(r1358.1.1,0,([]:List UInt8),([]:List (List UInt8)))) (fun gg=>⟨_,_,rfl,rfl,⟨_,_,rfl,rfl,⟨_,_,rfl,⟨_,_,rfl,(gg 1 _ rfl).choose_spec⟩,⟨_,_,rfl,(gg 0 _ rfl).choose_spec⟩⟩⟩⟩)
 cases hm
 refine x_resC2 F rfl (⟨_,rfl,agg51.run_load (H.blk 3 rfl).row (H.rcLen 12 rfl)⟩) (⟨_,rfl,agg35.run_load (H.blk 18 rfl).row rfl⟩) ?_
 exact ⟨_,rfl,cs1361,[.int .i64 (r1358.1.1),.int .i64 (0),.slice none (([]:List UInt8)).length 0,.slice none (([]:List (List UInt8))).length 0],rfl,(H.pm 22 [12,0] rfl:)⟩
 refine sk (ct (sq ?_))
 refine mix_region [2,3] [3] (.step 1 0 (.step 0 1 (.step 2 2 (.step 3 3 .done)))) (fun u=>∃ ls,St w0 u (HP.blk b10 ([.int .i64 (r1358.1.1),.int .i64 (r1358.1.2.1),.slice p2707 (r1358.1.2.2.1).length c2708,.slice p2709 (r1358.1.2.2.2).length c2710]) 35::ls)) (by kernel_rfl) (by kernel_rfl) ⟨_,(H.drew.pm 17 [2,0,1,3,4,5,6,7,8,9,10,11,12,13,14,15,16] rfl:)⟩ ?_
 replace H:=H.drew
 generalize w.drew=w at H ⊢
 refine mbk [3999] F H rfl ⟨rfl,(aggn agg51 (H.rcLen 5 rfl)),trivial⟩ fun a F=>?_
 refine m_pure F rfl rfl rfl rfl (fun u hu=>y_loadA F agg35 rfl rfl ((hu.choose_spec.blk 0 rfl).row) rfl) fun a F=>?_
 refine m_heavy rfl rfl ?_
 obtain ⟨p2723,c2724,p2725,c2726,H⟩:=O_triremeref12_State_o (H.pk 7 rfl)
 refine s_storeA wkP F rfl rfl agg51 rfl rfl rfl H 0 rfl (H.rcLen 8 rfl) rfl (H.rcFlat 8 rfl) fun w H=>?_
 refine lz ?_;refine ct ⟨⟨_,(H.pm 19 [5,0,1,2,3,4,6,7,8,9,10,11,12,13,14,15,16,17,18] rfl:)⟩,?_⟩
 refine m_last rfl rfl ?_
 refine s_storeA wkP F rfl rfl agg35 rfl rfl rfl H 15 rfl rfl rfl (fl rfl) fun w H=>?_
 refine lz ?_;refine ct ?_
 refine m_nil ?_
 refine ct (wr ?_)
 replace H:=H.mkRc (R:=R_api_Answer) (cs:=[.int .i64 (r1358.1.1),.int .i64 (r1358.1.2.1),.slice p2707 (r1358.1.2.2.1).length c2708,.slice p2709 (r1358.1.2.2.2).length c2710]) (x:=(r1358.1.1,r1358.1.2.1,r1358.1.2.2.1,r1358.1.2.2.2)) (fun gg=>⟨_,_,rfl,rfl,⟨_,_,rfl,rfl,⟨_,_,rfl,⟨_,_,rfl,(gg 3 _ rfl).choose_spec⟩,⟨_,_,rfl,(gg 4 _ rfl).choose_spec⟩⟩⟩⟩)
 cases hm
 refine x_resC2 F rfl (⟨_,rfl,agg51.run_load (H.blk 1 rfl).row (H.rcLen 9 rfl)⟩) (⟨_,rfl,agg35.run_load (H.blk 16 rfl).row rfl⟩) ?_
 exact ⟨_,rfl,cs1360,[.int .i64 (r1358.1.1),.int .i64 (r1358.1.2.1),.slice p2707 (r1358.1.2.2.1).length c2708,.slice p2709 (r1358.1.2.2.2).length c2710],rfl,(H.pm 20 [9,0] rfl:)⟩
 refine bb [0,0,0,0] F H rfl fun a F=>?_
 replace H:=H.nf 17 rfl
 refine nl (cF F rfl ?_)
 refine sk (ct (sq (sr (bk [0,2000,0] F H rfl ⟨fld35_0,rfl,plain32,trivial⟩ fun a F=>?_))))
 refine nl (cNm F rfl hm (fun hg2727 hm=>?_) (fun hg2727 hm=>?_))
 refine sq ?_
 replace H:=H.owNil rByte 5
 replace H:=H.owNil rStr 9
 refine mix_region [4,5] [5] (.step 1 0 (.step 0 1 (.step 0 2 (.step 0 3 (.step 2 4 (.step 3 5 .done)))))) (fun u=>∃ ls,St w0 u (HP.blk b10 ([.int .i64 (r1358.1.1),.int .i64 (r1358.1.2.1),.slice p2707 (r1358.1.2.2.1).length c2708,.slice p2709 (r1358.1.2.2.2).length c2710]) 35::ls)) (by kernel_rfl) (by kernel_rfl) ⟨_,(H.drew.pm 19 [4,0,1,2,3,5,6,7,8,9,10,11,12,13,14,15,16,17,18] rfl:)⟩ ?_
 replace H:=H.drew
 generalize w.drew=w at H ⊢
 refine mbk [6999,0] F H rfl ⟨rfl,(aggn agg51 (H.rcLen 8 rfl)),fld35_0,trivial⟩ fun a F=>?_
 refine m_pure F rfl rfl rfl rfl (fun u hu=>y_load1 F plain32 rfl rfl (row_at (v:=.int .i64 (r1358.1.1)) ((hu.choose_spec.blk 0 rfl).row) rfl)) fun a F=>?_
 refine m_pure F rfl rfl rfl rfl (fun u hu=>y_build F rfl rfl (cs:=[.int .i64 (r1358.1.1),.int .i64 (0),.slice none (([]:List UInt8)).length 0,.slice none (([]:List (List UInt8))).length 0]) (by kernel_rfl)) fun a F=>?_
 refine m_heavy rfl rfl ?_
 obtain ⟨p2728,c2729,p2730,c2731,H⟩:=O_triremeref12_State_o (H.pk 9 rfl)
 refine s_storeA wkP F rfl rfl agg51 rfl rfl rfl H 0 rfl (H.rcLen 11 rfl) rfl (H.rcFlat 11 rfl) fun w H=>?_
 refine lz ?_;refine ct ⟨⟨_,(H.pm 21 [7,0,1,2,3,4,5,6,8,9,10,11,12,13,14,15,16,17,18,19,20] rfl:)⟩,?_⟩
 refine m_last rfl rfl ?_
 refine s_storeA wkP F rfl rfl agg35 rfl rfl rfl H 17 rfl rfl rfl (fl rfl) fun w H=>?_
 refine lz ?_;refine ct ?_
 refine m_nil ?_
 refine ct (wr (tr ?_))
 replace H:=H.frz 4 rfl
 replace H:=H.frz 4 rfl
 replace H:=H.mkRc (R:=R_api_Answer) (cs:=[.int .i64 (r1358.1.1),.int .i64 (0),.slice none (([]:List UInt8)).length 0,.slice none (([]:List (List UInt8))).length 0]) (x:=(r1358.1.1,0,([]:List UInt8),([]:List (List UInt8)))) (fun gg=>⟨_,_,rfl,rfl,⟨_,_,rfl,rfl,⟨_,_,rfl,⟨_,_,rfl,(gg 1 _ rfl).choose_spec⟩,⟨_,_,rfl,(gg 0 _ rfl).choose_spec⟩⟩⟩⟩)
 cases hm
 refine x_resC2 F rfl (⟨_,rfl,agg51.run_load (H.blk 3 rfl).row (H.rcLen 12 rfl)⟩) (⟨_,rfl,agg35.run_load (H.blk 18 rfl).row rfl⟩) ?_
 exact ⟨_,rfl,cs1361,[.int .i64 (r1358.1.1),.int .i64 (0),.slice none (([]:List UInt8)).length 0,.slice none (([]:List (List UInt8))).length 0],rfl,(H.pm 22 [12,0] rfl:)⟩
 refine sk (ct (sq ?_))
 refine mix_region [2,3] [3] (.step 1 0 (.step 0 1 (.step 2 2 (.step 3 3 .done)))) (fun u=>∃ ls,St w0 u (HP.blk b10 ([.int .i64 (r1358.1.1),.int .i64 (r1358.1.2.1),.slice p2707 (r1358.1.2.2.1).length c2708,.slice p2709 (r1358.1.2.2.2).length c2710]) 35::ls)) (by kernel_rfl) (by kernel_rfl) ⟨_,(H.drew.pm 17 [2,0,1,3,4,5,6,7,8,9,10,11,12,13,14,15,16] rfl:)⟩ ?_
 replace H:=H.drew
 generalize w.drew=w at H ⊢
 refine mbk [3999] F H rfl ⟨rfl,(aggn agg51 (H.rcLen 5 rfl)),trivial⟩ fun a F=>?_
 refine m_pure F rfl rfl rfl rfl (fun u hu=>y_loadA F agg35 rfl rfl ((hu.choose_spec.blk 0 rfl).row) rfl) fun a F=>?_
 refine m_heavy rfl rfl ?_
 obtain ⟨p2732,c2733,p2734,c2735,H⟩:=O_triremeref12_State_o (H.pk 7 rfl)
 refine s_storeA wkP F rfl rfl agg51 rfl rfl rfl H 0 rfl (H.rcLen 8 rfl) rfl (H.rcFlat 8 rfl) fun w H=>?_
 refine lz ?_;refine ct ⟨⟨_,(H.pm 19 [5,0,1,2,3,4,6,7,8,9,10,11,12,13,14,15,16,17,18] rfl:)⟩,?_⟩
 refine m_last rfl rfl ?_
 refine s_storeA wkP F rfl rfl agg35 rfl rfl rfl H 15 rfl rfl rfl (fl rfl) fun w H=>?_
 refine lz ?_;refine ct ?_
 refine m_nil ?_
 refine ct (wr ?_)
 replace H:=H.mkRc (R:=R_api_Answer) (cs:=[.int .i64 (r1358.1.1),.int .i64 (r1358.1.2.1),.slice p2707 (r1358.1.2.2.1).length c2708,.slice p2709 (r1358.1.2.2.2).length c2710]) (x:=(r1358.1.1,r1358.1.2.1,r1358.1.2.2.1,r1358.1.2.2.2)) (fun gg=>⟨_,_,rfl,rfl,⟨_,_,rfl,rfl,⟨_,_,rfl,⟨_,_,rfl,(gg 3 _ rfl).choose_spec⟩,⟨_,_,rfl,(gg 4 _ rfl).choose_spec⟩⟩⟩⟩)
 cases hm
 refine x_resC2 F rfl (⟨_,rfl,agg51.run_load (H.blk 1 rfl).row (H.rcLen 9 rfl)⟩) (⟨_,rfl,agg35.run_load (H.blk 16 rfl).row rfl⟩) ?_
 exact ⟨_,rfl,cs1360,[.int .i64 (r1358.1.1),.int .i64 (r1358.1.2.1),.slice p2707 (r1358.1.2.2.1).length c2708,.slice p2709 (r1358.1.2.2.2).length c2710],rfl,(H.pm 20 [9,0] rfl:)⟩
theorem ent30:En Tryz.prog 30:=enters Tryz.func30 (by kernel_rfl) rfl
theorem ent25:En Tryz.prog 25:=enters Tryz.func25 (by kernel_rfl) rfl
theorem ent26:En Tryz.prog 26:=enters Tryz.func26 (by kernel_rfl) rfl
theorem ent28:En Tryz.prog 28:=enters Tryz.func28 (by kernel_rfl) rfl
theorem w_lPlays {script:List T_api_Op} {p1:Option Addr} {c1:Nat} {w0 w:World} {l:List HP}  {r:Bool} (hm:lPlays script=some r) (H:St w0 w (HP.sl R_api_Op p1 c1 script::l)) :
  Calls Tryz.prog 5 [.slice p1 (script).length c1].toArray w (fun e w'=>∃ v,e=.returned v∧v=.bool (r)∧St w0 w' (l)):=by
 unfold lPlays at hm
 refine x_enter Tryz.func5 rfl rfl rfl ?_
 intro a F
 refine sb [0] F H rfl fun a F=>nl (sq (sr ?_))
 obtain ⟨x2,ex2,hm⟩:=ob hm
 refine sd F rfl ent13 (w_lSpeaks ex2 H:) ?_;rintro _ w a ⟨rfl,H⟩ F
 refine bb [0] F H rfl fun a F=>?_
 replace H:=H.nf 1 rfl
 refine nl (cB F rfl (fun hg3=>?_) (fun hg3=>?_))
 replace hm:=ifT hg3 hm
 refine sb [0] F H rfl fun a F=>nl (wr (tr ?_))
 cases hm
 refine x_ret1 F rfl rfl ?_
 exact ⟨_,rfl,rfl,(H.pm 1 [] rfl:)⟩
 replace hm:=ifF (nT hg3) hm
 refine sk (ct (sq (sr (bk [0,0,0] F H rfl ⟨⟨_,Tryz.underlying22⟩,trivial⟩ fun a F=>?_))))
 refine nl (cPm F rfl hm (fun hg4 hm=>?_) (fun hg4 hm=>?_))
 refine sb [0] F H rfl fun a F=>nl (wr (tr ?_))
 cases hm
 refine x_ret1 F rfl rfl ?_
 exact ⟨_,rfl,rfl,(H.pm 1 [] rfl:)⟩
 refine sk (ct (sr ?_))
 obtain ⟨x5,ex5,hm⟩:=ob hm
 refine sd F rfl ent14 (w_nNew ex5 H:) ?_;rintro _ w a ⟨cs6,rfl,H⟩ F
 obtain ⟨x7,ex7,hm⟩:=ob hm
 refine sd F rfl ent30 (w_rNewS ex7 H:) ?_;rintro _ w a ⟨cs8,rfl,H⟩ F
 replace H:=H.owNil R_api_Pair 103
 replace H:=H.owNil R_api_Snap 41
 refine s_allocA wkP F rfl rfl rfl agz27 rfl H fun b9 w a H F=>?_
 replace H:=H.owNil R_triremeref11_Node 120
 replace H:=H.owNil R_triremeref12_Snap 109
 refine s_allocA wkP F rfl rfl rfl agz51 rfl H fun b10 w a H F=>?_
 refine s_storeA wkP F rfl rfl agg27 rfl rfl rfl H 3 rfl (H.rcLen 7 rfl) rfl (H.rcFlat 7 rfl) fun w H=>?_
 refine s_storeA wkP F rfl rfl agg51 rfl rfl rfl H 0 rfl (H.rcLen 6 rfl) rfl (H.rcFlat 6 rfl) fun w H=>?_
 replace H:=H.nf 9 rfl
 refine nl (sq (sr (bk [0,0,0] F H rfl ⟨⟨_,Tryz.underlying22⟩,trivial⟩ fun a F=>?_)))
 refine nl (xr2 9 [] [1,2,4,5] F H hm rfl rfl (fun r93 (cs94:List Value) (cs95:List Value) z=>z) (fun r93 cs94 cs95 z=>HP.blk b10 (cs94) 51::HP.blk b9 (cs95) 27::HP.rc R_triremeref12_State cs94 r93.1::HP.rc R_api_State cs95 r93.2::z) (fun o93 hm hm93=>?_) (fun r93 a w hm cs94 cs95 F H=>?_))
 refine bl ?_
 refine xl2 9 [3,4,18,19] [1,2,4,5,8] F H hm rfl rfl (fun (s150:T_triremeref12_State×T_api_State×Int) (cs151:List Value) (cs152:List Value) z=>(20,.int .i64 (s150.2.2))::z) (fun s150 cs151 cs152 z=>HP.blk b10 (cs151) 51::HP.blk b9 (cs152) 27::HP.rc R_triremeref12_State cs151 s150.1::HP.rc R_api_State cs152 s150.2.1::z) ⟨cs8,cs6,F.sl rfl,(H.pm 9 [0,3,6,7,1,2,4,5,8] rfl:)⟩ (fun s150 a w o cs151 cs152 F H hm=>?_)
 refine sb [0] F H rfl fun a F=>nl (sq (cPm F rfl hm (fun hg153 hm=>?_) (fun hg153 hm=>?_)))
 refine sk (ct (sq (bl (sb [0] F H rfl fun a F=>?_))))
 obtain ⟨x154,ex154,hm⟩:=ob hm
 obtain ⟨b155,o155,hp155⟩:=H.slP 8 rfl (idxO_some ex154).2
 obtain ⟨cs156,hcl156,H⟩:=H.slEl 8 rfl hp155 (idxO_some ex154).2
 clear hcl156
 refine sv F rfl (y_idxS F elem22 rfl rfl rfl hp155 ex154) fun a F=>bk [999] F H rfl ⟨rfl,(aggn agg31 (H.rcLen 1 rfl)),trivial⟩ fun a F=>?_
 replace H:=H.owNil rByte 5
 refine s_allocA wkP F rfl rfl rfl agz31 rfl H fun b157 w a H F=>?_
 refine bb [0] F H rfl fun a F=>?_
 refine s_storeA wkP F rfl rfl agg31 rfl rfl rfl H 0 rfl (H.rcLen 3 rfl) rfl (H.rcFlat 3 rfl) fun w H=>?_
 replace H:=H.nf 13 rfl
 refine nl (sq (sr (bk [999] F H rfl ⟨rfl,(aggn agg31 (H.rcLen 3 rfl)),trivial⟩ fun a F=>?_)))
 obtain ⟨x158,ex158,hm⟩:=ob hm
 refine sd F rfl ent19 (w_rGreatOp ex158 (H.pm 13 [3,0,1,2,3,4,5,6,7,8,9,10,11,12] rfl:):) ?_;rintro _ w a ⟨rfl,H⟩ F
 replace H:=H.nf 13 rfl
 refine nl (cB F rfl (fun hg159=>?_) (fun hg159=>?_))
 replace hm:=ifT hg159 hm
 refine sb [0] F H rfl fun a F=>?_
 refine nl (wr (tr (br (tr (tr ?_)))));cases hm;refine ⟨_,rfl,?_⟩;rintro rfl
 refine br (tr ?_)
 replace hm:=elimR hm93
 refine tr ?_
 cases hm
 refine x_ret1 F rfl rfl ?_
 exact ⟨_,rfl,rfl,(H.pm 13 [] rfl:)⟩
 replace hm:=ifF (nT hg159) hm
 refine sk (ct (sr (bk [5999,999,0,2] F H rfl ⟨rfl,(aggn agg27 (H.rcLen 7 rfl)),rfl,(aggn agg31 (H.rcLen 3 rfl)),Tryz.underlying3,Tryz.underlying38,trivial⟩ fun a F=>?_)))
 obtain ⟨x160,ex160,hm⟩:=ob hm
 refine sd F rfl ent15 (w_nDo ex160 (H.pm 13 [7,3,0,1,2,3,4,5,6,7,8,9,10,11,12] rfl:):) ?_;rintro _ w a ⟨cs161,cs162,rfl,H⟩ F
 refine bb [0,0,0] F H rfl fun a F=>?_
 replace H:=H.owNil R_api_Pair 103
 replace H:=H.owNil R_api_Snap 41
 refine s_allocA wkP F rfl rfl rfl agz27 rfl H fun b163 w a H F=>?_
 replace H:=H.owNil rByte 5
 replace H:=H.owNil rStr 9
 refine s_allocA wkP F rfl rfl rfl agz35 rfl H fun b164 w a H F=>?_
 refine s_storeA wkP F rfl rfl agg27 rfl rfl rfl H 3 rfl (H.rcLen 6 rfl) rfl (H.rcFlat 6 rfl) fun w H=>?_
 refine s_storeA wkP F rfl rfl agg35 rfl rfl rfl H 0 rfl (H.rcLen 7 rfl) rfl (H.rcFlat 7 rfl) fun w H=>?_
 replace H:=H.nf 21 rfl
 refine nl (sr (bk [12999,8999,0,2] F H rfl ⟨rfl,(aggn agg51 (H.rcLen 14 rfl)),rfl,(aggn agg31 (H.rcLen 11 rfl)),Tryz.underlying3,Tryz.underlying38,trivial⟩ fun a F=>?_))
 obtain ⟨x165,ex165,hm⟩:=ob hm
 refine sd F rfl ent25 (w_rDoS ex165 (H.pm 21 [14,11,0,1,2,3,4,5,6,7,8,9,10,11,12,13,14,15,16,17,18,19,20] rfl:):) ?_;rintro _ w a ⟨cs166,cs167,rfl,H⟩ F
 refine bb [0,0,0] F H rfl fun a F=>?_
 replace H:=H.owNil R_triremeref11_Node 120
 replace H:=H.owNil R_triremeref12_Snap 109
 refine s_allocA wkP F rfl rfl rfl agz51 rfl H fun b168 w a H F=>?_
 replace H:=H.owNil rByte 5
 replace H:=H.owNil rStr 9
 refine s_allocA wkP F rfl rfl rfl agz35 rfl H fun b169 w a H F=>?_
 refine s_storeA wkP F rfl rfl agg51 rfl rfl rfl H 3 rfl (H.rcLen 6 rfl) rfl (H.rcFlat 6 rfl) fun w H=>?_
 refine s_storeA wkP F rfl rfl agg35 rfl rfl rfl H 0 rfl (H.rcLen 7 rfl) rfl (H.rcFlat 7 rfl) fun w H=>?_
 replace H:=H.nf 29 rfl
 refine nl (sq (sq ?_))
 refine mix_region [2,7,8,13] [] (.step 1 0 (.step 1 1 (.step 2 2 (.step 0 3 (.step 0 4 (.step 0 5 (.step 1 6 (.step 2 7 (.step 2 8 (.step 0 9 (.step 0 10 (.step 0 11 (.step 1 12 (.step 2 13 (.step 0 14 (.step 0 15 .done)))))))))))))))) (fun u=>∃ ls,St w0 u (HP.blk b163 (cs161) 27::HP.rc R_api_State cs161 x160.1::ls)) (by kernel_rfl) (by kernel_rfl) ⟨_,(H.drew.pm 29 [11,14,0,1,2,3,4,5,6,7,8,9,10,12,13,14,15,16,17,18,19,20,21,22,23,24,25,26,27,28] rfl:)⟩ ?_
 replace H:=H.drew
 generalize w.drew=w at H ⊢
 refine mbk [8999,999] F H rfl ⟨rfl,(aggn agg35 (H.rcLen 15 rfl)),rfl,(aggn agg35 (H.rcLen 7 rfl)),trivial⟩ fun a F=>?_
 refine m_heavy rfl rfl ?_
 obtain ⟨x170,ex170,hm⟩:=ob hm
 refine sd F rfl ent26 (w_rSameAns ex170 (H.pm 29 [15,7,0,1,2,3,4,5,6,7,8,9,10,11,12,13,14,15,16,17,18,19,20,21,22,23,24,25,26,27,28] rfl:):) ?_;rintro _ w a ⟨rfl,H⟩ F
 refine lz ?_;refine ct ⟨⟨_,(H.pm 29 [11,14,0,1,2,3,4,5,6,7,8,9,10,12,13,14,15,16,17,18,19,20,21,22,23,24,25,26,27,28] rfl:)⟩,?_⟩
 refine mb [0,0] F H rfl fun a F=>?_
 by_cases hg171:(!x170)=true
 replace hm:=ifT hg171 hm
 replace F:=F.vT 47 hg171 rfl
 refine mb (List.replicate 11 0) F H rfl fun a F=>?_
 refine m_nil ?_
 refine ct (cT F rfl ?_)
 refine sb [0] F H rfl fun a F=>?_
 replace H:=H.nf 29 rfl
 refine nl (wr (tr (br (tr (tr ?_)))));cases hm;refine ⟨_,rfl,?_⟩;rintro rfl
 refine br (tr ?_)
 replace hm:=elimR hm93
 refine tr ?_
 cases hm
 refine x_ret1 F rfl rfl ?_
 exact ⟨_,rfl,rfl,(H.pm 29 [] rfl:)⟩
 replace hm:=ifF hg171 hm
 replace F:=F.vF 47 hg171 rfl
 refine m_on (k:=0) F rfl rfl rfl rfl rfl rfl rfl (fun u hu=>y_loadA F agg27 rfl rfl ((hu.choose_spec.blk 0 rfl).row) (hu.choose_spec.rcLen 1 rfl)) fun a F=>?_
 refine mbk [3999] F H rfl ⟨rfl,(aggn agg51 (H.rcLen 6 rfl)),trivial⟩ fun a F=>?_
 refine m_heavyOn F rfl rfl rfl rfl rfl ?_;refine g_onP F rfl rfl rfl rfl ?_
 obtain ⟨x172,ex172,hm⟩:=ob hm
 refine sd F rfl ent28 (w_rWriteS ex172 (H.pm 29 [6,0,1,2,3,4,5,6,7,8,9,10,11,12,13,14,15,16,17,18,19,20,21,22,23,24,25,26,27,28] rfl:):) ?_;rintro _ w a ⟨cs173,rfl,H⟩ F
 refine lz ?_;refine ct ⟨⟨_,(H.pm 30 [12,15,0,1,2,3,4,5,6,7,8,9,10,11,13,14,15,16,17,18,19,20,21,22,23,24,25,26,27,28,29] rfl:)⟩,?_⟩
 refine m_heavyOn F rfl rfl rfl rfl rfl ?_;refine g_onP F rfl rfl rfl rfl ?_
 obtain ⟨x174,ex174,hm⟩:=ob hm
 refine sd F rfl ent27 (w_rSameS ex174 (H.pm 30 [15,0,0,1,2,3,4,5,6,7,8,9,10,11,12,13,14,15,16,17,18,19,20,21,22,23,24,25,26,27,28,29] rfl:):) ?_;rintro _ w a ⟨rfl,H⟩ F
 refine lz ?_;refine ct ⟨⟨_,(H.pm 30 [12,15,0,1,2,3,4,5,6,7,8,9,10,11,13,14,15,16,17,18,19,20,21,22,23,24,25,26,27,28,29] rfl:)⟩,?_⟩
 refine mb [0,0,0] F H rfl fun a F=>?_
 by_cases hg175:(!x174)=true
 replace hm:=ifT hg175 hm
 replace F:=F.vT 54 hg175 rfl
 refine mb [0,0,0,0] F H rfl fun a F=>?_
 refine m_nil ?_
 refine ct (cT F rfl ?_)
 refine sb [0] F H rfl fun a F=>?_
 replace H:=H.nf 30 rfl
 refine nl (wr (tr (br (tr (tr ?_)))));cases hm;refine ⟨_,rfl,?_⟩;rintro rfl
 refine br (tr ?_)
 replace hm:=elimR hm93
 refine tr ?_
 cases hm
 refine x_ret1 F rfl rfl ?_
 exact ⟨_,rfl,rfl,(H.pm 30 [] rfl:)⟩
 replace hm:=ifF hg175 hm
 replace F:=F.vF 54 hg175 rfl
 refine mbk [12999] F H rfl ⟨rfl,(aggn agg27 (H.rcLen 15 rfl)),trivial⟩ fun a F=>?_
 refine m_heavyOn F rfl rfl rfl rfl rfl ?_;refine g_onP F rfl rfl rfl rfl ?_
 obtain ⟨x176,ex176,hm⟩:=ob hm
 refine sd F rfl ent23 (w_nCheck ex176 (H.pm 30 [15,0,1,2,3,4,5,6,7,8,9,10,11,12,13,14,15,16,17,18,19,20,21,22,23,24,25,26,27,28,29] rfl:):) ?_;rintro _ w a ⟨rfl,H⟩ F
 refine lz ?_;refine ct ⟨⟨_,(H.pm 30 [12,15,0,1,2,3,4,5,6,7,8,9,10,11,13,14,15,16,17,18,19,20,21,22,23,24,25,26,27,28,29] rfl:)⟩,?_⟩
 refine mb [0,0] F H rfl fun a F=>?_
 refine m_nil ?_
 refine ct (cNm F rfl hm (fun hg177 hm=>?_) (fun hg177 hm=>?_))
 refine sb [0] F H rfl fun a F=>?_
 replace H:=H.nf 30 rfl
 refine nl (wr (tr (br (tr (tr ?_)))));cases hm;refine ⟨_,rfl,?_⟩;rintro rfl
 refine br (tr ?_)
 replace hm:=elimR hm93
 refine tr ?_
 cases hm
 refine x_ret1 F rfl rfl ?_
 exact ⟨_,rfl,rfl,(H.pm 30 [] rfl:)⟩
 refine sk (ct (mix_region [2,3] [3] (.step 1 0 (.step 0 1 (.step 2 2 (.step 3 3 .done)))) (fun u=>∃ ls,St w0 u (HP.blk b168 (cs166) 51::HP.rc R_triremeref12_State cs166 x165.1::ls)) (by kernel_rfl) (by kernel_rfl) ⟨_,(H.drew.pm 30 [4,7,0,1,2,3,5,6,7,8,9,10,11,12,13,14,15,16,17,18,19,20,21,22,23,24,25,26,27,28,29] rfl:)⟩ ?_))
 replace H:=H.drew
 generalize w.drew=w at H ⊢
 refine mbk [12999] F H rfl ⟨rfl,(aggn agg27 (H.rcLen 15 rfl)),trivial⟩ fun a F=>?_
 refine m_pure F rfl rfl rfl rfl (fun u hu=>y_loadA F agg51 rfl rfl ((hu.choose_spec.blk 0 rfl).row) (hu.choose_spec.rcLen 1 rfl)) fun a F=>?_
 refine m_heavy rfl rfl ?_
 refine s_storeA wkP F rfl rfl agg27 rfl rfl rfl H 22 rfl (H.rcLen 15 rfl) (H.rcLen 24 rfl) (H.rcFlat 15 rfl) fun w H=>?_
 refine lz ?_;refine ct ⟨⟨_,(H.pm 30 [4,7,0,1,2,3,5,6,7,8,9,10,11,12,13,14,15,16,17,18,19,20,21,22,23,24,25,26,27,28,29] rfl:)⟩,?_⟩
 refine m_last rfl rfl ?_
 refine s_storeA wkP F rfl rfl agg51 rfl rfl rfl H 21 rfl (H.rcLen 7 rfl) (H.rcLen 23 rfl) (H.rcFlat 7 rfl) fun w H=>?_
 refine lz ?_;refine ct ?_
 refine m_nil ?_
 refine bn (ct (rl (bb [0,0] F H rfl fun a F=>?_)))
 replace H:=H.nf 30 rfl
 refine lz (ct ?_);cases hm
 exact ⟨_,rfl,⟨cs166,cs161,F.sl rfl,(H.pm 30 [21,22,7,15,25,26,27,28,29] rfl:)⟩⟩
 refine ex (cx (cx ?_));cases hm;refine ⟨_,rfl,?_⟩;rintro rfl
 refine ch (ct ?_)
 exact ⟨_,rfl,cs151,cs152,F.cut _ trivial,(H.pm 9 [0,1,2,3,4,5,6,7] rfl:)⟩
 refine ct (sb [0] F H rfl fun a F=>?_)
 refine nl (wr ?_)
 cases hm
 refine x_ret1 F rfl rfl ?_
 exact ⟨_,rfl,rfl,(H.pm 8 [] rfl:)⟩
end Go.Proofs.YtnagibpmfabkjaaGreatDoor
namespace Go.Tri
open Go.RowKit
def iterF {σ:Type} (step:Nat→σ→σ):Nat→Nat→σ→σ
 | 0,_,s=>s
 | m+1,i,s=>iterF step m (i+1) (step i s)
theorem loop_for {σ ρ:Type} {f:σ×Int→Option ((σ×Int) ⊕ ρ)} (step:Nat→σ→σ) (fin:σ→ρ) (n:Nat) (I:Nat→σ→Prop)
  (hs:∀ i s,i<n→I i s→f (s,(i:Int))=some (.inl (step i s,((i+1:Nat):Int)))∧I (i+1) (step i s)) (he:∀ s,I n s→f (s,(n:Int))=some (.inr (fin s))) :
  ∀ (m i:Nat) (s:σ),i+m=n→I i s→loopO f (s,(i:Int))=some (fin (iterF step m i s))∧I n (iterF step m i s)
 | 0,i,s,h,hi=>by
  have:i=n:=by omega
  subst this
  rw [loopO_eq,he s hi]
  exact ⟨rfl,hi⟩
 | m+1,i,s,h,hi=>by
  obtain ⟨h1,h2⟩:=hs i s (by omega) hi
  rw [loopO_eq,h1]
  exact loop_for step fin n I hs he m (i+1) (step i s) (by omega) h2
theorem loop_for0 {σ ρ:Type} {f:σ×Int→Option ((σ×Int) ⊕ ρ)} (step:Nat→σ→σ) (fin:σ→ρ) (n:Nat) (I:Nat→σ→Prop)
  (hs:∀ i s,i<n→I i s→f (s,(i:Int))=some (.inl (step i s,((i+1:Nat):Int)))∧I (i+1) (step i s)) (he:∀ s,I n s→f (s,(n:Int))=some (.inr (fin s))) {s0:σ} (h0:I 0 s0) :
  loopO f (s0,0)=some (fin (iterF step n 0 s0))∧I n (iterF step n 0 s0):=loop_for step fin n I hs he n 0 s0 (by omega) h0
theorem iterF_congr {σ:Type} {f g:Nat→σ→σ} (I:Nat→σ→Prop) (n:Nat) (h:∀ i s,i<n→I i s→f i s=g i s∧I (i+1) (f i s)):∀ (m i:Nat) (s:σ),i+m=n→I i s→iterF f m i s=iterF g m i s
 | 0,_,_,_,_=>rfl
 | m+1,i,s,hm,hi=>by
  obtain ⟨h1,h2⟩:=h i s (by omega) hi
  show iterF f m (i+1) (f i s)=iterF g m (i+1) (g i s)
  rw [← h1]
  exact iterF_congr I n h m (i+1) (f i s) (by omega) h2
theorem idxO_nat {α:Type} {xs:List α} {i:Nat} {x:α} (h:xs[i]?=some x):idxO xs (i:Int)=some x:=by
 unfold idxO;rw [if_pos (by omega)];simpa using h
theorem idxO_get {α:Type} {xs:List α} {i:Nat} (h:i<xs.length):idxO xs (i:Int)=some xs[i]:=idxO_nat (List.getElem?_eq_getElem h)
theorem idxO_getD {α:Type} {xs:List α} {i:Int} {n:Nat} (d:α) (hi:i=(n:Int)) (h:n<xs.length):idxO xs i=some (xs.getD n d):=by
 subst hi
 rw [idxO_get h];simp [List.getD,List.getElem?_eq_getElem h]
theorem slcO_of {α:Type} {xs:List α} {i j:Nat} (h1:i≤j) (h2:j≤xs.length):slcO xs (i:Int) (j:Int)=some ((xs.take j).drop i):=by
 unfold slcO;rw [if_pos ⟨by omega,by omega,by omega⟩];simp
theorem appO_of {α:Type} [Cap α] {xs ys:List α} (h:xs.length+ys.length≤274877906944):appO xs ys=some (xs++ys):=by
 unfold appO;rw [if_pos (Nat.le_trans h Cap.le)]
theorem appO_byte {xs ys:List UInt8} (h:xs.length+ys.length≤140737488355328):appO xs ys=some (xs++ys):=by
 unfold appO;rw [if_pos (show xs.length+ys.length≤Cap.cap UInt8 from h)]
theorem wrap_u8' (n:Int):IntKind.u8.wrap n=n % 256:=by
 unfold IntKind.wrap;simp [IntKind.signed,IntKind.bits]
theorem i64_id {n:Int} (h1:-9223372036854775808≤n) (h2:n≤9223372036854775807):IntKind.i64.wrap n=n:=wrap_i64 rfl h1 h2
theorem i64_nat {n:Nat} (h2:n≤9223372036854775807):IntKind.i64.wrap (n:Int)=n:=wrap_i64 rfl (by omega) (by omega)
theorem u64_id {n:Int} (h1:0≤n) (h2:n<18446744073709551616):IntKind.u64.wrap n=n:=wrap_u64 rfl h1 (by omega)
theorem u8_ok (c:UInt8):u8O (c.toNat:Int)=some c:=by
 unfold u8O
 have:=c.toNat_lt
 rw [if_pos ⟨by omega,by omega⟩]
 simp [u8]
theorem u8O_of {n:Int} (h1:0≤n) (h2:n<256):u8O n=some (u8 n):=by unfold u8O;rw [if_pos ⟨h1,h2⟩]
theorem loop_down {σ ρ:Type} {f:σ×Int→Option ((σ×Int) ⊕ ρ)} (step:Nat→σ→σ) (fin:σ→ρ) (I:Nat→σ→Prop)
  (hs:∀ i s,I (i+1) s→f (s,(i:Int))=some (.inl (step i s,(i:Int) - 1))∧I i (step i s)) (he:∀ s,I 0 s→f (s,-1)=some (.inr (fin s))) :
  ∀ (n:Nat) (s:σ),I n s→loopO f (s,(n:Int) - 1)=some (fin ((List.range n).reverse.foldl (fun s i=>step i s) s))
 | 0,s,h=>by
  rw [loopO_eq]
  have:f (s,((0:Nat):Int) - 1)=some (.inr (fin s)):=he s h
  rw [this];rfl
 | n+1,s,h=>by
  obtain ⟨h1,h2⟩:=hs n s h
  rw [loopO_eq]
  have e:((n+1:Nat):Int) - 1=n:=by omega
  rw [e,h1]
  show loopO f (step n s,(n:Int) - 1)=_
  rw [loop_down step fin I hs he n (step n s) h2,List.range_succ,List.reverse_append]
  rfl
theorem remO_nat (n m:Nat) (h:m≠0):remO (n:Int) (m:Int)=some ((n % m:Nat):Int):=by
 unfold remO
 rw [if_neg (by omega),Int.tmod_eq_emod_of_nonneg (by omega)];rfl
theorem quoO_nat (n m:Nat) (h:m≠0) (hn:n≤9223372036854775807):quoO .i64 (n:Int) (m:Int)=some ((n / m:Nat):Int):=by
 unfold quoO
 rw [if_neg (by omega),Int.tdiv_eq_ediv_of_nonneg (by omega)]
 have:((n:Int) / (m:Int))=((n / m:Nat):Int):=rfl
 rw [this,i64_nat (Nat.le_trans (Nat.div_le_self _ _) hn)]
theorem shrI_nat (k:IntKind) (n c:Nat) (hc:c≤k.bits):shrI k (n:Int) (c:Int)=((n / 2 ^ c:Nat):Int):=by
 unfold shrI
 rw [show min (c:Int).toNat k.bits=c by omega,Int.fdiv_eq_ediv_of_nonneg _ (by exact_mod_cast Nat.zero_le (2 ^ c))]
 push_cast;rfl
theorem loop_run {σ ρ:Type} {f:σ→Option (σ ⊕ ρ)} (I:Nat→σ→Prop) (Q:ρ→Prop) (n:Nat)
  (hs:∀ i s,i<n→I i s→(∃ s',f s=some (.inl s')∧I (i+1) s')∨(∃ r,f s=some (.inr r)∧Q r))
  (he:∀ s,I n s→∃ r,f s=some (.inr r)∧Q r):∀ (m i:Nat) (s:σ),i+m=n→I i s→∃ r,loopO f s=some r∧Q r
 | 0,i,s,h,hi=>by
  obtain rfl:i=n:=by omega
  obtain ⟨r,h1,h2⟩:=he s hi
  exact ⟨r,by rw [loopO_eq,h1];rfl,h2⟩
 | m+1,i,s,h,hi=>by
  rcases hs i s (by omega) hi with ⟨s',h1,h2⟩ | ⟨r,h1,h2⟩
  ·obtain ⟨r,h3,h4⟩:=loop_run I Q n hs he m (i+1) s' (by omega) h2
   exact ⟨r,by rw [loopO_eq,h1];exact h3,h4⟩
  ·exact ⟨r,by rw [loopO_eq,h1];rfl,h2⟩
theorem bind_runP {σ ρ τ:Type} {f:σ→Option (σ ⊕ ρ)} {k:ρ→Option τ} {C:Option τ→Prop} (I:Nat→σ→Prop) (Q:ρ→Prop) (n:Nat) {s0:σ} (h0:I 0 s0)
  (hs:∀ i s,i<n→I i s→(∃ s',f s=some (.inl s')∧I (i+1) s')∨(∃ r,f s=some (.inr r)∧Q r))
  (he:∀ s,I n s→∃ r,f s=some (.inr r)∧Q r) (hk:∀ r,Q r→C (k r)):C (Option.bind (loopO f s0) k):=by
 obtain ⟨r,h1,h2⟩:=loop_run I Q n hs he n 0 s0 (by omega) h0
 rw [h1];exact hk r h2
theorem bind_run {σ ρ τ:Type} {f:σ→Option (σ ⊕ ρ)} {k:ρ→Option τ} {t:τ} (I:Nat→σ→Prop) (Q:ρ→Prop) (n:Nat) {s0:σ} (h0:I 0 s0)
  (hs:∀ i s,i<n→I i s→(∃ s',f s=some (.inl s')∧I (i+1) s')∨(∃ r,f s=some (.inr r)∧Q r))
  (he:∀ s,I n s→∃ r,f s=some (.inr r)∧Q r) (hk:∀ r,Q r→k r=some t):Option.bind (loopO f s0) k=some t :=
 bind_runP (C:=fun o=>o=some t) I Q n h0 hs he hk
end Go.Tri
