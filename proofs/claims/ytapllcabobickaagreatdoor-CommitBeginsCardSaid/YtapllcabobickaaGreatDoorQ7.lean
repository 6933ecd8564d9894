/- Texts NodeA, ShapeA, TreeA, StrA, PathA, LibA. -/
import Derived.Test.YtapllcabobickaaGreatDoorQ6
import Derived.Test.YtapllcabobickaaGreatDoorQ4
import Derived.Test.YtapllcabobickaaGreatDoorShelf
import Derived.Test.YtapllcabobickaaGreatDoorFilL
set_option linter.unusedSimpArgs false
set_option linter.unusedVariables false
namespace Go.Proofs.YtapllcabobickaaGreatDoor
open Go.RowKit Go.Tri
set_option maxRecDepth 100000
set_option maxHeartbeats 4000000
theorem fld129_0:FieldT Tryz.prog 129 0 0:=by unfold FieldT;rw [Tryz.underlying129];kernel_rfl
theorem w_m_node_right_1 {x0_:T_api_Pair} {cs1:List Value} {w0 w:World} {l:List HP}  {r:(List UInt8)} (hm:m_node_right_1 x0_=some r) (H:St w0 w (HP.rc R_api_Pair cs1 x0_::l)) :
  Calls Tryz.prog 197 [.agg cs1.toArray].toArray w (fun e w'=>∃ v,e=.returned v∧∃ (p2:Option Addr) (c2:Nat),v=.slice p2 (r).length c2∧St w0 w' (HP.sl rByte p2 c2 r::l)):=by
 unfold m_node_right_1 at hm
 refine x_enter Tryz.func197 rfl rfl rfl ?_
 intro a F
 refine sr (s_boxA wkP F rfl rfl rfl rfl rfl H fun b3 w a H F=>bb [0] F H rfl fun a F=>?_)
 replace H:=H.nf 2 rfl
 refine nl (sr (bk [0] F H rfl ⟨fld129_0,trivial⟩ fun a F=>?_))
 have G:=F;replace H:=rc_api_Pair (H.pk 1 rfl);obtain ⟨p4,c5,p6,c7,rfl,J⟩:=H;have H:=J;have F:=G;clear G J
 refine bk [2000,0] F H rfl ⟨rfl,plain25,trivial⟩ fun a F=>nl (wr ?_)
 cases hm
 refine x_ret1 F rfl rfl ?_
 exact ⟨_,rfl,p4,c5,rfl,(H.pm 3 [0] rfl:)⟩
theorem w_cmp154 {w:World} {v u:Value} {x y:List UInt8} (hx:Sl w v x.length (bcells x)) (hy:Sl w u y.length (bcells y)):Calls Tryz.prog 154 [v,u].toArray w (fun e w'=>e=.returned (.int .i64 (Lib.compareBytes x y))∧w'=w):=by
 refine x_enter Tryz.func154 rfl rfl rfl ?_
 intro a F
 replace F:Fr ⟨8,[]⟩ a [(0,v),(1,u)]:=F
 refine wp_seq (r_lit ?_)
 refine sv F rfl (y_assign F rfl rfl) fun a F=>?_
 refine wpList_nil (c_then ?_)
 refine wp_seq (r_lit ?_)
 refine sv F rfl (y_move F rfl rfl) fun a F=>sv F rfl (y_move F rfl rfl) fun a F=>?_
 refine sv F rfl (y_ext F rfl rfl (v:=.int .i64 (Lib.compareBytes x y)) (w:=w) (by rw [run_callFunc_extern Tryz.func181 (by kernel_rfl) (by kernel_rfl) (by kernel_rfl) (e:=Extern.BytealgCompare.compare) (by kernel_rfl),run_compare hx hy];rfl)) fun a F=>?_
 refine sv F rfl (y_assign F rfl rfl) fun a F=>?_
 refine wpList_nil (c_then ?_)
 refine wp_ret ?_
 refine x_ret1 F rfl rfl ?_
 exact ⟨rfl,rfl⟩
theorem w_cmpB {a:List UInt8} {b:List UInt8} {p1:Option Addr} {c1:Nat} {p2:Option Addr} {c2:Nat} {w0 w:World} {l:List HP}  {r:Int} (hm:cmpB a b=some r) (H:St w0 w (HP.sl rByte p1 c1 a::HP.sl rByte p2 c2 b::l)) :
  Calls Tryz.prog 154 [.slice p1 (a).length c1,.slice p2 (b).length c2].toArray w (fun e w'=>∃ v,e=.returned v∧v=.int .i64 (r)∧St w0 w' (l)):=by
 unfold cmpB at hm
 cases hm
 have hx:Sl w (.slice p1 (a).length c1) (a).length (bcells a):=H.slBy 0 rfl
 have hy:Sl w (.slice p2 (b).length c2) (b).length (bcells b):=H.slBy 1 rfl
 exact (w_cmp154 hx hy).mono fun e w' h=>⟨_,h.1,rfl,by rw [h.2];exact H.tail.tail⟩
theorem elem61:ElemT Tryz.prog 61 129 2 48 (.agg [.slice none 0 0,.slice none 0 0].toArray):=⟨Tryz.underlying61,by kernel_rfl,by kernel_rfl,by decide⟩
theorem agg129:AggT Tryz.prog 129 2 [.slice none 0 0,.slice none 0 0]:=⟨by rw [Tryz.underlying129];rfl,by kernel_rfl,by kernel_rfl⟩
theorem ent197:En Tryz.prog 197:=enters Tryz.func197 (by kernel_rfl) rfl
theorem ent154:En Tryz.prog 154:=enters Tryz.func154 (by kernel_rfl) rfl
theorem w_riseP {list:List T_api_Pair} {p1:Option Addr} {c1:Nat} {w0 w:World} {l:List HP}  {r:Bool} (hm:riseP list=some r) (H:St w0 w (HP.sl R_api_Pair p1 c1 list::l)) :
  Calls Tryz.prog 196 [.slice p1 (list).length c1,.func (.func 197) #[] #[]].toArray w (fun e w'=>∃ v,e=.returned v∧v=.bool (r)∧St w0 w' (l)):=by
 unfold riseP at hm
 refine x_enter Tryz.func196 rfl rfl rfl ?_
 intro a F
 refine sb [0] F H rfl fun a F=>nl (sq (sb [0] F H rfl fun a F=>?_))
 refine nl (xr0 1 [] [] F H hm rfl rfl (fun r39 z=>z) (fun r39 z=>z) (fun o39 hm hm39=>?_) (fun r39 a w hm F H=>?_))
 refine bl (xl0 1 [0,1] [0] F H hm rfl rfl (fun (s64:Int) z=>(5,.int .i64 (s64))::z) (fun s64 z=>z) ⟨F.sl rfl,H⟩ (fun s64 a w o F H hm=>sq (sr (bk [0,0,0,0] F H rfl ⟨⟨_,Tryz.underlying61⟩,trivial⟩ fun a F=>?_))))
 refine nl (cPm F rfl hm (fun hg65 hm=>?_) (fun hg65 hm=>?_))
 refine sk (ct (sq (bl (sq ?_))))
 obtain ⟨x66,ex66,hm⟩:=ob hm
 obtain ⟨b67,o67,hp67,cs68,H⟩:=H.slE 0 rfl ex66
 obtain ⟨x69,ex69,hm⟩:=ob hm
 obtain ⟨cs70,H⟩:=H.slF 2 rfl hp67 ex69
 refine mix_regionK [6,12,13] [] (scL [0,1,2,3,4,1005,7,8,9,10,11,2006,2012,2013,14]) [0,1] H rfl rfl (by kernel_rfl) (by kernel_rfl) fun w H=>?_
 refine mb [0,0,0,0] F H rfl fun a F=>?_
 refine m_pure F rfl rfl rfl rfl (fun u hu=>y_idxS F elem61 rfl rfl rfl hp67 ex66) fun a F=>?_
 refine mbk [2999,0,0,0] F H rfl ⟨rfl,(aggn agg129 (H.rcLen 3 rfl)),trivial⟩ fun a F=>?_
 refine m_pure F rfl rfl rfl rfl (fun u hu=>y_idxS F elem61 rfl rfl rfl hp67 ex69) fun a F=>?_
 refine m_pure F rfl rfl rfl rfl (fun u hu=>y_loadA F agg129 rfl rfl (hu.choose_spec.rowAt 0 rfl) (hu.choose_spec.rcLen 1 rfl)) fun a F=>?_
 refine m_heavy rfl rfl ?_
 obtain ⟨x71,ex71,hm⟩:=ob hm
 refine s_call wkP F rfl rfl rfl rfl (y_callV0 F rfl rfl rfl ent197) (w_m_node_right_1 ex71 (H.pm 5 [3,0,1,2,3,4] rfl:):) ?_;rintro _ w a ⟨p72,c72,rfl,H⟩ F
 refine lz ?_;refine ct ⟨⟨_,(H.pm 6 [1,2,0,1,2,3,4,5] rfl:)⟩,?_⟩
 refine m_heavy rfl rfl ?_
 obtain ⟨x73,ex73,hm⟩:=ob hm
 refine s_call wkP F rfl rfl rfl rfl (y_callV0 F rfl rfl rfl ent197) (w_m_node_right_1 ex73 (H.pm 6 [2,0,1,2,3,4,5] rfl:):) ?_;rintro _ w a ⟨p74,c74,rfl,H⟩ F
 refine lz ?_;refine ct ⟨⟨_,(H.pm 7 [2,3,0,1,2,3,4,5,6] rfl:)⟩,?_⟩
 refine m_heavy rfl rfl ?_
 obtain ⟨x75,ex75,hm⟩:=ob hm
 refine sd F rfl ent154 (w_cmpB ex75 (H.pm 7 [1,0,0,1,2,3,4,5,6] rfl:):) ?_;rintro _ w a ⟨rfl,H⟩ F
 refine lz ?_;refine ct ⟨⟨_,(H.pm 7 [2,3,0,1,2,3,4,5,6] rfl:)⟩,?_⟩
 refine mb [0] F H rfl fun a F=>m_nil ?_
 refine ct (cPm F rfl hm (fun hg76 hm=>?_) (fun hg76 hm=>?_))
 refine sb [0] F H rfl fun a F=>?_
 replace H:=H.nf 7 rfl
 refine nl (wr (br (tr (tr ?_))));cases hm;refine ⟨_,rfl,?_⟩;rintro rfl
 refine br (tr ?_)
 replace hm:=elimR hm39
 refine tr ?_
 cases hm
 refine x_ret1 F rfl rfl ?_
 exact ⟨_,rfl,rfl,(H.pm 7 [] rfl:)⟩
 refine sk (bn (ct (rl (bb [0,0,0] F H rfl fun a F=>?_))))
 replace H:=H.nf 7 rfl
 refine lz (ct ?_);cases hm
 exact ⟨_,rfl,⟨F.sl rfl,(H.pm 7 [6] rfl:)⟩⟩
 refine ex (cx (cx ?_));cases hm;refine ⟨_,rfl,?_⟩;rintro rfl
 refine ch (ct ?_)
 exact ⟨_,rfl,F.cut _ trivial,(H.pm 1 [] rfl:)⟩
 refine ct (sb [0] F H rfl fun a F=>nl (wr ?_))
 cases hm
 refine x_ret1 F rfl rfl ?_
 exact ⟨_,rfl,rfl,H⟩
theorem fld227_0:FieldT Tryz.prog 227 0 0:=by unfold FieldT;rw [Tryz.underlying227];kernel_rfl
theorem plain3:Plain Tryz.prog 3:=by unfold Plain;rw [Tryz.underlying3];rfl
theorem fld227_2:FieldT Tryz.prog 227 2 2:=by unfold FieldT;rw [Tryz.underlying227];kernel_rfl
theorem plain217:Plain Tryz.prog 217:=by unfold Plain;rw [Tryz.underlying217];rfl
theorem fld227_1:FieldT Tryz.prog 227 1 1:=by unfold FieldT;rw [Tryz.underlying227];kernel_rfl
theorem plain61:Plain Tryz.prog 61:=by unfold Plain;rw [Tryz.underlying61];rfl
theorem ent196:En Tryz.prog 196:=enters Tryz.func196 (by kernel_rfl) rfl
theorem w_m_node_right {x0_:T_api_Node} {cs1:List Value} {w0 w:World} {l:List HP}  {r:Bool} (hm:m_node_right x0_=some r) (H:St w0 w (HP.rc R_api_Node cs1 x0_::l)) :
  Calls Tryz.prog 176 [.agg cs1.toArray].toArray w (fun e w'=>∃ v,e=.returned v∧v=.bool (r)∧St w0 w' (l)):=by
 unfold m_node_right at hm
 refine x_enter Tryz.func176 rfl rfl rfl ?_
 intro a F
 refine sr (s_boxA wkP F rfl rfl rfl rfl rfl H fun b2 w a H F=>bb [0] F H rfl fun a F=>?_)
 replace H:=H.nf 2 rfl
 refine nl (sq (bl (sr (bk [0] F H rfl ⟨fld227_0,trivial⟩ fun a F=>?_))))
 have G:=F;replace H:=rc_api_Node (H.pk 1 rfl);obtain ⟨p3,c4,p5,c6,rfl,J⟩:=H;have H:=J;have F:=G;clear G J
 refine bk [2000,0,0] F H rfl ⟨rfl,plain3,trivial⟩ fun a F=>?_
 rcases spP 7 F rfl hm with ⟨hg7,hm,F⟩ | ⟨hg7,hm,F⟩
 refine bb (List.replicate 5 0) F H rfl fun a F=>nl (cT F rfl ?_)
 cases hm
 refine bk [0,2000,0,0,0] F H rfl ⟨fld227_0,rfl,plain3,trivial⟩ fun a F=>?_
 refine nl (cPm F rfl hm (fun hg8 hm=>?_) (fun hg8 hm=>?_))
 cases hm
 refine sr (bk [0,2000,0,0] F H rfl ⟨fld227_0,rfl,plain3,trivial⟩ fun a F=>?_)
 refine nl (cPm F rfl hm (fun hg9 hm=>?_) (fun hg9 hm=>?_))
 refine sr (bk [2,2002,0,0,0] F H rfl ⟨fld227_2,rfl,plain217,⟨_,Tryz.underlying217⟩,trivial⟩ fun a F=>?_)
 rcases spP 20 F rfl hm with ⟨hg10,hm,F⟩ | ⟨hg10,hm,F⟩
 refine bk [1,2001,0,0,0,0] F H rfl ⟨fld227_1,rfl,plain61,⟨_,Tryz.underlying61⟩,trivial⟩ fun a F=>?_
 rcases spP 26 F rfl hm with ⟨hg11,hm,F⟩ | ⟨hg11,hm,F⟩
 refine bk [1,2001] F H rfl ⟨fld227_1,rfl,plain61,trivial⟩ fun a F=>g_onP F rfl rfl rfl rfl ?_
 obtain ⟨x12,ex12,hm⟩:=ob hm
 refine sd F rfl ent196 (w_riseP ex12 (H.pm 3 [0,0,1,2] rfl:):) ?_;rintro _ w a ⟨rfl,H⟩ F
 refine bb [0,0] F H rfl fun a F=>?_
 replace H:=H.nf 3 rfl
 refine nl (wr (br (tr ?_)))
 cases hm
 refine x_ret1 F rfl rfl ?_
 exact ⟨_,rfl,rfl,(H.pm 3 [] rfl:)⟩
 refine bb (List.replicate 5 0) F H rfl fun a F=>nl (wr (br (tr ?_)))
 cases hm
 refine x_ret1 F rfl rfl ?_
 exact ⟨_,rfl,rfl,(H.pm 3 [] rfl:)⟩
 refine bb (List.replicate 11 0) F H rfl fun a F=>nl (wr (br (tr ?_)))
 cases hm
 refine x_ret1 F rfl rfl ?_
 exact ⟨_,rfl,rfl,(H.pm 3 [] rfl:)⟩
 refine sk (bn (ct ?_))
 cases hm
theorem agg227:AggT Tryz.prog 227 3 [.int .i64 0,.slice none 0 0,.slice none 0 0]:=⟨by rw [Tryz.underlying227];rfl,by kernel_rfl,by kernel_rfl⟩
theorem ent176:En Tryz.prog 176:=enters Tryz.func176 (by kernel_rfl) rfl
theorem agz129:AggT Tryz.prog 129 2 ([.slice none (([]:List UInt8)).length 0,.slice none (([]:List UInt8)).length 0]):=⟨by rw [Tryz.underlying129];rfl,by kernel_rfl,by kernel_rfl⟩
theorem ent20:En Tryz.prog 20:=enters Tryz.func20 (by kernel_rfl) rfl
theorem fld129_1:FieldT Tryz.prog 129 1 1:=by unfold FieldT;rw [Tryz.underlying129];kernel_rfl
theorem elem217:ElemT Tryz.prog 217 223 33 56 (.agg [.slice none 0 0,.int .u8 0,.int .u8 0,.int .u8 0,.int .u8 0,.int .u8 0,.int .u8 0,.int .u8 0,.int .u8 0,.int .u8 0,.int .u8 0,.int .u8 0,.int .u8 0,.int .u8 0,.int .u8 0,.int .u8 0,.int .u8 0,.int .u8 0,.int .u8 0,.int .u8 0,.int .u8 0,.int .u8 0,.int .u8 0,.int .u8 0,.int .u8 0,.int .u8 0,.int .u8 0,.int .u8 0,.int .u8 0,.int .u8 0,.int .u8 0,.int .u8 0,.int .u8 0].toArray):=⟨Tryz.underlying217,by kernel_rfl,by kernel_rfl,by decide⟩
theorem agg223:AggT Tryz.prog 223 33 [.slice none 0 0,.int .u8 0,.int .u8 0,.int .u8 0,.int .u8 0,.int .u8 0,.int .u8 0,.int .u8 0,.int .u8 0,.int .u8 0,.int .u8 0,.int .u8 0,.int .u8 0,.int .u8 0,.int .u8 0,.int .u8 0,.int .u8 0,.int .u8 0,.int .u8 0,.int .u8 0,.int .u8 0,.int .u8 0,.int .u8 0,.int .u8 0,.int .u8 0,.int .u8 0,.int .u8 0,.int .u8 0,.int .u8 0,.int .u8 0,.int .u8 0,.int .u8 0,.int .u8 0]:=⟨by rw [Tryz.underlying223];rfl,by kernel_rfl,by kernel_rfl⟩
theorem agz223:AggT Tryz.prog 223 33 ([Value.slice none (([]:List UInt8)).length 0]++(bcells (List.replicate 32 0))):=⟨by rw [Tryz.underlying223];rfl,by kernel_rfl,by kernel_rfl⟩
theorem ent21:En Tryz.prog 21:=enters Tryz.func21 (by kernel_rfl) rfl
theorem w_ndWrite {n:T_api_Node} {cs1:List Value} {w0 w:World} {l:List HP}  {r:(List UInt8)×Int} (hm:ndWrite n=some r) (H:St w0 w (HP.rc R_api_Node cs1 n::l)) :
  Calls Tryz.prog 149 [.agg cs1.toArray].toArray w (fun e w'=>∃ v,e=.returned v∧∃ (p2:Option Addr) (c2:Nat),v=.tuple [.slice p2 (r.1).length c2,.int .i64 (r.2)].toArray∧St w0 w' (HP.ow rByte 5 p2 c2 r.1::l)):=by
 unfold ndWrite at hm
 refine x_enter Tryz.func149 rfl rfl rfl ?_
 intro a F
 refine sr (s_boxA wkP F rfl rfl rfl rfl rfl H fun b3 w a H F=>bb [0,0] F H rfl fun a F=>?_)
 replace H:=H.nf 2 rfl
 refine nl (sq (sr (bk [999] F H rfl ⟨rfl,(aggn agg227 (H.rcLen 1 rfl)),trivial⟩ fun a F=>?_)))
 obtain ⟨x4,ex4,hm⟩:=ob hm
 refine sd F rfl ent176 (w_m_node_right ex4 (H.pm 2 [1,0,1] rfl:):) ?_;rintro _ w a ⟨rfl,H⟩ F
 refine bb [0] F H rfl fun a F=>?_
 replace H:=H.nf 2 rfl
 refine nl (cB F rfl (fun hg5=>?_) (fun hg5=>?_))
 replace hm:=ifT hg5 hm
 cases hm
 replace hm:=ifF (nT hg5) hm
 refine sk (ct (sr ?_))
 replace H:=H.owNil rByte 5
 refine sv F rfl (y_build F rfl rfl (cs:=[.slice none (([]:List UInt8)).length 0]) (by kernel_rfl)) fun a F=>s_boxA wkP F rfl rfl rfl rfl rfl H fun b6 w a H F=>bb [0] F H rfl fun a F=>?_
 replace H:=H.nf 4 rfl
 refine nl (sr (bk [0,0] F H rfl ⟨fld227_0,trivial⟩ fun a F=>?_))
 have G:=F;replace H:=rc_api_Node (H.pk 3 rfl);obtain ⟨p7,c8,p9,c10,rfl,J⟩:=H;have H:=J;have F:=G;clear G J
 refine bk [4000,1,1,4001,0,2,4002,0,0,1] F H rfl ⟨rfl,plain3,Tryz.underlying3,Tryz.underlying5,fld227_1,rfl,plain61,⟨_,Tryz.underlying61⟩,fld227_2,rfl,plain217,⟨_,Tryz.underlying217⟩,Tryz.underlying3,Tryz.underlying5,trivial⟩ fun a F=>?_
 obtain ⟨x12,ex12,hm⟩:=ob hm
 obtain ⟨x13,ex13,hm⟩:=ob hm
 obtain ⟨x14,ex14,hm⟩:=ob hm
 refine s_buildC wkP F rfl rfl rfl elem25 zero5 rfl rfl rfl rfl (by simp [Value.cells]) (by decide) H fun b11 w a H F=>?_
 replace H:St w0 w (HP.ow rByte 5 (some ⟨b11,0,none⟩) (([x12,x13,x14]).length) ([x12,x13,x14])::HP.sl R_api_Pair p7 c8 n.2.1::HP.sl R_api_Kid p9 c10 n.2.2::HP.blk b6 ([.slice none (([]:List UInt8)).length 0]) 74::HP.ow rByte 5 none 0 ([]:List UInt8)::HP.blk b3 ([.int .i64 (n.1),.slice p7 (n.2.1).length c8,.slice p9 (n.2.2).length c10]) 227::l):=H.blkOw (R:=rByte) 0 rfl (fun gg=>⟨[[.int .u8 (84)],[.int .u8 (IntKind.u8.wrap (n.1))],[.int .u8 (IntKind.u8.wrap (IntKind.i64.wrap (((n.2.1).length:Int)+((n.2.2).length:Int))))]],rfl,(congrArg (fun z=>[Value.int .u8 z]) (u8O_some ex12).symm),(congrArg (fun z=>[Value.int .u8 z]) (u8O_some ex13).symm),(congrArg (fun z=>[Value.int .u8 z]) (u8O_some ex14).symm),trivial⟩) (by simp)
 replace H:=O_pack_Pen_s (x0:=([]:List UInt8)) (H.pm 6 [3,4,0,1,2,5] rfl:)
 replace H:=H.frz 1 rfl
 obtain ⟨x15,ex15,hm⟩:=ob hm
 refine sd F rfl ent18 (w_penRaw ex15 (H.pm 5 [1,0,0,2,3,4] rfl:):) ?_;rintro _ w a ⟨rfl,H⟩ F
 replace H:=H.nf 5 rfl
 refine nl (sq (sr (bk [1,4001,0,0] F H rfl ⟨fld227_1,rfl,plain61,⟨_,Tryz.underlying61⟩,trivial⟩ fun a F=>?_)))
 refine nl (xr0 5 [1,4] [2,3,4] F H hm rfl rfl (fun r56 z=>z) (fun r56 z=>O_pack_Pen b6 r56::z) (fun o56 hm hm56=>?_) (fun r56 a w hm F H=>?_))
 refine bl (xl0 5 [1,4,30,31] [2,3,4] F H hm rfl rfl (fun (s83:T_pack_Pen_o×Int) z=>(32,.int .i64 (s83.2))::z) (fun s83 z=>O_pack_Pen b6 s83.1::z) ⟨F.sl rfl,(H.pm 5 [0,2,3,4] rfl:)⟩ (fun s83 a w o F H hm=>sb [0] F H rfl fun a F=>?_))
 refine nl (sq (cPm F rfl hm (fun hg84 hm=>?_) (fun hg84 hm=>?_)))
 refine sk (ct (sq (bl (sr ?_))))
 obtain ⟨x85,ex85,hm⟩:=ob hm
 obtain ⟨b86,o86,hp86,cs87,H⟩:=H.slE 1 rfl ex85
 refine sv F rfl (y_idxS F elem61 rfl rfl rfl hp86 ex85) fun a F=>bk [999] F H rfl ⟨rfl,(aggn agg129 (H.rcLen 1 rfl)),trivial⟩ fun a F=>?_
 replace H:=H.owNil rByte 5
 replace H:=H.owNil rByte 5
 refine s_allocA wkP F rfl rfl rfl agz129 rfl H fun b88 w a H F=>s_storeA wkP F rfl rfl agg129 rfl rfl rfl H 0 rfl (H.rcLen 4 rfl) rfl (H.rcFlat 4 rfl) fun w H=>?_
 replace H:=H.nf 9 rfl
 refine nl (sr (bk [0,0] F H rfl ⟨fld129_0,trivial⟩ fun a F=>?_))
 have G:=F;replace H:=rc_api_Pair (H.pk 4 rfl);obtain ⟨p89,c90,p91,c92,rfl,J⟩:=H;have H:=J;have F:=G;clear G J
 refine bk [2000] F H rfl ⟨rfl,plain25,trivial⟩ fun a F=>?_
 obtain ⟨x93,ex93,hm⟩:=ob hm
 refine sd F rfl ent20 (w_penText ex93 (H.pm 10 [6,0,0,1,2,3,4,5,7,8,9] rfl:):) ?_;rintro _ w a ⟨rfl,H⟩ F
 refine bb [0,0] F H rfl fun a F=>?_
 rcases spN 41 F rfl hm with ⟨hg94,hm,F⟩ | ⟨hg94,hm,F⟩
 refine bk [0,1,3001] F H rfl ⟨fld129_1,rfl,plain25,trivial⟩ fun a F=>g_onP F rfl rfl rfl rfl ?_
 obtain ⟨x95,ex95,hm⟩:=ob hm
 refine sd F rfl ent20 (w_penText ex95 (H.pm 10 [0,2,1,2,3,4,5,6,7,8,9] rfl:):) ?_;rintro _ w a ⟨rfl,H⟩ F
 refine bb [0,0] F H rfl fun a F=>?_
 replace H:=H.nf 10 rfl
 refine nl (cNm F rfl hm (fun hg96 hm=>?_) (fun hg96 hm=>?_))
 cases hm
 refine sk (bn (ct (rl (bb [0,0] F H rfl fun a F=>?_))))
 refine lz (ct ?_);cases hm
 exact ⟨_,rfl,⟨F.sl rfl,(H.pm 10 [0,7,8,9] rfl:)⟩⟩
 refine bb (List.replicate 6 0) F H rfl fun a F=>?_
 replace H:=H.nf 10 rfl
 refine nl (cT F rfl ?_)
 cases hm
 refine ex (cx (cx ?_));cases hm;refine ⟨_,rfl,?_⟩;rintro rfl
 refine ch (ct ?_)
 exact ⟨_,rfl,F.sl rfl,H⟩
 refine ct (sq (sr (bk [2,3002,0,0] F H rfl ⟨fld227_2,rfl,plain217,⟨_,Tryz.underlying217⟩,trivial⟩ fun a F=>?_)))
 refine nl (xr0 4 [4] [0,1,2,3] F H hm rfl rfl (fun r113 z=>z) (fun r113 z=>z) (fun o113 hm hm113=>?_) (fun r113 a w hm F H=>?_))
 refine bl (xl0 4 [4,50,51,52] [0,1,2,3] F H hm rfl rfl (fun (s124:Unit) z=>z) (fun s124 z=>z) ⟨F.sl rfl,H⟩ (fun s124 a w o F H hm=>sb [0] F H rfl fun a F=>?_))
 refine nl (sq (cPm F rfl hm (fun hg125 hm=>?_) (fun hg125 hm=>?_)))
 refine sk (ct (sq (bl (sr ?_))))
 obtain ⟨x126,ex126,hm⟩:=ob hm
 obtain ⟨b127,o127,hp127,cs128,H⟩:=H.slE 2 rfl ex126
 refine sv F rfl (y_idxS F elem217 rfl rfl rfl hp127 ex126) fun a F=>bk [999] F H rfl ⟨rfl,(aggn agg223 (H.rcLen 1 rfl)),trivial⟩ fun a F=>?_
 replace H:=H.owNil rByte 5
 refine s_allocA wkP F rfl rfl rfl agz223 rfl H fun b129 w a H F=>s_storeA wkP F rfl rfl agg223 rfl rfl rfl H 0 rfl (H.rcLen 3 rfl) (by simp only [List.length_append,List.length_cons,List.length_nil,icells_length,bcells_length,(List.length_replicate (n:=32))]) (H.rcFlat 3 rfl) fun w H=>?_
 replace H:=H.nf 8 rfl
 refine nl (sq ?_)
 cases hm
 refine ex (cx (cx ?_));cases hm;refine ⟨_,rfl,?_⟩;rintro rfl
 refine ch (ct ?_)
 exact ⟨_,rfl,F.sl rfl,H⟩
 refine ct (sb [0] F H rfl fun a F=>?_)
 obtain ⟨x130,ex130,hm⟩:=ob hm
 refine sd F rfl ent21 (w_penData ex130 H:) ?_;rintro _ w a ⟨p131,c131,rfl,H⟩ F
 refine bb [0] F H rfl fun a F=>?_
 replace H:=H.nf 5 rfl
 refine nl (sq (sr (bk [0,0,0] F H rfl ⟨⟨_,Tryz.underlying25⟩,trivial⟩ fun a F=>?_)))
 refine nl (cPm F rfl hm (fun hg132 hm=>?_) (fun hg132 hm=>?_))
 cases hm
 refine sk (ct (sb [0,0,0] F H rfl fun a F=>nl (wr ?_)))
 cases hm
 refine x_ret2 F rfl rfl rfl ?_
 exact ⟨_,rfl,p131,c131,rfl,(H.pm 5 [0] rfl:)⟩
theorem w_equalB {x:List UInt8} {y:List UInt8} {p1:Option Addr} {c1:Nat} {p2:Option Addr} {c2:Nat} {w0 w:World} {l:List HP}  {r:Bool} (hm:equalB x y=some r) (H:St w0 w (HP.sl rByte p1 c1 x::HP.sl rByte p2 c2 y::l)) :
  Calls Tryz.prog 31 [.slice p1 (x).length c1,.slice p2 (y).length c2].toArray w (fun e w'=>∃ v,e=.returned v∧v=.bool (r)∧St w0 w' (l)):=by
 unfold equalB at hm
 refine x_enter Tryz.func31 rfl rfl rfl ?_
 intro a F
 refine sb [0] F H rfl fun a F=>nl (sq (sr (bk (List.replicate 5 0) F H rfl ⟨⟨_,Tryz.underlying25⟩,⟨_,Tryz.underlying25⟩,trivial⟩ fun a F=>?_)))
 refine nl (cNm F rfl hm (fun hg3 hm=>?_) (fun hg3 hm=>?_))
 refine sb [0] F H rfl fun a F=>nl (wr (tr ?_))
 cases hm
 refine x_ret1 F rfl rfl ?_
 exact ⟨_,rfl,rfl,(H.pm 2 [] rfl:)⟩
 refine sk (ct (sq (sr (bk [0,0,0] F H rfl ⟨⟨_,Tryz.underlying25⟩,trivial⟩ fun a F=>?_))))
 refine nl (xr0 2 [] [] F H hm rfl rfl (fun r29 z=>z) (fun r29 z=>z) (fun o29 hm hm29=>?_) (fun r29 a w hm F H=>?_))
 refine bl (xl0 2 [0,1,12] [0,1] F H hm rfl rfl (fun (s46:Int) z=>(13,.int .i64 (s46))::z) (fun s46 z=>z) ⟨F.sl rfl,H⟩ (fun s46 a w o F H hm=>sb [0] F H rfl fun a F=>?_))
 refine nl (sq (cPm F rfl hm (fun hg47 hm=>?_) (fun hg47 hm=>?_)))
 refine sk (ct (sq (bl (sb [0,0] F H rfl fun a F=>nl (sq ?_)))))
 obtain ⟨x48,ex48,hm⟩:=ob hm
 obtain ⟨b49,o49,hp49,cs50,H⟩:=H.slE 0 rfl ex48
 obtain rfl:=H.rcB 1 rfl
 replace H:=H.dp 1 rfl
 obtain ⟨x51,ex51,hm⟩:=ob hm
 obtain ⟨b52,o52,hp52,cs53,H⟩:=H.slE 2 rfl ex51
 obtain rfl:=H.rcB 1 rfl
 replace H:=H.dp 1 rfl
 refine qr H (by kernel_rfl) (by kernel_rfl) ?_
 refine qb [0,0] F rfl fun a F=>qv F rfl (fun u hu=>y_idxS F elem25 rfl rfl rfl hp49 ex48) fun a F=>qbk [1000,0,0] F rfl ⟨rfl,plain5,trivial⟩ fun a F=>qv F rfl (fun u hu=>y_idxS F elem25 rfl rfl rfl hp52 ex51) fun a F=>qbk [0,0] F rfl ⟨rfl,plain5,trivial⟩ fun a F=>?_
 refine q_nil fun w H=>?_
 refine ct (cNm F rfl hm (fun hg54 hm=>?_) (fun hg54 hm=>?_))
 refine sb [0] F H rfl fun a F=>?_
 refine nl (wr (br (tr (tr ?_))));cases hm;refine ⟨_,rfl,?_⟩;rintro rfl
 refine br (tr ?_)
 replace hm:=elimR hm29
 refine tr ?_
 cases hm
 refine x_ret1 F rfl rfl ?_
 exact ⟨_,rfl,rfl,(H.pm 4 [] rfl:)⟩
 refine sk (bn (ct (rl (bb [0,0] F H rfl fun a F=>?_))))
 refine lz (ct ?_);cases hm
 exact ⟨_,rfl,⟨F.sl rfl,(H.pm 4 [2,3] rfl:)⟩⟩
 refine ex (cx (cx ?_));cases hm;refine ⟨_,rfl,?_⟩;rintro rfl
 refine ch (ct ?_)
 exact ⟨_,rfl,F.cut _ trivial,(H.pm 2 [] rfl:)⟩
 refine ct (sb [0] F H rfl fun a F=>nl (wr ?_))
 cases hm
 refine x_ret1 F rfl rfl ?_
 exact ⟨_,rfl,rfl,H⟩
theorem agz227:AggT Tryz.prog 227 3 ([.int .i64 (0),.slice none (([]:List T_api_Pair)).length 0,.slice none (([]:List T_api_Kid)).length 0]):=⟨by rw [Tryz.underlying227];rfl,by kernel_rfl,by kernel_rfl⟩
theorem ent26:En Tryz.prog 26:=enters Tryz.func26 (by kernel_rfl) rfl
theorem ent29:En Tryz.prog 29:=enters Tryz.func29 (by kernel_rfl) rfl
theorem zero61:Zero1 Tryz.prog 61 (.slice none 0 0):=⟨by kernel_rfl,rfl⟩
theorem ent149:En Tryz.prog 149:=enters Tryz.func149 (by kernel_rfl) rfl
theorem ent31:En Tryz.prog 31:=enters Tryz.func31 (by kernel_rfl) rfl
theorem w_ndRead {block:List UInt8} {p1:Option Addr} {c1:Nat} {w0 w:World} {l:List HP}  {r:T_api_Node×Int} (hm:ndRead block=some r) (H:St w0 w (HP.sl rByte p1 c1 block::l)) :
  Calls Tryz.prog 170 [.slice p1 (block).length c1].toArray w (fun e w'=>∃ v,e=.returned v∧∃ (p2:Option Addr) (c2:Nat) (p3:Option Addr) (c3:Nat),v=.tuple [.agg ([.int .i64 (r.1.1),.slice p2 (r.1.2.1).length c2,.slice p3 (r.1.2.2).length c3]).toArray,.int .i64 (r.2)].toArray∧St w0 w' (HP.nsl w0.heap.size (rP2N w0.heap.size) p2 c2 r.1.2.1::HP.sl R_api_Kid p3 c3 r.1.2.2::l)):=by
 unfold ndRead at hm
 refine x_enter Tryz.func170 rfl rfl rfl ?_
 intro a F
 refine sr ?_
 replace H:=H.owNil (rP2N w0.heap.size) 129
 replace H:=H.owNil R_api_Kid 223
 refine s_allocA wkP F rfl rfl rfl agz227 rfl H fun b4 w a H F=>bb [0] F H rfl fun a F=>?_
 replace H:=H.nf 4 rfl
 refine nb [0] F H rfl fun a F=>?_
 obtain ⟨x5,ex5,hm⟩:=ob hm
 refine sd F rfl ent26 (w_newEye ex5 (H.pm 4 [3,0,1,2,3] rfl:):) ?_;rintro _ w a ⟨b6,rfl,H⟩ F
 refine bb [0] F H rfl fun a F=>?_
 replace H:=H.nf 5 rfl
 refine nb [0] F H rfl fun a F=>?_
 obtain ⟨x7,ex7,hm⟩:=ob hm
 refine sd F rfl ent27 (w_eyeUint ex7 H:) ?_;rintro _ w a ⟨rfl,H⟩ F
 replace H:=H.nf 5 rfl
 refine nb [0] F H rfl fun a F=>?_
 obtain ⟨x8,ex8,hm⟩:=ob hm
 refine sd F rfl ent27 (w_eyeUint ex8 H:) ?_;rintro _ w a ⟨rfl,H⟩ F
 refine bb (List.replicate 5 0) F H rfl fun a F=>?_
 replace H:=H.nf 5 rfl
 refine nb [0] F H rfl fun a F=>?_
 obtain ⟨x9,ex9,hm⟩:=ob hm
 refine sd F rfl ent27 (w_eyeUint ex9 H:) ?_;rintro _ w a ⟨rfl,H⟩ F
 refine bb (List.replicate 5 0) F H rfl fun a F=>?_
 replace H:=H.nf 5 rfl
 refine nl (sr (bk [0,0] F H rfl ⟨Tryz.underlying22,Tryz.underlying3,trivial⟩ fun a F=>?_))
 replace H:=H.owNil (rP2N w0.heap.size) 129
 replace H:=H.owNil R_api_Kid 223
 refine sv F rfl (y_build F rfl rfl (cs:=[.int .i64 (IntKind.i64.wrap (x8.1)),.slice none (([]:List T_api_Pair)).length 0,.slice none (([]:List T_api_Kid)).length 0]) (by kernel_rfl)) fun a F=>?_
 replace H:=H.owNil (rP2N w0.heap.size) 129
 replace H:=H.owNil R_api_Kid 223
 refine s_allocA wkP F rfl rfl rfl agz227 rfl H fun b10 w a H F=>s_storeA wkP F rfl rfl agg227 rfl rfl rfl H 0 rfl rfl rfl (fl rfl) fun w H=>?_
 replace H:=H.nf 10 rfl
 refine nl (sq (sb [0,0] F H rfl fun a F=>?_))
 refine nl (xm2 10 [0,2,9] [1,2,3,6,7,8,9] F H hm rfl rfl (fun r72 (p73:Option Addr) (c73:Nat) z=>z) (fun r72 p73 c73 z=>HP.blk b10 ([.int .i64 (IntKind.i64.wrap (x8.1)),.slice p73 (r72.1).length c73,.slice none (([]:List T_api_Kid)).length 0]) 227::O_pack_Eye_1 b6 r72.2::HP.ow (rP2N w0.heap.size) 129 p73 c73 r72.1::z) (fun r72 hm=>?_) (fun r72 a w hm p73 c73 F H=>?_))
 refine bl ?_
 refine xl2 10 [0,2,4,5,9,36] [1,2,3,6,7,8,9] F H hm rfl rfl (fun (s114:(List T_api_Pair)×T_pack_Eye_o×Int) (p115:Option Addr) (c115:Nat) z=>(37,.int .u64 (s114.2.2))::z) (fun s114 p115 c115 z=>HP.blk b10 ([.int .i64 (IntKind.i64.wrap (x8.1)),.slice p115 (s114.1).length c115,.slice none (([]:List T_api_Kid)).length 0]) 227::O_pack_Eye_1 b6 s114.2.1::HP.ow (rP2N w0.heap.size) 129 p115 c115 s114.1::z) ⟨none,0,F.sl rfl,(H.pm 10 [0,5,4,1,2,3,6,7,8,9] rfl:)⟩ (fun s114 a w o p115 c115 F H hm=>?_)
 refine sb [0] F H rfl fun a F=>?_
 refine nl (sq (cPm F rfl hm (fun hg116 hm=>?_) (fun hg116 hm=>?_)))
 refine sk (ct (sq ?_))
 refine xm2 10 [0,2,4,5,9,36,37] [3,4,5,6,7,8,9] F H hm rfl rfl (fun r125 (p126:Option Addr) (c126:Nat) z=>z) (fun r125 p126 c126 z=>HP.blk b10 ([.int .i64 (IntKind.i64.wrap (x8.1)),.slice p126 (r125.1).length c126,.slice none (([]:List T_api_Kid)).length 0]) 227::O_pack_Eye_1 b6 r125.2::HP.ow (rP2N w0.heap.size) 129 p126 c126 r125.1::z) (fun r125 hm=>?_) (fun r125 a w hm p126 c126 F H=>?_)
 refine bl (sb [0] F H rfl fun a F=>?_)
 obtain ⟨x127,ex127,hm⟩:=ob hm
 refine sd F rfl ent29 (w_eyeText ex127 (H.pm 10 [1,0,2,3,4,5,6,7,8,9] rfl:):) ?_;rintro _ w a ⟨p128,c128,rfl,H⟩ F
 refine bb (List.replicate 5 0) F H rfl fun a F=>?_
 replace H:=H.nf 11 rfl
 refine nl (sq (sb [0,0] F H rfl fun a F=>?_))
 refine nl (cPm F rfl hm (fun hg129 hm=>?_) (fun hg129 hm=>?_))
 refine sb [0] F H rfl fun a F=>?_
 obtain ⟨x130,ex130,hm⟩:=ob hm
 refine sd F rfl ent29 (w_eyeText ex130 (H.pm 11 [1,0,2,3,4,5,6,7,8,9,10] rfl:):) ?_;rintro _ w a ⟨p131,c131,rfl,H⟩ F
 refine bb (List.replicate 5 0) F H rfl fun a F=>?_
 replace H:=H.nf 12 rfl
 refine nl (sr (bk [1,3001,0,0] F H rfl ⟨fld227_1,rfl,plain61,trivial⟩ fun a F=>sv F rfl (y_build F rfl rfl (cs:=[.slice p128 (x127.1).length c128,.slice p131 (x130.1).length c131]) (by kernel_rfl)) fun a F=>?_))
 replace H:=H.frzNB 2 rfl
 replace H:=H.nslSl 0 rfl
 replace H:=H.frzNB 2 rfl
 replace H:=H.nslSl 0 rfl
 refine s_build1 wkP F rfl rfl rfl agg129 elem61 rfl rfl rfl (by decide) H fun b132 w a H F=>?_
 replace H:=H.blkOw1 (R:=(rP2N w0.heap.size)) (x:=(x127.1,x130.1)) (fun gg=>⟨_,_,rfl,⟨_,_,rfl,(gg 4 _ rfl).choose_spec⟩,⟨_,_,rfl,(gg 2 _ rfl).choose_spec⟩⟩)
 replace H:=H.frzP2 0 rfl
 replace H:=H.nslSl 0 rfl
 obtain ⟨x134,ex134,hm⟩:=ob hm
 refine s_app wkP F rfl rfl rfl rfl rfl rfl elem61 rfl ex134 H 8 0 rfl rfl fun p133 c133 w a H F=>?_
 refine bk [1] F H rfl ⟨fld227_1,trivial⟩ fun a F=>s_st1 wkP F rfl rfl zero61 rfl rfl rfl rfl rfl H 7 rfl rfl fun w H=>?_
 replace H:=H.nf 16 rfl
 refine nl (ex (cx (ch ?_)))
 cases hm
 refine ct ?_
 exact ⟨p133,c133,F.sl rfl,(H.pm 16 [7,6,8,9,10,11,12,13,14,15] rfl:)⟩
 refine sk (ct ?_)
 cases hm
 refine ct (rl (bb [0,0] F H rfl fun a F=>?_))
 refine lz (ct ?_);cases hm
 exact ⟨_,rfl,⟨p126,c126,F.sl rfl,H⟩⟩
 refine ex (cx (cx ?_));cases hm;refine ⟨_,rfl,?_⟩;rintro rfl
 refine ch (ct ?_)
 exact ⟨p115,c115,F.sl rfl,H⟩
 refine ct (sq (sr (bk [999] F H rfl ⟨rfl,(aggn agg227 rfl),trivial⟩ fun a F=>?_)))
 replace H:=H.frzP2 2 rfl
 replace H:=H.nslSl 0 rfl
 replace H:=H.frz 6 rfl
 replace H:=H.slP2W 1 rfl
 replace H:=mk_api_Node H (IntKind.i64.wrap (x8.1)) 0 rfl 1 rfl
 obtain ⟨x135,ex135,hm⟩:=ob hm
 refine sd F rfl ent149 (w_ndWrite ex135 (H.pm 13 [0,0,1,2,3,4,5,6,7,8,9,10,11,12] rfl:):) ?_;rintro _ w a ⟨p136,c136,rfl,H⟩ F
 refine bb (List.replicate 5 0) F H rfl fun a F=>?_
 replace H:=H.nf 14 rfl
 refine nb [0,0,0] F H rfl fun a F=>?_
 rcases spN 84 F rfl hm with ⟨hg137,hm,F⟩ | ⟨hg137,hm,F⟩
 refine bb [0,0] F H rfl fun a F=>g_onP F rfl rfl rfl rfl ?_
 replace H:=H.frz 0 rfl
 obtain ⟨x138,ex138,hm⟩:=ob hm
 refine sd F rfl ent31 (w_equalB ex138 (H.pm 14 [0,13,0,1,2,3,4,5,6,7,8,9,10,11,12,13] rfl:):) ?_;rintro _ w a ⟨rfl,H⟩ F
 refine bb [0,0] F H rfl fun a F=>?_
 replace H:=H.nf 14 rfl
 refine nl (cB F rfl (fun hg139=>?_) (fun hg139=>?_))
 replace hm:=ifT hg139 hm
 cases hm
 replace hm:=ifF (nT hg139) hm
 refine sk (ct (sr (bk [6999] F H rfl ⟨rfl,(aggn agg227 rfl),trivial⟩ fun a F=>s_storeA wkP F rfl rfl agg227 rfl rfl rfl H 10 rfl rfl rfl (fl rfl) fun w H=>bb [0] F H rfl fun a F=>?_)))
 replace H:=H.nf 14 rfl
 refine nl (wr ?_)
 cases hm
 refine x_resC2 F rfl (⟨_,rfl,agg227.run_load (H.blk 10 rfl).row rfl⟩) rfl ?_
 exact ⟨_,rfl,p73,c73,none,0,rfl,(H.pm 14 [5,3] rfl:)⟩
 refine bb (List.replicate 5 0) F H rfl fun a F=>nl (cT F rfl ?_)
 cases hm
set_option maxRecDepth 100000
set_option maxHeartbeats 4000000
theorem w_m_shape_Mark {x0_:List UInt8} {x1_:Int} {p1:Option Addr} {c1:Nat} {w0 w:World} {l:List HP}  {r:Bool} (hm:m_shape_Mark x0_ x1_=some r) (H:St w0 w (HP.sl rByte p1 c1 x0_::l)) :
  Calls Tryz.prog 148 [.slice p1 (x0_).length c1,.int .i64 (x1_)].toArray w (fun e w'=>∃ v,e=.returned v∧v=.bool (r)∧St w0 w' (l)):=by
 unfold m_shape_Mark at hm
 refine x_enter Tryz.func148 rfl rfl rfl ?_
 intro a F
 refine sb [0] F H rfl fun a F=>nl (sq (sb [0,0,0] F H rfl fun a F=>?_))
 rcases spP 10 F rfl hm with ⟨hg2,hm,F⟩ | ⟨hg2,hm,F⟩
 refine bb [0,0,0] F H rfl fun a F=>nl (cT F rfl (sb [0] F H rfl fun a F=>nl (wr (tr ?_))))
 cases hm
 refine x_ret1 F rfl rfl ?_
 exact ⟨_,rfl,rfl,(H.pm 1 [] rfl:)⟩
 refine bb [0,0,0] F H rfl fun a F=>?_
 refine nl (cPm F rfl hm (fun hg3 hm=>?_) (fun hg3 hm=>?_))
 refine sb [0] F H rfl fun a F=>nl (wr (tr ?_))
 cases hm
 refine x_ret1 F rfl rfl ?_
 exact ⟨_,rfl,rfl,(H.pm 1 [] rfl:)⟩
 refine sk (ct (sb [0] F H rfl fun a F=>nl (sq (sr (bk [0,0,0] F H rfl ⟨⟨_,Tryz.underlying25⟩,trivial⟩ fun a F=>?_)))))
 refine nl (xm0 1 [1] [] F H hm rfl rfl (fun r17 z=>(5,.int .u32 (r17))::z) (fun r17 z=>z) (fun r17 hm=>?_) (fun r17 a w hm F H=>?_))
 refine bl (xl0 1 [1,14,15] [0] F H hm rfl rfl (fun (s26:Int×Int) z=>(5,.int .u32 (s26.1))::(16,.int .i64 (s26.2))::z) (fun s26 z=>z) ⟨F.sl rfl,H⟩ (fun s26 a w o F H hm=>sb [0] F H rfl fun a F=>?_))
 refine nl (sq (cPm F rfl hm (fun hg27 hm=>?_) (fun hg27 hm=>?_)))
 refine sk (ct (sq (bl (sr ?_))))
 obtain ⟨x28,ex28,hm⟩:=ob hm
 obtain ⟨b29,o29,hp29,cs30,H⟩:=H.slE 0 rfl ex28
 obtain rfl:=H.rcB 1 rfl
 replace H:=H.dp 1 rfl
 refine sv F rfl (y_idxS F elem25 rfl rfl rfl hp29 ex28) fun a F=>bk [0,0] F H rfl ⟨rfl,plain5,trivial⟩ fun a F=>nl (rl (bk [0,0,3,0,0,0] F H rfl ⟨Tryz.underlying5,Tryz.underlying188,trivial⟩ fun a F=>lz (bn (ct (rl (bb [0,0] F H rfl fun a F=>?_))))))
 refine lz (ct ?_);cases hm
 exact ⟨_,rfl,⟨F.sl rfl,(H.pm 2 [1] rfl:)⟩⟩
 refine ex (cx (cx ?_));cases hm;refine ⟨_,rfl,?_⟩;rintro rfl
 refine ch (ct ?_)
 exact ⟨F.sl rfl,(H.pm 1 [] rfl:)⟩
 refine ct (sb [0,0,0] F H rfl fun a F=>?_)
 obtain ⟨x31,ex31,hm⟩:=ob hm
 refine sv F rfl (i_shrO F rfl rfl rfl ex31) fun a F=>bb [0,0,0] F H rfl fun a F=>nl (wr ?_)
 cases hm
 refine x_ret1 F rfl rfl ?_
 exact ⟨_,rfl,rfl,H⟩
theorem plain220:Plain Tryz.prog 220:=by unfold Plain;rw [Tryz.underlying220];rfl
theorem elem220:ElemT Tryz.prog 220 3 1 8 (.int .i64 0):=⟨Tryz.underlying220,by kernel_rfl,by kernel_rfl,by decide⟩
theorem zero3:Zero1 Tryz.prog 3 (.int .i64 0):=⟨by kernel_rfl,rfl⟩
theorem zero220:Zero1 Tryz.prog 220 (.slice none 0 0):=⟨by kernel_rfl,rfl⟩
theorem w_lvEnd {o:(List Int)} {c:Int} {s:Int} {bo0:Nat} {bo1:Nat} {bo2:Nat} {w0 w:World} {l:List HP}  {r:(List Int)×Int×Int} (hm:lvEnd o c s=some r) (H:St w0 w (O_t220 bo0 o::O_int bo1 c::O_int bo2 s::l)) :
  Calls Tryz.prog 147 [.pointer (some ⟨bo0,0,none⟩),.pointer (some ⟨bo1,0,none⟩),.pointer (some ⟨bo2,0,none⟩)].toArray w (fun e w'=>∃ v,e=.returned v∧v=.tuple [].toArray∧St w0 w' (O_t220 bo0 r.1::O_int bo1 r.2.1::O_int bo2 r.2.2::l)):=by
 unfold lvEnd at hm
 refine x_enter Tryz.func147 rfl rfl rfl ?_
 intro a F
 refine sr ?_
 obtain ⟨p1,c2,H⟩:=O_t220_o (H.pk 0 rfl)
 refine bk [0] F H rfl ⟨rfl,plain220,trivial⟩ fun a F=>?_
 replace H:=O_int_o (H.pk 2 rfl)
 refine bk [0] F H rfl ⟨rfl,plain3,trivial⟩ fun a F=>s_buildC wkP F rfl rfl rfl elem220 zero3 rfl rfl rfl rfl (by simp [Value.cells]) (by decide) H fun b3 w a H F=>?_
 replace H:=H.blkOw1 (R:=(rInt .i64)) (x:=c) (fun gg=>rfl)
 replace H:=H.frz 0 rfl
 obtain ⟨x5,ex5,hm⟩:=ob hm
 refine s_app wkP F rfl rfl rfl rfl rfl rfl elem220 rfl ex5 H 3 0 rfl rfl fun p4 c4 w a H F=>?_
 refine s_st1 wkP F rfl rfl zero220 rfl rfl rfl rfl rfl H 2 rfl rfl fun w H=>?_
 replace H:=H.nf 5 rfl
 refine nl (rl (s_st1 wkP F rfl rfl zero3 rfl rfl rfl rfl rfl H 1 rfl rfl fun w H=>?_))
 replace H:=O_int_o (H.pk 4 rfl)
 refine s_st1 wkP F rfl rfl zero3 rfl rfl rfl rfl rfl H 0 rfl rfl fun w H=>?_
 replace H:=H.nf 5 rfl
 refine lz ?_
 replace H:=O_t220_s (H.pm 5 [3,4,0,1,2] rfl:)
 replace H:=O_int_s (H.pm 4 [3,0,1,2] rfl:)
 replace H:=O_int_s (H.pm 4 [2,0,1,3] rfl:)
 cases hm
 refine x_end0 F rfl ?_
 exact ⟨_,rfl,rfl,(H.pm 4 [2,1,0] rfl:)⟩
theorem ent147:En Tryz.prog 147:=enters Tryz.func147 (by kernel_rfl) rfl
theorem ent148:En Tryz.prog 148:=enters Tryz.func148 (by kernel_rfl) rfl
theorem w_m_shape_Leaves {x0_:List T_api_Pair} {p1:Option Addr} {c1:Nat} {w0 w:World} {l:List HP}  {r:(List Int)} (hm:m_shape_Leaves x0_=some r) (H:St w0 w (HP.sl R_api_Pair p1 c1 x0_::l)) :
  Calls Tryz.prog 117 [.slice p1 (x0_).length c1].toArray w (fun e w'=>∃ v,e=.returned v∧∃ (p2:Option Addr) (c2:Nat),v=.slice p2 (r).length c2∧St w0 w' (HP.sl (rInt .i64) p2 c2 r::l)):=by
 unfold m_shape_Leaves at hm
 refine x_enter Tryz.func117 rfl rfl rfl ?_
 intro a F
 refine sr ?_
 replace H:=H.owNil (rInt .i64) 3
 refine s_alloc1 wkP F rfl rfl rfl zero220 rfl H fun b3 w a H F=>?_
 replace H:=H.nf 3 rfl
 refine nl (sr (s_alloc1 wkP F rfl rfl rfl zero3 rfl H fun b4 w a H F=>s_alloc1 wkP F rfl rfl rfl zero3 rfl H fun b5 w a H F=>s_st1 wkP F rfl rfl zero3 rfl rfl rfl rfl rfl H 1 rfl rfl fun w H=>s_st1 wkP F rfl rfl zero3 rfl rfl rfl rfl rfl H 0 rfl rfl fun w H=>?_))
 replace H:=H.nf 5 rfl
 refine nl (sr (sv F rfl (y_makeFunc F rfl rfl) fun a F=>bb [0] F H rfl fun a F=>nl (sq (sr (bk [0,0,0] F H rfl ⟨⟨_,Tryz.underlying61⟩,trivial⟩ fun a F=>?_)))))
 refine nl (xm2 5 [2,3,5] [] F H hm rfl rfl (fun r265 (p266:Option Addr) (c266:Nat) z=>z) (fun r265 p266 c266 z=>HP.blk b5 ([.int .i64 (r265.1)]) 3::HP.blk b4 ([.int .i64 (r265.2.1)]) 3::HP.blk b3 ([.slice p266 (r265.2.2).length c266]) 220::HP.ow (rInt .i64) 3 p266 c266 r265.2.2::z) (fun r265 hm=>?_) (fun r265 a w hm p266 c266 F H=>?_))
 refine bl ?_
 refine xl2 5 [2,3,4,5,10,11] [4] F H hm rfl rfl (fun (s439:Int×Int×(List Int)×Int) (p440:Option Addr) (c440:Nat) z=>(12,.int .i64 (s439.2.2.2))::z) (fun s439 p440 c440 z=>HP.blk b5 ([.int .i64 (s439.1)]) 3::HP.blk b4 ([.int .i64 (s439.2.1)]) 3::HP.blk b3 ([.slice p440 (s439.2.2.1).length c440]) 220::HP.ow (rInt .i64) 3 p440 c440 s439.2.2.1::z) ⟨none,0,F.sl rfl,H⟩ (fun s439 a w o p440 c440 F H hm=>?_)
 refine sb [0] F H rfl fun a F=>?_
 refine nl (sq (cPm F rfl hm (fun hg441 hm=>?_) (fun hg441 hm=>?_)))
 refine sk (ct (sq (xm2 5 [2,3,4,5,10,11,12] [4] F H hm rfl rfl (fun r483 (p484:Option Addr) (c484:Nat) z=>z) (fun r483 p484 c484 z=>HP.blk b5 ([.int .i64 (r483.1)]) 3::HP.blk b4 ([.int .i64 (r483.2.1)]) 3::HP.blk b3 ([.slice p484 (r483.2.2).length c484]) 220::HP.ow (rInt .i64) 3 p484 c484 r483.2.2::z) (fun r483 hm=>?_) (fun r483 a w hm p484 c484 F H=>?_))))
 refine bl (sr ?_)
 obtain ⟨x485,ex485,hm⟩:=ob hm
 obtain ⟨b486,o486,hp486,cs487,H⟩:=H.slE 4 rfl ex485
 refine sv F rfl (y_idxS F elem61 rfl rfl rfl hp486 ex485) fun a F=>bk [999] F H rfl ⟨rfl,(aggn agg129 (H.rcLen 1 rfl)),trivial⟩ fun a F=>?_
 replace H:=H.owNil rByte 5
 replace H:=H.owNil rByte 5
 refine s_allocA wkP F rfl rfl rfl agz129 rfl H fun b488 w a H F=>s_storeA wkP F rfl rfl agg129 rfl rfl rfl H 0 rfl (H.rcLen 4 rfl) rfl (H.rcFlat 4 rfl) fun w H=>?_
 replace H:=H.nf 10 rfl
 refine nl (sr (bk [0] F H rfl ⟨fld129_0,trivial⟩ fun a F=>?_))
 have G:=F;replace H:=rc_api_Pair (H.pk 4 rfl);obtain ⟨p489,c490,p491,c492,rfl,J⟩:=H;have H:=J;have F:=G;clear G J
 refine bk [2000,0,0,1,2001,0,0,0] F H rfl ⟨rfl,plain25,⟨_,Tryz.underlying25⟩,fld129_1,rfl,plain25,⟨_,Tryz.underlying25⟩,trivial⟩ fun a F=>nl (sq (sr (bk [7000,0,0] F H rfl ⟨rfl,plain3,trivial⟩ fun a F=>?_)))
 rcases spP 26 F rfl hm with ⟨hg493,hm,F⟩ | ⟨hg493,hm,F⟩
 refine bk [6000,0,0,0,0] F H rfl ⟨rfl,plain3,trivial⟩ fun a F=>?_
 refine nl (xm2 11 [2,3,4,5,7,8,10,11,12] [0,1,2,3,4,5,10] F H hm rfl rfl (fun r498 (p499:Option Addr) (c499:Nat) z=>z) (fun r498 p499 c499 z=>HP.blk b5 ([.int .i64 (r498.1)]) 3::HP.blk b4 ([.int .i64 (r498.2.1)]) 3::HP.blk b3 ([.slice p499 (r498.2.2).length c499]) 220::HP.ow (rInt .i64) 3 p499 c499 r498.2.2::z) (fun r498 hm=>?_) (fun r498 a w hm p499 c499 F H=>?_))
 refine cPm F rfl hm (fun hg500 hm=>?_) (fun hg500 hm=>?_)
 refine rl (bb [0] F H rfl fun a F=>?_)
 replace H:=O_t220_s (H.pm 11 [8,9,0,1,2,3,4,5,6,7,10] rfl:)
 replace H:=O_int_s (H.pm 10 [8,0,1,2,3,4,5,6,7,9] rfl:)
 replace H:=O_int_s (H.pm 10 [8,0,1,2,3,4,5,6,7,9] rfl:)
 obtain ⟨x501,ex501,hm⟩:=ob hm
 refine s_call wkP F rfl rfl rfl rfl (y_callV F rfl rfl rfl ent147) (w_lvEnd ex501 (H.pm 10 [2,1,0,3,4,5,6,7,8,9] rfl:):) ?_;rintro _ w a ⟨rfl,H⟩ F
 replace H:=H.nf 10 rfl
 refine lz ?_
 obtain ⟨p502,c503,H⟩:=O_t220_o (H.pk 0 rfl)
 replace H:=O_int_o (H.pk 2 rfl)
 replace H:=O_int_o (H.pk 3 rfl)
 cases hm
 refine ct ?_
 exact ⟨p502,c503,F.sl rfl,H⟩
 refine sk ?_
 cases hm
 refine ct ?_
 exact ⟨p440,c440,F.sl rfl,(H.pm 11 [6,7,8,9,0,1,2,3,4,5,10] rfl:)⟩
 refine ct (sr (bk [1000,0] F H rfl ⟨rfl,plain3,trivial⟩ fun a F=>s_st1 wkP F rfl rfl zero3 rfl rfl rfl rfl rfl H 1 rfl rfl fun w H=>?_))
 replace H:=H.nf 11 rfl
 refine nl (sr (bk [0,0,0] F H rfl ⟨rfl,plain3,trivial⟩ fun a F=>s_st1 wkP F rfl rfl zero3 rfl rfl rfl rfl rfl H 0 rfl rfl fun w H=>?_))
 replace H:=H.nf 11 rfl
 refine nl (sr (bk [0,6000] F H rfl ⟨fld129_0,rfl,plain25,trivial⟩ fun a F=>?_))
 obtain ⟨x504,ex504,hm⟩:=ob hm
 refine sd F rfl ent148 (w_m_shape_Mark ex504 (H.pm 11 [4,0,1,2,3,4,5,6,7,8,9,10] rfl:):) ?_;rintro _ w a ⟨rfl,H⟩ F
 replace H:=H.nf 11 rfl
 refine nl (xm2 11 [2,3,4,5,10,11,12] [4,5,6,7,8,9,10] F H hm rfl rfl (fun r509 (p510:Option Addr) (c510:Nat) z=>z) (fun r509 p510 c510 z=>HP.blk b5 ([.int .i64 (r509.1)]) 3::HP.blk b4 ([.int .i64 (r509.2.1)]) 3::HP.blk b3 ([.slice p510 (r509.2.2).length c510]) 220::HP.ow (rInt .i64) 3 p510 c510 r509.2.2::z) (fun r509 hm=>?_) (fun r509 a w hm p510 c510 F H=>?_))
 refine cB F rfl (fun hg511=>?_) (fun hg511=>?_)
 replace hm:=ifT hg511 hm
 refine rl (bb [0] F H rfl fun a F=>?_)
 replace H:=O_t220_s (H.pm 11 [2,3,0,1,4,5,6,7,8,9,10] rfl:)
 replace H:=O_int_s (H.pm 10 [2,0,1,3,4,5,6,7,8,9] rfl:)
 replace H:=O_int_s (H.pm 10 [2,0,1,3,4,5,6,7,8,9] rfl:)
 obtain ⟨x512,ex512,hm⟩:=ob hm
 refine s_call wkP F rfl rfl rfl rfl (y_callV F rfl rfl rfl ent147) (w_lvEnd ex512 (H.pm 10 [2,1,0,3,4,5,6,7,8,9] rfl:):) ?_;rintro _ w a ⟨rfl,H⟩ F
 replace H:=H.nf 10 rfl
 refine lz ?_
 obtain ⟨p513,c514,H⟩:=O_t220_o (H.pk 0 rfl)
 replace H:=O_int_o (H.pk 2 rfl)
 replace H:=O_int_o (H.pk 3 rfl)
 cases hm
 refine ct ?_
 exact ⟨p513,c514,F.sl rfl,H⟩
 replace hm:=ifF (nT hg511) hm
 refine sk ?_
 cases hm
 refine ct ?_
 exact ⟨p499,c499,F.sl rfl,H⟩
 refine bn ?_
 cases hm
 refine ct ?_
 exact ⟨p510,c510,F.sl rfl,(H.pm 11 [0,1,2,3,10] rfl:)⟩
 refine bb (List.replicate 5 0) F H rfl fun a F=>nl (cF F rfl (sk (ct (sr (bk [7000,0] F H rfl ⟨rfl,plain3,trivial⟩ fun a F=>s_st1 wkP F rfl rfl zero3 rfl rfl rfl rfl rfl H 7 rfl rfl fun w H=>?_)))))
 replace H:=H.nf 11 rfl
 refine nl (sr (bk [6000,0,0] F H rfl ⟨rfl,plain3,trivial⟩ fun a F=>s_st1 wkP F rfl rfl zero3 rfl rfl rfl rfl rfl H 6 rfl rfl fun w H=>?_))
 replace H:=H.nf 11 rfl
 refine nl (sr (bk [0,2000] F H rfl ⟨fld129_0,rfl,plain25,trivial⟩ fun a F=>?_))
 obtain ⟨x515,ex515,hm⟩:=ob hm
 refine sd F rfl ent148 (w_m_shape_Mark ex515 (H.pm 11 [0,0,1,2,3,4,5,6,7,8,9,10] rfl:):) ?_;rintro _ w a ⟨rfl,H⟩ F
 replace H:=H.nf 11 rfl
 refine nl (xm2 11 [2,3,4,5,10,11,12] [0,1,2,3,4,5,10] F H hm rfl rfl (fun r520 (p521:Option Addr) (c521:Nat) z=>z) (fun r520 p521 c521 z=>HP.blk b5 ([.int .i64 (r520.1)]) 3::HP.blk b4 ([.int .i64 (r520.2.1)]) 3::HP.blk b3 ([.slice p521 (r520.2.2).length c521]) 220::HP.ow (rInt .i64) 3 p521 c521 r520.2.2::z) (fun r520 hm=>?_) (fun r520 a w hm p521 c521 F H=>?_))
 refine cB F rfl (fun hg522=>?_) (fun hg522=>?_)
 replace hm:=ifT hg522 hm
 refine rl (bb [0] F H rfl fun a F=>?_)
 replace H:=O_t220_s (H.pm 11 [8,9,0,1,2,3,4,5,6,7,10] rfl:)
 replace H:=O_int_s (H.pm 10 [8,0,1,2,3,4,5,6,7,9] rfl:)
 replace H:=O_int_s (H.pm 10 [8,0,1,2,3,4,5,6,7,9] rfl:)
 obtain ⟨x523,ex523,hm⟩:=ob hm
 refine s_call wkP F rfl rfl rfl rfl (y_callV F rfl rfl rfl ent147) (w_lvEnd ex523 (H.pm 10 [2,1,0,3,4,5,6,7,8,9] rfl:):) ?_;rintro _ w a ⟨rfl,H⟩ F
 replace H:=H.nf 10 rfl
 refine lz ?_
 obtain ⟨p524,c525,H⟩:=O_t220_o (H.pk 0 rfl)
 replace H:=O_int_o (H.pk 2 rfl)
 replace H:=O_int_o (H.pk 3 rfl)
 cases hm
 refine ct ?_
 exact ⟨p524,c525,F.sl rfl,H⟩
 replace hm:=ifF (nT hg522) hm
 refine sk ?_
 cases hm
 refine ct ?_
 exact ⟨p440,c440,F.sl rfl,(H.pm 11 [6,7,8,9,0,1,2,3,4,5,10] rfl:)⟩
 refine bn ?_
 cases hm
 refine ct ?_
 exact ⟨p521,c521,F.sl rfl,(H.pm 11 [0,1,2,3,10] rfl:)⟩
 refine ct (rl (bb [0,0] F H rfl fun a F=>?_))
 refine lz (ct ?_);cases hm
 exact ⟨_,rfl,⟨p484,c484,F.sl rfl,H⟩⟩
 refine ex (cx (cx ?_));cases hm;refine ⟨_,rfl,?_⟩;rintro rfl
 refine ch (ct ?_)
 exact ⟨p440,c440,F.sl rfl,(H.pm 5 [0,1,2,3] rfl:)⟩
 refine ct (sq (sr (bk [1000,0,0] F H rfl ⟨rfl,plain3,trivial⟩ fun a F=>?_)))
 rcases spP 47 F rfl hm with ⟨hg526,hm,F⟩ | ⟨hg526,hm,F⟩
 refine bb [0,0,0,0] F H rfl fun a F=>nl (cT F rfl (rl (bb [0] F H rfl fun a F=>?_)))
 replace H:=O_t220_s (H.pm 4 [2,3,0,1] rfl:)
 replace H:=O_int_s (H.pm 3 [2,0,1] rfl:)
 replace H:=O_int_s (H.pm 3 [2,0,1] rfl:)
 obtain ⟨x527,ex527,hm⟩:=ob hm
 refine s_call wkP F rfl rfl rfl rfl (y_callV F rfl rfl rfl ent147) (w_lvEnd ex527 (H.pm 3 [2,1,0] rfl:):) ?_;rintro _ w a ⟨rfl,H⟩ F
 replace H:=H.nf 3 rfl
 refine nl (sr ?_)
 obtain ⟨p528,c529,H⟩:=O_t220_o (H.pk 0 rfl)
 refine bk [0] F H rfl ⟨rfl,plain220,trivial⟩ fun a F=>s_st1 wkP F rfl rfl zero220 rfl rfl rfl rfl rfl H 0 rfl rfl fun w H=>?_
 replace H:=H.nf 4 rfl
 refine nl (wr ?_)
 replace H:=H.frz 1 rfl
 cases hm
 refine x_resC1 F rfl (⟨_,rfl,ld1 plain220 ((H.blk 1 rfl).cell _)⟩) ?_
 exact ⟨_,rfl,p528,c529,rfl,(H.pm 4 [0] rfl:)⟩
 refine bk [2000,0,0,0] F H rfl ⟨rfl,plain220,⟨_,Tryz.underlying220⟩,trivial⟩ fun a F=>?_
 refine nl (xm2 4 [2] [] F H hm rfl rfl (fun r534 (p535:Option Addr) (c535:Nat) z=>z) (fun r534 p535 c535 z=>HP.blk b5 ([.int .i64 (r534.1)]) 3::HP.blk b4 ([.int .i64 (r534.2.1)]) 3::HP.blk b3 ([.slice p535 (r534.2.2).length c535]) 220::HP.ow (rInt .i64) 3 p535 c535 r534.2.2::z) (fun r534 hm=>?_) (fun r534 a w hm p535 c535 F H=>?_))
 refine cPm F rfl hm (fun hg536 hm=>?_) (fun hg536 hm=>?_)
 refine rl (bb [0] F H rfl fun a F=>?_)
 replace H:=O_t220_s (H.pm 4 [2,3,0,1] rfl:)
 replace H:=O_int_s (H.pm 3 [2,0,1] rfl:)
 replace H:=O_int_s (H.pm 3 [2,0,1] rfl:)
 obtain ⟨x537,ex537,hm⟩:=ob hm
 refine s_call wkP F rfl rfl rfl rfl (y_callV F rfl rfl rfl ent147) (w_lvEnd ex537 (H.pm 3 [2,1,0] rfl:):) ?_;rintro _ w a ⟨rfl,H⟩ F
 replace H:=H.nf 3 rfl
 refine lz ?_
 obtain ⟨p538,c539,H⟩:=O_t220_o (H.pk 0 rfl)
 replace H:=O_int_o (H.pk 2 rfl)
 replace H:=O_int_o (H.pk 3 rfl)
 cases hm
 refine ct ?_
 exact ⟨p538,c539,F.sl rfl,H⟩
 refine sk ?_
 cases hm
 refine ct ?_
 exact ⟨p266,c266,F.sl rfl,H⟩
 refine ct (sr (bk [2000] F H rfl ⟨rfl,plain220,trivial⟩ fun a F=>s_st1 wkP F rfl rfl zero220 rfl rfl rfl rfl rfl H 2 rfl rfl fun w H=>?_))
 replace H:=H.nf 4 rfl
 refine nl (wr ?_)
 replace H:=H.frz 3 rfl
 cases hm
 refine x_resC1 F rfl (⟨_,rfl,ld1 plain220 ((H.blk 3 rfl).cell _)⟩) ?_
 exact ⟨_,rfl,p535,c535,rfl,(H.pm 4 [0] rfl:)⟩
set_option maxRecDepth 100000
set_option maxHeartbeats 4000000
theorem w_m_tree_compare {x0_:T_api_Pair} {x1_:T_api_Pair} {cs1:List Value} {cs2:List Value} {w0 w:World} {l:List HP}  {r:Int} (hm:m_tree_compare x0_ x1_=some r) (H:St w0 w (HP.rc R_api_Pair cs1 x0_::HP.rc R_api_Pair cs2 x1_::l)) :
  Calls Tryz.prog 146 [.agg cs1.toArray,.agg cs2.toArray].toArray w (fun e w'=>∃ v,e=.returned v∧v=.int .i64 (r)∧St w0 w' (l)):=by
 unfold m_tree_compare at hm
 refine x_enter Tryz.func146 rfl rfl rfl ?_
 intro a F
 refine sr (s_boxA wkP F rfl rfl rfl rfl rfl H fun b3 w a H F=>s_boxA wkP F rfl rfl rfl rfl rfl H fun b4 w a H F=>bb [0] F H rfl fun a F=>?_)
 replace H:=H.nf 4 rfl
 refine nl (sr (bk [0] F H rfl ⟨fld129_0,trivial⟩ fun a F=>?_))
 have G:=F;replace H:=rc_api_Pair (H.pk 2 rfl);obtain ⟨p5,c6,p7,c8,rfl,J⟩:=H;have H:=J;have F:=G;clear G J
 refine bk [3000,0] F H rfl ⟨rfl,plain25,fld129_0,trivial⟩ fun a F=>?_
 have G:=F;replace H:=rc_api_Pair (H.pk 4 rfl);obtain ⟨p9,c10,p11,c12,rfl,J⟩:=H;have H:=J;have F:=G;clear G J
 refine bk [4000] F H rfl ⟨rfl,plain25,trivial⟩ fun a F=>?_
 obtain ⟨x13,ex13,hm⟩:=ob hm
 refine sd F rfl ent154 (w_cmpB ex13 (H.pm 6 [2,0,0,1,2,3,4,5] rfl:):) ?_;rintro _ w a ⟨rfl,H⟩ F
 refine bb [0] F H rfl fun a F=>?_
 replace H:=H.nf 6 rfl
 refine nl (wr ?_)
 cases hm
 refine x_ret1 F rfl rfl ?_
 exact ⟨_,rfl,rfl,(H.pm 6 [] rfl:)⟩
theorem ent146:En Tryz.prog 146:=enters Tryz.func146 (by kernel_rfl) rfl
theorem w_m_tree_rises {x0_:List T_api_Pair} {p1:Option Addr} {c1:Nat} {w0 w:World} {l:List HP}  {r:Bool} (hm:m_tree_rises x0_=some r) (H:St w0 w (HP.sl R_api_Pair p1 c1 x0_::l)) :
  Calls Tryz.prog 115 [.slice p1 (x0_).length c1].toArray w (fun e w'=>∃ v,e=.returned v∧v=.bool (r)∧St w0 w' (l)):=by
 unfold m_tree_rises at hm
 refine x_enter Tryz.func115 rfl rfl rfl ?_
 intro a F
 refine sb [0] F H rfl fun a F=>nl (sq (sb [0] F H rfl fun a F=>?_))
 refine nl (xr0 1 [] [] F H hm rfl rfl (fun r27 z=>z) (fun r27 z=>z) (fun o27 hm hm27=>?_) (fun r27 a w hm F H=>?_))
 refine bl (xl0 1 [0] [0] F H hm rfl rfl (fun (s44:Int) z=>(3,.int .i64 (s44))::z) (fun s44 z=>z) ⟨F.sl rfl,H⟩ (fun s44 a w o F H hm=>sq (sr (bk [0,0,0,0] F H rfl ⟨⟨_,Tryz.underlying61⟩,trivial⟩ fun a F=>?_))))
 refine nl (cPm F rfl hm (fun hg45 hm=>?_) (fun hg45 hm=>?_))
 refine sk (ct (sq (bl (sq ?_))))
 obtain ⟨x46,ex46,hm⟩:=ob hm
 obtain ⟨b47,o47,hp47,cs48,H⟩:=H.slE 0 rfl ex46
 obtain ⟨x49,ex49,hm⟩:=ob hm
 obtain ⟨cs50,H⟩:=H.slF 2 rfl hp47 ex49
 obtain ⟨x51,ex51,hm⟩:=ob hm
 refine qr H (by kernel_rfl) (by kernel_rfl) ?_
 refine qb [0,0,0] F rfl fun a F=>qv F rfl (fun u hu=>y_idxS F elem61 rfl rfl rfl hp47 ex46) fun a F=>qbk [2999,0,0] F rfl ⟨rfl,(aggn agg129 (H.rcLen 3 rfl)),trivial⟩ fun a F=>qv F rfl (fun u hu=>y_idxS F elem61 rfl rfl rfl hp47 ex49) fun a F=>qbk [999] F rfl ⟨rfl,(aggn agg129 (H.rcLen 1 rfl)),trivial⟩ fun a F=>?_
 refine q_call F rfl rfl rfl (fun u hu=>y_call F rfl rfl ent146) (fun u hu=>(w_m_tree_compare ex51 (hu.pm 5 [3,1,0,1,2,3,4] rfl:)).mono fun e u2 he=>by obtain ⟨v,rfl,rfl,H⟩:=he;exact ⟨rfl,H⟩) fun a F=>?_
 refine qb [0] F rfl fun a F=>?_
 refine q_nil fun w H=>?_
 refine ct (cPm F rfl hm (fun hg52 hm=>?_) (fun hg52 hm=>?_))
 cases hm
 refine sk (bn (ct (rl (bb [0,0,0] F H rfl fun a F=>?_))))
 refine lz (ct ?_);cases hm
 exact ⟨_,rfl,⟨F.sl rfl,(H.pm 5 [4] rfl:)⟩⟩
 refine ex (cx (cx ?_));cases hm;refine ⟨_,rfl,?_⟩;rintro rfl
 refine ch (ct ?_)
 exact ⟨_,rfl,F.cut _ trivial,(H.pm 1 [] rfl:)⟩
 refine ct (sb [0] F H rfl fun a F=>nl (wr ?_))
 cases hm
 refine x_ret1 F rfl rfl ?_
 exact ⟨_,rfl,rfl,H⟩
theorem elem218:ElemT Tryz.prog 218 61 1 24 (.slice none 0 0):=⟨Tryz.underlying218,by kernel_rfl,by kernel_rfl,by decide⟩
theorem w_m_tree_cut_api_Pair_ {x0_:List T_api_Pair} {x1_:List Int} {p1:Option Addr} {c1:Nat} {p2:Option Addr} {c2:Nat} {w0 w:World} {l:List HP}  {r:(List (List T_api_Pair))} (hm:m_tree_cut_api_Pair_ x0_ x1_=some r) (H:St w0 w (HP.sl R_api_Pair p1 c1 x0_::HP.sl (rInt .i64) p2 c2 x1_::l)) :
  Calls Tryz.prog 116 [.slice p1 (x0_).length c1,.slice p2 (x1_).length c2].toArray w (fun e w'=>∃ v,e=.returned v∧∃ (p3:Option Addr) (c3:Nat),v=.slice p3 (r).length c3∧St w0 w' (HP.sl (rSl R_api_Pair) p3 c3 r::l)):=by
 unfold m_tree_cut_api_Pair_ at hm
 refine x_enter Tryz.func116 rfl rfl rfl ?_
 intro a F
 refine sb [0] F H rfl fun a F=>nl (sq (sr (bk [0,0,0] F H rfl ⟨⟨_,Tryz.underlying220⟩,trivial⟩ fun a F=>?_)))
 refine nl (xm2 2 [] [] F H hm rfl rfl (fun r44 (p45:Option Addr) (c45:Nat) z=>(4,.slice p45 (r44).length c45)::z) (fun r44 p45 c45 z=>HP.ow (rSl R_api_Pair) 61 p45 c45 r44::z) (fun r44 hm=>?_) (fun r44 a w hm p45 c45 F H=>?_))
 refine bl ?_
 replace H:=H.owNil (rSl R_api_Pair) 61
 refine xl4 3 [7,8] [2] F H hm rfl rfl (fun (s72:(List T_api_Pair)×(List (List T_api_Pair))×Int) (p73:Option Addr) (c73:Nat) (p74:Option Addr) (c74:Nat) z=>(0,.slice p73 (s72.1).length c73)::(4,.slice p74 (s72.2.1).length c74)::(9,.int .i64 (s72.2.2))::z) (fun s72 p73 c73 p74 c74 z=>HP.sl R_api_Pair p73 c73 s72.1::HP.ow (rSl R_api_Pair) 61 p74 c74 s72.2.1::z) ⟨p1,c1,none,0,F.sl rfl,(H.pm 3 [1,0,2] rfl:)⟩ (fun s72 a w o p73 c73 p74 c74 F H hm=>?_)
 refine sb [0] F H rfl fun a F=>?_
 refine nl (sq (cPm F rfl hm (fun hg75 hm=>?_) (fun hg75 hm=>?_)))
 refine sk (ct (sq (bl (sr ?_))))
 obtain ⟨x76,ex76,hm⟩:=ob hm
 obtain ⟨b77,o77,hp77,cs78,H⟩:=H.slE 2 rfl ex76
 obtain rfl:=H.rcI 1 rfl
 replace H:=H.dp 1 rfl
 refine sv F rfl (y_idxS F elem220 rfl rfl rfl hp77 ex76) fun a F=>bk [0,0] F H rfl ⟨rfl,plain3,trivial⟩ fun a F=>nb [0,0,0] F H rfl fun a F=>?_
 obtain ⟨x80,ex80,hm⟩:=ob hm
 have hc79:=H.slCap 1 rfl
 replace H:=H.slSubN 2 rfl 1 rfl ex80
 refine sv F rfl (y_slH F elem61 rfl rfl rfl ex80 hc79) fun a F=>s_buildC wkP F rfl rfl rfl elem218 zero61 rfl rfl rfl rfl (by simp [Value.cells]) (by decide) H fun b81 w a H F=>?_
 replace H:=H.blkOw1 (R:=(rSl R_api_Pair)) (x:=x80) (fun gg=>⟨_,_,rfl,(gg 1 _ rfl).choose_spec⟩)
 replace H:=H.frz 0 rfl
 obtain ⟨x83,ex83,hm⟩:=ob hm
 refine s_app wkP F rfl rfl rfl rfl rfl rfl elem218 rfl ex83 H 4 0 rfl rfl fun p82 c82 w a H F=>?_
 refine bb [0] F H rfl fun a F=>?_
 replace H:=H.nf 6 rfl
 refine nl (rl (bb [0,0] F H rfl fun a F=>?_))
 obtain ⟨x85,ex85,hm⟩:=ob hm
 have hc84:=H.slCap 3 rfl
 replace H:=H.slSubN 2 rfl 3 rfl ex85
 refine sv F rfl (y_slL F elem61 rfl rfl rfl ex85 hc84) fun a F=>bb [0] F H rfl fun a F=>?_
 replace H:=H.nf 7 rfl
 refine lz (bn (ct (rl (bb [0,0] F H rfl fun a F=>?_))))
 refine lz (ct ?_);cases hm
 exact ⟨_,rfl,⟨(shp p73 c73 (x76:Int).toNat 2),(c73 - (x76:Int).toNat),p82,c82,F.sl rfl,(H.pm 7 [0,5,6] rfl:)⟩⟩
 refine ex (cx (cx ?_));cases hm;refine ⟨_,rfl,?_⟩;rintro rfl
 refine ch (ct ?_)
 exact ⟨p74,c74,F.sl rfl,(H.pm 3 [1] rfl:)⟩
 refine ct (sb [0,0] F H rfl fun a F=>nl (wr ?_))
 replace H:=H.frz 0 rfl
 cases hm
 refine x_ret1 F rfl rfl ?_
 exact ⟨_,rfl,p45,c45,rfl,H⟩
theorem ent67:En Tryz.prog 67:=enters Tryz.func67 (by kernel_rfl) rfl
theorem key24:KeyA Tryz.prog 24 32:=KeyA.make (by kernel_rfl) (by kernel_rfl) Tryz.underlying24 Tryz.underlying5 (by kernel_rfl) (by kernel_rfl) (by kernel_rfl)
theorem build_223_0_1:∀ (p0:Option Addr) (x0:List UInt8) (c0:Nat) (s1:List UInt8) (h1:s1.length=32),Tryz.prog.built 223 [(0,.slice p0 (x0).length c0),(1,.agg (bcells s1).toArray)]=some (([Value.slice p0 (x0).length c0]++(bcells s1):List Value)).toArray:=fun p0 x0 c0 s1 h1=>match s1,h1 with | [a0_0,a0_1,a0_2,a0_3,a0_4,a0_5,a0_6,a0_7,a0_8,a0_9,a0_10,a0_11,a0_12,a0_13,a0_14,a0_15,a0_16,a0_17,a0_18,a0_19,a0_20,a0_21,a0_22,a0_23,a0_24,a0_25,a0_26,a0_27,a0_28,a0_29,a0_30,a0_31],_=>by kernel_rfl
theorem w_trPut {bag:(List UInt8)→Option (List UInt8)} {n:T_api_Node} {first:List UInt8} {m1:Nat} {cs2:List Value} {p3:Option Addr} {c3:Nat} {w0 w:World} {l:List HP}  {r:T_api_Kid×Int×((List UInt8)→Option (List UInt8))} (hm:trPut bag n first=some r) (H:St w0 w (HP.row 0 (0) (icells .u32 shaStart)::HP.row 1 (0) (icells .u32 shaRounds)::HP.mm (some m1) hv false (rSlN w0.heap.size rByte) (fun l=>l.length=32) bag::HP.rc R_api_Node cs2 n::HP.sl rByte p3 c3 first::l)) :
  Calls Tryz.prog 118 [.map (some m1),.agg cs2.toArray,.slice p3 (first).length c3].toArray w (fun e w'=>∃ v,e=.returned v∧∃ (cs4:List Value),v=.tuple [.agg cs4.toArray,.int .i64 (r.2.1)].toArray∧St w0 w' (HP.rc R_api_Kid cs4 r.1::HP.mm (some m1) hv false (rSlN w0.heap.size rByte) (fun l=>l.length=32) r.2.2::l)):=by
 unfold trPut at hm
 refine x_enter Tryz.func118 rfl rfl rfl ?_
 intro a F
 refine sr (s_boxA wkP F rfl rfl rfl rfl rfl H fun b5 w a H F=>?_)
 replace H:=H.owNil rByte 5
 refine s_allocA wkP F rfl rfl rfl agz223 rfl H fun b6 w a H F=>bb [0] F H rfl fun a F=>?_
 replace H:=H.nf 8 rfl
 refine nl (sr (bk [2999] F H rfl ⟨rfl,(aggn agg227 (H.rcLen 6 rfl)),trivial⟩ fun a F=>?_))
 obtain ⟨x7,ex7,hm⟩:=ob hm
 refine sd F rfl ent149 (w_ndWrite ex7 (H.pm 8 [6,0,1,2,3,4,5,6,7] rfl:):) ?_;rintro _ w a ⟨p8,c8,rfl,H⟩ F
 refine bb (List.replicate 5 0) F H rfl fun a F=>?_
 replace H:=H.nf 9 rfl
 refine nl (sq (sb [0,0] F H rfl fun a F=>?_))
 refine nl (cNm F rfl hm (fun hg9 hm=>?_) (fun hg9 hm=>?_))
 cases hm
 refine sk (ct (sb [0] F H rfl fun a F=>?_))
 replace H:=H.frzNB 0 rfl
 replace H:=H.nslSl 0 rfl
 obtain ⟨x10,ex10,hm⟩:=ob hm
 refine sd F rfl ent67 (w_shaSum ex10 (H.pm 10 [5,6,0,0,1,2,3,4,5,6,7,8,9] rfl:):) ?_;rintro _ w a ⟨rfl,hl11,H⟩ F
 refine s_allocA wkP F rfl rfl rfl agz24 rfl H fun b12 w a H F=>s_storeA wkP F rfl rfl agg24 rfl rfl rfl H 0 rfl ((bcells_length _).trans hl11) ((bcells_length _).trans (List.length_replicate (n:=32))) (bcells_flat _) fun w H=>?_
 replace H:=H.nf 11 rfl
 refine nl (sr (bk [0,999,0] F H rfl ⟨rfl,(aggn agg24 ((bcells_length _).trans hl11)),trivial⟩ fun a F=>?_))
 refine s_mmSet wkP F rfl rfl Tryz.underlying46 (keyH key24) rfl H 8 rfl rfl (k:=x10) rfl (cs:=[.slice p8 (x7.1).length c8]) rfl hl11 (v:=x7.1) (fun gg=>⟨_,_,rfl,(gg 2 _ rfl).choose_spec⟩) fun w H=>?_
 replace H:=H.nf 11 rfl
 refine nl (sr (bk [0,999] F H rfl ⟨rfl,(aggn agg24 ((bcells_length _).trans hl11)),trivial⟩ fun a F=>sv F rfl (y_build F rfl rfl (cs:=[Value.slice p3 (first).length c3]++(bcells x10)) (build_223_0_1 p3 first c3 x10 hl11)) fun a F=>?_))
 refine s_storeA wkP F rfl rfl agg223 rfl rfl rfl H 3 rfl (by simp only [List.length_append,List.length_cons,List.length_nil,icells_length,bcells_length,hl11]) (by simp only [List.length_append,List.length_cons,List.length_nil,icells_length,bcells_length,(List.length_replicate (n:=32))]) (by intro v hv;simp only [List.mem_append,List.mem_cons,List.not_mem_nil,or_false] at hv;first | (rcases hv with h | h<;>first | (subst h;rfl) | exact bcells_flat _ _ h | exact icells_flat _ _ _ h | (rcases h with h | h<;>first | (subst h;rfl) | exact bcells_flat _ _ h | exact icells_flat _ _ _ h | (rcases h with h | h<;>first | (subst h;rfl) | exact bcells_flat _ _ h | (rcases h with h | h<;>first | (subst h;rfl) | (rcases h with h | h<;>(subst h;rfl)))))) | (subst hv;rfl)) fun w H=>?_
 refine bb [0] F H rfl fun a F=>?_
 replace H:=H.nf 11 rfl
 refine nl (wr ?_)
 replace H:=H.mkRc (R:=R_api_Kid) (cs:=[Value.slice p3 (first).length c3]++(bcells x10)) (x:=(first,x10)) (fun gg=>⟨_,_,rfl,⟨_,_,rfl,(gg 10 _ rfl).choose_spec⟩,⟨rfl,hl11⟩⟩)
 cases hm
 refine x_resC2 F rfl (⟨_,rfl,agg223.run_load (H.blk 4 rfl).row (by simp only [List.length_append,List.length_cons,List.length_nil,icells_length,bcells_length,hl11])⟩) rfl ?_
 exact ⟨_,rfl,[Value.slice p3 (first).length c3]++(bcells x10),rfl,(H.pm 12 [0,9] rfl:)⟩
theorem ent115:En Tryz.prog 115:=enters Tryz.func115 (by kernel_rfl) rfl
theorem ent117:En Tryz.prog 117:=enters Tryz.func117 (by kernel_rfl) rfl
theorem ent116:En Tryz.prog 116:=enters Tryz.func116 (by kernel_rfl) rfl
theorem ent118:En Tryz.prog 118:=enters Tryz.func118 (by kernel_rfl) rfl
theorem fld223_1:FieldT Tryz.prog 223 1 1:=by unfold FieldT;rw [Tryz.underlying223];kernel_rfl
theorem w_trBuild {pairs:List T_api_Pair} {p1:Option Addr} {c1:Nat} {w0 w:World} {l:List HP}  {r:(List UInt8)×((List UInt8)→Option (List UInt8))×Int} (hm:trBuild pairs=some r) (H:St w0 w (HP.row 0 (0) (icells .u32 shaStart)::HP.row 1 (0) (icells .u32 shaRounds)::HP.sl R_api_Pair p1 c1 pairs::l)) :
  Calls Tryz.prog 86 [.slice p1 (pairs).length c1].toArray w (fun e w'=>∃ v,e=.returned v∧∃ (q3:Option Nat),v=.tuple [.agg (bcells r.1).toArray,.map q3,.int .i64 (r.2.2)].toArray∧((r.1).length=32)∧St w0 w' (HP.mm q3 hv false (rSlN w0.heap.size rByte) (fun l=>l.length=32) r.2.1::l)):=by
 unfold trBuild at hm
 refine x_enter Tryz.func86 rfl rfl rfl ?_
 intro a F
 refine sr (s_allocA wkP F rfl rfl rfl agz24 rfl H fun b4 w a H F=>bb [0,0] F H rfl fun a F=>?_)
 replace H:=H.nf 4 rfl
 refine nl (sq (sb [0] F H rfl fun a F=>?_))
 obtain ⟨x5,ex5,hm⟩:=ob hm
 refine sd F rfl ent115 (w_m_tree_rises ex5 (H.pm 4 [3,0,1,2,3] rfl:):) ?_;rintro _ w a ⟨rfl,H⟩ F
 refine bb [0] F H rfl fun a F=>?_
 replace H:=H.nf 4 rfl
 refine nl (cB F rfl (fun hg6=>?_) (fun hg6=>?_))
 replace hm:=ifT hg6 hm
 cases hm
 replace hm:=ifF (nT hg6) hm
 refine sk (ct (sr (s_mmNew hv false (rSlN w0.heap.size rByte) (fun l=>l.length=32) wkP F rfl rfl rfl rfl H fun m7 w a H F=>bb [0,0] F H rfl fun a F=>?_)))
 replace H:=H.nf 5 rfl
 refine nl (sq (sb [0,0] F H rfl fun a F=>?_))
 obtain ⟨x8,ex8,hm⟩:=ob hm
 refine sd F rfl ent117 (w_m_shape_Leaves ex8 (H.pm 5 [4,0,1,2,3,4] rfl:):) ?_;rintro _ w a ⟨p9,c9,rfl,H⟩ F
 obtain ⟨x10,ex10,hm⟩:=ob hm
 refine sd F rfl ent116 (w_m_tree_cut_api_Pair_ ex10 (H.pm 6 [5,0,0,1,2,3,4,5] rfl:):) ?_;rintro _ w a ⟨p11,c11,rfl,H⟩ F
 refine bk [0,0] F H rfl ⟨⟨_,Tryz.underlying218⟩,trivial⟩ fun a F=>?_
 replace H:=H.nf 7 rfl
 refine nl (xr2 7 [2,5] [3,4,5] F H hm rfl rfl (fun r199 (p200:Option Addr) (c200:Nat) z=>(6,.slice p200 (r199.2).length c200)::z) (fun r199 p200 c200 z=>HP.mm (some m7) hv false (rSlN w0.heap.size rByte) (fun l=>l.length=32) r199.1::HP.ow R_api_Kid 223 p200 c200 r199.2::z) (fun o199 hm hm199=>?_) (fun r199 a w hm p200 c200 F H=>?_))
 refine bl ?_
 replace H:=H.owNil R_api_Kid 223
 refine xl2 8 [2,5,29,30] [1,4,5,6] F H hm rfl rfl (fun (s325:((List UInt8)→Option (List UInt8))×(List T_api_Kid)×Int) (p326:Option Addr) (c326:Nat) z=>(6,.slice p326 (s325.2.1).length c326)::(31,.int .i64 (s325.2.2))::z) (fun s325 p326 c326 z=>HP.mm (some m7) hv false (rSlN w0.heap.size rByte) (fun l=>l.length=32) s325.1::HP.ow R_api_Kid 223 p326 c326 s325.2.1::z) ⟨none,0,F.sl rfl,(H.pm 8 [3,0,1,4,5,6] rfl:)⟩ (fun s325 a w o p326 c326 F H hm=>?_)
 refine sb [0] F H rfl fun a F=>?_
 refine nl (sq (cPm F rfl hm (fun hg327 hm=>?_) (fun hg327 hm=>?_)))
 refine sk (ct (sq (xr2 6 [2,5,29,30,31] [2,3,4,5] F H hm rfl rfl (fun r357 (p358:Option Addr) (c358:Nat) z=>(6,.slice p358 (r357.2).length c358)::z) (fun r357 p358 c358 z=>HP.mm (some m7) hv false (rSlN w0.heap.size rByte) (fun l=>l.length=32) r357.1::HP.ow R_api_Kid 223 p358 c358 r357.2::z) (fun o357 hm hm357=>?_) (fun r357 a w hm p358 c358 F H=>?_))))
 refine bl (sr ?_)
 obtain ⟨x359,ex359,hm⟩:=ob hm
 obtain ⟨b360,o360,hp360,cs361,H⟩:=H.slE 2 rfl ex359
 have G:=F;obtain ⟨p362,c362,rfl,H⟩:=H.rcSl 1 rfl;have F:=G;clear G
 replace H:=H.dp 2 rfl
 refine sv F rfl (y_idxS F elem218 rfl rfl rfl hp360 ex359) fun a F=>bk [1000,0] F H rfl ⟨rfl,plain61,trivial⟩ fun a F=>nb [0] F H rfl fun a F=>nl (sq (sr (bk [0,0,0] F H rfl ⟨⟨_,Tryz.underlying61⟩,trivial⟩ fun a F=>?_)))
 refine nl (xm2 8 [2,5,6,8,29,30,31] [0,1,2,3,4,5,6,7] F H hm rfl rfl (fun r371 (p372:Option Addr) (c372:Nat) z=>(9,.slice p372 (r371).length c372)::z) (fun r371 p372 c372 z=>HP.sl rByte p372 c372 r371::z) (fun r371 hm=>?_) (fun r371 a w hm p372 c372 F H=>?_))
 refine cPm F rfl hm (fun hg373 hm=>?_) (fun hg373 hm=>?_)
 refine rl (bb [0] F H rfl fun a F=>?_)
 obtain ⟨x374,ex374,hm⟩:=ob hm
 obtain ⟨b375,o375,hp375,cs376,H⟩:=H.slE 0 rfl ex374
 refine sv F rfl (y_idxS F elem61 rfl rfl rfl hp375 ex374) fun a F=>bk [0] F H rfl ⟨fld129_0,trivial⟩ fun a F=>?_
 have G:=F;replace H:=rc_api_Pair (H.pk 1 rfl);obtain ⟨p377,c378,p379,c380,rfl,J⟩:=H;have H:=J;have F:=G;clear G J
 refine bk [2000,0] F H rfl ⟨rfl,plain25,trivial⟩ fun a F=>lz ?_
 cases hm
 refine ct ?_
 exact ⟨p377,c378,F.sl rfl,(H.pm 11 [0,3,4,5,6,7,8,9,10] rfl:)⟩
 refine sk ?_
 cases hm
 refine ct ?_
 replace H:=H.slNil rByte
 exact ⟨none,0,F.sl rfl,H⟩
 refine ct (sb [0,0] F H rfl fun a F=>?_)
 replace H:=H.owNil R_api_Kid 223
 refine sv F rfl (y_build F rfl rfl (cs:=[.int .i64 (0),.slice p362 (x359).length c362,.slice none (([]:List T_api_Kid)).length 0]) (by kernel_rfl)) fun a F=>bb [0] F H rfl fun a F=>?_
 replace H:=H.frz 0 rfl
 replace H:=mk_api_Node H 0 2 rfl 0 rfl
 obtain ⟨x381,ex381,hm⟩:=ob hm
 refine sd F rfl ent118 (w_trPut ex381 (H.pm 11 [9,10,5,0,2,0,1,2,3,4,6,7,8,9,10] rfl:):) ?_;rintro _ w a ⟨cs382,rfl,H⟩ F
 refine bb [0,0,0] F H rfl fun a F=>?_
 replace H:=H.owNil rByte 5
 refine s_allocA wkP F rfl rfl rfl agz223 rfl H fun b383 w a H F=>s_storeA wkP F rfl rfl agg223 rfl rfl rfl H 0 rfl (H.rcLen 2 rfl) (by simp only [List.length_append,List.length_cons,List.length_nil,icells_length,bcells_length,(List.length_replicate (n:=32))]) (H.rcFlat 2 rfl) fun w H=>bb [0] F H rfl fun a F=>?_
 replace H:=H.nf 14 rfl
 refine nl (sq (sb [0,0] F H rfl fun a F=>?_))
 refine nl (cNm F rfl hm (fun hg384 hm=>?_) (fun hg384 hm=>?_))
 cases hm
 refine sk (ct (rl (bk [0,999] F H rfl ⟨rfl,(aggn agg223 (H.rcLen 2 rfl)),trivial⟩ fun a F=>?_)))
 refine s_build1 wkP F rfl rfl rfl agg223 elem217 rfl rfl (H.rcLen 2 rfl) (by decide) H fun b385 w a H F=>?_
 replace H:=H.blkOw1 (R:=R_api_Kid) (x:=x381.1) (fun gg=>(gg 3 _ rfl).choose_spec)
 replace H:=H.frz 0 rfl
 obtain ⟨x387,ex387,hm⟩:=ob hm
 refine s_app wkP F rfl rfl rfl rfl rfl rfl elem217 rfl ex387 H 10 0 rfl rfl fun p386 c386 w a H F=>?_
 refine bb [0] F H rfl fun a F=>?_
 replace H:=H.nf 15 rfl
 refine lz (bn ?_)
 cases hm
 refine ct ?_
 exact ⟨_,rfl,p386,c386,F.sl rfl,(H.pm 15 [4,10,11,12,13,14] rfl:)⟩
 refine ct (rl (bb [0,0] F H rfl fun a F=>?_))
 refine lz (ct ?_);cases hm
 exact ⟨_,rfl,⟨p358,c358,F.sl rfl,H⟩⟩
 refine ex (cx (cx ?_));cases hm;refine ⟨_,rfl,?_⟩;rintro rfl
 refine ch (ct ?_)
 exact ⟨_,rfl,p326,c326,F.sl rfl,(H.pm 6 [0,1,3,4,5] rfl:)⟩
 refine ct (sq (sb [0] F H rfl fun a F=>?_))
 refine nl (xr0 5 [2,5,6] [0,1,2,3,4] F H hm rfl rfl (fun r392 z=>z) (fun r392 z=>z) (fun o392 hm hm392=>?_) (fun r392 a w hm F H=>?_))
 refine bl (xl0 5 [2,5,6,12] [0,1,2,3,4] F H hm rfl rfl (fun (s395:Unit) z=>z) (fun s395 z=>z) ⟨F.sl rfl,H⟩ (fun s395 a w o F H hm=>sq (sr (bk [0,0,0] F H rfl ⟨⟨_,Tryz.underlying217⟩,trivial⟩ fun a F=>?_))))
 refine nl (cPm F rfl hm (fun hg396 hm=>?_) (fun hg396 hm=>?_))
 refine sk (ct (sq (bl (sq ?_))))
 cases hm
 refine ex (cx (cx ?_));cases hm;refine ⟨_,rfl,?_⟩;rintro rfl
 refine ch (ct ?_)
 exact ⟨_,rfl,F.sl rfl,H⟩
 refine ct (sb [0] F H rfl fun a F=>?_)
 obtain ⟨x397,ex397,hm⟩:=ob hm
 obtain ⟨b398,hp398⟩:=H.owP 1 rfl (idxO_some ex397).2
 obtain ⟨css399,H⟩:=H.oxOpen 1 rfl
 obtain ⟨cs399,hcs399,hcl399,H⟩:=H.oxEl 1 rfl (idxO_some ex397).2
 refine sv F rfl (y_idxS F elem217 rfl rfl rfl hp398 ex397) fun a F=>bk [1] F H rfl ⟨fld223_1,trivial⟩ fun a F=>?_
 have G:=F;replace H:=rc_api_Kid (H.pk 0 rfl);obtain ⟨p400,c401,hl402,rfl,J⟩:=H;have H:=J;have F:=G;clear G J
 refine sv F rfl (y_loadA F agg24 rfl rfl (row_midE (A:=[.slice p400 (x397.1).length c401]) (X:=bcells x397.2) (H.oxRow 2 rfl hp398 hcs399 hcl399) (by simp only [List.length_append,List.length_cons,List.length_nil,icells_length,bcells_length])) ((bcells_length _).trans hl402)) fun a F=>bb [0] F H rfl fun a F=>s_storeA wkP F rfl rfl agg24 rfl rfl rfl H 3 rfl ((bcells_length _).trans hl402) ((bcells_length _).trans (List.length_replicate (n:=32))) (bcells_flat _) fun w H=>bb [0,0] F H rfl fun a F=>?_
 replace H:=H.nf 6 rfl
 refine nl ?_
 replace H:=H.oxShut 2 rfl
 refine wr ?_
 cases hm
 refine x_resC3 F rfl (⟨_,rfl,agg24.run_load (H.blk 3 rfl).row ((bcells_length _).trans hl402)⟩) rfl rfl ?_
 exact ⟨_,rfl,(some m7),rfl,hl402,(H.pm 6 [1] rfl:)⟩
theorem fld256_1:FieldT Tryz.prog 256 1 1:=by unfold FieldT;rw [Tryz.underlying256];kernel_rfl
theorem w_trFollows {w_:T_tree_walker_o} {list:List T_api_Pair} {root:Bool} {bo0:Nat} {bo0_0:Option Nat} {p1:Option Addr} {c1:Nat} {w0 w:World} {l:List HP}  {r:Bool} (hm:trFollows w_ list root=some r) (H:St w0 w (O_tree_walker w0.heap.size bo0 bo0_0 w_::HP.sl (rP2N w0.heap.size) p1 c1 list::l)) :
  Calls Tryz.prog 171 [.pointer (some ⟨bo0,0,none⟩),.slice p1 (list).length c1,.bool (root)].toArray w (fun e w'=>∃ v,e=.returned v∧v=.bool (r)∧St w0 w' (O_tree_walker w0.heap.size bo0 bo0_0 w_::l)):=by
 unfold trFollows at hm
 refine x_enter Tryz.func171 rfl rfl rfl ?_
 intro a F
 refine sb [0] F H rfl fun a F=>nl (sq (sr (bk [0,0,0] F H rfl ⟨⟨_,Tryz.underlying61⟩,trivial⟩ fun a F=>?_)))
 refine nl (cPm F rfl hm (fun hg2 hm=>?_) (fun hg2 hm=>?_))
 refine sb [0,0] F H rfl fun a F=>nl (wr (tr ?_))
 cases hm
 refine x_ret1 F rfl rfl ?_
 exact ⟨_,rfl,rfl,(H.pm 2 [0] rfl:)⟩
 refine sk (ct (sq ?_))
 obtain ⟨p3,c4,H⟩:=O_tree_walker_o (H.pk 0 rfl)
 by_cases hg5:((w_).length:Int)=0
 replace hm:=ifT hg5 hm
 refine qr H (by kernel_rfl) (by kernel_rfl) ?_
 refine qbk [0,0,1,1,0,0,0] F rfl ⟨fld256_1,rfl,plain61,⟨_,Tryz.underlying61⟩,trivial⟩ fun a F=>?_
 replace F:=F.bT 17 hg5 rfl
 refine qb (List.replicate 19 0) F rfl fun a F=>?_
 refine q_nil fun w H=>?_
 refine ct (wr ?_)
 replace H:=O_tree_walker_s H
 cases hm
 refine x_ret1 F rfl rfl ?_
 exact ⟨_,rfl,rfl,(H.pm 2 [0] rfl:)⟩
 replace hm:=ifF hg5 hm
 obtain ⟨x6,ex6,hm⟩:=ob hm
 obtain ⟨b7,hp7⟩:=H.owP 1 rfl (idxO_some ex6).2
 obtain ⟨css8,H⟩:=H.oxOpen 1 rfl
 obtain ⟨cs8,hcs8,hcl8,H⟩:=H.oxEl 1 rfl (idxO_some ex6).2
 obtain ⟨x9,ex9,hm⟩:=ob hm
 obtain ⟨b10,o10,hp10,cs11,H⟩:=H.slE 3 rfl ex9
 replace H:=H.rcP2W 2 rfl
 replace H:=H.rcP2W 2 rfl
 obtain ⟨x12,ex12,hm⟩:=ob hm
 refine qr H (by kernel_rfl) (by kernel_rfl) ?_
 refine qbk [0,0,1,5001,0,0,0] F rfl ⟨fld256_1,rfl,plain61,⟨_,Tryz.underlying61⟩,trivial⟩ fun a F=>?_
 replace F:=F.bF 17 hg5 rfl
 refine qbk [0,0,1,5001,0,0,1,5001,0,0] F rfl ⟨fld256_1,rfl,plain61,fld256_1,rfl,plain61,⟨_,Tryz.underlying61⟩,trivial⟩ fun a F=>?_
 refine qg_on F rfl rfl rfl rfl ?_
 refine qv F rfl (fun u hu=>y_idxS F elem61 rfl rfl rfl hp7 ex6) fun a F=>?_
 refine qg_on F rfl rfl rfl rfl ?_
 refine qv F rfl (fun u hu=>y_loadA F agg129 rfl rfl (hu.oxRow 6 rfl hp7 hcs8 hcl8) (H.rcLen 4 rfl)) fun a F=>qb [0] F rfl fun a F=>?_
 refine qg_on F rfl rfl rfl rfl ?_
 refine qv F rfl (fun u hu=>y_idxS F elem61 rfl rfl rfl hp10 ex9) fun a F=>qbk [2999] F rfl ⟨rfl,(aggn agg129 (H.rcLen 3 rfl)),trivial⟩ fun a F=>?_
 refine qg_on F rfl rfl rfl rfl ?_
 refine q_call F rfl rfl rfl (fun u hu=>y_call F rfl rfl ent146) (fun u hu=>(w_m_tree_compare ex12 (hu.pm 8 [1,0,0,1,2,3,4,5,6,7] rfl:)).mono fun e u2 he=>by obtain ⟨v,rfl,rfl,H⟩:=he;exact ⟨rfl,H⟩) fun a F=>?_
 refine qb [0,0,0] F rfl fun a F=>?_
 refine q_nil fun w H=>?_
 replace H:=H.oxShut 6 rfl
 refine ct (wr ?_)
 replace H:=O_tree_walker_s (H.pm 8 [5,6,0,1,2,3,4,7] rfl:)
 cases hm
 refine x_ret1 F rfl rfl ?_
 exact ⟨_,rfl,rfl,(H.pm 7 [0] rfl:)⟩
theorem fld256_0:FieldT Tryz.prog 256 0 0:=by unfold FieldT;rw [Tryz.underlying256];kernel_rfl
theorem plain46:Plain Tryz.prog 46:=by unfold Plain;rw [Tryz.underlying46];rfl
theorem ent170:En Tryz.prog 170:=enters Tryz.func170 (by kernel_rfl) rfl
theorem ent171:En Tryz.prog 171:=enters Tryz.func171 (by kernel_rfl) rfl
theorem w_trWalk {w_:((List UInt8)→Option (List UInt8))×(List T_api_Pair)} {h:List UInt8} {level:Int} {bo0:Nat} {bo0_0:Option Nat} {w0 w:World} {l:List HP} (hl1:(h).length=32) {r:Int×T_tree_walker_o} (hm:trWalk w_ h level=some r) (H:St w0 w (HP.row 0 (0) (icells .u32 shaStart)::HP.row 1 (0) (icells .u32 shaRounds)::O_tree_walker w0.heap.size bo0 bo0_0 w_.2::HP.fm bo0_0 hv false (rSl rByte) (fun l=>l.length=32) w_.1::l)) :
  Calls Tryz.prog 140 [.pointer (some ⟨bo0,0,none⟩),.agg (bcells h).toArray,.int .i64 (level)].toArray w (fun e w'=>∃ v,e=.returned v∧v=.int .i64 (r.1)∧St w0 w' (O_tree_walker w0.heap.size bo0 bo0_0 r.2::l)):=by
 unfold trWalk at hm
 refine x_enter Tryz.func140 rfl rfl rfl ?_
 intro a F
 refine sr (s_boxA wkP F rfl rfl rfl rfl rfl H fun b2 w a H F=>bb [0] F H rfl fun a F=>?_)
 replace H:=H.nf 5 rfl
 refine nl (sq ?_)
 obtain ⟨p3,c4,H⟩:=O_tree_walker_o (H.pk 3 rfl)
 obtain ⟨es5,H⟩:=H.fmOpen 5 rfl
 obtain ⟨cs5,hcs5,H⟩:=H.fmGet 0 rfl h (zc:=[Value.slice none 0 0]) (z0:=[]) (fun _=>rSl_nil _ _)
 have G:=F;obtain ⟨p6,c6,rfl,H⟩:=H.rcSl 0 rfl;have F:=G;clear G
 replace H:=H.dp 1 rfl
 refine qr H (by kernel_rfl) (by kernel_rfl) ?_
 refine qbk [0,0,0,2000,4999] F rfl ⟨fld256_0,rfl,plain46,rfl,(aggn agg24 ((bcells_length _).trans hl1)),trivial⟩ fun a F=>qv F rfl (fun u hu=>y_fmGet2 (agg:=false) (zc:=[Value.slice none 0 0]) F Tryz.underlying46 (keyH key24) (fun w=>zero25.run w) rfl hu 1 rfl rfl (k:=h) rfl hl1 hcs5) fun a F=>qb (List.replicate 5 0) F rfl fun a F=>?_
 refine q_nil fun w H=>?_
 refine ct (sq (sq ?_))
 by_cases hg7:(!((w_.1 h).isSome))=true
 replace hm:=ifT hg7 hm
 refine qr H (by kernel_rfl) (by kernel_rfl) ?_
 refine qb [0,0,0] F rfl fun a F=>?_
 replace F:=F.vT 25 hg7 rfl
 refine qb (List.replicate 5 0) F rfl fun a F=>?_
 refine q_nil fun w H=>?_
 refine ct (cT F rfl ?_)
 cases hm
 replace hm:=ifF hg7 hm
 obtain ⟨x8,ex8,hm⟩:=ob hm
 have hl9:(x8).length=32:=by obtain ⟨_,_,_,_,_,hx,_⟩:=calls_ex (w_shaSum ex8 (H.pm 8 [5,6,0,0,1,2,3,4,5,6,7] rfl:));exact hx
 refine qr H (by kernel_rfl) (by kernel_rfl) ?_
 refine qb [0,0,0] F rfl fun a F=>?_
 replace F:=F.vF 25 hg7 rfl
 refine qb [0] F rfl fun a F=>?_
 refine qg_on F rfl rfl rfl rfl ?_
 refine q_call F rfl rfl rfl (fun u hu=>y_call F rfl rfl ent67) (fun u hu=>(w_shaSum ex8 (hu.pm 8 [5,6,0,0,1,2,3,4,5,6,7] rfl:)).mono fun e u2 he=>by obtain ⟨v,rfl,rfl,_,H⟩:=he;exact ⟨rfl,H⟩) fun a F=>?_
 refine qbk [4999] F rfl ⟨rfl,(aggn agg24 ((bcells_length _).trans hl1)),trivial⟩ fun a F=>?_
 refine qg_on F rfl rfl rfl rfl ?_
 refine qv F rfl (fun u hu=>y_neqA F key24 rfl rfl rfl hl9 hl1) fun a F=>qb [0] F rfl fun a F=>?_
 refine q_nil fun w H=>?_
 refine ct (cNm F rfl hm (fun hg10 hm=>?_) (fun hg10 hm=>?_))
 cases hm
 refine sk (ct (sb [0] F H rfl fun a F=>?_))
 obtain ⟨x11,ex11,hm⟩:=ob hm
 refine sd F rfl ent170 (w_ndRead ex11 (H.pm 8 [0,0,1,2,3,4,5,6,7] rfl:):) ?_;rintro _ w a ⟨p12,c12,p13,c13,rfl,H⟩ F
 refine bb [0,0,0] F H rfl fun a F=>?_
 replace H:=H.owNil (rP2N w0.heap.size) 129
 replace H:=H.owNil R_api_Kid 223
 refine s_allocA wkP F rfl rfl rfl agz227 rfl H fun b14 w a H F=>s_storeA wkP F rfl rfl agg227 rfl rfl rfl H 0 rfl rfl rfl (fl rfl) fun w H=>bb [0] F H rfl fun a F=>?_
 replace H:=H.nf 13 rfl
 refine nl (sq (sq ?_))
 replace H:=O_tree_walker_s (H.pm 13 [7,8,0,1,2,3,4,5,6,9,10,11,12] rfl:)
 refine xm2 12 [0,9] [0,2,3,5,8,9,10,11] F H hm rfl rfl (fun r22 (p23:Option Addr) (c23:Nat) z=>(61,.bool (r22.2))::z) (fun r22 p23 c23 z=>HP.blk b14 ([.int .i64 (x11.1.1),.slice p23 (r22.1).length c23,.slice p13 (x11.1.2.2).length c13]) 227::HP.sl (rP2N w0.heap.size) p23 c23 r22.1::z) (fun r22 hm=>?_) (fun r22 a w hm p23 c23 F H=>?_)
 refine rl (bb [0,0,0] F H rfl fun a F=>?_)
 rcases spN 38 F rfl hm with ⟨hg24,hm,F⟩ | ⟨hg24,hm,F⟩
 refine bb [0,0,0] F H rfl fun a F=>?_
 rcases spP 41 F rfl hm with ⟨hg25,hm,F⟩ | ⟨hg25,hm,F⟩
 refine bk [0,1000,0,0,0,0,0] F H rfl ⟨fld227_0,rfl,plain3,trivial⟩ fun a F=>?_
 rcases spN 48 F rfl hm with ⟨hg26,hm,F⟩ | ⟨hg26,hm,F⟩
 refine bk [0,1000,0,0] F H rfl ⟨fld227_0,rfl,plain3,trivial⟩ fun a F=>?_
 rcases spP 52 F rfl hm with ⟨hg27,hm,F⟩ | ⟨hg27,hm,F⟩
 refine bk [0,1,1001,0,0] F H rfl ⟨fld227_1,rfl,plain61,trivial⟩ fun a F=>g_onP F rfl rfl rfl rfl ?_
 replace H:=H.nslSl 4 rfl
 obtain ⟨x28,ex28,hm⟩:=ob hm
 refine sd F rfl ent171 (w_trFollows ex28 (H.pm 13 [1,0,0,2,3,4,5,6,7,8,9,10,11,12] rfl:):) ?_;rintro _ w a ⟨rfl,H⟩ F
 refine bb [0,0,0] F H rfl fun a F=>?_
 replace H:=H.nf 13 rfl
 refine lz ?_
 cases hm
 refine ct ?_
 exact ⟨p12,c12,F.sl rfl,(H.pm 13 [2,1,0,3,4,6,9,10,11,12] rfl:)⟩
 refine bb (List.replicate 9 0) F H rfl fun a F=>lz ?_
 cases hm
 refine ct ?_
 replace H:=H.nslSl 4 rfl
 exact ⟨p12,c12,F.sl rfl,(H.pm 13 [2,0,1,3,4,6,9,10,11,12] rfl:)⟩
 refine bb (List.replicate 13 0) F H rfl fun a F=>lz ?_
 cases hm
 refine ct ?_
 replace H:=H.nslSl 4 rfl
 exact ⟨p12,c12,F.sl rfl,(H.pm 13 [2,0,1,3,4,6,9,10,11,12] rfl:)⟩
 refine bk [0,0,0,0,0,0,0,0,1000,0,0] F H rfl ⟨fld227_0,rfl,plain3,trivial⟩ fun a F=>?_
 rcases spP 52 F rfl hm with ⟨hg29,hm,F⟩ | ⟨hg29,hm,F⟩
 refine bk [0,1,1001,0,0] F H rfl ⟨fld227_1,rfl,plain61,trivial⟩ fun a F=>g_onP F rfl rfl rfl rfl ?_
 replace H:=H.nslSl 4 rfl
 obtain ⟨x30,ex30,hm⟩:=ob hm
 refine sd F rfl ent171 (w_trFollows ex30 (H.pm 13 [1,0,0,2,3,4,5,6,7,8,9,10,11,12] rfl:):) ?_;rintro _ w a ⟨rfl,H⟩ F
 refine bb [0,0,0] F H rfl fun a F=>?_
 replace H:=H.nf 13 rfl
 refine lz ?_
 cases hm
 refine ct ?_
 exact ⟨p12,c12,F.sl rfl,(H.pm 13 [2,1,0,3,4,6,9,10,11,12] rfl:)⟩
 refine bb (List.replicate 9 0) F H rfl fun a F=>lz ?_
 cases hm
 refine ct ?_
 replace H:=H.nslSl 4 rfl
 exact ⟨p12,c12,F.sl rfl,(H.pm 13 [2,0,1,3,4,6,9,10,11,12] rfl:)⟩
 refine bb (List.replicate 23 0) F H rfl fun a F=>lz ?_
 cases hm
 refine ct ?_
 replace H:=H.nslSl 4 rfl
 exact ⟨p12,c12,F.sl rfl,(H.pm 13 [2,0,1,3,4,6,9,10,11,12] rfl:)⟩
 refine ct (cB F rfl (fun hg31=>?_) (fun hg31=>?_))
 replace hm:=ifT hg31 hm
 cases hm
 replace hm:=ifF (nT hg31) hm
 refine sk (ct (sq ?_))
 obtain ⟨p32,c33,H⟩:=O_tree_walker_o (H.pk 2 rfl)
 refine mix_regionK [7,10] [10] (scL [0,1,2,3,1004,5,1006,2007,8,9,3010]) [] H rfl rfl (by kernel_rfl) (by kernel_rfl) fun w H=>?_
 refine mbk [0,0,0,1,1,1,2001] F H rfl ⟨fld256_1,rfl,plain61,fld227_1,rfl,plain61,trivial⟩ fun a F=>m_heavy rfl rfl ?_
 obtain ⟨x35,ex35,hm⟩:=ob hm
 refine s_app wkP F rfl rfl rfl rfl rfl rfl elem61 rfl ex35 H 1 3 rfl rfl fun p34 c34 w a H F=>?_
 refine lz ?_;refine ct ⟨⟨_,H⟩,?_⟩
 refine mbk [0,1] F H rfl ⟨fld256_1,trivial⟩ fun a F=>m_last rfl rfl (s_st1 wkP F rfl rfl zero61 rfl rfl rfl rfl rfl H 0 rfl rfl fun w H=>?_)
 refine lz ?_;refine ct ?_
 refine m_nil (ct (sq (sr (bk [2,2002,0,0] F H rfl ⟨fld227_2,rfl,plain217,⟨_,Tryz.underlying217⟩,trivial⟩ fun a F=>?_))))
 replace H:=H.nf 11 rfl
 refine nl ?_
 replace H:=O_tree_walker_s H
 refine xr0 10 [] [0,1,2,3,4,5,6,7,8,9] F H hm rfl rfl (fun r52 z=>z) (fun r52 z=>z) (fun o52 hm hm52=>?_) (fun r52 a w hm F H=>?_)
 refine bl (xl0 10 [0,9,73,74,75] [0,1,2,3,4,5,6,7,8,9] F H hm rfl rfl (fun (s63:Unit) z=>z) (fun s63 z=>z) ⟨F.sl rfl,H⟩ (fun s63 a w o F H hm=>sb [0] F H rfl fun a F=>?_))
 replace H:=H.nf 10 rfl
 refine nl (sq (cPm F rfl hm (fun hg64 hm=>?_) (fun hg64 hm=>?_)))
 refine sk (ct (sq (bl (sr ?_))))
 obtain ⟨x65,ex65,hm⟩:=ob hm
 obtain ⟨b66,o66,hp66,cs67,H⟩:=H.slE 5 rfl ex65
 refine sv F rfl (y_idxS F elem217 rfl rfl rfl hp66 ex65) fun a F=>bk [999] F H rfl ⟨rfl,(aggn agg223 (H.rcLen 1 rfl)),trivial⟩ fun a F=>?_
 replace H:=H.owNil rByte 5
 refine s_allocA wkP F rfl rfl rfl agz223 rfl H fun b68 w a H F=>s_storeA wkP F rfl rfl agg223 rfl rfl rfl H 0 rfl (H.rcLen 3 rfl) (by simp only [List.length_append,List.length_cons,List.length_nil,icells_length,bcells_length,(List.length_replicate (n:=32))]) (H.rcFlat 3 rfl) fun w H=>?_
 replace H:=H.nf 14 rfl
 refine nl ?_
 cases hm
 refine ex (cx (cx ?_));cases hm;refine ⟨_,rfl,?_⟩;rintro rfl
 refine ch (ct ?_)
 exact ⟨_,rfl,F.cut _ trivial,H⟩
 refine ct (sb [0] F H rfl fun a F=>?_)
 replace H:=H.nf 10 rfl
 refine nl (wr ?_)
 cases hm
 refine x_ret1 F rfl rfl ?_
 exact ⟨_,rfl,rfl,(H.pm 10 [0] rfl:)⟩
theorem ent140:En Tryz.prog 140:=enters Tryz.func140 (by kernel_rfl) rfl
theorem ent86:En Tryz.prog 86:=enters Tryz.func86 (by kernel_rfl) rfl
theorem w_trWhole {bag:(List UInt8)→Option (List UInt8)} {root:List UInt8} {q1:Option Nat} {w0 w:World} {l:List HP} (hl2:(root).length=32) {r:(List T_api_Pair)×((List UInt8)→Option (List UInt8))×Int} (hm:trWhole bag root=some r) (H:St w0 w (HP.row 0 (0) (icells .u32 shaStart)::HP.row 1 (0) (icells .u32 shaRounds)::HP.fm q1 hv false (rSl rByte) (fun l=>l.length=32) bag::l)) :
  Calls Tryz.prog 110 [.map q1,.agg (bcells root).toArray].toArray w (fun e w'=>∃ v,e=.returned v∧∃ (p3:Option Addr) (c3:Nat) (q4:Option Nat),v=.tuple [.slice p3 (r.1).length c3,.map q4,.int .i64 (r.2.2)].toArray∧St w0 w' (HP.nsl w0.heap.size (rP2N w0.heap.size) p3 c3 r.1::HP.mm q4 hv false (rSl rByte) (fun l=>l.length=32) r.2.1::l)):=by
 unfold trWhole at hm
 refine x_enter Tryz.func110 rfl rfl rfl ?_
 intro a F
 refine sr (s_boxA wkP F rfl rfl rfl rfl rfl H fun b5 w a H F=>bb [0,0,0] F H rfl fun a F=>?_)
 replace H:=H.nf 4 rfl
 refine nb [0] F H rfl fun a F=>?_
 replace H:=H.owNil (rP2N w0.heap.size) 129
 refine sv F rfl (y_build F rfl rfl (cs:=[.map q1,.slice none (([]:List T_api_Pair)).length 0]) (by kernel_rfl)) fun a F=>s_boxA wkP F rfl rfl rfl rfl rfl H fun b6 w a H F=>bb [0] F H rfl fun a F=>?_
 replace H:=H.nf 6 rfl
 refine nl (sq (sr (bk [0,2999] F H rfl ⟨rfl,(aggn agg24 ((bcells_length _).trans hl2)),trivial⟩ fun a F=>?_)))
 replace H:=O_tree_walker_s (x1:=([]:List T_api_Pair)) H
 obtain ⟨x7,ex7,hm⟩:=ob hm
 refine sd F rfl ent140 (w_trWalk hl2 ex7 (H.pm 5 [2,3,0,4,1,2,3,4] rfl:):) ?_;rintro _ w a ⟨rfl,H⟩ F
 refine bb [0] F H rfl fun a F=>?_
 replace H:=H.nf 5 rfl
 refine nb [0,0] F H rfl fun a F=>?_
 refine nl (cNm F rfl hm (fun hg8 hm=>?_) (fun hg8 hm=>?_))
 cases hm
 refine sk (ct (sr (bk [0,0,1] F H rfl ⟨fld256_1,trivial⟩ fun a F=>?_)))
 obtain ⟨p9,c10,H⟩:=O_tree_walker_o (H.pk 0 rfl)
 refine bk [1] F H rfl ⟨rfl,plain61,trivial⟩ fun a F=>?_
 replace H:=H.frzP2 1 rfl
 replace H:=H.nslSl 0 rfl
 replace H:=H.slP2W 0 rfl
 obtain ⟨x11,ex11,hm⟩:=ob hm
 refine sd F rfl ent86 (w_trBuild ex11 (H.pm 8 [5,6,0,0,1,2,3,4,5,6,7] rfl:):) ?_;rintro _ w a ⟨q13,rfl,hl12,H⟩ F
 replace H:=H.mmN 0 rfl
 refine bb [0,0,0,0] F H rfl fun a F=>s_allocA wkP F rfl rfl rfl agz24 rfl H fun b14 w a H F=>s_storeA wkP F rfl rfl agg24 rfl rfl rfl H 0 rfl ((bcells_length _).trans hl12) ((bcells_length _).trans (List.length_replicate (n:=32))) (bcells_flat _) fun w H=>bb [0,0] F H rfl fun a F=>?_
 replace H:=H.nf 10 rfl
 refine nl (sq (sb [0,0,0] F H rfl fun a F=>?_))
 rcases spN 32 F rfl hm with ⟨hg15,hm,F⟩ | ⟨hg15,hm,F⟩
 refine bk [999,6999] F H rfl ⟨rfl,(aggn agg24 ((bcells_length _).trans hl12)),rfl,(aggn agg24 ((bcells_length _).trans hl2)),trivial⟩ fun a F=>g_onP F rfl rfl rfl rfl (sv F rfl (y_neqA F key24 rfl rfl rfl hl12 hl2) fun a F=>bb [0] F H rfl fun a F=>?_)
 refine nl (cNm F rfl hm (fun hg16 hm=>?_) (fun hg16 hm=>?_))
 cases hm
 refine sk (ct (sr (bk [0,0,1,5001,0,0,0,0] F H rfl ⟨fld256_1,rfl,plain61,trivial⟩ fun a F=>nl (wr ?_))))
 cases hm
 refine x_ret3 F rfl rfl rfl rfl ?_
 exact ⟨_,rfl,p9,c10,q13,rfl,(H.pm 10 [4,1] rfl:)⟩
 refine bb [0,0,0,0] F H rfl fun a F=>nl (cT F rfl ?_)
 cases hm
theorem ent110:En Tryz.prog 110:=enters Tryz.func110 (by kernel_rfl) rfl
theorem w_trAll {bag:(List UInt8)→Option (List UInt8)} {root:List UInt8} {q1:Option Nat} {w0 w:World} {l:List HP} (hl2:(root).length=32) {r:(List T_api_Pair)×Int} (hm:trAll bag root=some r) (H:St w0 w (HP.row 0 (0) (icells .u32 shaStart)::HP.row 1 (0) (icells .u32 shaRounds)::HP.fm q1 hv false (rSl rByte) (fun l=>l.length=32) bag::l)) :
  Calls Tryz.prog 81 [.map q1,.agg (bcells root).toArray].toArray w (fun e w'=>∃ v,e=.returned v∧∃ (p3:Option Addr) (c3:Nat),v=.tuple [.slice p3 (r.1).length c3,.int .i64 (r.2)].toArray∧St w0 w' (HP.nsl w0.heap.size (rP2N w0.heap.size) p3 c3 r.1::l)):=by
 unfold trAll at hm
 refine x_enter Tryz.func81 rfl rfl rfl ?_
 intro a F
 refine sr (s_boxA wkP F rfl rfl rfl rfl rfl H fun b4 w a H F=>bb [0,0] F H rfl fun a F=>?_)
 replace H:=H.nf 4 rfl
 refine nl (sr (bk [0,999] F H rfl ⟨rfl,(aggn agg24 ((bcells_length _).trans hl2)),trivial⟩ fun a F=>?_))
 obtain ⟨x5,ex5,hm⟩:=ob hm
 refine sd F rfl ent110 (w_trWhole hl2 ex5 (H.pm 4 [1,2,3,0,1,2,3] rfl:):) ?_;rintro _ w a ⟨p6,c6,q7,rfl,H⟩ F
 refine bb (List.replicate 7 0) F H rfl fun a F=>?_
 replace H:=H.nf 6 rfl
 refine nb [0,0,0,0] F H rfl fun a F=>nl (wr ?_)
 cases hm
 refine x_ret2 F rfl rfl rfl ?_
 exact ⟨_,rfl,p6,c6,rfl,(H.pm 6 [0] rfl:)⟩
set_option maxRecDepth 100000
set_option maxHeartbeats 4000000
theorem w_cutPre {s:List UInt8} {p:List UInt8}  {w0 w:World} {l:List HP}  {r:(List UInt8)×Bool} (hm:cutPre s p=some r) (H:St w0 w (l)) :
  Calls Tryz.prog 216 [.string (txb (s)),.string (txb (p))].toArray w (fun e w'=>∃ v,e=.returned v∧v=.tuple [.string (txb (r.1)),.bool (r.2)].toArray∧St w0 w' (l)):=by
 unfold cutPre at hm
 cases hm
 exact (Tryz.strings_CutPrefix (txb s) (txb p) w).mono fun e w' ⟨he,hw⟩=>⟨_,by rw [he,txb_list,txb_list];rfl,rfl,hw▸H⟩
theorem w_genSplit {s:List UInt8} {sep:List UInt8} {sv:Int} {n:Int}  {w0 w:World} {l:List HP}  {r:(List (List UInt8))} (hm:genSplit s sep sv n=some r) (H:St w0 w (l)) :
  Calls Tryz.prog 231 [.string (txb (s)),.string (txb (sep)),.int .i64 (sv),.int .i64 (n)].toArray w (fun e w'=>∃ v,e=.returned v∧∃ (p1:Option Addr) (c1:Nat),v=.slice p1 (r).length c1∧St w0 w' (HP.ow rStr 9 p1 c1 r::l)):=by
 unfold genSplit at hm
 obtain ⟨rfl,rfl,rfl,hl,rfl⟩:=splitO_some hm
 have hsz:(txb s).size<4294967281:=by rw [txb_size];omega
 have hC:Calls Tryz.prog 249 #[.string (txb s),.string ⟨#[47]⟩] w fun e w'=>e=.returned (.int .i64 (Lib.countB (txb s) ⟨#[47]⟩))∧w'=w:=by
   refine (Tryz.strings_Count_one (txb s) 47 w).mono fun e w' ⟨he,hw⟩=>⟨?_,hw⟩
   rw [he]
   show _=Ending.returned (Value.int .i64 ((Lib.count (txb s).data.toList [47]:Nat):Int))
   rw [Lib.count_one]
   rfl
 have hle:=Lib.countB_le (⟨#[47]⟩:ByteArray) (by decide) (txb s).size (txb s) (Nat.le_refl _)
 have c:=Any.strings_genSplit_core Tryz.lays221 (by kernel_rfl) (txb s) ⟨#[47]⟩ 0 (-1) (Lib.countB (txb s) ⟨#[47]⟩+1) w hsz (by decide) (by decide)
   (fun x c hx=>(Tryz.strings_Index_one x 47 _).mono fun e w' ⟨he,hw⟩=>⟨by
     rw [he]
     show _=Ending.returned (Value.int .i64 (Lib.index x.data.toList [47]))
     rw [Lib.index_one],hw⟩) hC (by decide) (by decide) (by rw [if_pos (by decide)];omega)
 have hlen:=Lib.splitB_all (⟨#[47]⟩:ByteArray) (by decide) 0 _ (txb s) rfl
 rw [Nat.add_sub_cancel,hlen] at c
 have hd:=Lib.splitB_data (⟨#[47]⟩:ByteArray) 0 (Lib.countB (txb s) ⟨#[47]⟩) (txb s)
 have e0:(⟨#[47]⟩:ByteArray).data.toList=[47]:=rfl
 rw [e0,txb_list] at hd
 have hcb:Lib.countB (txb s) ⟨#[47]⟩=Lib.count s [47]:=by
   show Lib.count (txb s).data.toList [47]=_
   rw [txb_list]
 rw [hcb] at hd hlen c
 rw [split_sp] at hd
 have hB:Lib.splitB ⟨#[47]⟩ 0 (Lib.count s [47]) (txb s)=(sp s).map txb:=by
   have:((sp s).map txb).map (·.data.toList)=sp s:=by
     rw [List.map_map]
     conv=>rhs;rw [← List.map_id (sp s)]
     exact List.map_congr_left fun x _=>txb_list x
   rw [← hd,List.map_map]
   conv=>lhs;rw [← List.map_id (Lib.splitB ⟨#[47]⟩ 0 (Lib.count s [47]) (txb s))]
   exact List.map_congr_left fun x _=>(txb_data x).symm
 have hn:(sp s).length=Lib.count s [47]+1:=by rw [← hlen,hB,List.length_map]
 have hx:Lib.cellsOf (Lib.splitB ⟨#[47]⟩ 0 (Lib.count s [47]) (txb s)) (Lib.count s [47]+1)=((sp s).map fun x=>Value.string (txb x)).toArray:=by
   rw [← hlen,Lib.cellsOf_full,hB,List.map_map];rfl
 rw [hx] at c
 rw [← hn] at c
 refine c.mono fun e w' ⟨he,hw⟩=>⟨_,he,_,_,rfl,?_⟩
 subst hw
 have hm2:(sp s).length≤maxLen:=by
   have h1:Lib.countB (txb s) ⟨#[47]⟩≤(txb s).size:=hle
   rw [hcb,txb_size] at h1
   unfold maxLen;omega
 exact H.newTexts 9 (sp s) hm2
theorem w_strJoin {xs:List (List UInt8)} {sep:List UInt8} {p1:Option Addr} {c1:Nat} {w0 w:World} {l:List HP}  {r:(List UInt8)} (hm:strJoin xs sep=some r) (H:St w0 w (HP.sl rStr p1 c1 xs::l)) :
  Calls Tryz.prog 219 [.slice p1 (xs).length c1,.string (txb (sep))].toArray w (fun e w'=>∃ v,e=.returned v∧v=.string (txb (r))∧St w0 w' (l)):=by
 unfold strJoin at hm
 obtain ⟨rfl,hx,hj,rfl⟩:=joinO_some hm
 have hsl:Sl w (.slice p1 (xs).length c1) (xs).length (xs.map fun l=>Value.string (txb l)):=by
   obtain ⟨B,S,hs,⟨css,h1,h2⟩,_⟩:=H.get 0 rfl
   have h3:=h2 w hs
   have h4:∀ (css:List (List Value)) (xs:List (List UInt8)),RdL rStr B css xs→css.flatten=xs.map fun l=>Value.string (txb l):=by
     intro css
     induction css with
     | nil=>intro xs h;cases xs with
       | nil=>rfl
       | cons x xs=>exact h.elim
     | cons c css ih=>intro xs h;cases xs with
       | nil=>exact h.elim
       | cons x xs =>
         obtain ⟨e1,e2⟩:=h
         have e1:c=[.string (txb x)]:=e1
         simp [e1,ih xs e2]
   rwa [h4 css xs h1] at h3
 have hcap:=H.slCap 0 rfl
 cases xs with
 | nil=>exact (Tryz.strings_Join_none p1 c1 ⟨#[47]⟩ w).mono fun e w' ⟨he,hw⟩=>⟨_,he,rfl,hw▸H.tail⟩
 | cons x r =>
   obtain ⟨b,off,rfl,hrow⟩:=hsl.rowAt (c:=c1) rfl (by simp)
   have hd:((x::r).map txb).map (·.data.toList)=x::r:=by
     rw [List.map_map]
     conv=>rhs;rw [← List.map_id (x::r)]
     exact List.map_congr_left fun y _=>txb_list y
   have hcells:∀ (j:Nat) y,((x::r).map txb)[j]?=some y→w.cell? ⟨b,off+j,none⟩=some (.string y):=by
     intro j y hy
     refine hrow j _ ?_
     rw [List.getElem?_map] at hy ⊢
     cases hz:(x::r)[j]? with
     | none=>rw [hz] at hy;cases hy
     | some z=>rw [hz] at hy;cases hy;rfl
   have h0:=hcells 0 (txb x) rfl
   have e0:(⟨#[47]⟩:ByteArray).data.toList=[47]:=rfl
   have c:=Tryz.strings_Join b off c1 ((x::r).map txb) ⟨#[47]⟩ w hcells (World.block_lt_of_cell? _ _ h0) (by simp at hx ⊢;omega) (by simpa using hcap) (by rw [hd,e0];unfold jn at hj;omega)
   rw [hd,e0,List.length_map] at c
   exact c.mono fun e w' ⟨he,hw⟩=>⟨_,he,rfl,(H.below hw).tail⟩
theorem ent231:En Tryz.prog 231:=enters Tryz.func231 (by kernel_rfl) rfl
theorem w_strSplit {s:List UInt8} {sep:List UInt8}  {w0 w:World} {l:List HP}  {r:(List (List UInt8))} (hm:strSplit s sep=some r) (H:St w0 w (l)) :
  Calls Tryz.prog 217 [.string (txb (s)),.string (txb (sep))].toArray w (fun e w'=>∃ v,e=.returned v∧∃ (p1:Option Addr) (c1:Nat),v=.slice p1 (r).length c1∧St w0 w' (HP.ow rStr 9 p1 c1 r::l)):=by
 unfold strSplit at hm
 refine x_enter Tryz.func217 rfl rfl rfl ?_
 intro a F
 refine sb [0] F H rfl fun a F=>nb [0,0] F H rfl fun a F=>?_
 obtain ⟨x2,ex2,hm⟩:=ob hm
 refine sd F rfl ent231 (w_genSplit ex2 H:) ?_;rintro _ w a ⟨p3,c3,rfl,H⟩ F
 refine bb [0] F H rfl fun a F=>?_
 replace H:=H.nf 1 rfl
 refine nl (wr ?_)
 cases hm
 refine x_ret1 F rfl rfl ?_
 exact ⟨_,rfl,p3,c3,rfl,H⟩
set_option maxRecDepth 100000
set_option maxHeartbeats 4000000
theorem w_m_path_Name {x0_:List UInt8}  {w0 w:World} {l:List HP}  {r:Bool} (hm:m_path_Name x0_=some r) (H:St w0 w (l)) :
  Calls Tryz.prog 112 [.string (txb (x0_))].toArray w (fun e w'=>∃ v,e=.returned v∧v=.bool (r)∧St w0 w' (l)):=by
 unfold m_path_Name at hm
 refine x_enter Tryz.func112 rfl rfl rfl ?_
 intro a F
 refine sb [0] F H rfl fun a F=>nl (sq (sb [0] F H rfl fun a F=>sv F rfl (y_lenT (l:=x0_) F rfl Tryz.underlying9 rfl) fun a F=>bb [0] F H rfl fun a F=>?_))
 refine nl (xr0 0 [0] [] F H hm rfl rfl (fun r23 z=>z) (fun r23 z=>z) (fun o23 hm hm23=>?_) (fun r23 a w hm F H=>?_))
 refine bl (xl0 0 [0,5] [] F H hm rfl rfl (fun (s38:Int) z=>(6,.int .i64 (s38))::z) (fun s38 z=>z) ⟨F.sl rfl,H⟩ (fun s38 a w o F H hm=>sb [0] F H rfl fun a F=>?_))
 refine nl (sq (cPm F rfl hm (fun hg39 hm=>?_) (fun hg39 hm=>?_)))
 refine sk (ct (sq (bl (sb [0,0] F H rfl fun a F=>nb [0,0] F H rfl fun a F=>?_))))
 obtain ⟨x40,ex40,hm⟩:=ob hm
 refine sv F rfl (y_idxT F rfl Tryz.underlying9 rfl rfl ex40) fun a F=>bb [0,0] F H rfl fun a F=>?_
 rcases spP 13 F rfl hm with ⟨hg41,hm,F⟩ | ⟨hg41,hm,F⟩
 refine bb (List.replicate 11 0) F H rfl fun a F=>nl (cT F rfl ?_)
 cases hm
 refine bb [0,0] F H rfl fun a F=>g_onP F rfl rfl rfl rfl ?_
 obtain ⟨x42,ex42,hm⟩:=ob hm
 refine sv F rfl (y_idxT F rfl Tryz.underlying9 rfl rfl ex42) fun a F=>bb [0,0,0] F H rfl fun a F=>?_
 rcases spP 19 F rfl hm with ⟨hg43,hm,F⟩ | ⟨hg43,hm,F⟩
 refine bb (List.replicate 5 0) F H rfl fun a F=>nl (cT F rfl ?_)
 cases hm
 refine bb [0,0] F H rfl fun a F=>g_onP F rfl rfl rfl rfl ?_
 obtain ⟨x44,ex44,hm⟩:=ob hm
 refine sv F rfl (y_idxT F rfl Tryz.underlying9 rfl rfl ex44) fun a F=>bb [0,0] F H rfl fun a F=>?_
 refine nl (cPm F rfl hm (fun hg45 hm=>?_) (fun hg45 hm=>?_))
 cases hm
 refine sk (bn (ct (rl (bb [0,0] F H rfl fun a F=>?_))))
 refine lz (ct ?_);cases hm
 exact ⟨_,rfl,⟨F.sl rfl,H⟩⟩
 refine ex (cx (cx ?_));cases hm;refine ⟨_,rfl,?_⟩;rintro rfl
 refine ch (ct ?_)
 exact ⟨_,rfl,F.sl rfl,H⟩
 refine ct (sb [0] F H rfl fun a F=>sv F rfl (y_neT (l:=x0_) (m:=[]) F rfl rfl rfl) fun a F=>bb [0] F H rfl fun a F=>?_)
 rcases spN 28 F rfl hm with ⟨hg46,hm,F⟩ | ⟨hg46,hm,F⟩
 refine bb (List.replicate 5 0) F H rfl fun a F=>nl (wr ?_)
 cases hm
 refine x_ret1 F rfl rfl ?_
 exact ⟨_,rfl,rfl,H⟩
 refine bb [0] F H rfl fun a F=>g_onP F rfl rfl rfl rfl (sv F rfl (y_lenT (l:=x0_) F rfl Tryz.underlying9 rfl) fun a F=>bb [0,0,0] F H rfl fun a F=>nl (wr ?_))
 cases hm
 refine x_ret1 F rfl rfl ?_
 exact ⟨_,rfl,rfl,H⟩
theorem ent112:En Tryz.prog 112:=enters Tryz.func112 (by kernel_rfl) rfl
theorem w_m_path_names_1 {x0_:List UInt8}  {w0 w:World} {l:List HP}  {r:Bool} (hm:m_path_names_1 x0_=some r) (H:St w0 w (l)) :
  Calls Tryz.prog 218 [.string (txb (x0_))].toArray w (fun e w'=>∃ v,e=.returned v∧v=.bool (r)∧St w0 w' (l)):=by
 unfold m_path_names_1 at hm
 refine x_enter Tryz.func218 rfl rfl rfl ?_
 intro a F
 refine sb [0] F H rfl fun a F=>nb [0] F H rfl fun a F=>?_
 obtain ⟨x1,ex1,hm⟩:=ob hm
 refine sd F rfl ent112 (w_m_path_Name ex1 H:) ?_;rintro _ w a ⟨rfl,H⟩ F
 refine bb [0,0] F H rfl fun a F=>nl (wr ?_)
 cases hm
 refine x_ret1 F rfl rfl ?_
 exact ⟨_,rfl,rfl,H⟩
theorem elem56:ElemT Tryz.prog 56 9 1 16 (.string ByteArray.empty):=⟨Tryz.underlying56,by kernel_rfl,by kernel_rfl,by decide⟩
theorem plain9:Plain Tryz.prog 9:=by unfold Plain;rw [Tryz.underlying9];rfl
theorem ent218:En Tryz.prog 218:=enters Tryz.func218 (by kernel_rfl) rfl
theorem w_ixName {s:List (List UInt8)} {p1:Option Addr} {c1:Nat} {w0 w:World} {l:List HP}  {r:Int} (hm:ixName s=some r) (H:St w0 w (HP.sl rStr p1 c1 s::l)) :
  Calls Tryz.prog 121 [.slice p1 (s).length c1,.func (.func 218) #[] #[]].toArray w (fun e w'=>∃ v,e=.returned v∧v=.int .i64 (r)∧St w0 w' (l)):=by
 unfold ixName at hm
 refine x_enter Tryz.func121 rfl rfl rfl ?_
 intro a F
 refine sb [0] F H rfl fun a F=>nl (sq (sr (bk [0,0,0] F H rfl ⟨⟨_,Tryz.underlying56⟩,trivial⟩ fun a F=>?_)))
 refine nl (xr0 1 [] [] F H hm rfl rfl (fun r21 z=>z) (fun r21 z=>z) (fun o21 hm hm21=>?_) (fun r21 a w hm F H=>?_))
 refine bl (xl0 1 [0,1,7] [0] F H hm rfl rfl (fun (s34:Int) z=>(8,.int .i64 (s34))::z) (fun s34 z=>z) ⟨F.sl rfl,H⟩ (fun s34 a w o F H hm=>sb [0] F H rfl fun a F=>?_))
 refine nl (sq (cPm F rfl hm (fun hg35 hm=>?_) (fun hg35 hm=>?_)))
 refine sk (ct (sq (bl (sb [0,0] F H rfl fun a F=>nb [0,0,0] F H rfl fun a F=>?_))))
 obtain ⟨x36,ex36,hm⟩:=ob hm
 obtain ⟨b37,o37,hp37,cs38,H⟩:=H.slE 0 rfl ex36
 obtain rfl:=H.rcStr 1 rfl
 replace H:=H.dp 1 rfl
 refine sv F rfl (y_idxS F elem56 rfl rfl rfl hp37 ex36) fun a F=>bk [0] F H rfl ⟨rfl,plain9,trivial⟩ fun a F=>?_
 obtain ⟨x39,ex39,hm⟩:=ob hm
 refine s_call wkP F rfl rfl rfl rfl (y_callV0 F rfl rfl rfl ent218) (w_m_path_names_1 ex39 H:) ?_;rintro _ w a ⟨rfl,H⟩ F
 replace H:=H.nf 2 rfl
 refine nl (cB F rfl (fun hg40=>?_) (fun hg40=>?_))
 replace hm:=ifT hg40 hm
 refine sb [0,0] F H rfl fun a F=>?_
 refine nl (wr (br (tr (tr ?_))));cases hm;refine ⟨_,rfl,?_⟩;rintro rfl
 refine br (tr ?_)
 replace hm:=elimR hm21
 refine tr ?_
 cases hm
 refine x_ret1 F rfl rfl ?_
 exact ⟨_,rfl,rfl,(H.pm 2 [] rfl:)⟩
 replace hm:=ifF (nT hg40) hm
 refine sk (bn (ct (rl (bb [0,0] F H rfl fun a F=>?_))))
 refine lz (ct ?_);cases hm
 exact ⟨_,rfl,⟨F.sl rfl,(H.pm 2 [1] rfl:)⟩⟩
 refine ex (cx (cx ?_));cases hm;refine ⟨_,rfl,?_⟩;rintro rfl
 refine ch (ct ?_)
 exact ⟨_,rfl,F.cut _ trivial,(H.pm 1 [] rfl:)⟩
 refine ct (sb [0] F H rfl fun a F=>nl (wr ?_))
 cases hm
 refine x_ret1 F rfl rfl ?_
 exact ⟨_,rfl,rfl,H⟩
theorem ent121:En Tryz.prog 121:=enters Tryz.func121 (by kernel_rfl) rfl
theorem w_anyBad {s:List (List UInt8)} {p1:Option Addr} {c1:Nat} {w0 w:World} {l:List HP}  {r:Bool} (hm:anyBad s=some r) (H:St w0 w (HP.sl rStr p1 c1 s::l)) :
  Calls Tryz.prog 89 [.slice p1 (s).length c1,.func (.func 218) #[] #[]].toArray w (fun e w'=>∃ v,e=.returned v∧v=.bool (r)∧St w0 w' (l)):=by
 unfold anyBad at hm
 refine x_enter Tryz.func89 rfl rfl rfl ?_
 intro a F
 refine sb [0] F H rfl fun a F=>nb [0,0] F H rfl fun a F=>?_
 obtain ⟨x2,ex2,hm⟩:=ob hm
 refine sd F rfl ent121 (w_ixName ex2 (H.pm 1 [0,0] rfl:):) ?_;rintro _ w a ⟨rfl,H⟩ F
 refine bb [0,0] F H rfl fun a F=>?_
 replace H:=H.nf 1 rfl
 refine nl (wr ?_)
 cases hm
 refine x_ret1 F rfl rfl ?_
 exact ⟨_,rfl,rfl,(H.pm 1 [] rfl:)⟩
theorem ent216:En Tryz.prog 216:=enters Tryz.func216 (by kernel_rfl) rfl
theorem ent217:En Tryz.prog 217:=enters Tryz.func217 (by kernel_rfl) rfl
theorem ent89:En Tryz.prog 89:=enters Tryz.func89 (by kernel_rfl) rfl
theorem w_pNames {p:List UInt8}  {w0 w:World} {l:List HP}  {r:(List (List UInt8))×Bool} (hm:pNames p=some r) (H:St w0 w (l)) :
  Calls Tryz.prog 193 [.string (txb (p))].toArray w (fun e w'=>∃ v,e=.returned v∧∃ (p1:Option Addr) (c1:Nat),v=.tuple [.slice p1 (r.1).length c1,.bool (r.2)].toArray∧St w0 w' (HP.sl rStr p1 c1 r.1::l)):=by
 unfold pNames at hm
 refine x_enter Tryz.func193 rfl rfl rfl ?_
 intro a F
 refine sb [0,0] F H rfl fun a F=>nl (sq (sb [0] F H rfl fun a F=>sv F rfl (y_eqT (l:=p) (m:=[47]) F rfl rfl rfl) fun a F=>?_))
 refine nl (cPm F rfl hm (fun hg2 hm=>?_) (fun hg2 hm=>?_))
 refine sb [0,0] F H rfl fun a F=>nl (wr (tr ?_))
 replace H:=H.slNil rStr
 cases hm
 refine x_ret2 F rfl rfl rfl ?_
 exact ⟨_,rfl,none,0,rfl,H⟩
 refine sk (ct (sb [0] F H rfl fun a F=>?_))
 obtain ⟨x3,ex3,hm⟩:=ob hm
 refine sd F rfl ent216 (w_cutPre ex3 H:) ?_;rintro _ w a ⟨rfl,H⟩ F
 refine bb (List.replicate 5 0) F H rfl fun a F=>nb [0] F H rfl fun a F=>?_
 obtain ⟨x4,ex4,hm⟩:=ob hm
 refine sd F rfl ent217 (w_strSplit ex4 H:) ?_;rintro _ w a ⟨p5,c5,rfl,H⟩ F
 refine bb [0] F H rfl fun a F=>?_
 replace H:=H.nf 1 rfl
 refine nl (sq (sb [0,0,0] F H rfl fun a F=>?_))
 by_cases hg6:(!x3.2)=true
 replace hm:=ifT hg6 hm
 replace F:=F.vT 18 hg6 rfl
 refine bb (List.replicate 8 0) F H rfl fun a F=>nl (cT F rfl ?_)
 cases hm
 replace hm:=ifF hg6 hm
 replace F:=F.vF 18 hg6 rfl
 refine bb [0] F H rfl fun a F=>g_onP F rfl rfl rfl rfl (sv F rfl (y_lenT (l:=p) F rfl Tryz.underlying9 rfl) fun a F=>bb [0,0,0] F H rfl fun a F=>?_)
 rcases spP 23 F rfl hm with ⟨hg7,hm,F⟩ | ⟨hg7,hm,F⟩
 refine bb [0,0,0] F H rfl fun a F=>nl (cT F rfl ?_)
 cases hm
 refine bb [0] F H rfl fun a F=>g_onP F rfl rfl rfl rfl ?_
 replace H:=H.frz 0 rfl
 obtain ⟨x8,ex8,hm⟩:=ob hm
 refine sd F rfl ent89 (w_anyBad ex8 (H.pm 1 [0,0] rfl:):) ?_;rintro _ w a ⟨rfl,H⟩ F
 refine bb [0] F H rfl fun a F=>?_
 replace H:=H.nf 1 rfl
 refine nl (cB F rfl (fun hg9=>?_) (fun hg9=>?_))
 replace hm:=ifT hg9 hm
 cases hm
 replace hm:=ifF (nT hg9) hm
 refine sk (ct (sb [0,0,0] F H rfl fun a F=>nl (wr ?_)))
 cases hm
 refine x_ret2 F rfl rfl rfl ?_
 exact ⟨_,rfl,p5,c5,rfl,H⟩
theorem ent219:En Tryz.prog 219:=enters Tryz.func219 (by kernel_rfl) rfl
theorem w_m_path_join {x0_:List (List UInt8)} {p1:Option Addr} {c1:Nat} {w0 w:World} {l:List HP}  {r:(List UInt8)} (hm:m_path_join x0_=some r) (H:St w0 w (HP.sl rStr p1 c1 x0_::l)) :
  Calls Tryz.prog 194 [.slice p1 (x0_).length c1].toArray w (fun e w'=>∃ v,e=.returned v∧v=.string (txb (r))∧St w0 w' (l)):=by
 unfold m_path_join at hm
 refine x_enter Tryz.func194 rfl rfl rfl ?_
 intro a F
 refine sb [0] F H rfl fun a F=>nb [0] F H rfl fun a F=>?_
 obtain ⟨x2,ex2,hm⟩:=ob hm
 refine sd F rfl ent219 (w_strJoin ex2 (H.pm 1 [0,0] rfl:):) ?_;rintro _ w a ⟨rfl,H⟩ F
 obtain ⟨x3,ex3,hm⟩:=ob hm
 refine sv F rfl (y_addO F rfl rfl rfl ex3) fun a F=>bb [0] F H rfl fun a F=>?_
 replace H:=H.nf 1 rfl
 refine nl (wr ?_)
 cases hm
 refine x_ret1 F rfl rfl ?_
 exact ⟨_,rfl,rfl,(H.pm 1 [] rfl:)⟩
theorem ent193:En Tryz.prog 193:=enters Tryz.func193 (by kernel_rfl) rfl
theorem w_m_path_Check {x0_:List UInt8}  {w0 w:World} {l:List HP}  {r:Int} (hm:m_path_Check x0_=some r) (H:St w0 w (l)) :
  Calls Tryz.prog 172 [.string (txb (x0_))].toArray w (fun e w'=>∃ v,e=.returned v∧v=.int .i64 (r)∧St w0 w' (l)):=by
 unfold m_path_Check at hm
 refine x_enter Tryz.func172 rfl rfl rfl ?_
 intro a F
 refine sb [0] F H rfl fun a F=>nl (sq (sb [0] F H rfl fun a F=>?_))
 obtain ⟨x1,ex1,hm⟩:=ob hm
 refine sd F rfl ent193 (w_pNames ex1 H:) ?_;rintro _ w a ⟨p2,c2,rfl,H⟩ F
 refine bb (List.replicate 5 0) F H rfl fun a F=>?_
 replace H:=H.nf 1 rfl
 refine nb [0,0] F H rfl fun a F=>?_
 refine nl (cB F rfl (fun hg3=>?_) (fun hg3=>?_))
 replace hm:=ifT hg3 hm
 cases hm
 replace hm:=ifF (nT hg3) hm
 refine sk (ct (sb [0] F H rfl fun a F=>nl (wr ?_)))
 cases hm
 refine x_ret1 F rfl rfl ?_
 exact ⟨_,rfl,rfl,(H.pm 1 [] rfl:)⟩
theorem ent194:En Tryz.prog 194:=enters Tryz.func194 (by kernel_rfl) rfl
theorem w_m_path_Parent {x0_:List UInt8}  {w0 w:World} {l:List HP}  {r:(List UInt8)} (hm:m_path_Parent x0_=some r) (H:St w0 w (l)) :
  Calls Tryz.prog 173 [.string (txb (x0_))].toArray w (fun e w'=>∃ v,e=.returned v∧v=.string (txb (r))∧St w0 w' (l)):=by
 unfold m_path_Parent at hm
 refine x_enter Tryz.func173 rfl rfl rfl ?_
 intro a F
 refine sb [0] F H rfl fun a F=>nb [0] F H rfl fun a F=>?_
 obtain ⟨x1,ex1,hm⟩:=ob hm
 refine sd F rfl ent193 (w_pNames ex1 H:) ?_;rintro _ w a ⟨p2,c2,rfl,H⟩ F
 refine bb (List.replicate 5 0) F H rfl fun a F=>?_
 replace H:=H.nf 1 rfl
 refine nl (sq (sr (bk [0,0,0] F H rfl ⟨⟨_,Tryz.underlying56⟩,trivial⟩ fun a F=>?_)))
 refine nl (cPm F rfl hm (fun hg3 hm=>?_) (fun hg3 hm=>?_))
 cases hm
 refine sk (ct (sr (bk [0,0,0,0] F H rfl ⟨⟨_,Tryz.underlying56⟩,trivial⟩ fun a F=>?_)))
 obtain ⟨x5,ex5,hm⟩:=ob hm
 have hc4:=H.slCap 0 rfl
 replace H:=H.slSubN 1 rfl 0 rfl ex5
 refine sv F rfl (y_slH F elem56 rfl rfl rfl ex5 hc4) fun a F=>?_
 obtain ⟨x6,ex6,hm⟩:=ob hm
 refine sd F rfl ent194 (w_m_path_join ex6 (H.pm 2 [0,0,1] rfl:):) ?_;rintro _ w a ⟨rfl,H⟩ F
 refine bb [0] F H rfl fun a F=>?_
 replace H:=H.nf 2 rfl
 refine nl (wr ?_)
 cases hm
 refine x_ret1 F rfl rfl ?_
 exact ⟨_,rfl,rfl,(H.pm 2 [] rfl:)⟩
theorem zero9:Zero1 Tryz.prog 9 (.string ByteArray.empty):=⟨by kernel_rfl,rfl⟩
theorem w_m_path_Ancestors {x0_:List UInt8}  {w0 w:World} {l:List HP}  {r:(List (List UInt8))} (hm:m_path_Ancestors x0_=some r) (H:St w0 w (l)) :
  Calls Tryz.prog 212 [.string (txb (x0_))].toArray w (fun e w'=>∃ v,e=.returned v∧∃ (p1:Option Addr) (c1:Nat),v=.slice p1 (r).length c1∧St w0 w' (HP.sl rStr p1 c1 r::l)):=by
 unfold m_path_Ancestors at hm
 refine x_enter Tryz.func212 rfl rfl rfl ?_
 intro a F
 refine sb [0] F H rfl fun a F=>nb [0] F H rfl fun a F=>?_
 obtain ⟨x2,ex2,hm⟩:=ob hm
 refine sd F rfl ent193 (w_pNames ex2 H:) ?_;rintro _ w a ⟨p3,c3,rfl,H⟩ F
 refine bb (List.replicate 5 0) F H rfl fun a F=>?_
 replace H:=H.nf 1 rfl
 refine nl (sq (sr (bk [0,0,0] F H rfl ⟨⟨_,Tryz.underlying56⟩,trivial⟩ fun a F=>?_)))
 refine nl (xm2 1 [] [] F H hm rfl rfl (fun r29 (p30:Option Addr) (c30:Nat) z=>(2,.slice p30 (r29).length c30)::z) (fun r29 p30 c30 z=>HP.ow rStr 9 p30 c30 r29::z) (fun r29 hm=>?_) (fun r29 a w hm p30 c30 F H=>?_))
 refine bl ?_
 replace H:=H.owNil rStr 9
 refine xl2 2 [3,12] [1] F H hm rfl rfl (fun (s47:(List (List UInt8))×Int) (p48:Option Addr) (c48:Nat) z=>(2,.slice p48 (s47.1).length c48)::(13,.int .i64 (s47.2))::z) (fun s47 p48 c48 z=>HP.ow rStr 9 p48 c48 s47.1::z) ⟨none,0,F.sl rfl,H⟩ (fun s47 a w o p48 c48 F H hm=>?_)
 refine sb [0] F H rfl fun a F=>?_
 refine nl (sq (cPm F rfl hm (fun hg49 hm=>?_) (fun hg49 hm=>?_)))
 refine sk (ct (sq (bl (sb [0,0] F H rfl fun a F=>nl (rl (bb [0,0,0] F H rfl fun a F=>?_))))))
 obtain ⟨x51,ex51,hm⟩:=ob hm
 have hc50:=H.slCap 1 rfl
 replace H:=H.slSubN 1 rfl 1 rfl ex51
 refine sv F rfl (y_slH F elem56 rfl rfl rfl ex51 hc50) fun a F=>?_
 obtain ⟨x52,ex52,hm⟩:=ob hm
 refine sd F rfl ent194 (w_m_path_join ex52 (H.pm 3 [0,0,1,2] rfl:):) ?_;rintro _ w a ⟨rfl,H⟩ F
 refine s_buildC wkP F rfl rfl rfl elem56 zero9 rfl rfl rfl rfl (by simp [Value.cells]) (by decide) H fun b53 w a H F=>?_
 replace H:=H.blkOw1 (R:=rStr) (x:=x52) (fun gg=>rfl)
 replace H:=H.frz 0 rfl
 obtain ⟨x55,ex55,hm⟩:=ob hm
 refine s_app wkP F rfl rfl rfl rfl rfl rfl elem56 rfl ex55 H 2 0 rfl rfl fun p54 c54 w a H F=>?_
 refine bb [0] F H rfl fun a F=>?_
 replace H:=H.nf 4 rfl
 refine lz (bn (ct (rl (bb [0,0] F H rfl fun a F=>?_))))
 refine lz (ct ?_);cases hm
 exact ⟨_,rfl,⟨p54,c54,F.sl rfl,(H.pm 4 [2,3] rfl:)⟩⟩
 refine ex (cx (cx ?_));cases hm;refine ⟨_,rfl,?_⟩;rintro rfl
 refine ch (ct ?_)
 exact ⟨p48,c48,F.sl rfl,(H.pm 2 [0] rfl:)⟩
 refine ct (sb [0,0] F H rfl fun a F=>nl (wr ?_))
 replace H:=H.frz 0 rfl
 cases hm
 refine x_ret1 F rfl rfl ?_
 exact ⟨_,rfl,p30,c30,rfl,H⟩
set_option maxRecDepth 100000
set_option maxHeartbeats 4000000
theorem ent153:En Tryz.prog 153:=enters Tryz.func153 (by kernel_rfl) rfl
theorem w_cmpp153 {B:Base} (x y:PE B) (w:World) (hs:Sub B w):Calls Tryz.prog 153 [.agg (encP x).toArray,.agg (encP y).toArray].toArray w (fun e w'=>e=.returned (.int .i64 (cmpP x y))∧∃ q os',w'=Go.Sort.grow (w.drewN q) os'):=by
 obtain ⟨q1,c1,v1,hx1,hx2⟩:=pe_key hs x
 obtain ⟨q2,c2,v2,hy1,hy2⟩:=pe_key hs y
 refine x_enter Tryz.func153 rfl rfl rfl ?_
 intro a F
 replace F:Fr ⟨10,[]⟩ a [(0,.agg (x.1.1).toArray),(1,.agg (y.1.1).toArray)]:=F
 rw [hx1,hy1] at F
 refine wp_seq (r_lit ?_)
 refine sv F rfl (y_boxA F rfl rfl) fun a F=>sv F rfl (y_boxA F rfl rfl) fun a F=>sv F rfl (y_assign F rfl rfl) fun a F=>?_
 refine wpList_nil (c_then ?_)
 obtain ⟨w1,hw1⟩:∃ w1,w1=w.alloc (.cells [Value.slice q1 x.1.2.1.length c1,v1].toArray 129):=⟨_,rfl⟩
 obtain ⟨w2,hw2⟩:∃ w2,w2=w1.alloc (.cells [Value.slice q2 y.1.2.1.length c2,v2].toArray 129):=⟨_,rfl⟩
 have hs2:Sub B w2:=fun b o hb=>by rw [hw2,hw1];exact heapOld _ _ b (by have:=hs.lt hb;simp;omega) |>.trans ((heapOld _ _ b (hs.lt hb)).trans (hs b o hb))
 have hb1:Blk w2 w.heap.size [Value.slice q1 x.1.2.1.length c1,v1] 129:=by rw [hw2,hw1];exact (Blk.new w _ _).alloc _
 have hb2:Blk w2 w1.heap.size [Value.slice q2 y.1.2.1.length c2,v2] 129:=by rw [hw2];exact Blk.new _ _ _
 rw [← hw1] at F
 rw [← hw1,← hw2]
 generalize w.heap.size=b1 at *
 generalize w1.heap.size=b2 at *
 obtain ⟨q3,c3,v3,hx3,hx4⟩:=pe_key hs2 x
 obtain ⟨q4,c4,v4,hy3,hy4⟩:=pe_key hs2 y
 rw [hx1] at hx3
 rw [hy1] at hy3
 simp only [List.cons.injEq,Value.slice.injEq,true_and,and_true] at hx3 hy3
 obtain ⟨⟨rfl,rfl⟩,rfl⟩:=hx3
 obtain ⟨⟨rfl,rfl⟩,rfl⟩:=hy3
 refine wp_seq (r_lit ?_)
 refine sv F rfl (y_fieldAddr F fld129_0 rfl rfl) fun a F=>sv F rfl (y_load1 F plain25 rfl rfl (hb1.cell _)) fun a F=>sv F rfl (y_fieldAddr F fld129_0 rfl rfl) fun a F=>sv F rfl (y_load1 F plain25 rfl rfl (hb2.cell _)) fun a F=>?_
 refine s_callV (v:=.int .i64 (cmpP x y)) wkP F rfl rfl rfl rfl (y_call F rfl rfl ent154) (R:=fun w'=>w'=w2) ((w_cmp154 hx4 hy4).mono fun e w' h=>⟨h.1,h.2⟩) ?_;rintro w a rfl F
 refine sv F rfl (y_assign F rfl rfl) fun a F=>?_
 refine wpList_nil (c_then ?_)
 refine wp_ret ?_
 refine x_ret1 F rfl rfl ?_
 refine ⟨rfl,0,#[Obj.cells [Value.slice q1 x.1.2.1.length c1,v1].toArray 129 (0,0),Obj.cells [Value.slice q2 y.1.2.1.length c2,v2].toArray 129 (0,0)],?_⟩
 rw [hw2,hw1,Go.Sort.alloc_eq_grow,Go.Sort.alloc_eq_grow,Go.Sort.grow_grow]
 rfl
theorem w_sortPs {xs:List T_api_Pair} {p1:Option Addr} {c1:Nat} {w0 w:World} {l:List HP}  {r:(List T_api_Pair)} (hm:sortPs xs=some r) (H:St w0 w (HP.ow R_api_Pair 129 p1 c1 xs::l)) :
  Calls Tryz.prog 152 [.slice p1 (xs).length c1,.func (.func 153) #[] #[]].toArray w (fun e w'=>∃ v,e=.returned v∧v=.tuple [].toArray∧((r).length=(xs).length)∧St w0 w' (HP.ow R_api_Pair 129 p1 c1 r::l)):=by
 unfold sortPs at hm
 obtain ⟨hnd,hn,rfl⟩:=sortPO_some hm
 rcases H.owCase 0 rfl with ⟨rfl,rfl,rfl⟩ | ⟨b,rfl⟩
 · exact (AnyF.slices_SortFunc_none Tryz.layz152 none 0 (.func (.func 153) #[] #[]) w).mono fun e w' ⟨he,hw⟩=>⟨_,he,rfl,by simp [sortPairs],by rw [hw,show sortPairs []=[] by simp [sortPairs]];exact H⟩
 · obtain ⟨B,d,hd,hH,hb,hB,hK⟩:=H.sortP 0 rfl
   have hlen:d.toArray.size=xs.length:=by rw [← hd];simp
   have:=AnyQ.slices_SortFunc Tryz.layz152 2 agg129.run_isAgg agg129.run_szOf encP encP_len encP_one cmpP cmpP_swo 153 #[] b 0 c1 d.toArray w ent153 (fun m os dk hs x y=>w_cmpp153 x y _ (hB dk m os)) hH hb (by rw [hlen];omega)
   rw [hlen] at this
   refine this.mono ?_
   rintro e w' ⟨rfl,d',n,os,hp,hs,rfl⟩
   rw [← hlen] at hp hs
   obtain ⟨h1,h2,h3⟩:=sort_pairs hp hs
   have h4:=hK d' n os h1
   rw [hd] at h2
   have h5:=sortPairs_eq hnd h2 h3
   rw [h5] at h4
   exact ⟨_,rfl,rfl,(List.mergeSort_perm xs leP).length_eq,h4⟩
end Go.Proofs.YtapllcabobickaaGreatDoor
