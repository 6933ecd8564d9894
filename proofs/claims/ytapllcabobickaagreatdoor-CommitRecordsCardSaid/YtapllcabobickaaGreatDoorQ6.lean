/- Texts ShaA, ShaC, PackA, NodeA. -/
import Derived.Test.YtapllcabobickaaGreatDoorQ5
import Derived.Test.YtapllcabobickaaGreatDoorProg
import Derived.Test.YtapllcabobickaaGreatDoorQ4
set_option linter.unusedSimpArgs false
set_option linter.unusedVariables false
namespace Go.Proofs.YtapllcabobickaaGreatDoor
open Go.RowKit Go.Tri
set_option maxRecDepth 100000
set_option maxHeartbeats 4000000
theorem w_rotL32 {x:Int} {k:Int}  {w0 w:World} {l:List HP}  {r:Int} (hm:rotL32 x k=some r) (H:St w0 w (l)) :
  Calls Tryz.prog 177 [.int .u32 (x),.int .i64 (k)].toArray w (fun e w'=>∃ v,e=.returned v∧v=.int .u32 (r)∧St w0 w' (l)):=by
 unfold rotL32 at hm
 refine x_enter Tryz.func177 rfl rfl rfl ?_
 intro a F
 refine sb [0] F H rfl fun a F=>nl (sr (bk [0,2,0,0] F H rfl ⟨Tryz.underlying3,Tryz.underlying141,trivial⟩ fun a F=>nb [0,0] F H rfl fun a F=>?_))
 obtain ⟨x1,ex1,hm⟩:=ob hm
 refine sv F rfl (i_shlO F rfl rfl rfl ex1) fun a F=>bb [0,0,0] F H rfl fun a F=>?_
 obtain ⟨x2,ex2,hm⟩:=ob hm
 refine sv F rfl (i_shrO F rfl rfl rfl ex2) fun a F=>bb [0,0] F H rfl fun a F=>nl (wr ?_)
 cases hm
 refine x_ret1 F rfl rfl ?_
 exact ⟨_,rfl,rfl,H⟩
theorem ent177:En Tryz.prog 177:=enters Tryz.func177 (by kernel_rfl) rfl
theorem w_turn {x:Int} {a_:Int} {b_:Int} {c_:Int} {sh:Bool}  {w0 w:World} {l:List HP}  {r:Int} (hm:turn x a_ b_ c_ sh=some r) (H:St w0 w (l)) :
  Calls Tryz.prog 150 [.int .u32 (x),.int .i64 (a_),.int .i64 (b_),.int .i64 (c_),.bool (sh)].toArray w (fun e w'=>∃ v,e=.returned v∧v=.int .u32 (r)∧St w0 w' (l)):=by
 unfold turn at hm
 refine x_enter Tryz.func150 rfl rfl rfl ?_
 intro a F
 refine sb [0] F H rfl fun a F=>nb [0,0,0] F H rfl fun a F=>?_
 obtain ⟨x1,ex1,hm⟩:=ob hm
 refine sd F rfl ent177 (w_rotL32 ex1 H:) ?_;rintro _ w a ⟨rfl,H⟩ F
 refine bb [0] F H rfl fun a F=>nl (sq (sb [0] F H rfl fun a F=>?_))
 refine nl (xm0 0 [0,1,2] [] F H hm rfl rfl (fun r4 z=>(11,.int .u32 (r4))::z) (fun r4 z=>z) (fun r4 hm=>?_) (fun r4 a w hm F H=>?_))
 refine cB F rfl (fun hg5=>?_) (fun hg5=>?_)
 replace hm:=ifT hg5 hm
 refine rl (bb [0,0] F H rfl fun a F=>?_)
 obtain ⟨x6,ex6,hm⟩:=ob hm
 refine sv F rfl (i_shrO F rfl rfl rfl ex6) fun a F=>bb [0] F H rfl fun a F=>lz ?_
 cases hm
 refine ct ?_
 exact ⟨F.sl rfl,H⟩
 replace hm:=ifF (nT hg5) hm
 refine sk ?_
 cases hm
 refine ct ?_
 exact ⟨F.sl rfl,H⟩
 refine ct (sb [0,0,0] F H rfl fun a F=>?_)
 obtain ⟨x7,ex7,hm⟩:=ob hm
 refine sd F rfl ent177 (w_rotL32 ex7 H:) ?_;rintro _ w a ⟨rfl,H⟩ F
 refine bb [0,0,0] F H rfl fun a F=>?_
 obtain ⟨x8,ex8,hm⟩:=ob hm
 refine sd F rfl ent177 (w_rotL32 ex8 H:) ?_;rintro _ w a ⟨rfl,H⟩ F
 refine bb [0,0,0,0] F H rfl fun a F=>nl (wr ?_)
 cases hm
 refine x_ret1 F rfl rfl ?_
 exact ⟨_,rfl,rfl,H⟩
theorem agg191:AggT Tryz.prog 191 8 (List.replicate 8 (.int .u32 0)):=⟨by rw [Tryz.underlying191];rfl,by kernel_rfl,by kernel_rfl⟩
theorem build_233_0:∀ (s0:List Int) (h0:s0.length=8),Tryz.prog.built 233 [(0,.agg (icells .u32 s0).toArray)]=some ((icells .u32 s0++([Value.slice none (([]:List UInt8)).length 0,Value.int .u64 (0)]):List Value)).toArray:=fun s0 h0=>match s0,h0 with | [a0_0,a0_1,a0_2,a0_3,a0_4,a0_5,a0_6,a0_7],_=>by kernel_rfl
theorem w_shaNew   {w0 w:World} {l:List HP}  {r:T_sha_Hasher_o} (hm:shaNew =some r) (H:St w0 w (HP.row 0 (0) (icells .u32 shaStart)::l)) :
  Calls Tryz.prog 90 [].toArray w (fun e w'=>∃ v,e=.returned v∧∃ (b1:Nat),v=.pointer (some ⟨b1,0,none⟩)∧St w0 w' (O_sha_Hasher b1 r::l)):=by
 unfold shaNew at hm
 refine x_enter Tryz.func90 rfl rfl rfl ?_
 intro a F
 refine sb [0] F H rfl fun a F=>nl (sr (bk [999] F H rfl ⟨rfl,(aggn agg191 ((icells_length _ _).trans shaStart_len)),trivial⟩ fun a F=>?_))
 replace H:=H.owNil rByte 5
 refine sv F rfl (y_build F rfl rfl (cs:=icells .u32 shaStart++([Value.slice none (([]:List UInt8)).length 0,Value.int .u64 (0)])) (build_233_0 shaStart shaStart_len)) fun a F=>s_boxA wkP F rfl rfl rfl rfl rfl H fun b2 w a H F=>bb [0] F H rfl fun a F=>?_
 replace H:=H.nf 3 rfl
 refine nl (wr ?_)
 replace H:=O_sha_Hasher_s (x1:=([]:List UInt8)) shaStart_len H
 cases hm
 refine x_ret1 F rfl rfl ?_
 exact ⟨_,rfl,b2,rfl,(H.pm 2 [0] rfl:)⟩
set_option maxRecDepth 100000
set_option maxHeartbeats 4000000
theorem agz191:AggT Tryz.prog 191 8 (icells .u32 (List.replicate 8 0)):=⟨by rw [Tryz.underlying191];rfl,by kernel_rfl,by kernel_rfl⟩
theorem agz189:AggT Tryz.prog 189 64 (icells .u32 (List.replicate 64 0)):=⟨by rw [Tryz.underlying189];rfl,by kernel_rfl,by kernel_rfl⟩
theorem arr235:ArrT Tryz.prog 235 5 64 1:=⟨Tryz.underlying235,by kernel_rfl⟩
theorem elem25:ElemT Tryz.prog 25 5 1 1 (.int .u8 0):=⟨Tryz.underlying25,by kernel_rfl,by kernel_rfl,by decide⟩
theorem plain5:Plain Tryz.prog 5:=by unfold Plain;rw [Tryz.underlying5];rfl
theorem arr189:ArrT Tryz.prog 189 188 64 1:=⟨Tryz.underlying189,by kernel_rfl⟩
theorem plain188:Plain Tryz.prog 188:=by unfold Plain;rw [Tryz.underlying188];rfl
theorem zero188:Zero1 Tryz.prog 188 (.int .u32 0):=⟨by kernel_rfl,rfl⟩
theorem ent150:En Tryz.prog 150:=enters Tryz.func150 (by kernel_rfl) rfl
theorem agg189:AggT Tryz.prog 189 64 (List.replicate 64 (.int .u32 0)):=⟨by rw [Tryz.underlying189];rfl,by kernel_rfl,by kernel_rfl⟩
theorem arr191:ArrT Tryz.prog 191 188 8 1:=⟨Tryz.underlying191,by kernel_rfl⟩
theorem elem265:ElemT Tryz.prog 265 188 1 4 (.int .u32 0):=⟨Tryz.underlying265,by kernel_rfl,by kernel_rfl,by decide⟩
theorem w_mix {state:List Int} {p:List UInt8}  {w0 w:World} {l:List HP} (hl1:(state).length=8) (hl2:(p).length=64) {r:(List Int)} (hm:mix state p=some r) (H:St w0 w (HP.row 1 (0) (icells .u32 shaRounds)::l)) :
  Calls Tryz.prog 122 [.agg (icells .u32 state).toArray,.agg (bcells p).toArray].toArray w (fun e w'=>∃ v,e=.returned v∧v=.agg (icells .u32 r).toArray∧((r).length=8)∧St w0 w' (l)):=by
 unfold mix at hm
 refine x_enter Tryz.func122 rfl rfl rfl ?_
 intro a F
 refine sr (s_boxA wkP F rfl rfl rfl rfl rfl H fun b4 w a H F=>s_boxA wkP F rfl rfl rfl rfl rfl H fun b5 w a H F=>?_)
 replace H:=H.frzB 0 rfl hl2
 refine s_allocA wkP F rfl rfl rfl agz191 rfl H fun b6 w a H F=>?_
 replace H:=H.nf 4 rfl
 refine nl (sr (s_allocA wkP F rfl rfl rfl agz189 rfl H fun b7 w a H F=>?_))
 replace H:=H.nf 5 rfl
 refine nl (sq (sb [0] F H rfl fun a F=>nl ?_))
 obtain ⟨r393,er393,hm393⟩:=ob hm;clear hm;revert er393;intro hm
 refine x_mid (fun aa ww=>Fr ⟨146,[]⟩ aa [(2,.pointer (some ⟨b4,0,none⟩)),(4,.pointer (some ⟨b6,0,none⟩)),(5,.pointer (some ⟨b7,0,none⟩))]∧((r393).length=64)∧St w0 ww (HP.blk b7 (icells .u32 r393) 189::HP.blk b6 (icells .u32 (List.replicate 8 0)) 191::HP.blk b4 (icells .u32 state) 191::HP.row 1 (0) (icells .u32 shaRounds)::l)) ?_ ?_
 refine bl ?_
 refine x_loopO _ (fun (s651:(List Int)×Int) aa ww=>Fr ⟨146,[]⟩ aa [(2,.pointer (some ⟨b4,0,none⟩)),(3,.pointer (some ⟨b5,0,none⟩)),(4,.pointer (some ⟨b6,0,none⟩)),(5,.pointer (some ⟨b7,0,none⟩)),(19,.int .i64 (s651.2))]∧((s651.1).length=64)∧St w0 ww (HP.blk b7 (icells .u32 s651.1) 189::HP.blk b6 (icells .u32 (List.replicate 8 0)) 191::HP.sl rByte (some ⟨b5,0,none⟩) 64 p::HP.blk b4 (icells .u32 state) 191::HP.row 1 (0) (icells .u32 shaRounds)::l)) hm ⟨F.sl rfl,(List.length_replicate (n:=64)),H⟩ ?_
 clear F H hm
 rintro s651 a w o ⟨F,hl652,H⟩ hm
 refine sb [0] F H rfl fun a F=>?_
 refine nl (sq (cPm F rfl hm (fun hg653 hm=>?_) (fun hg653 hm=>?_)))
 refine sk (ct (sq ?_))
 obtain ⟨r716,er716,hm716⟩:=ob hm;clear hm;revert er716;intro hm
 refine x_mid (fun aa ww=>Fr ⟨146,[]⟩ aa [(2,.pointer (some ⟨b4,0,none⟩)),(3,.pointer (some ⟨b5,0,none⟩)),(4,.pointer (some ⟨b6,0,none⟩)),(5,.pointer (some ⟨b7,0,none⟩)),(19,.int .i64 (s651.2))]∧((r716).length=64)∧St w0 ww (HP.blk b7 (icells .u32 r716) 189::HP.blk b6 (icells .u32 (List.replicate 8 0)) 191::HP.sl rByte (some ⟨b5,0,none⟩) 64 p::HP.blk b4 (icells .u32 state) 191::HP.row 1 (0) (icells .u32 shaRounds)::l)) ?_ ?_
 refine bl (sb [0,0] F H rfl fun a F=>nl (sq (sb [0,0] F H rfl fun a F=>?_)))
 refine nl (cPm F rfl hm (fun hg718 hm=>?_) (fun hg718 hm=>?_))
 refine sq (sb (List.replicate 5 0) F H rfl fun a F=>?_)
 obtain ⟨x719,ex719,hm⟩:=ob hm
 replace H:=H.slSubN 1 rfl 2 rfl ex719
 refine sv F rfl (y_slALH F arr235 rfl rfl rfl rfl ex719 hl2) fun a F=>bk [0,0] F H rfl ⟨⟨_,Tryz.underlying25⟩,trivial⟩ fun a F=>?_
 replace H:=H.nf 6 rfl
 refine nl ?_
 obtain ⟨r745,er745,hm745⟩:=ob hm;clear hm;revert er745;intro hm
 refine x_mid (fun aa ww=>Fr ⟨146,[]⟩ aa [(2,.pointer (some ⟨b4,0,none⟩)),(3,.pointer (some ⟨b5,0,none⟩)),(4,.pointer (some ⟨b6,0,none⟩)),(5,.pointer (some ⟨b7,0,none⟩)),(19,.int .i64 (s651.2))]∧((r745).length=64)∧St w0 ww (HP.blk b7 (icells .u32 r745) 189::HP.blk b6 (icells .u32 (List.replicate 8 0)) 191::HP.sl rByte (some ⟨b5,0,none⟩) 64 p::HP.blk b4 (icells .u32 state) 191::HP.row 1 (0) (icells .u32 shaRounds)::l)) ?_ ?_
 refine bl ?_
 refine x_loopO _ (fun (s763:(List Int)×Int) aa ww=>Fr ⟨146,[]⟩ aa [(2,.pointer (some ⟨b4,0,none⟩)),(3,.pointer (some ⟨b5,0,none⟩)),(4,.pointer (some ⟨b6,0,none⟩)),(5,.pointer (some ⟨b7,0,none⟩)),(6,.int .i64 (s651.2)),(19,.int .i64 (s651.2)),(29,.slice (shp (some ⟨b5,0,none⟩) 64 ((IntKind.i64.wrap (4 * s651.2)):Int).toNat 1) (x719).length (64 - ((IntKind.i64.wrap (4 * s651.2)):Int).toNat)),(30,.int .i64 (((x719).length:Int))),(31,.int .i64 (s763.2))]∧((s763.1).length=64)∧St w0 ww (HP.sl rByte (shp (some ⟨b5,0,none⟩) 64 ((IntKind.i64.wrap (4 * s651.2)):Int).toNat 1) (64 - ((IntKind.i64.wrap (4 * s651.2)):Int).toNat) x719::HP.blk b7 (icells .u32 s763.1) 189::HP.blk b6 (icells .u32 (List.replicate 8 0)) 191::HP.sl rByte (some ⟨b5,0,none⟩) 64 p::HP.blk b4 (icells .u32 state) 191::HP.row 1 (0) (icells .u32 shaRounds)::l)) hm ⟨F.sl rfl,hl652,H⟩ ?_
 clear F H hm
 rintro s763 a w o ⟨F,hl764,H⟩ hm
 refine sb [0] F H rfl fun a F=>?_
 refine nl (sq (cPm F rfl hm (fun hg765 hm=>?_) (fun hg765 hm=>?_)))
 refine sk (ct (sq (bl (sr ?_))))
 obtain ⟨x766,ex766,hm⟩:=ob hm
 obtain ⟨b767,o767,hp767,cs768,H⟩:=H.slE 0 rfl ex766
 obtain rfl:=H.rcB 1 rfl
 replace H:=H.dp 1 rfl
 refine sv F rfl (y_idxS F elem25 rfl rfl rfl hp767 ex766) fun a F=>bk [0,0] F H rfl ⟨rfl,plain5,trivial⟩ fun a F=>nl (rl (bb [0,0] F H rfl fun a F=>?_))
 obtain ⟨x769,ex769,hm⟩:=ob hm
 refine sv F rfl (y_idxA F arr189 rfl rfl rfl ex769 hl764) fun a F=>sv F rfl (y_load1 F plain188 rfl rfl (row_ix ((H.blk 2 rfl).row) (icells_idx ex769))) fun a F=>sv F rfl (i_shl F rfl rfl rfl (by decide)) fun a F=>bk [0,3,0] F H rfl ⟨Tryz.underlying5,Tryz.underlying188,trivial⟩ fun a F=>?_
 obtain ⟨x770,ex770,hm⟩:=ob hm
 refine sv F rfl (y_idxA F arr189 rfl rfl rfl ex770 hl764) fun a F=>?_
 refine s_stI wkP F rfl rfl zero188 rfl rfl rfl H 2 rfl ex770 fun w H=>?_
 replace H:=H.nf 7 rfl
 refine lz (bn (ct (rl (bb [0,0] F H rfl fun a F=>?_))))
 refine lz (ct ?_);cases hm
 exact ⟨_,rfl,⟨F.sl rfl,((List.length_set ..).trans hl764),(H.pm 7 [1,2,3,4,5,6] rfl:)⟩⟩
 refine ex (cx (cx ?_));cases hm;refine ⟨_,rfl,?_⟩;rintro rfl
 refine ch (ct ?_)
 exact ⟨F.sl rfl,hl764,(H.pm 6 [1,2,3,4,5] rfl:)⟩
 clear F H hm
 rintro a w ⟨F,hl746,H⟩;have hm:=hm745;clear hm745
 refine ct (ex (cx (ch ?_)))
 cases hm
 refine ct ?_
 exact ⟨F.sl rfl,hl746,H⟩
 refine sk (ct ?_)
 obtain ⟨x772,ex772,hm⟩:=ob hm
 obtain ⟨x773,ex773,hm⟩:=ob hm
 obtain ⟨x774,ex774,hm⟩:=ob hm
 obtain ⟨x775,ex775,hm⟩:=ob hm
 refine mix_regionK [5,15,23] [23] (scL [0,1,2,3,1004,6,7,8,9,11,12,13,14,17,18,19,20,2005,10,2015,16,21,22,3023]) [0] H rfl rfl (by kernel_rfl) (by kernel_rfl) fun w H=>?_
 refine mb [0,0,0] F H rfl fun a F=>?_
 refine m_pure F rfl rfl rfl rfl (fun u hu=>y_idxA F arr189 rfl rfl rfl ex772 hl652) fun a F=>?_
 refine m_read F rfl rfl rfl rfl (y_load1 F plain188 rfl rfl (row_ix ((H.blk 0 rfl).row) (icells_idx ex772))) fun a F=>?_
 refine mb [0,0] F H rfl fun a F=>?_
 refine m_pure F rfl rfl rfl rfl (fun u hu=>y_idxA F arr189 rfl rfl rfl ex773 hl652) fun a F=>?_
 refine m_pure F rfl rfl rfl rfl (fun u hu=>y_load1 F plain188 rfl rfl (row_ix ((hu.choose_spec.blk 0 rfl).row) (icells_idx ex773))) fun a F=>?_
 refine mb [0,0] F H rfl fun a F=>?_
 refine m_pure F rfl rfl rfl rfl (fun u hu=>y_idxA F arr189 rfl rfl rfl ex774 hl652) fun a F=>?_
 refine m_pure F rfl rfl rfl rfl (fun u hu=>y_load1 F plain188 rfl rfl (row_ix ((hu.choose_spec.blk 0 rfl).row) (icells_idx ex774))) fun a F=>?_
 refine mb [0,0] F H rfl fun a F=>?_
 refine m_pure F rfl rfl rfl rfl (fun u hu=>y_idxA F arr189 rfl rfl rfl ex775 hl652) fun a F=>?_
 refine m_pure F rfl rfl rfl rfl (fun u hu=>y_load1 F plain188 rfl rfl (row_ix ((hu.choose_spec.blk 0 rfl).row) (icells_idx ex775))) fun a F=>?_
 refine m_heavy rfl rfl ?_
 obtain ⟨x776,ex776,hm⟩:=ob hm
 refine sd F rfl ent150 (w_turn ex776 H:) ?_;rintro _ w a ⟨rfl,H⟩ F
 refine lz ?_;refine ct ⟨⟨_,H⟩,?_⟩
 refine mb [0] F H rfl fun a F=>m_heavy rfl rfl ?_
 obtain ⟨x777,ex777,hm⟩:=ob hm
 refine sd F rfl ent150 (w_turn ex777 H:) ?_;rintro _ w a ⟨rfl,H⟩ F
 refine lz ?_;refine ct ⟨⟨_,H⟩,?_⟩
 refine mb [0,0] F H rfl fun a F=>?_
 obtain ⟨x778,ex778,hm⟩:=ob hm
 refine m_pure F rfl rfl rfl rfl (fun u hu=>y_idxA F arr189 rfl rfl rfl ex778 hl652) fun a F=>?_
 refine m_last rfl rfl ?_
 refine s_stI wkP F rfl rfl zero188 rfl rfl rfl H 0 rfl ex778 fun w H=>?_
 refine lz ?_;refine ct ?_
 refine m_nil (bn ?_)
 cases hm
 refine ct ?_
 exact ⟨F.sl rfl,((List.length_set ..).trans hl652),H⟩
 clear F H hm
 rintro a w ⟨F,hl717,H⟩;have hm:=hm716;clear hm716
 refine ct (rl (bb [0,0] F H rfl fun a F=>?_))
 refine lz (ct ?_);cases hm
 exact ⟨_,rfl,⟨F.sl rfl,hl717,H⟩⟩
 refine ex (cx (cx ?_));cases hm;refine ⟨_,rfl,?_⟩;rintro rfl
 refine ch (ct ?_)
 exact ⟨F.sl rfl,hl652,(H.pm 5 [0,1,3,4] rfl:)⟩
 clear F H hm
 rintro a w ⟨F,hl394,H⟩;have hm:=hm393;clear hm393
 refine ct (sr (bk [2999] F H rfl ⟨rfl,(aggn agg191 ((icells_length _ _).trans hl1)),trivial⟩ fun a F=>s_allocA wkP F rfl rfl rfl agz191 rfl H fun b780 w a H F=>s_storeA wkP F rfl rfl agg191 rfl rfl rfl H 0 rfl ((icells_length _ _).trans hl1) ((icells_length _ _).trans (List.length_replicate (n:=8))) (icells_flat _ _) fun w H=>?_))
 replace H:=H.nf 5 rfl
 refine nl (sq (sr (bk [4999,0] F H rfl ⟨rfl,(aggn agg189 ((icells_length _ _).trans shaRounds_len)),trivial⟩ fun a F=>nl ?_)))
 obtain ⟨r851,er851,hm851⟩:=ob hm;clear hm;revert er851;intro hm
 refine x_mid (fun aa ww=>Fr ⟨146,[]⟩ aa [(2,.pointer (some ⟨b4,0,none⟩)),(4,.pointer (some ⟨b6,0,none⟩)),(9,.pointer (some ⟨b780,0,none⟩))]∧((r851).length=8)∧St w0 ww (HP.blk b780 (icells .u32 r851) 191::HP.blk b7 (icells .u32 r393) 189::HP.blk b6 (icells .u32 (List.replicate 8 0)) 191::HP.blk b4 (icells .u32 state) 191::HP.row 1 (0) (icells .u32 shaRounds)::l)) ?_ ?_
 refine bl ?_
 refine x_loopO _ (fun (s899:(List Int)×Int) aa ww=>Fr ⟨146,[]⟩ aa [(2,.pointer (some ⟨b4,0,none⟩)),(4,.pointer (some ⟨b6,0,none⟩)),(5,.pointer (some ⟨b7,0,none⟩)),(9,.pointer (some ⟨b780,0,none⟩)),(70,.agg (icells .u32 shaRounds).toArray),(71,.int .i64 (s899.2))]∧((s899.1).length=8)∧St w0 ww (HP.blk b780 (icells .u32 s899.1) 191::HP.blk b7 (icells .u32 r393) 189::HP.blk b6 (icells .u32 (List.replicate 8 0)) 191::HP.blk b4 (icells .u32 state) 191::HP.row 1 (0) (icells .u32 shaRounds)::l)) hm ⟨F.sl rfl,hl1,H⟩ ?_
 clear F H hm
 rintro s899 a w o ⟨F,hl900,H⟩ hm
 refine sb [0] F H rfl fun a F=>?_
 refine nl (sq (cPm F rfl hm (fun hg901 hm=>?_) (fun hg901 hm=>?_)))
 refine sk (ct (sq (bl (sb [0] F H rfl fun a F=>?_))))
 obtain ⟨x902,ex902,hm⟩:=ob hm
 refine sv F rfl (y_idxV F arr189 plain188 rfl rfl rfl (icells_idx ex902) ((icells_length _ _).trans shaRounds_len)) fun a F=>bb [0,0] F H rfl fun a F=>nl (sq ?_)
 obtain ⟨x903,ex903,hm⟩:=ob hm
 obtain ⟨x904,ex904,hm⟩:=ob hm
 refine qr H (by kernel_rfl) (by kernel_rfl) ?_
 refine qv F rfl (fun u hu=>y_idxA F arr191 rfl rfl rfl ex903 hl900) fun a F=>qv F rfl (fun u hu=>y_load1 F plain188 rfl rfl (row_ix ((hu.blk 0 rfl).row) (icells_idx ex903))) fun a F=>qv F rfl (fun u hu=>y_idxA F arr191 rfl rfl rfl ex904 hl900) fun a F=>qv F rfl (fun u hu=>y_load1 F plain188 rfl rfl (row_ix ((hu.blk 0 rfl).row) (icells_idx ex904))) fun a F=>qb [0,0] F rfl fun a F=>?_
 refine q_nil fun w H=>?_
 refine ct (sb [0] F H rfl fun a F=>?_)
 obtain ⟨x905,ex905,hm⟩:=ob hm
 refine sv F rfl (y_idxA F arr191 rfl rfl rfl ex905 hl900) fun a F=>sv F rfl (y_load1 F plain188 rfl rfl (row_ix ((H.blk 0 rfl).row) (icells_idx ex905))) fun a F=>bb [0,0,0] F H rfl fun a F=>?_
 obtain ⟨x906,ex906,hm⟩:=ob hm
 refine sv F rfl (y_idxA F arr191 rfl rfl rfl ex906 hl900) fun a F=>sv F rfl (y_load1 F plain188 rfl rfl (row_ix ((H.blk 0 rfl).row) (icells_idx ex906))) fun a F=>bb [0,0,0] F H rfl fun a F=>nb [0] F H rfl fun a F=>?_
 obtain ⟨x907,ex907,hm⟩:=ob hm
 refine sv F rfl (y_idxA F arr191 rfl rfl rfl ex907 hl900) fun a F=>sv F rfl (y_load1 F plain188 rfl rfl (row_ix ((H.blk 0 rfl).row) (icells_idx ex907))) fun a F=>bb [0,0] F H rfl fun a F=>?_
 obtain ⟨x908,ex908,hm⟩:=ob hm
 refine sv F rfl (y_idxA F arr191 rfl rfl rfl ex908 hl900) fun a F=>sv F rfl (y_load1 F plain188 rfl rfl (row_ix ((H.blk 0 rfl).row) (icells_idx ex908))) fun a F=>bb [0,0] F H rfl fun a F=>?_
 obtain ⟨x909,ex909,hm⟩:=ob hm
 refine sv F rfl (y_idxA F arr191 rfl rfl rfl ex909 hl900) fun a F=>sv F rfl (y_load1 F plain188 rfl rfl (row_ix ((H.blk 0 rfl).row) (icells_idx ex909))) fun a F=>?_
 obtain ⟨x910,ex910,hm⟩:=ob hm
 refine sv F rfl (y_idxA F arr191 rfl rfl rfl ex910 hl900) fun a F=>sv F rfl (y_load1 F plain188 rfl rfl (row_ix ((H.blk 0 rfl).row) (icells_idx ex910))) fun a F=>bb [0,0,0] F H rfl fun a F=>nl (sq ?_)
 obtain ⟨x911,ex911,hm⟩:=ob hm
 obtain ⟨x912,ex912,hm⟩:=ob hm
 obtain ⟨x913,ex913,hm⟩:=ob hm
 refine qr H (by kernel_rfl) (by kernel_rfl) ?_
 refine qv F rfl (fun u hu=>y_idxA F arr191 rfl rfl rfl ex911 hl900) fun a F=>qv F rfl (fun u hu=>y_load1 F plain188 rfl rfl (row_ix ((hu.blk 0 rfl).row) (icells_idx ex911))) fun a F=>qb [0] F rfl fun a F=>?_
 refine q_call F rfl rfl rfl (fun u hu=>y_call F rfl rfl ent150) (fun u hu=>(w_turn ex912 hu).mono fun e u2 he=>by obtain ⟨v,rfl,rfl,H⟩:=he;exact ⟨rfl,H⟩) fun a F=>?_
 refine qb (List.replicate 6 0) F rfl fun a F=>qv F rfl (fun u hu=>y_idxA F arr189 rfl rfl rfl ex913 hl394) fun a F=>qv F rfl (fun u hu=>y_load1 F plain188 rfl rfl (row_ix ((hu.blk 1 rfl).row) (icells_idx ex913))) fun a F=>qb [0,0] F rfl fun a F=>?_
 refine q_nil fun w H=>?_
 refine ct (sq ?_)
 obtain ⟨x914,ex914,hm⟩:=ob hm
 obtain ⟨x915,ex915,hm⟩:=ob hm
 refine mix_regionK [2] [2] (scL [0,1,3002]) [] H rfl rfl (by kernel_rfl) (by kernel_rfl) fun w H=>?_
 refine m_pure F rfl rfl rfl rfl (fun u hu=>y_slAL F arr191 rfl rfl rfl ex914 hl900) fun a F=>?_
 refine m_pure F rfl rfl rfl rfl (fun u hu=>y_slAH F arr191 rfl rfl rfl ex915 hl900) fun a F=>?_
 refine m_last rfl rfl ?_
 refine s_cpy (f:=(Value.int .u32)) wkP F rfl rfl rfl elem265 rfl (fun _=>rfl) rfl (shp_ne (by decide)) rfl H 0 rfl (slB (f:=(Value.int .u32)) (H.blk 0 rfl) (shp_ne (by decide)) ex915 (by decide) (by have:=(slcO_some ex915).2.2;simp at this ⊢;omega)) (by have:=(slcO_some ex914).2.2;have:=(slcO_some ex914).1;simp at *;omega) fun w a H F=>?_
 have hl916:(putAt s899.1 (1:Int).toNat ((x915).take (x914).length)).length=8:=by have h1:=(slcO_some ex914).2.2;have h2:=(slcO_some ex914).1;have h3:=hl900;rw [putAt_len _ _ _ (by simp at *;omega)];exact h3
 refine lz ?_;refine ct ?_
 refine m_nil (ct (sr ?_))
 obtain ⟨x917,ex917,hm⟩:=ob hm
 refine sv F rfl (y_idxA F arr191 rfl rfl rfl ex917 hl916) fun a F=>sv F rfl (y_load1 F plain188 rfl rfl (row_ix ((H.blk 0 rfl).row) (icells_idx ex917))) fun a F=>bb [0,0] F H rfl fun a F=>?_
 obtain ⟨x918,ex918,hm⟩:=ob hm
 refine sv F rfl (y_idxA F arr191 rfl rfl rfl ex918 hl916) fun a F=>?_
 refine s_stI wkP F rfl rfl zero188 rfl rfl rfl H 0 rfl ex918 fun w H=>?_
 replace H:=H.nf 5 rfl
 refine nl (rl (bb [0,0] F H rfl fun a F=>?_))
 obtain ⟨x920,ex920,hm⟩:=ob hm
 refine sd F rfl ent150 (w_turn ex920 H:) ?_;rintro _ w a ⟨rfl,H⟩ F
 refine bb [0,0,0] F H rfl fun a F=>?_
 obtain ⟨x921,ex921,hm⟩:=ob hm
 refine sv F rfl (y_idxA F arr191 rfl rfl rfl ex921 ((List.length_set ..).trans hl916)) fun a F=>?_
 refine s_stI wkP F rfl rfl zero188 rfl rfl rfl H 0 rfl ex921 fun w H=>?_
 replace H:=H.nf 5 rfl
 refine lz (bn (ct (rl (bb [0,0] F H rfl fun a F=>?_))))
 refine lz (ct ?_);cases hm
 exact ⟨_,rfl,⟨F.sl rfl,((List.length_set ..).trans ((List.length_set ..).trans hl916)),H⟩⟩
 refine ex (cx (cx ?_));cases hm;refine ⟨_,rfl,?_⟩;rintro rfl
 refine ch (ct ?_)
 exact ⟨F.sl rfl,hl900,H⟩
 clear F H hm
 rintro a w ⟨F,hl852,H⟩;have hm:=hm851;clear hm851
 refine ct (sq (sr (bk [3999,0] F H rfl ⟨rfl,(aggn agg191 ((icells_length _ _).trans hl1)),trivial⟩ fun a F=>nl ?_)))
 obtain ⟨r942,er942,hm942⟩:=ob hm;clear hm;revert er942;intro hm
 refine x_mid (fun aa ww=>Fr ⟨146,[]⟩ aa [(4,.pointer (some ⟨b6,0,none⟩)),(9,.pointer (some ⟨b780,0,none⟩))]∧((r942).length=8)∧St w0 ww (HP.blk b780 (icells .u32 r942) 191::HP.blk b7 (icells .u32 r393) 189::HP.blk b6 (icells .u32 (List.replicate 8 0)) 191::HP.blk b4 (icells .u32 state) 191::HP.row 1 (0) (icells .u32 shaRounds)::l)) ?_ ?_
 refine bl ?_
 refine x_loopO _ (fun (s956:(List Int)×Int) aa ww=>Fr ⟨146,[]⟩ aa [(4,.pointer (some ⟨b6,0,none⟩)),(9,.pointer (some ⟨b780,0,none⟩)),(133,.agg (icells .u32 state).toArray),(134,.int .i64 (s956.2))]∧((s956.1).length=8)∧St w0 ww (HP.blk b780 (icells .u32 s956.1) 191::HP.blk b7 (icells .u32 r393) 189::HP.blk b6 (icells .u32 (List.replicate 8 0)) 191::HP.blk b4 (icells .u32 state) 191::HP.row 1 (0) (icells .u32 shaRounds)::l)) hm ⟨F.sl rfl,hl852,H⟩ ?_
 clear F H hm
 rintro s956 a w o ⟨F,hl957,H⟩ hm
 refine sb [0] F H rfl fun a F=>?_
 refine nl (sq (cPm F rfl hm (fun hg958 hm=>?_) (fun hg958 hm=>?_)))
 refine sk (ct (sq (bl (sb [0] F H rfl fun a F=>?_))))
 obtain ⟨x959,ex959,hm⟩:=ob hm
 refine sv F rfl (y_idxV F arr191 plain188 rfl rfl rfl (icells_idx ex959) ((icells_length _ _).trans hl1)) fun a F=>bb [0,0] F H rfl fun a F=>nl (rl (bb [0] F H rfl fun a F=>?_))
 obtain ⟨x960,ex960,hm⟩:=ob hm
 refine sv F rfl (y_idxA F arr191 rfl rfl rfl ex960 hl957) fun a F=>sv F rfl (y_load1 F plain188 rfl rfl (row_ix ((H.blk 0 rfl).row) (icells_idx ex960))) fun a F=>bb [0,0] F H rfl fun a F=>?_
 obtain ⟨x961,ex961,hm⟩:=ob hm
 refine sv F rfl (y_idxA F arr191 rfl rfl rfl ex961 hl957) fun a F=>?_
 refine s_stI wkP F rfl rfl zero188 rfl rfl rfl H 0 rfl ex961 fun w H=>?_
 replace H:=H.nf 5 rfl
 refine lz (bn (ct (rl (bb [0,0] F H rfl fun a F=>?_))))
 refine lz (ct ?_);cases hm
 exact ⟨_,rfl,⟨F.sl rfl,((List.length_set ..).trans hl957),H⟩⟩
 refine ex (cx (cx ?_));cases hm;refine ⟨_,rfl,?_⟩;rintro rfl
 refine ch (ct ?_)
 exact ⟨F.sl rfl,hl957,H⟩
 clear F H hm
 rintro a w ⟨F,hl943,H⟩;have hm:=hm942;clear hm942
 refine ct (sr (bk [999] F H rfl ⟨rfl,(aggn agg191 ((icells_length _ _).trans hl943)),trivial⟩ fun a F=>s_storeA wkP F rfl rfl agg191 rfl rfl rfl H 2 rfl ((icells_length _ _).trans hl943) ((icells_length _ _).trans (List.length_replicate (n:=8))) (icells_flat _ _) fun w H=>?_))
 replace H:=H.nf 5 rfl
 refine nl (wr ?_)
 cases hm
 refine x_resC1 F rfl (⟨_,rfl,agg191.run_load (H.blk 2 rfl).row ((icells_length _ _).trans hl943)⟩) ?_
 exact ⟨_,rfl,rfl,hl943,(H.pm 5 [] rfl:)⟩
theorem fld233_2:FieldT Tryz.prog 233 2 9:=by unfold FieldT;rw [Tryz.underlying233];kernel_rfl
theorem plain22:Plain Tryz.prog 22:=by unfold Plain;rw [Tryz.underlying22];rfl
theorem zero22:Zero1 Tryz.prog 22 (.int .u64 0):=⟨by kernel_rfl,rfl⟩
theorem fld233_1:FieldT Tryz.prog 233 1 8:=by unfold FieldT;rw [Tryz.underlying233];kernel_rfl
theorem plain25:Plain Tryz.prog 25:=by unfold Plain;rw [Tryz.underlying25];rfl
theorem zero25:Zero1 Tryz.prog 25 (.slice none 0 0):=⟨by kernel_rfl,rfl⟩
theorem fld233_0:FieldT Tryz.prog 233 0 0:=by unfold FieldT;rw [Tryz.underlying233];kernel_rfl
theorem agg235:AggT Tryz.prog 235 64 (List.replicate 64 (.int .u8 0)):=⟨by rw [Tryz.underlying235];rfl,by kernel_rfl,by kernel_rfl⟩
theorem ent122:En Tryz.prog 122:=enters Tryz.func122 (by kernel_rfl) rfl
theorem w_shaAdd {h:T_sha_Hasher_o} {b:List UInt8} {bo0:Nat} {p1:Option Addr} {c1:Nat} {w0 w:World} {l:List HP}  {r:T_sha_Hasher_o} (hm:shaAdd h b=some r) (H:St w0 w (HP.row 1 (0) (icells .u32 shaRounds)::O_sha_Hasher bo0 h::HP.sl rByte p1 c1 b::l)) :
  Calls Tryz.prog 91 [.pointer (some ⟨bo0,0,none⟩),.slice p1 (b).length c1].toArray w (fun e w'=>∃ v,e=.returned v∧v=.tuple [].toArray∧St w0 w' (O_sha_Hasher_1 bo0 r::l)):=by
 unfold shaAdd at hm
 refine x_enter Tryz.func91 rfl rfl rfl ?_
 intro a F
 refine sr (bk [0,0,9] F H rfl ⟨fld233_2,trivial⟩ fun a F=>?_)
 obtain ⟨p2,c3,hl4,H⟩:=O_sha_Hasher_o (H.pk 1 rfl)
 refine sv F rfl (y_load1 F plain22 rfl rfl ((row_midAE (n:=9) (A:=icells .u32 h.1++([Value.slice p2 (h.2.1).length c3])) (X:=[.int .u64 (h.2.2)]) ((H.blk 0 rfl).row) (by simp only [List.append_assoc,List.cons_append,List.nil_append]) (by simp only [List.length_append,List.length_cons,List.length_nil,icells_length,bcells_length,hl4])) 0 _ rfl)) fun a F=>bk [0,0,2,0,0,9] F H rfl ⟨⟨_,Tryz.underlying25⟩,Tryz.underlying3,Tryz.underlying22,fld233_2,trivial⟩ fun a F=>?_
 refine s_stC wkP F rfl rfl zero22 rfl rfl rfl rfl rfl H 0 rfl (A:=icells .u32 h.1++([Value.slice p2 (h.2.1).length c3])) (C:=([]:List Value)) (x0:=.int .u64 (h.2.2)) (by simp only [List.append_assoc,List.cons_append,List.nil_append,List.append_nil]) (by simp only [List.length_append,List.length_cons,List.length_nil,icells_length,bcells_length,hl4]) fun w H=>?_
 replace H:St w0 w (HP.blk bo0 (icells .u32 h.1++([Value.slice p2 (h.2.1).length c3,Value.int .u64 (IntKind.u64.wrap (h.2.2+(IntKind.u64.wrap (((b).length:Int)))))])) 233::HP.ow rByte 5 p2 c3 h.2.1::HP.row 1 (0) (icells .u32 shaRounds)::HP.sl rByte p1 c1 b::l):=H.blkEq 0 rfl (icells .u32 h.1++([Value.slice p2 (h.2.1).length c3,Value.int .u64 (IntKind.u64.wrap (h.2.2+(IntKind.u64.wrap (((b).length:Int)))))])) (by simp only [List.append_assoc,List.cons_append,List.nil_append,List.append_nil])
 refine nl (sr (bk [0,0,0,8] F H rfl ⟨fld233_1,trivial⟩ fun a F=>?_))
 refine sv F rfl (y_load1 F plain25 rfl rfl (row_at (v:=.slice p2 (h.2.1).length c3) ((H.blk 0 rfl).row) (by simp [List.getElem?_append,icells_length,bcells_length,hl4]))) fun a F=>?_
 refine bb [0] F H rfl fun a F=>?_
 obtain ⟨x6,ex6,hm⟩:=ob hm
 refine s_app wkP F rfl rfl rfl rfl rfl rfl elem25 rfl ex6 H 1 3 rfl rfl fun p5 c5 w a H F=>?_
 refine bk [0,8] F H rfl ⟨fld233_1,trivial⟩ fun a F=>?_
 refine s_store1 wkP F rfl rfl zero25 rfl rfl rfl rfl rfl H 0 rfl (by simp [icells_length,bcells_length,hl4]) fun w H=>?_
 replace H:St w0 w (HP.blk bo0 (icells .u32 h.1++([Value.slice p5 (x6).length c5,Value.int .u64 (IntKind.u64.wrap (h.2.2+(IntKind.u64.wrap (((b).length:Int)))))])) 233::HP.ow rByte 5 p5 c5 x6::HP.row 1 (0) (icells .u32 shaRounds)::HP.sl rByte p1 c1 b::l):=(by have h:=H;simp only [List.set_append,icells_length,bcells_length,hl4] at h;simpa using h)
 refine nl ?_
 replace H:=O_sha_Hasher_s hl4 H
 obtain ⟨p56,c57,hl58,H⟩:=O_sha_Hasher_o (H.pk 0 rfl)
 obtain ⟨r93,er93,hm93⟩:=ob hm;clear hm;revert er93;intro hm
 refine x_mid (fun aa ww=>∃ (p95:Option Addr) (c95:Nat),Fr ⟨52,[]⟩ aa []∧((r93.1).length=8)∧St w0 ww (HP.blk bo0 (icells .u32 r93.1++([Value.slice p95 (r93.2).length c95,Value.int .u64 (((h.1,x6,IntKind.u64.wrap (h.2.2+(IntKind.u64.wrap (((b).length:Int))))).2).2)])) 233::HP.row 1 (0) (icells .u32 shaRounds)::HP.sl rByte p95 c95 r93.2::l)) ?_ ?_
 refine bl ?_
 replace H:=H.frz 1 rfl
 refine x_loopO _ (fun (s118:((List Int)×(List UInt8))) aa ww=>∃ (p120:Option Addr) (c120:Nat),Fr ⟨52,[]⟩ aa [(0,.pointer (some ⟨bo0,0,none⟩))]∧((s118.1).length=8)∧St w0 ww (HP.blk bo0 (icells .u32 s118.1++([Value.slice p120 (s118.2).length c120,Value.int .u64 (((h.1,x6,IntKind.u64.wrap (h.2.2+(IntKind.u64.wrap (((b).length:Int))))).2).2)])) 233::HP.row 1 (0) (icells .u32 shaRounds)::HP.sl rByte p120 c120 s118.2::l)) hm ⟨p56,c57,F.sl rfl,hl58,(H.pm 4 [1,2,0] rfl:)⟩ ?_
 clear F H hm
 rintro s118 a w o ⟨p120,c120,F,hl119,H⟩ hm
 refine sq (sr (bk [0,0,8] F H rfl ⟨fld233_1,trivial⟩ fun a F=>?_))
 refine sv F rfl (y_load1 F plain25 rfl rfl (row_at (v:=.slice p120 (s118.2).length c120) ((H.blk 0 rfl).row) (by simp [List.getElem?_append,icells_length,bcells_length,hl119]))) fun a F=>?_
 refine bk [0,0] F H rfl ⟨⟨_,Tryz.underlying25⟩,trivial⟩ fun a F=>?_
 replace H:=H.nf 3 rfl
 refine nl (cPm F rfl hm (fun hg121 hm=>?_) (fun hg121 hm=>?_))
 refine sk (ct (bl (sq ?_)))
 obtain ⟨x123,ex123,hm⟩:=ob hm
 have hc122:=H.slCap 2 rfl
 replace H:=H.slSubN 1 rfl 2 rfl ex123
 obtain ⟨x125,ex125,hm⟩:=ob hm
 obtain ⟨b124,o124,hp124,H⟩:=H.slRowB 0 rfl (arrO_some ex125).2.1
 refine mix_regionK [12,15] [15] (scL [0,1,2,3,1004,5,6,7,1008,9,10,1011,2012,13,14,3015]) [] H rfl rfl (by kernel_rfl) (by kernel_rfl) fun w H=>?_
 refine mbk [0,0,0,0] F H rfl ⟨fld233_0,trivial⟩ fun a F=>?_
 refine m_read F rfl rfl rfl rfl (y_loadA F agg191 rfl rfl (row_mid (A:=([]:List Value)) (X:=icells .u32 s118.1) (C:=[.slice p120 (s118.2).length c120,.int .u64 (((h.1,x6,IntKind.u64.wrap (h.2.2+(IntKind.u64.wrap (((b).length:Int))))).2).2)]) (w:=_) ((H.blk 2 rfl).row) rfl) ((icells_length _ _).trans hl119)) fun a F=>?_
 refine mbk [0,0,8] F H rfl ⟨fld233_1,trivial⟩ fun a F=>?_
 refine m_read F rfl rfl rfl rfl (y_load1 F plain25 rfl rfl (row_at (v:=.slice p120 (s118.2).length c120) ((H.blk 2 rfl).row) (by simp [List.getElem?_append,icells_length,bcells_length,hl119]))) fun a F=>?_
 refine m_pure F rfl rfl rfl rfl (fun u hu=>y_slH F elem25 rfl rfl rfl ex123 hc122) fun a F=>?_
 refine m_pure F rfl rfl rfl rfl (fun u hu=>y_s2a F Tryz.underlying235 rfl rfl ex125 hp124) fun a F=>?_
 refine mbk [999] F H rfl ⟨rfl,(aggn agg235 ((bcells_length _).trans (arrO_some ex125).1)),trivial⟩ fun a F=>m_heavy rfl rfl ?_
 obtain ⟨x126,ex126,hm⟩:=ob hm
 refine sd F rfl ent122 (w_mix hl119 ((arrO_some ex125).1) ex126 (H.pm 5 [3,0,1,2,3,4] rfl:):) ?_;rintro _ w a ⟨rfl,hl127,H⟩ F
 refine lz ?_;refine ct ⟨⟨_,H⟩,?_⟩
 refine mbk [0,0] F H rfl ⟨fld233_0,trivial⟩ fun a F=>m_last rfl rfl ?_
 refine s_storeF wkP F rfl rfl agg191 rfl rfl rfl H 2 rfl (A:=([]:List Value)) (X:=icells .u32 s118.1) (C:=[.slice p120 (s118.2).length c120,.int .u64 (((h.1,x6,IntKind.u64.wrap (h.2.2+(IntKind.u64.wrap (((b).length:Int))))).2).2)]) rfl rfl ((icells_length _ _).trans hl119) ((icells_length _ _).trans hl127) (icells_flat _ _) fun w H=>?_
 refine lz ?_;refine ct ?_
 refine m_nil (ct (rl (bk [0,0,0,8] F H rfl ⟨fld233_1,trivial⟩ fun a F=>?_)))
 refine sv F rfl (y_load1 F plain25 rfl rfl (row_at (v:=.slice p120 (s118.2).length c120) ((H.blk 2 rfl).row) (by simp [List.getElem?_append,icells_length,bcells_length,hl127]))) fun a F=>?_
 obtain ⟨x129,ex129,hm⟩:=ob hm
 have hc128:=H.slCap 4 rfl
 replace H:=H.slSubN 1 rfl 4 rfl ex129
 refine sv F rfl (y_slL F elem25 rfl rfl rfl ex129 hc128) fun a F=>bk [0,8] F H rfl ⟨fld233_1,trivial⟩ fun a F=>?_
 refine s_store1 wkP F rfl rfl zero25 rfl rfl rfl rfl rfl H 3 rfl (by simp [icells_length,bcells_length,hl127]) fun w H=>?_
 replace H:St w0 w (HP.sl rByte (shp p120 c120 (64:Int).toNat 1) (c120 - (64:Int).toNat) x129::HP.row b124 (o124) (bcells x123)::HP.sl rByte (shp p120 c120 0 1) (c120 - 0) x123::HP.blk bo0 (icells .u32 x126++([Value.slice (shp p120 c120 (64:Int).toNat 1) (x129).length (c120 - (64:Int).toNat),Value.int .u64 (((h.1,x6,IntKind.u64.wrap (h.2.2+(IntKind.u64.wrap (((b).length:Int))))).2).2)])) 233::HP.row 1 (0) (icells .u32 shaRounds)::HP.sl rByte p120 c120 s118.2::l):=(by have h:=H;simp only [List.set_append,icells_length,bcells_length,hl127] at h;simpa using h)
 refine lz (bn (ct ?_));cases hm
 exact ⟨_,rfl,⟨(shp p120 c120 (64:Int).toNat 1),(c120 - (64:Int).toNat),F.sl rfl,hl127,(H.pm 6 [3,4,0] rfl:)⟩⟩
 refine ex (cx (cx ?_));cases hm;refine ⟨_,rfl,?_⟩;rintro rfl
 refine ch (ct ?_)
 exact ⟨p120,c120,F.cut _ trivial,hl119,H⟩
 clear F H hm
 rintro a w ⟨p95,c95,F,hl94,H⟩;have hm:=hm93;clear hm93
 replace H:=O_sha_Hasher_1_s hl94 (H.pm 3 [0,2,1,2] rfl:)
 cases hm
 refine x_end0 F rfl ?_
 exact ⟨_,rfl,rfl,(H.pm 3 [0] rfl:)⟩
theorem agz24:AggT Tryz.prog 24 32 (bcells (List.replicate 32 0)):=⟨by rw [Tryz.underlying24];rfl,by kernel_rfl,by kernel_rfl⟩
theorem build_233_0_1:∀ (s0:List Int) (h0:s0.length=8) (p1:Option Addr) (x1:List UInt8) (c1:Nat),Tryz.prog.built 233 [(0,.agg (icells .u32 s0).toArray),(1,.slice p1 (x1).length c1)]=some ((icells .u32 s0++([Value.slice p1 (x1).length c1,Value.int .u64 (0)]):List Value)).toArray:=fun s0 h0 p1 x1 c1=>match s0,h0 with | [a0_0,a0_1,a0_2,a0_3,a0_4,a0_5,a0_6,a0_7],_=>by kernel_rfl
theorem agz233:AggT Tryz.prog 233 10 (icells .u32 (List.replicate 8 0)++([Value.slice none (([]:List UInt8)).length 0,Value.int .u64 (0)])):=⟨by rw [Tryz.underlying233];rfl,by kernel_rfl,by kernel_rfl⟩
theorem agg233:AggT Tryz.prog 233 10 [.int .u32 0,.int .u32 0,.int .u32 0,.int .u32 0,.int .u32 0,.int .u32 0,.int .u32 0,.int .u32 0,.slice none 0 0,.int .u64 0]:=⟨by rw [Tryz.underlying233];rfl,by kernel_rfl,by kernel_rfl⟩
theorem zero5:Zero1 Tryz.prog 5 (.int .u8 0):=⟨by kernel_rfl,rfl⟩
theorem ent91:En Tryz.prog 91:=enters Tryz.func91 (by kernel_rfl) rfl
theorem arr24:ArrT Tryz.prog 24 5 32 1:=⟨Tryz.underlying24,by kernel_rfl⟩
theorem agg24:AggT Tryz.prog 24 32 (List.replicate 32 (.int .u8 0)):=⟨by rw [Tryz.underlying24];rfl,by kernel_rfl,by kernel_rfl⟩
theorem w_shaHSum {h:T_sha_Hasher_o} {bo0:Nat} {w0 w:World} {l:List HP}  {r:(List UInt8)×T_sha_Hasher_o} (hm:shaHSum h=some r) (H:St w0 w (HP.row 1 (0) (icells .u32 shaRounds)::O_sha_Hasher_1 bo0 h::l)) :
  Calls Tryz.prog 92 [.pointer (some ⟨bo0,0,none⟩)].toArray w (fun e w'=>∃ v,e=.returned v∧v=.agg (bcells r.1).toArray∧((r.1).length=32)∧St w0 w' (O_sha_Hasher_1 bo0 r.2::l)):=by
 unfold shaHSum at hm
 refine x_enter Tryz.func92 rfl rfl rfl ?_
 intro a F
 refine sr (s_allocA wkP F rfl rfl rfl agz24 rfl H fun b2 w a H F=>?_)
 replace H:=H.nf 3 rfl
 refine nl (sq ?_)
 obtain ⟨r17,er17,hm17⟩:=ob hm;clear hm;revert er17;intro hm
 refine x_mid (fun aa ww=>∃ (b18:Nat) (p20:Option Addr) (c20:Nat),Fr ⟨78,[]⟩ aa [(0,.pointer (some ⟨bo0,0,none⟩)),(2,.pointer (some ⟨b2,0,none⟩)),(3,.pointer (some ⟨b18,0,none⟩))]∧((h.1).length=8)∧St w0 ww (HP.blk b2 (bcells (List.replicate 32 0)) 24::HP.row 1 (0) (icells .u32 shaRounds)::O_sha_Hasher_1 bo0 h::HP.blk b18 (icells .u32 h.1++([Value.slice p20 (r17).length c20,Value.int .u64 (0)])) 233::HP.ow rByte 5 p20 c20 r17::l)) ?_ ?_
 obtain ⟨p21,c22,hl23,H⟩:=O_sha_Hasher_1_o (H.pk 2 rfl)
 refine mix_region [4,9,11,12] [12] (.step 0 0 (.step 0 1 (.step 0 2 (.step 0 3 (.step 0 5 (.step 0 6 (.step 0 7 (.step 0 8 (.fork 4 (.fork 9 (.step 0 10 (.step 2 11 (.step 3 12 .done))) 11 (.step 2 9 (.step 0 10 (.step 3 12 .done)))) 11 (.step 2 4 (.step 2 9 (.step 0 10 (.step 3 12 .done))))))))))))) (fun u=>∃ ls,St w0 u (HP.blk bo0 (icells .u32 h.1++([Value.slice p21 (h.2.1).length c22,Value.int .u64 (h.2.2)])) 233::ls)) (by kernel_rfl) (by kernel_rfl) ⟨_,H.drew⟩ ?_
 replace H:=H.drew
 generalize w.drew=w at H ⊢
 refine mbk [0,0,0] F H rfl ⟨fld233_0,trivial⟩ fun a F=>?_
 refine m_pure F rfl rfl rfl rfl (fun u hu=>y_loadA F agg191 rfl rfl (row_mid (A:=([]:List Value)) (X:=icells .u32 h.1) (C:=[.slice p21 (h.2.1).length c22,.int .u64 (h.2.2)]) (w:=_) ((hu.choose_spec.blk 0 rfl).row) rfl) ((icells_length _ _).trans hl23)) fun a F=>?_
 refine mbk [0,0,8] F H rfl ⟨fld233_1,trivial⟩ fun a F=>?_
 refine m_pure F rfl rfl rfl rfl (fun u hu=>y_load1 F plain25 rfl rfl (row_at (v:=.slice p21 (h.2.1).length c22) ((hu.choose_spec.blk 0 rfl).row) (by simp [List.getElem?_append,icells_length,bcells_length,hl23]))) fun a F=>?_
 refine m_fork rfl rfl rfl rfl ?_ ?_
 refine m_heavy rfl rfl (s_build0O (R:=rByte) wkP F rfl rfl rfl elem25 rfl H fun b24 w a H F=>?_)
 refine lz ?_;refine ct ⟨⟨_,(H.pm 5 [1,0,2,3,4] rfl:)⟩,?_⟩
 refine m_fork rfl rfl rfl rfl ?_ ?_
 refine m_heavy rfl rfl ?_
 obtain ⟨x26,ex26,hm⟩:=ob hm
 refine s_app wkP F rfl rfl rfl rfl rfl rfl elem25 rfl ex26 H 0 2 rfl rfl fun p25 c25 w a H F=>?_
 refine lz ?_;refine ct ⟨⟨_,(H.pm 5 [1,0,2,3,4] rfl:)⟩,?_⟩
 refine m_pure F rfl rfl rfl rfl (fun u hu=>y_build F rfl rfl (cs:=icells .u32 h.1++([Value.slice p25 (x26).length c25,Value.int .u64 (0)])) (build_233_0_1 h.1 hl23 p25 x26 c25)) fun a F=>?_
 refine m_heavy rfl rfl ?_
 replace H:=H.owNil rByte 5
 refine s_allocA wkP F rfl rfl rfl agz233 rfl H fun b27 w a H F=>?_
 refine lz ?_;refine ct ⟨⟨_,(H.pm 7 [3,0,1,2,4,5,6] rfl:)⟩,?_⟩
 refine m_last rfl rfl ?_
 refine s_storeA wkP F rfl rfl agg233 rfl rfl rfl H 0 rfl (by simp only [List.length_append,List.length_cons,List.length_nil,icells_length,bcells_length,hl23]) (by simp only [List.length_append,List.length_cons,List.length_nil,icells_length,bcells_length,(List.length_replicate (n:=8))]) (by intro v hv;simp only [List.mem_append,List.mem_cons,List.not_mem_nil,or_false] at hv;first | (rcases hv with h | h<;>first | (subst h;rfl) | exact bcells_flat _ _ h | exact icells_flat _ _ _ h | (rcases h with h | h<;>first | (subst h;rfl) | exact bcells_flat _ _ h | exact icells_flat _ _ _ h | (rcases h with h | h<;>first | (subst h;rfl) | exact bcells_flat _ _ h | (rcases h with h | h<;>first | (subst h;rfl) | (rcases h with h | h<;>(subst h;rfl)))))) | (subst hv;rfl)) fun w H=>?_
 refine lz ?_;refine ct ?_
 refine m_nil ?_
 replace H:=O_sha_Hasher_1_s hl23 (H.pm 7 [3,4,0,1,2,4,5,6] rfl:)
 cases hm
 refine ct ?_
 exact ⟨b27,p25,c25,F.sl rfl,hl23,(H.pm 7 [5,6,0,1,3] rfl:)⟩
 refine m_heavy rfl rfl ?_
 replace H:=H.owNil rByte 5
 refine s_allocA wkP F rfl rfl rfl agz233 rfl H fun b28 w a H F=>?_
 refine lz ?_;refine ct ⟨⟨_,(H.pm 7 [3,0,1,2,4,5,6] rfl:)⟩,?_⟩
 refine m_heavy rfl rfl ?_
 obtain ⟨x30,ex30,hm⟩:=ob hm
 refine s_app wkP F rfl rfl rfl rfl rfl rfl elem25 rfl ex30 H 2 4 rfl rfl fun p29 c29 w a H F=>?_
 refine lz ?_;refine ct ⟨⟨_,(H.pm 7 [3,0,1,2,4,5,6] rfl:)⟩,?_⟩
 refine m_pure F rfl rfl rfl rfl (fun u hu=>y_build F rfl rfl (cs:=icells .u32 h.1++([Value.slice p29 (x30).length c29,Value.int .u64 (0)])) (build_233_0_1 h.1 hl23 p29 x30 c29)) fun a F=>?_
 refine m_last rfl rfl ?_
 refine s_storeA wkP F rfl rfl agg233 rfl rfl rfl H 0 rfl (by simp only [List.length_append,List.length_cons,List.length_nil,icells_length,bcells_length,hl23]) (by simp only [List.length_append,List.length_cons,List.length_nil,icells_length,bcells_length,(List.length_replicate (n:=8))]) (by intro v hv;simp only [List.mem_append,List.mem_cons,List.not_mem_nil,or_false] at hv;first | (rcases hv with h | h<;>first | (subst h;rfl) | exact bcells_flat _ _ h | exact icells_flat _ _ _ h | (rcases h with h | h<;>first | (subst h;rfl) | exact bcells_flat _ _ h | exact icells_flat _ _ _ h | (rcases h with h | h<;>first | (subst h;rfl) | exact bcells_flat _ _ h | (rcases h with h | h<;>first | (subst h;rfl) | (rcases h with h | h<;>(subst h;rfl)))))) | (subst hv;rfl)) fun w H=>?_
 refine lz ?_;refine ct ?_
 refine m_nil ?_
 replace H:=O_sha_Hasher_1_s hl23 (H.pm 7 [3,4,0,1,2,4,5,6] rfl:)
 cases hm
 refine ct ?_
 exact ⟨b28,p29,c29,F.sl rfl,hl23,(H.pm 7 [5,6,0,1,3] rfl:)⟩
 refine m_heavy rfl rfl ?_
 replace H:=H.owNil rByte 5
 refine s_allocA wkP F rfl rfl rfl agz233 rfl H fun b31 w a H F=>?_
 refine lz ?_;refine ct ⟨⟨_,(H.pm 6 [2,0,1,3,4,5] rfl:)⟩,?_⟩
 refine m_heavy rfl rfl (s_build0O (R:=rByte) wkP F rfl rfl rfl elem25 rfl H fun b32 w a H F=>?_)
 refine lz ?_;refine ct ⟨⟨_,(H.pm 7 [3,0,1,2,4,5,6] rfl:)⟩,?_⟩
 refine m_heavy rfl rfl ?_
 obtain ⟨x34,ex34,hm⟩:=ob hm
 refine s_app wkP F rfl rfl rfl rfl rfl rfl elem25 rfl ex34 H 0 4 rfl rfl fun p33 c33 w a H F=>?_
 refine lz ?_;refine ct ⟨⟨_,(H.pm 7 [3,0,1,2,4,5,6] rfl:)⟩,?_⟩
 refine m_pure F rfl rfl rfl rfl (fun u hu=>y_build F rfl rfl (cs:=icells .u32 h.1++([Value.slice p33 (x34).length c33,Value.int .u64 (0)])) (build_233_0_1 h.1 hl23 p33 x34 c33)) fun a F=>?_
 refine m_last rfl rfl ?_
 refine s_storeA wkP F rfl rfl agg233 rfl rfl rfl H 1 rfl (by simp only [List.length_append,List.length_cons,List.length_nil,icells_length,bcells_length,hl23]) (by simp only [List.length_append,List.length_cons,List.length_nil,icells_length,bcells_length,(List.length_replicate (n:=8))]) (by intro v hv;simp only [List.mem_append,List.mem_cons,List.not_mem_nil,or_false] at hv;first | (rcases hv with h | h<;>first | (subst h;rfl) | exact bcells_flat _ _ h | exact icells_flat _ _ _ h | (rcases h with h | h<;>first | (subst h;rfl) | exact bcells_flat _ _ h | exact icells_flat _ _ _ h | (rcases h with h | h<;>first | (subst h;rfl) | exact bcells_flat _ _ h | (rcases h with h | h<;>first | (subst h;rfl) | (rcases h with h | h<;>(subst h;rfl)))))) | (subst hv;rfl)) fun w H=>?_
 refine lz ?_;refine ct ?_
 refine m_nil ?_
 replace H:=O_sha_Hasher_1_s hl23 (H.pm 7 [3,4,0,1,2,4,5,6] rfl:)
 cases hm
 refine ct ?_
 exact ⟨b31,p33,c33,F.sl rfl,hl23,(H.pm 7 [5,6,0,2,1] rfl:)⟩
 clear F H hm
 rintro a w ⟨b18,p20,c20,F,hl19,H⟩;have hm:=hm17;clear hm17
 refine ct (sr ?_)
 obtain ⟨x36,ex36,hm⟩:=ob hm
 refine s_buildC wkP F rfl rfl rfl elem25 zero5 rfl rfl rfl rfl (by simp [Value.cells]) (by decide) H fun b35 w a H F=>?_
 replace H:=H.blkOw1 (R:=rByte) (x:=x36) (fun gg=>(congrArg (fun z=>[Value.int .u8 z]) (u8O_some ex36).symm))
 refine bb [0] F H rfl fun a F=>?_
 replace H:=H.nf 6 rfl
 refine nl (sq (xm2 6 [0,2,3] [1,2,3,4,5] F H hm rfl rfl (fun r68 (p69:Option Addr) (c69:Nat) z=>(4,.slice p69 (r68).length c69)::z) (fun r68 p69 c69 z=>HP.ow rByte 5 p69 c69 r68::z) (fun r68 hm=>?_) (fun r68 a w hm p69 c69 F H=>?_)))
 refine bl (xl2 6 [0,2,3] [1,2,3,4,5] F H hm rfl rfl (fun (s90:(List UInt8)) (p91:Option Addr) (c91:Nat) z=>(4,.slice p91 (s90).length c91)::z) (fun s90 p91 c91 z=>HP.ow rByte 5 p91 c91 s90::z) ⟨(some ⟨b35,0,none⟩),([x36]).length,F.sl rfl,H⟩ (fun s90 a w o p91 c91 F H hm=>sq (sr (bk [0,0,8] F H rfl ⟨fld233_1,trivial⟩ fun a F=>?_))))
 obtain ⟨p92,c93,hl94,H⟩:=O_sha_Hasher_1_o (H.pk 3 rfl)
 refine sv F rfl (y_load1 F plain25 rfl rfl (row_at (v:=.slice p92 (h.2.1).length c93) ((H.blk 0 rfl).row) (by simp [List.getElem?_append,icells_length,bcells_length,hl94]))) fun a F=>?_
 refine bk (List.replicate 5 0) F H rfl ⟨⟨_,Tryz.underlying25⟩,⟨_,Tryz.underlying25⟩,trivial⟩ fun a F=>?_
 obtain ⟨x95,ex95,hm⟩:=ob hm
 refine sv F rfl (i_rem F rfl rfl rfl ex95) fun a F=>bb [0] F H rfl fun a F=>?_
 refine nl (cNm F rfl hm (fun hg96 hm=>?_) (fun hg96 hm=>?_))
 refine sk (ct (bl (rl (bb [0] F H rfl fun a F=>?_))))
 obtain ⟨x98,ex98,hm⟩:=ob hm
 refine s_buildC wkP F rfl rfl rfl elem25 zero5 rfl rfl rfl rfl (by simp [Value.cells]) (by decide) H fun b97 w a H F=>?_
 replace H:=H.blkOw1 (R:=rByte) (x:=x98) (fun gg=>(congrArg (fun z=>[Value.int .u8 z]) (u8O_some ex98).symm))
 replace H:=H.frz 0 rfl
 obtain ⟨x100,ex100,hm⟩:=ob hm
 refine s_app wkP F rfl rfl rfl rfl rfl rfl elem25 rfl ex100 H 3 0 rfl rfl fun p99 c99 w a H F=>?_
 refine bb [0] F H rfl fun a F=>?_
 replace H:=H.nf 8 rfl
 refine lz (bn ?_)
 replace H:=O_sha_Hasher_1_s hl94 (H.pm 8 [1,2,0,2,3,4,5,6,7] rfl:)
 refine ct ?_;cases hm
 exact ⟨_,rfl,⟨p99,c99,F.sl rfl,(H.pm 8 [3,4,5,0,6,7] rfl:)⟩⟩
 refine ex (cx (cx ?_));cases hm;refine ⟨_,rfl,?_⟩;rintro rfl
 refine ch ?_
 replace H:=O_sha_Hasher_1_s hl94 (H.pm 7 [0,1,1,2,3,4,5,6] rfl:)
 refine ct ?_
 exact ⟨p91,c91,F.sl rfl,(H.pm 7 [2,3,4,0,5,6] rfl:)⟩
 refine ct (sr (bk [0,0,9] F H rfl ⟨fld233_2,trivial⟩ fun a F=>?_))
 obtain ⟨p101,c102,hl103,H⟩:=O_sha_Hasher_1_o (H.pk 3 rfl)
 refine sv F rfl (y_load1 F plain22 rfl rfl ((row_midAE (n:=9) (A:=icells .u32 h.1++([Value.slice p101 (h.2.1).length c102])) (X:=[.int .u64 (h.2.2)]) ((H.blk 0 rfl).row) (by simp only [List.append_assoc,List.cons_append,List.nil_append]) (by simp only [List.length_append,List.length_cons,List.length_nil,icells_length,bcells_length,hl103])) 0 _ rfl)) fun a F=>bb [0,0] F H rfl fun a F=>nl (sq (sb [0] F H rfl fun a F=>nl ?_))
 replace H:=O_sha_Hasher_1_s hl103 (H.pm 7 [0,1,1,2,3,4,5,6] rfl:)
 refine xm2 7 [2,3] [0,3,4,5,6] F H hm rfl rfl (fun r126 (p127:Option Addr) (c127:Nat) z=>(4,.slice p127 (r126).length c127)::z) (fun r126 p127 c127 z=>HP.ow rByte 5 p127 c127 r126::z) (fun r126 hm=>?_) (fun r126 a w hm p127 c127 F H=>?_)
 refine bl (xl2 7 [2,3,5] [0,3,4,5,6] F H hm rfl rfl (fun (s142:(List UInt8)×Int) (p143:Option Addr) (c143:Nat) z=>(4,.slice p143 (s142.1).length c143)::(6,.int .i64 (s142.2))::z) (fun s142 p143 c143 z=>HP.ow rByte 5 p143 c143 s142.1::z) ⟨p69,c69,F.sl rfl,(H.pm 7 [2,0,3,4,5,6] rfl:)⟩ (fun s142 a w o p143 c143 F H hm=>sq (sb [0,0] F H rfl fun a F=>?_)))
 refine nl (cPm F rfl hm (fun hg144 hm=>?_) (fun hg144 hm=>?_))
 refine sk (ct (sq (bl (rl (bb [0,0,0,0] F H rfl fun a F=>?_)))))
 obtain ⟨x145,ex145,hm⟩:=ob hm
 refine sv F rfl (i_shrO F rfl rfl rfl ex145) fun a F=>bk [1] F H rfl ⟨Tryz.underlying22,Tryz.underlying5,trivial⟩ fun a F=>?_
 obtain ⟨x147,ex147,hm⟩:=ob hm
 refine s_buildC wkP F rfl rfl rfl elem25 zero5 rfl rfl rfl rfl (by simp [Value.cells]) (by decide) H fun b146 w a H F=>?_
 replace H:=H.blkOw1 (R:=rByte) (x:=x147) (fun gg=>(congrArg (fun z=>[Value.int .u8 z]) (u8O_some ex147).symm))
 replace H:=H.frz 0 rfl
 obtain ⟨x149,ex149,hm⟩:=ob hm
 refine s_app wkP F rfl rfl rfl rfl rfl rfl elem25 rfl ex149 H 1 0 rfl rfl fun p148 c148 w a H F=>?_
 refine bb [0] F H rfl fun a F=>?_
 replace H:=H.nf 7 rfl
 refine lz (bn (ct (rl (bb [0,0,0] F H rfl fun a F=>?_))))
 refine lz (ct ?_);cases hm
 exact ⟨_,rfl,⟨p148,c148,F.sl rfl,(H.pm 7 [1,2,3,4,5,6] rfl:)⟩⟩
 refine ex (cx (cx ?_));cases hm;refine ⟨_,rfl,?_⟩;rintro rfl
 refine ch (ct ?_)
 exact ⟨p143,c143,F.sl rfl,H⟩
 refine ct (sb [0] F H rfl fun a F=>?_)
 replace H:=O_sha_Hasher_s hl19 (H.pm 6 [4,5,0,1,2,3] rfl:)
 replace H:=H.frz 1 rfl
 obtain ⟨x150,ex150,hm⟩:=ob hm
 refine sd F rfl ent91 (w_shaAdd ex150 (H.pm 5 [4,1,0,0,2,3,4] rfl:):) ?_;rintro _ w a ⟨rfl,H⟩ F
 replace H:=H.nf 5 rfl
 refine nl (sq (sr (bk [0] F H rfl ⟨fld233_0,trivial⟩ fun a F=>?_)))
 obtain ⟨p151,c152,hl153,H⟩:=O_sha_Hasher_1_o (H.pk 0 rfl)
 refine sv F rfl (y_loadA F agg191 rfl rfl (row_mid (A:=([]:List Value)) (X:=icells .u32 x150.1) (C:=[.slice p151 (x150.2.1).length c152,.int .u64 (x150.2.2)]) (w:=_) ((H.blk 0 rfl).row) rfl) ((icells_length _ _).trans hl153)) fun a F=>bb [0] F H rfl fun a F=>nl ?_
 replace H:=O_sha_Hasher_1_s hl153 (H.pm 6 [0,1,1,2,3,4,5] rfl:)
 obtain ⟨r284,er284,hm284⟩:=ob hm;clear hm;revert er284;intro hm
 refine x_mid (fun aa ww=>Fr ⟨78,[]⟩ aa [(2,.pointer (some ⟨b2,0,none⟩))]∧((r284).length=32)∧St w0 ww (O_sha_Hasher_1 b18 x150::O_sha_Hasher_1 bo0 h::HP.blk b2 (bcells r284) 24::HP.row 1 (0) (icells .u32 shaRounds)::l)) ?_ ?_
 refine bl ?_
 refine x_loopO _ (fun (s372:(List UInt8)×Int) aa ww=>Fr ⟨78,[]⟩ aa [(2,.pointer (some ⟨b2,0,none⟩)),(56,.agg (icells .u32 x150.1).toArray),(57,.int .i64 (s372.2))]∧((s372.1).length=32)∧St w0 ww (O_sha_Hasher_1 b18 x150::O_sha_Hasher_1 bo0 h::HP.blk b2 (bcells s372.1) 24::HP.row 1 (0) (icells .u32 shaRounds)::l)) hm ⟨F.sl rfl,(List.length_replicate (n:=32)),(H.pm 6 [0,3,4,5] rfl:)⟩ ?_
 clear F H hm
 rintro s372 a w o ⟨F,hl373,H⟩ hm
 refine sb [0] F H rfl fun a F=>?_
 refine nl (sq (cPm F rfl hm (fun hg374 hm=>?_) (fun hg374 hm=>?_)))
 refine sk (ct (sq (bl (sb [0] F H rfl fun a F=>?_))))
 obtain ⟨x375,ex375,hm⟩:=ob hm
 refine sv F rfl (y_idxV F arr191 plain188 rfl rfl rfl (icells_idx ex375) ((icells_length _ _).trans hl153)) fun a F=>bb [0,0] F H rfl fun a F=>nb [0] F H rfl fun a F=>nl ?_
 obtain ⟨r395,er395,hm395⟩:=ob hm;clear hm;revert er395;intro hm
 refine x_mid (fun aa ww=>Fr ⟨78,[]⟩ aa [(2,.pointer (some ⟨b2,0,none⟩)),(56,.agg (icells .u32 x150.1).toArray),(57,.int .i64 (s372.2))]∧((r395).length=32)∧St w0 ww (O_sha_Hasher_1 b18 x150::O_sha_Hasher_1 bo0 h::HP.blk b2 (bcells r395) 24::HP.row 1 (0) (icells .u32 shaRounds)::l)) ?_ ?_
 refine bl ?_
 refine x_loopO _ (fun (s409:(List UInt8)×Int) aa ww=>Fr ⟨78,[]⟩ aa [(2,.pointer (some ⟨b2,0,none⟩)),(7,.int .i64 (s372.2)),(8,.int .u32 (x375)),(56,.agg (icells .u32 x150.1).toArray),(57,.int .i64 (s372.2)),(61,.int .i64 (s409.2))]∧((s409.1).length=32)∧St w0 ww (O_sha_Hasher_1 b18 x150::O_sha_Hasher_1 bo0 h::HP.blk b2 (bcells s409.1) 24::HP.row 1 (0) (icells .u32 shaRounds)::l)) hm ⟨F.sl rfl,hl373,H⟩ ?_
 clear F H hm
 rintro s409 a w o ⟨F,hl410,H⟩ hm
 refine sb [0] F H rfl fun a F=>?_
 refine nl (sq (cPm F rfl hm (fun hg411 hm=>?_) (fun hg411 hm=>?_)))
 refine sk (ct (sq (bl (sb [0,0] F H rfl fun a F=>nl (rl (bb (List.replicate 8 0) F H rfl fun a F=>?_))))))
 obtain ⟨x412,ex412,hm⟩:=ob hm
 refine sv F rfl (i_shrO F rfl rfl rfl ex412) fun a F=>bk [1] F H rfl ⟨Tryz.underlying188,Tryz.underlying5,trivial⟩ fun a F=>?_
 obtain ⟨x413,ex413,hm⟩:=ob hm
 refine sv F rfl (y_idxA F arr24 rfl rfl rfl ex413 hl410) fun a F=>?_
 obtain ⟨x415,ex415,hm⟩:=ob hm
 refine s_stB wkP F rfl rfl zero5 rfl rfl rfl ex415 H 2 rfl ex413 fun w H=>?_
 replace H:=H.nf 4 rfl
 refine lz (bn (ct (rl (bb [0,0] F H rfl fun a F=>?_))))
 refine lz (ct ?_);cases hm
 exact ⟨_,rfl,⟨F.sl rfl,((List.length_set ..).trans hl410),H⟩⟩
 refine ex (cx (cx ?_));cases hm;refine ⟨_,rfl,?_⟩;rintro rfl
 refine ch (ct ?_)
 exact ⟨F.sl rfl,hl410,H⟩
 clear F H hm
 rintro a w ⟨F,hl396,H⟩;have hm:=hm395;clear hm395
 refine bn (ct (rl (bb [0,0] F H rfl fun a F=>?_)))
 refine lz (ct ?_);cases hm
 exact ⟨_,rfl,⟨F.sl rfl,hl396,H⟩⟩
 refine ex (cx (cx ?_));cases hm;refine ⟨_,rfl,?_⟩;rintro rfl
 refine ch (ct ?_)
 exact ⟨F.sl rfl,hl373,H⟩
 clear F H hm
 rintro a w ⟨F,hl285,H⟩;have hm:=hm284;clear hm284
 refine ct (sr (bk [2999] F H rfl ⟨rfl,(aggn agg24 ((bcells_length _).trans hl285)),trivial⟩ fun a F=>s_storeA wkP F rfl rfl agg24 rfl rfl rfl H 2 rfl ((bcells_length _).trans hl285) ((bcells_length _).trans hl285) (bcells_flat _) fun w H=>?_))
 replace H:=H.nf 4 rfl
 refine nl (wr ?_)
 cases hm
 refine x_resC1 F rfl (⟨_,rfl,agg24.run_load (H.blk 2 rfl).row ((bcells_length _).trans hl285)⟩) ?_
 exact ⟨_,rfl,rfl,hl285,(H.pm 4 [1] rfl:)⟩
theorem ent90:En Tryz.prog 90:=enters Tryz.func90 (by kernel_rfl) rfl
theorem ent92:En Tryz.prog 92:=enters Tryz.func92 (by kernel_rfl) rfl
theorem w_shaSum {b:List UInt8} {p1:Option Addr} {c1:Nat} {w0 w:World} {l:List HP}  {r:(List UInt8)} (hm:shaSum b=some r) (H:St w0 w (HP.row 0 (0) (icells .u32 shaStart)::HP.row 1 (0) (icells .u32 shaRounds)::HP.sl rByte p1 c1 b::l)) :
  Calls Tryz.prog 67 [.slice p1 (b).length c1].toArray w (fun e w'=>∃ v,e=.returned v∧v=.agg (bcells r).toArray∧((r).length=32)∧St w0 w' (l)):=by
 unfold shaSum at hm
 refine x_enter Tryz.func67 rfl rfl rfl ?_
 intro a F
 refine sr (s_allocA wkP F rfl rfl rfl agz24 rfl H fun b3 w a H F=>?_)
 replace H:=H.nf 4 rfl
 refine nl (sr ?_)
 obtain ⟨x4,ex4,hm⟩:=ob hm
 refine sd F rfl ent90 (w_shaNew ex4 (H.pm 4 [1,0,1,2,3] rfl:):) ?_;rintro _ w a ⟨b5,rfl,H⟩ F
 refine bb [0] F H rfl fun a F=>?_
 replace H:=H.nf 5 rfl
 refine nb [0,0] F H rfl fun a F=>?_
 obtain ⟨x6,ex6,hm⟩:=ob hm
 refine sd F rfl ent91 (w_shaAdd ex6 (H.pm 5 [3,0,4,1,2,3,4] rfl:):) ?_;rintro _ w a ⟨rfl,H⟩ F
 replace H:=H.nf 5 rfl
 refine nb [0] F H rfl fun a F=>?_
 obtain ⟨x7,ex7,hm⟩:=ob hm
 refine sd F rfl ent92 (w_shaHSum ex7 (H.pm 5 [3,0,1,2,3,4] rfl:):) ?_;rintro _ w a ⟨rfl,hl8,H⟩ F
 refine s_storeA wkP F rfl rfl agg24 rfl rfl rfl H 1 rfl ((bcells_length _).trans hl8) ((bcells_length _).trans (List.length_replicate (n:=32))) (bcells_flat _) fun w H=>?_
 replace H:=H.nf 5 rfl
 refine nl (wr ?_)
 cases hm
 refine x_resC1 F rfl (⟨_,rfl,agg24.run_load (H.blk 1 rfl).row ((bcells_length _).trans hl8)⟩) ?_
 exact ⟨_,rfl,rfl,hl8,(H.pm 5 [] rfl:)⟩
set_option maxRecDepth 100000
set_option maxHeartbeats 4000000
theorem w_cloneB {s:List UInt8} {p1:Option Addr} {c1:Nat} {w0 w:World} {l:List HP}  {r:(List UInt8)} (hm:cloneB s=some r) (H:St w0 w (HP.sl rByte p1 c1 s::l)) :
  Calls Tryz.prog 53 [.slice p1 (s).length c1].toArray w (fun e w'=>∃ v,e=.returned v∧∃ (p2:Option Addr) (c2:Nat),v=.slice p2 (r).length c2∧St w0 w' (HP.ow rByte 5 p2 c2 r::l)):=by
 unfold cloneB at hm
 refine x_enter Tryz.func53 rfl rfl rfl ?_
 intro a F
 refine sb [0] F H rfl fun a F=>nl (sq (sb [0] F H rfl fun a F=>?_))
 obtain _ | ad:=p1
 obtain ⟨hx0,hc0⟩:=H.slNone 0 rfl;subst hc0;try subst hx0
 replace H:=H.dp 0 rfl
 refine sv F rfl (y_eqNil F rfl Tryz.underlying25 rfl rfl (by simp)) fun a F=>nl (cT F rfl (sb [0] F H rfl fun a F=>nl (wr (tr ?_))))
 replace H:=H.owNil rByte 5
 cases hm
 refine x_ret1 F rfl rfl ?_
 exact ⟨_,rfl,none,0,rfl,H⟩
 refine sv F rfl (y_eqSome F rfl Tryz.underlying25 rfl rfl (by simp)) fun a F=>nl (cF F rfl (sk (ct (sr (s_build0O (R:=rByte) wkP F rfl rfl rfl elem25 rfl H fun b3 w a H F=>bb [0] F H rfl fun a F=>?_)))))
 obtain ⟨x5,ex5,hm⟩:=ob hm
 refine s_app wkP F rfl rfl rfl rfl rfl rfl elem25 rfl ex5 H 0 1 rfl rfl fun p4 c4 w a H F=>?_
 refine bb [0] F H rfl fun a F=>?_
 replace H:=H.nf 2 rfl
 refine nl (wr ?_)
 cases hm
 refine x_ret1 F rfl rfl ?_
 exact ⟨_,rfl,p4,c4,rfl,(H.pm 2 [0] rfl:)⟩
theorem fld74_0:FieldT Tryz.prog 74 0 0:=by unfold FieldT;rw [Tryz.underlying74];kernel_rfl
theorem w_penRaw {p:T_pack_Pen_o} {b:List UInt8} {bo0:Nat} {p1:Option Addr} {c1:Nat} {w0 w:World} {l:List HP}  {r:T_pack_Pen_o} (hm:penRaw p b=some r) (H:St w0 w (O_pack_Pen bo0 p::HP.sl rByte p1 c1 b::l)) :
  Calls Tryz.prog 18 [.pointer (some ⟨bo0,0,none⟩),.slice p1 (b).length c1].toArray w (fun e w'=>∃ v,e=.returned v∧v=.tuple [].toArray∧St w0 w' (O_pack_Pen bo0 r::l)):=by
 unfold penRaw at hm
 refine x_enter Tryz.func18 rfl rfl rfl ?_
 intro a F
 refine rl (bk [0,0,0,0] F H rfl ⟨fld74_0,trivial⟩ fun a F=>?_)
 obtain ⟨p2,c3,H⟩:=O_pack_Pen_o (H.pk 0 rfl)
 refine bk [0,0] F H rfl ⟨rfl,plain25,trivial⟩ fun a F=>?_
 obtain ⟨x5,ex5,hm⟩:=ob hm
 refine s_app wkP F rfl rfl rfl rfl rfl rfl elem25 rfl ex5 H 1 2 rfl rfl fun p4 c4 w a H F=>?_
 refine bk [0,0] F H rfl ⟨fld74_0,trivial⟩ fun a F=>s_st1 wkP F rfl rfl zero25 rfl rfl rfl rfl rfl H 0 rfl rfl fun w H=>?_
 replace H:=H.nf 3 rfl
 refine lz ?_
 replace H:=O_pack_Pen_s H
 cases hm
 refine x_end0 F rfl ?_
 exact ⟨_,rfl,rfl,(H.pm 2 [0] rfl:)⟩
theorem w_penUint {p:T_pack_Pen_o} {n:Int} {size:Int} {bo0:Nat} {w0 w:World} {l:List HP}  {r:Int×T_pack_Pen_o} (hm:penUint p n size=some r) (H:St w0 w (O_pack_Pen bo0 p::l)) :
  Calls Tryz.prog 19 [.pointer (some ⟨bo0,0,none⟩),.int .u64 (n),.int .i64 (size)].toArray w (fun e w'=>∃ v,e=.returned v∧v=.int .i64 (r.1)∧St w0 w' (O_pack_Pen bo0 r.2::l)):=by
 unfold penUint at hm
 refine x_enter Tryz.func19 rfl rfl rfl ?_
 intro a F
 refine sb [0] F H rfl fun a F=>nl (sq (sb [0,0,0] F H rfl fun a F=>?_))
 rcases spP 10 F rfl hm with ⟨hg1,hm,F⟩ | ⟨hg1,hm,F⟩
 refine bb (List.replicate 14 0) F H rfl fun a F=>nl (cT F rfl (sb [0] F H rfl fun a F=>nl (wr (tr ?_))))
 cases hm
 refine x_ret1 F rfl rfl ?_
 exact ⟨_,rfl,rfl,H⟩
 refine bb [0,0,0,0] F H rfl fun a F=>?_
 rcases spP 14 F rfl hm with ⟨hg2,hm,F⟩ | ⟨hg2,hm,F⟩
 refine bb (List.replicate 10 0) F H rfl fun a F=>nl (cT F rfl (sb [0] F H rfl fun a F=>nl (wr (tr ?_))))
 cases hm
 refine x_ret1 F rfl rfl ?_
 exact ⟨_,rfl,rfl,H⟩
 refine bb [0,0,0] F H rfl fun a F=>?_
 rcases spP 17 F rfl hm with ⟨hg3,hm,F⟩ | ⟨hg3,hm,F⟩
 refine bb [0,0,0] F H rfl fun a F=>g_onP F rfl rfl rfl rfl ?_
 obtain ⟨x4,ex4,hm⟩:=ob hm
 refine sv F rfl (i_shrO F rfl rfl rfl ex4) fun a F=>bb [0,0,0] F H rfl fun a F=>?_
 refine nl (cPm F rfl hm (fun hg5 hm=>?_) (fun hg5 hm=>?_))
 refine sb [0] F H rfl fun a F=>nl (wr (tr ?_))
 cases hm
 refine x_ret1 F rfl rfl ?_
 exact ⟨_,rfl,rfl,H⟩
 refine sk (ct (sq (sb [0,0,0] F H rfl fun a F=>?_)))
 refine nl (xm0 1 [] [] F H hm rfl rfl (fun r31 z=>z) (fun r31 z=>O_pack_Pen bo0 r31::z) (fun r31 hm=>?_) (fun r31 a w hm F H=>?_))
 refine bl (xl0 1 [0,1] [] F H hm rfl rfl (fun (s48:T_pack_Pen_o×Int) z=>(7,.int .i64 (s48.2))::z) (fun s48 z=>O_pack_Pen bo0 s48.1::z) ⟨F.sl rfl,H⟩ (fun s48 a w o F H hm=>sq (sb [0,0] F H rfl fun a F=>?_)))
 refine nl (cPm F rfl hm (fun hg49 hm=>?_) (fun hg49 hm=>?_))
 refine sk (ct (sq (bl ?_)))
 obtain ⟨p50,c51,H⟩:=O_pack_Pen_o (H.pk 0 rfl)
 obtain ⟨x52,ex52,hm⟩:=ob hm
 refine mix_regionK [10,11,14] [14] (scL [0,1,2,3,4,5,6,7,8,9,2010,2011,12,13,3014]) [0] H rfl rfl (by kernel_rfl) (by kernel_rfl) fun w H=>?_
 refine mbk [0,0,0,0] F H rfl ⟨fld74_0,trivial⟩ fun a F=>?_
 refine m_pure F rfl rfl rfl rfl (fun u hu=>y_load1 F plain25 rfl rfl (row_at (v:=.slice p50 (s48.1).length c51) ((hu.choose_spec.blk 0 rfl).row) rfl)) fun a F=>?_
 refine mb [0,0,0] F H rfl fun a F=>?_
 refine m_pure F rfl rfl rfl rfl (fun u hu=>i_shrO F rfl rfl rfl ex52) fun a F=>?_
 refine mbk [1] F H rfl ⟨Tryz.underlying22,Tryz.underlying5,trivial⟩ fun a F=>m_heavy rfl rfl ?_
 obtain ⟨x54,ex54,hm⟩:=ob hm
 refine s_buildC wkP F rfl rfl rfl elem25 zero5 rfl rfl rfl rfl (by simp [Value.cells]) (by decide) H fun b53 w a H F=>?_
 replace H:=H.blkOw1 (R:=rByte) (x:=x54) (fun gg=>(congrArg (fun z=>[Value.int .u8 z]) (u8O_some ex54).symm))
 refine lz ?_;refine ct ⟨⟨_,(H.pm 3 [1,0,2] rfl:)⟩,?_⟩
 refine m_heavy rfl rfl ?_
 replace H:=H.frz 0 rfl
 obtain ⟨x56,ex56,hm⟩:=ob hm
 refine s_app wkP F rfl rfl rfl rfl rfl rfl elem25 rfl ex56 H 2 0 rfl rfl fun p55 c55 w a H F=>?_
 refine lz ?_;refine ct ⟨⟨_,(H.pm 3 [1,0,2] rfl:)⟩,?_⟩
 refine mbk [0,0] F H rfl ⟨fld74_0,trivial⟩ fun a F=>m_last rfl rfl (s_st1 wkP F rfl rfl zero25 rfl rfl rfl rfl rfl H 1 rfl rfl fun w H=>?_)
 refine lz ?_;refine ct ?_
 refine m_nil (bn (ct (rl (bb [0,0,0] F H rfl fun a F=>?_))))
 replace H:=H.nf 3 rfl
 refine lz ?_
 replace H:=O_pack_Pen_s (H.pm 3 [1,2,0] rfl:)
 refine ct ?_;cases hm
 exact ⟨_,rfl,⟨F.sl rfl,(H.pm 2 [0] rfl:)⟩⟩
 refine ex (cx (cx ?_));cases hm;refine ⟨_,rfl,?_⟩;rintro rfl
 refine ch (ct ?_)
 exact ⟨F.cut _ trivial,H⟩
 refine ct (sb [0] F H rfl fun a F=>nl (wr ?_))
 cases hm
 refine x_ret1 F rfl rfl ?_
 exact ⟨_,rfl,rfl,H⟩
 refine bb (List.replicate 7 0) F H rfl fun a F=>nl (cF F rfl (sk (ct (sq (sb [0,0,0] F H rfl fun a F=>?_)))))
 refine nl (xm0 1 [] [] F H hm rfl rfl (fun r82 z=>z) (fun r82 z=>O_pack_Pen bo0 r82::z) (fun r82 hm=>?_) (fun r82 a w hm F H=>?_))
 refine bl (xl0 1 [0,1] [] F H hm rfl rfl (fun (s99:T_pack_Pen_o×Int) z=>(7,.int .i64 (s99.2))::z) (fun s99 z=>O_pack_Pen bo0 s99.1::z) ⟨F.sl rfl,H⟩ (fun s99 a w o F H hm=>sq (sb [0,0] F H rfl fun a F=>?_)))
 refine nl (cPm F rfl hm (fun hg100 hm=>?_) (fun hg100 hm=>?_))
 refine sk (ct (sq (bl ?_)))
 obtain ⟨p101,c102,H⟩:=O_pack_Pen_o (H.pk 0 rfl)
 obtain ⟨x103,ex103,hm⟩:=ob hm
 refine mix_regionK [10,11,14] [14] (scL [0,1,2,3,4,5,6,7,8,9,2010,2011,12,13,3014]) [0] H rfl rfl (by kernel_rfl) (by kernel_rfl) fun w H=>?_
 refine mbk [0,0,0,0] F H rfl ⟨fld74_0,trivial⟩ fun a F=>?_
 refine m_pure F rfl rfl rfl rfl (fun u hu=>y_load1 F plain25 rfl rfl (row_at (v:=.slice p101 (s99.1).length c102) ((hu.choose_spec.blk 0 rfl).row) rfl)) fun a F=>?_
 refine mb [0,0,0] F H rfl fun a F=>?_
 refine m_pure F rfl rfl rfl rfl (fun u hu=>i_shrO F rfl rfl rfl ex103) fun a F=>?_
 refine mbk [1] F H rfl ⟨Tryz.underlying22,Tryz.underlying5,trivial⟩ fun a F=>m_heavy rfl rfl ?_
 obtain ⟨x105,ex105,hm⟩:=ob hm
 refine s_buildC wkP F rfl rfl rfl elem25 zero5 rfl rfl rfl rfl (by simp [Value.cells]) (by decide) H fun b104 w a H F=>?_
 replace H:=H.blkOw1 (R:=rByte) (x:=x105) (fun gg=>(congrArg (fun z=>[Value.int .u8 z]) (u8O_some ex105).symm))
 refine lz ?_;refine ct ⟨⟨_,(H.pm 3 [1,0,2] rfl:)⟩,?_⟩
 refine m_heavy rfl rfl ?_
 replace H:=H.frz 0 rfl
 obtain ⟨x107,ex107,hm⟩:=ob hm
 refine s_app wkP F rfl rfl rfl rfl rfl rfl elem25 rfl ex107 H 2 0 rfl rfl fun p106 c106 w a H F=>?_
 refine lz ?_;refine ct ⟨⟨_,(H.pm 3 [1,0,2] rfl:)⟩,?_⟩
 refine mbk [0,0] F H rfl ⟨fld74_0,trivial⟩ fun a F=>m_last rfl rfl (s_st1 wkP F rfl rfl zero25 rfl rfl rfl rfl rfl H 1 rfl rfl fun w H=>?_)
 refine lz ?_;refine ct ?_
 refine m_nil (bn (ct (rl (bb [0,0,0] F H rfl fun a F=>?_))))
 replace H:=H.nf 3 rfl
 refine lz ?_
 replace H:=O_pack_Pen_s (H.pm 3 [1,2,0] rfl:)
 refine ct ?_;cases hm
 exact ⟨_,rfl,⟨F.sl rfl,(H.pm 2 [0] rfl:)⟩⟩
 refine ex (cx (cx ?_));cases hm;refine ⟨_,rfl,?_⟩;rintro rfl
 refine ch (ct ?_)
 exact ⟨F.cut _ trivial,H⟩
 refine ct (sb [0] F H rfl fun a F=>nl (wr ?_))
 cases hm
 refine x_ret1 F rfl rfl ?_
 exact ⟨_,rfl,rfl,H⟩
theorem ent19:En Tryz.prog 19:=enters Tryz.func19 (by kernel_rfl) rfl
theorem ent18:En Tryz.prog 18:=enters Tryz.func18 (by kernel_rfl) rfl
theorem w_penText {p:T_pack_Pen_o} {b:List UInt8} {bo0:Nat} {p1:Option Addr} {c1:Nat} {w0 w:World} {l:List HP}  {r:Int×T_pack_Pen_o} (hm:penText p b=some r) (H:St w0 w (O_pack_Pen bo0 p::HP.sl rByte p1 c1 b::l)) :
  Calls Tryz.prog 20 [.pointer (some ⟨bo0,0,none⟩),.slice p1 (b).length c1].toArray w (fun e w'=>∃ v,e=.returned v∧v=.int .i64 (r.1)∧St w0 w' (O_pack_Pen bo0 r.2::l)):=by
 unfold penText at hm
 refine x_enter Tryz.func20 rfl rfl rfl ?_
 intro a F
 refine sb [0] F H rfl fun a F=>nl (sq (sr (bk [0,0,0,2] F H rfl ⟨⟨_,Tryz.underlying25⟩,Tryz.underlying3,Tryz.underlying22,trivial⟩ fun a F=>?_)))
 obtain ⟨x2,ex2,hm⟩:=ob hm
 refine sd F rfl ent19 (w_penUint ex2 H:) ?_;rintro _ w a ⟨rfl,H⟩ F
 refine bb [0] F H rfl fun a F=>?_
 replace H:=H.nf 2 rfl
 refine nl (cNm F rfl hm (fun hg3 hm=>?_) (fun hg3 hm=>?_))
 refine sb [0] F H rfl fun a F=>nl (wr (tr ?_))
 cases hm
 refine x_ret1 F rfl rfl ?_
 exact ⟨_,rfl,rfl,(H.pm 2 [0] rfl:)⟩
 refine sk (ct (sb [0,0] F H rfl fun a F=>?_))
 obtain ⟨x4,ex4,hm⟩:=ob hm
 refine sd F rfl ent18 (w_penRaw ex4 (H.pm 2 [0,1,1] rfl:):) ?_;rintro _ w a ⟨rfl,H⟩ F
 replace H:=H.nf 2 rfl
 refine nb [0] F H rfl fun a F=>nl (wr ?_)
 cases hm
 refine x_ret1 F rfl rfl ?_
 exact ⟨_,rfl,rfl,(H.pm 2 [0] rfl:)⟩
theorem ent53:En Tryz.prog 53:=enters Tryz.func53 (by kernel_rfl) rfl
theorem w_penData {p:T_pack_Pen_o} {bo0:Nat} {w0 w:World} {l:List HP}  {r:(List UInt8)×T_pack_Pen_o} (hm:penData p=some r) (H:St w0 w (O_pack_Pen bo0 p::l)) :
  Calls Tryz.prog 21 [.pointer (some ⟨bo0,0,none⟩)].toArray w (fun e w'=>∃ v,e=.returned v∧∃ (p1:Option Addr) (c1:Nat),v=.slice p1 (r.1).length c1∧St w0 w' (HP.ow rByte 5 p1 c1 r.1::O_pack_Pen_1 bo0 r.2::l)):=by
 unfold penData at hm
 refine x_enter Tryz.func21 rfl rfl rfl ?_
 intro a F
 refine sb [0] F H rfl fun a F=>nl (sr (bk [0,0,0] F H rfl ⟨fld74_0,trivial⟩ fun a F=>?_))
 obtain ⟨p2,c3,H⟩:=O_pack_Pen_o (H.pk 0 rfl)
 refine bk [0] F H rfl ⟨rfl,plain25,trivial⟩ fun a F=>?_
 replace H:=H.frz 1 rfl
 obtain ⟨x4,ex4,hm⟩:=ob hm
 refine sd F rfl ent53 (w_cloneB ex4 (H.pm 2 [0,0,1] rfl:):) ?_;rintro _ w a ⟨p5,c5,rfl,H⟩ F
 refine bb [0] F H rfl fun a F=>?_
 replace H:=H.nf 3 rfl
 refine nl (wr ?_)
 replace H:=O_pack_Pen_1_s (H.pm 3 [2,1,0,1] rfl:)
 cases hm
 refine x_ret1 F rfl rfl ?_
 exact ⟨_,rfl,p5,c5,rfl,(H.pm 3 [1,0] rfl:)⟩
theorem w_newEye {data:List UInt8} {p1:Option Addr} {c1:Nat} {w0 w:World} {l:List HP}  {r:T_pack_Eye_o} (hm:newEye data=some r) (H:St w0 w (HP.sl rByte p1 c1 data::l)) :
  Calls Tryz.prog 26 [.slice p1 (data).length c1].toArray w (fun e w'=>∃ v,e=.returned v∧∃ (b2:Nat),v=.pointer (some ⟨b2,0,none⟩)∧St w0 w' (O_pack_Eye b2 r::l)):=by
 unfold newEye at hm
 refine x_enter Tryz.func26 rfl rfl rfl ?_
 intro a F
 refine sb [0] F H rfl fun a F=>nb [0] F H rfl fun a F=>?_
 obtain ⟨x3,ex3,hm⟩:=ob hm
 refine sd F rfl ent53 (w_cloneB ex3 (H.pm 1 [0,0] rfl:):) ?_;rintro _ w a ⟨p4,c4,rfl,H⟩ F
 refine sv F rfl (y_build F rfl rfl (cs:=[.slice p4 (x3).length c4]) (by kernel_rfl)) fun a F=>s_boxA wkP F rfl rfl rfl rfl rfl H fun b5 w a H F=>bb [0] F H rfl fun a F=>?_
 replace H:=H.nf 3 rfl
 refine nl (wr ?_)
 replace H:=H.frz 1 rfl
 replace H:=O_pack_Eye_s (H.pm 3 [1,0,0,2] rfl:)
 cases hm
 refine x_ret1 F rfl rfl ?_
 exact ⟨_,rfl,b5,rfl,(H.pm 3 [0] rfl:)⟩
theorem fld140_0:FieldT Tryz.prog 140 0 0:=by unfold FieldT;rw [Tryz.underlying140];kernel_rfl
theorem w_eyeRaw {e:T_pack_Eye_o} {n:Int} {bo0:Nat} {w0 w:World} {l:List HP}  {r:(List UInt8)×Int×T_pack_Eye_o} (hm:eyeRaw e n=some r) (H:St w0 w (O_pack_Eye bo0 e::l)) :
  Calls Tryz.prog 28 [.pointer (some ⟨bo0,0,none⟩),.int .i64 (n)].toArray w (fun e w'=>∃ v,e=.returned v∧∃ (p1:Option Addr) (c1:Nat),v=.tuple [.slice p1 (r.1).length c1,.int .i64 (r.2.1)].toArray∧St w0 w' (HP.ow rByte 5 p1 c1 r.1::O_pack_Eye bo0 r.2.2::l)):=by
 unfold eyeRaw at hm
 refine x_enter Tryz.func28 rfl rfl rfl ?_
 intro a F
 refine sb [0,0] F H rfl fun a F=>nl (sq (bl (sb [0,0,0] F H rfl fun a F=>?_)))
 refine nl (cPm F rfl hm (fun hg2 hm=>?_) (fun hg2 hm=>?_))
 refine sb [0,0] F H rfl fun a F=>nl (wr (br (tr ?_)))
 replace H:=H.owNil rByte 5
 cases hm
 refine x_ret2 F rfl rfl rfl ?_
 exact ⟨_,rfl,none,0,rfl,H⟩
 refine sr (bk [0,0,0,0] F H rfl ⟨fld140_0,trivial⟩ fun a F=>?_)
 obtain ⟨p3,c4,H⟩:=O_pack_Eye_o (H.pk 0 rfl)
 refine bk [0,0,0,0] F H rfl ⟨rfl,plain25,⟨_,Tryz.underlying25⟩,trivial⟩ fun a F=>?_
 refine nl (cPm F rfl hm (fun hg5 hm=>?_) (fun hg5 hm=>?_))
 refine sb [0,0] F H rfl fun a F=>nl (wr (br (tr ?_)))
 replace H:=H.owNil rByte 5
 replace H:=O_pack_Eye_s (H.pm 3 [1,2,0,2] rfl:)
 cases hm
 refine x_ret2 F rfl rfl rfl ?_
 exact ⟨_,rfl,none,0,rfl,(H.pm 3 [1,0] rfl:)⟩
 refine sk (bn (ct (sr (bk (List.replicate 5 0) F H rfl ⟨fld140_0,rfl,plain25,trivial⟩ fun a F=>?_))))
 obtain ⟨x7,ex7,hm⟩:=ob hm
 have hc6:=H.slCap 1 rfl
 replace H:=H.slSubN 1 rfl 1 rfl ex7
 refine sv F rfl (y_slH F elem25 rfl rfl rfl ex7 hc6) fun a F=>?_
 obtain ⟨x8,ex8,hm⟩:=ob hm
 refine sd F rfl ent53 (w_cloneB ex8 (H.pm 3 [0,0,1,2] rfl:):) ?_;rintro _ w a ⟨p9,c9,rfl,H⟩ F
 refine bb [0] F H rfl fun a F=>?_
 replace H:=H.nf 4 rfl
 refine nl (sr (bk [0,0,0,0,2000,0] F H rfl ⟨fld140_0,rfl,plain25,trivial⟩ fun a F=>?_))
 obtain ⟨x11,ex11,hm⟩:=ob hm
 have hc10:=H.slCap 3 rfl
 replace H:=H.slSubN 1 rfl 3 rfl ex11
 refine sv F rfl (y_slL F elem25 rfl rfl rfl ex11 hc10) fun a F=>bk [0,0] F H rfl ⟨fld140_0,trivial⟩ fun a F=>s_st1 wkP F rfl rfl zero25 rfl rfl rfl rfl rfl H 3 rfl rfl fun w H=>?_
 replace H:=H.nf 5 rfl
 refine nb [0,0,0] F H rfl fun a F=>nl (wr ?_)
 replace H:=O_pack_Eye_s (H.pm 5 [3,0,0,1,2,4] rfl:)
 cases hm
 refine x_ret2 F rfl rfl rfl ?_
 exact ⟨_,rfl,p9,c9,rfl,(H.pm 5 [2,0] rfl:)⟩
theorem ent28:En Tryz.prog 28:=enters Tryz.func28 (by kernel_rfl) rfl
theorem w_eyeUint {e:T_pack_Eye_o} {size:Int} {bo0:Nat} {w0 w:World} {l:List HP}  {r:Int×Int×T_pack_Eye_o} (hm:eyeUint e size=some r) (H:St w0 w (O_pack_Eye bo0 e::l)) :
  Calls Tryz.prog 27 [.pointer (some ⟨bo0,0,none⟩),.int .i64 (size)].toArray w (fun e w'=>∃ v,e=.returned v∧v=.tuple [.int .u64 (r.1),.int .i64 (r.2.1)].toArray∧St w0 w' (O_pack_Eye bo0 r.2.2::l)):=by
 unfold eyeUint at hm
 refine x_enter Tryz.func27 rfl rfl rfl ?_
 intro a F
 refine sb [0,0] F H rfl fun a F=>nl (sq (sb [0,0,0] F H rfl fun a F=>?_))
 rcases spP 11 F rfl hm with ⟨hg1,hm,F⟩ | ⟨hg1,hm,F⟩
 refine bb [0,0,0] F H rfl fun a F=>nl (cT F rfl (sb [0,0] F H rfl fun a F=>nl (wr (tr ?_))))
 cases hm
 refine x_ret2 F rfl rfl rfl ?_
 exact ⟨_,rfl,rfl,H⟩
 refine bb [0,0,0] F H rfl fun a F=>?_
 refine nl (cPm F rfl hm (fun hg2 hm=>?_) (fun hg2 hm=>?_))
 refine sb [0,0] F H rfl fun a F=>nl (wr (tr ?_))
 cases hm
 refine x_ret2 F rfl rfl rfl ?_
 exact ⟨_,rfl,rfl,H⟩
 refine sk (ct (sb [0,0] F H rfl fun a F=>?_))
 obtain ⟨x3,ex3,hm⟩:=ob hm
 refine sd F rfl ent28 (w_eyeRaw ex3 H:) ?_;rintro _ w a ⟨p4,c4,rfl,H⟩ F
 refine bb (List.replicate 5 0) F H rfl fun a F=>?_
 replace H:=H.nf 2 rfl
 refine nl (sq (sr (bk [0,0,0] F H rfl ⟨⟨_,Tryz.underlying25⟩,trivial⟩ fun a F=>?_)))
 refine nl (xm0 2 [5] [0,1] F H hm rfl rfl (fun r18 z=>(4,.int .u64 (r18))::z) (fun r18 z=>z) (fun r18 hm=>?_) (fun r18 a w hm F H=>?_))
 refine bl (xl0 2 [5,21,22] [0,1] F H hm rfl rfl (fun (s27:Int×Int) z=>(4,.int .u64 (s27.1))::(23,.int .i64 (s27.2))::z) (fun s27 z=>z) ⟨F.sl rfl,H⟩ (fun s27 a w o F H hm=>sb [0] F H rfl fun a F=>?_))
 refine nl (sq (cPm F rfl hm (fun hg28 hm=>?_) (fun hg28 hm=>?_)))
 refine sk (ct (sq (bl (sr ?_))))
 obtain ⟨x29,ex29,hm⟩:=ob hm
 obtain ⟨b30,hp30⟩:=H.owP 0 rfl (idxO_some ex29).2
 refine sv F rfl (y_idxS F elem25 rfl rfl rfl hp30 ex29) fun a F=>sv F rfl (y_load1 F plain5 rfl rfl (H.owB 0 rfl hp30 ex29)) fun a F=>bb [0] F H rfl fun a F=>nl (rl (bb [0] F H rfl fun a F=>sv F rfl (i_shl F rfl rfl rfl (by decide)) fun a F=>bk [0,2,0,0] F H rfl ⟨Tryz.underlying5,Tryz.underlying22,trivial⟩ fun a F=>lz (bn (ct (rl (bb [0,0] F H rfl fun a F=>?_))))))
 refine lz (ct ?_);cases hm
 exact ⟨_,rfl,⟨F.sl rfl,H⟩⟩
 refine ex (cx (cx ?_));cases hm;refine ⟨_,rfl,?_⟩;rintro rfl
 refine ch (ct ?_)
 exact ⟨F.sl rfl,H⟩
 refine ct (sb [0,0,0,0] F H rfl fun a F=>nl (wr ?_))
 cases hm
 refine x_ret2 F rfl rfl rfl ?_
 exact ⟨_,rfl,rfl,(H.pm 2 [1] rfl:)⟩
theorem ent27:En Tryz.prog 27:=enters Tryz.func27 (by kernel_rfl) rfl
theorem w_eyeText {e:T_pack_Eye_o} {bo0:Nat} {w0 w:World} {l:List HP}  {r:(List UInt8)×Int×T_pack_Eye_o} (hm:eyeText e=some r) (H:St w0 w (O_pack_Eye bo0 e::l)) :
  Calls Tryz.prog 29 [.pointer (some ⟨bo0,0,none⟩)].toArray w (fun e w'=>∃ v,e=.returned v∧∃ (p1:Option Addr) (c1:Nat),v=.tuple [.slice p1 (r.1).length c1,.int .i64 (r.2.1)].toArray∧St w0 w' (HP.ow rByte 5 p1 c1 r.1::O_pack_Eye bo0 r.2.2::l)):=by
 unfold eyeText at hm
 refine x_enter Tryz.func29 rfl rfl rfl ?_
 intro a F
 refine sb [0,0] F H rfl fun a F=>nl (sr (bk [0,0,0] F H rfl ⟨fld140_0,trivial⟩ fun a F=>?_))
 obtain ⟨p2,c3,H⟩:=O_pack_Eye_o (H.pk 0 rfl)
 refine bk [0,0] F H rfl ⟨rfl,plain25,trivial⟩ fun a F=>nb [0] F H rfl fun a F=>?_
 replace H:=O_pack_Eye_s (H.pm 2 [0,1,1] rfl:)
 obtain ⟨x4,ex4,hm⟩:=ob hm
 refine sd F rfl ent27 (w_eyeUint ex4 H:) ?_;rintro _ w a ⟨rfl,H⟩ F
 refine bb (List.replicate 5 0) F H rfl fun a F=>?_
 replace H:=H.nf 2 rfl
 refine nl (sq (sb [0,0] F H rfl fun a F=>?_))
 refine nl (cNm F rfl hm (fun hg5 hm=>?_) (fun hg5 hm=>?_))
 refine sb [0,0,0] F H rfl fun a F=>nl (wr (tr ?_))
 replace H:=H.owNil rByte 5
 cases hm
 refine x_ret2 F rfl rfl rfl ?_
 exact ⟨_,rfl,none,0,rfl,(H.pm 3 [0,1] rfl:)⟩
 refine sk (ct (sr (bk [0,0,0] F H rfl ⟨Tryz.underlying22,Tryz.underlying3,trivial⟩ fun a F=>?_)))
 obtain ⟨x6,ex6,hm⟩:=ob hm
 refine sd F rfl ent28 (w_eyeRaw ex6 H:) ?_;rintro _ w a ⟨p7,c7,rfl,H⟩ F
 refine bb (List.replicate 5 0) F H rfl fun a F=>?_
 replace H:=H.nf 3 rfl
 refine nl (sq (sb [0,0] F H rfl fun a F=>?_))
 refine nl (xm0 3 [6,7] [0] F H hm rfl rfl (fun r11 z=>z) (fun r11 z=>O_pack_Eye bo0 r11::z) (fun r11 hm=>?_) (fun r11 a w hm F H=>?_))
 refine cNm F rfl hm (fun hg12 hm=>?_) (fun hg12 hm=>?_)
 refine rl (bk [0,0,0,0] F H rfl ⟨fld140_0,trivial⟩ fun a F=>?_)
 obtain ⟨p13,c14,H⟩:=O_pack_Eye_o (H.pk 1 rfl)
 refine s_st1 wkP F rfl rfl zero25 rfl rfl rfl rfl rfl H 0 rfl rfl fun w H=>?_
 replace H:=H.nf 4 rfl
 refine lz ?_
 replace H:=O_pack_Eye_s (H.pm 4 [0,3,1,2,3] rfl:)
 cases hm
 refine ct ?_
 exact ⟨F.sl rfl,(H.pm 4 [0,2] rfl:)⟩
 refine sk ?_
 cases hm
 refine ct ?_
 exact ⟨F.sl rfl,(H.pm 3 [1,0] rfl:)⟩
 refine ct (sb [0,0,0,0] F H rfl fun a F=>nl (wr ?_))
 cases hm
 refine x_ret2 F rfl rfl rfl ?_
 exact ⟨_,rfl,p7,c7,rfl,(H.pm 2 [1,0] rfl:)⟩
set_option maxRecDepth 100000
set_option maxHeartbeats 4000000
theorem fld129_0:FieldT Tryz.prog 129 0 0:=by unfold FieldT;rw [Tryz.underlying129];kernel_rfl
theorem w_m_node_right_1 {x0_:T_api_Pair} {cs1:List Value} {w0 w:World} {l:List HP}  {r:(List UInt8)} (hm:m_node_right_1 x0_=some r) (H:St w0 w (HP.rc R_api_Pair cs1 x0_::l)) :
  Calls Tryz.prog 197 [.agg cs1.toArray].toArray w (fun e w'=>∃ v,e=.returned v∧∃ (p2:Option Addr) (c2:Nat),v=.slice p2 (r).length c2∧St w0 w' (HP.sl rByte p2 c2 r::l)):=by
 unfold m_node_right_1 at hm
 refine x_enter Tryz.func197 rfl rfl rfl ?_
 intro a F
 refine sr (s_boxA wkP F rfl rfl rfl rfl rfl H fun b3 w a H F=>bb [0] F H rfl fun a F=>?_)
 replace H:=H.nf 2 rfl
 refine nl (sr (bk [0] F H rfl ⟨fld129_0,trivial⟩ fun a F=>?_))
 have G:=F;replace H:=rc_api_Pair (H.pk 1 rfl);obtain ⟨p4,c5,p6,c7,rfl,J⟩:=H;have H:=J;have F:=G;clear G J
 refine bk [2000,0] F H rfl ⟨rfl,plain25,trivial⟩ fun a F=>nl (wr ?_)
 cases hm
 refine x_ret1 F rfl rfl ?_
 exact ⟨_,rfl,p4,c5,rfl,(H.pm 3 [0] rfl:)⟩
theorem w_cmp154 {w:World} {v u:Value} {x y:List UInt8} (hx:Sl w v x.length (bcells x)) (hy:Sl w u y.length (bcells y)):Calls Tryz.prog 154 [v,u].toArray w (fun e w'=>e=.returned (.int .i64 (Lib.compareBytes x y))∧w'=w):=by
 refine x_enter Tryz.func154 rfl rfl rfl ?_
 intro a F
 replace F:Fr ⟨8,[]⟩ a [(0,v),(1,u)]:=F
 refine wp_seq (r_lit ?_)
 refine sv F rfl (y_assign F rfl rfl) fun a F=>?_
 refine wpList_nil (c_then ?_)
 refine wp_seq (r_lit ?_)
 refine sv F rfl (y_move F rfl rfl) fun a F=>sv F rfl (y_move F rfl rfl) fun a F=>?_
 refine sv F rfl (y_ext F rfl rfl (v:=.int .i64 (Lib.compareBytes x y)) (w:=w) (by rw [run_callFunc_extern Tryz.func181 (by kernel_rfl) (by kernel_rfl) (by kernel_rfl) (e:=Extern.BytealgCompare.compare) (by kernel_rfl),run_compare hx hy];rfl)) fun a F=>?_
 refine sv F rfl (y_assign F rfl rfl) fun a F=>?_
 refine wpList_nil (c_then ?_)
 refine wp_ret ?_
 refine x_ret1 F rfl rfl ?_
 exact ⟨rfl,rfl⟩
theorem w_cmpB {a:List UInt8} {b:List UInt8} {p1:Option Addr} {c1:Nat} {p2:Option Addr} {c2:Nat} {w0 w:World} {l:List HP}  {r:Int} (hm:cmpB a b=some r) (H:St w0 w (HP.sl rByte p1 c1 a::HP.sl rByte p2 c2 b::l)) :
  Calls Tryz.prog 154 [.slice p1 (a).length c1,.slice p2 (b).length c2].toArray w (fun e w'=>∃ v,e=.returned v∧v=.int .i64 (r)∧St w0 w' (l)):=by
 unfold cmpB at hm
 cases hm
 have hx:Sl w (.slice p1 (a).length c1) (a).length (bcells a):=H.slBy 0 rfl
 have hy:Sl w (.slice p2 (b).length c2) (b).length (bcells b):=H.slBy 1 rfl
 exact (w_cmp154 hx hy).mono fun e w' h=>⟨_,h.1,rfl,by rw [h.2];exact H.tail.tail⟩
theorem elem61:ElemT Tryz.prog 61 129 2 48 (.agg [.slice none 0 0,.slice none 0 0].toArray):=⟨Tryz.underlying61,by kernel_rfl,by kernel_rfl,by decide⟩
theorem agg129:AggT Tryz.prog 129 2 [.slice none 0 0,.slice none 0 0]:=⟨by rw [Tryz.underlying129];rfl,by kernel_rfl,by kernel_rfl⟩
theorem ent197:En Tryz.prog 197:=enters Tryz.func197 (by kernel_rfl) rfl
theorem ent154:En Tryz.prog 154:=enters Tryz.func154 (by kernel_rfl) rfl
theorem w_riseP {list:List T_api_Pair} {p1:Option Addr} {c1:Nat} {w0 w:World} {l:List HP}  {r:Bool} (hm:riseP list=some r) (H:St w0 w (HP.sl R_api_Pair p1 c1 list::l)) :
  Calls Tryz.prog 196 [.slice p1 (list).length c1,.func (.func 197) #[] #[]].toArray w (fun e w'=>∃ v,e=.returned v∧v=.bool (r)∧St w0 w' (l)):=by
 unfold riseP at hm
 refine x_enter Tryz.func196 rfl rfl rfl ?_
 intro a F
 refine sb [0] F H rfl fun a F=>nl (sq (sb [0] F H rfl fun a F=>?_))
 refine nl (xr0 1 [] [] F H hm rfl rfl (fun r39 z=>z) (fun r39 z=>z) (fun o39 hm hm39=>?_) (fun r39 a w hm F H=>?_))
 refine bl (xl0 1 [0,1] [0] F H hm rfl rfl (fun (s64:Int) z=>(5,.int .i64 (s64))::z) (fun s64 z=>z) ⟨F.sl rfl,H⟩ (fun s64 a w o F H hm=>sq (sr (bk [0,0,0,0] F H rfl ⟨⟨_,Tryz.underlying61⟩,trivial⟩ fun a F=>?_))))
 refine nl (cPm F rfl hm (fun hg65 hm=>?_) (fun hg65 hm=>?_))
 refine sk (ct (sq (bl (sq ?_))))
 obtain ⟨x66,ex66,hm⟩:=ob hm
 obtain ⟨b67,o67,hp67,cs68,H⟩:=H.slE 0 rfl ex66
 obtain ⟨x69,ex69,hm⟩:=ob hm
 obtain ⟨cs70,H⟩:=H.slF 2 rfl hp67 ex69
 refine mix_regionK [6,12,13] [] (scL [0,1,2,3,4,1005,7,8,9,10,11,2006,2012,2013,14]) [0,1] H rfl rfl (by kernel_rfl) (by kernel_rfl) fun w H=>?_
 refine mb [0,0,0,0] F H rfl fun a F=>?_
 refine m_pure F rfl rfl rfl rfl (fun u hu=>y_idxS F elem61 rfl rfl rfl hp67 ex66) fun a F=>?_
 refine mbk [2999,0,0,0] F H rfl ⟨rfl,(aggn agg129 (H.rcLen 3 rfl)),trivial⟩ fun a F=>?_
 refine m_pure F rfl rfl rfl rfl (fun u hu=>y_idxS F elem61 rfl rfl rfl hp67 ex69) fun a F=>?_
 refine m_pure F rfl rfl rfl rfl (fun u hu=>y_loadA F agg129 rfl rfl (hu.choose_spec.rowAt 0 rfl) (hu.choose_spec.rcLen 1 rfl)) fun a F=>?_
 refine m_heavy rfl rfl ?_
 obtain ⟨x71,ex71,hm⟩:=ob hm
 refine s_call wkP F rfl rfl rfl rfl (y_callV0 F rfl rfl rfl ent197) (w_m_node_right_1 ex71 (H.pm 5 [3,0,1,2,3,4] rfl:):) ?_;rintro _ w a ⟨p72,c72,rfl,H⟩ F
 refine lz ?_;refine ct ⟨⟨_,(H.pm 6 [1,2,0,1,2,3,4,5] rfl:)⟩,?_⟩
 refine m_heavy rfl rfl ?_
 obtain ⟨x73,ex73,hm⟩:=ob hm
 refine s_call wkP F rfl rfl rfl rfl (y_callV0 F rfl rfl rfl ent197) (w_m_node_right_1 ex73 (H.pm 6 [2,0,1,2,3,4,5] rfl:):) ?_;rintro _ w a ⟨p74,c74,rfl,H⟩ F
 refine lz ?_;refine ct ⟨⟨_,(H.pm 7 [2,3,0,1,2,3,4,5,6] rfl:)⟩,?_⟩
 refine m_heavy rfl rfl ?_
 obtain ⟨x75,ex75,hm⟩:=ob hm
 refine sd F rfl ent154 (w_cmpB ex75 (H.pm 7 [1,0,0,1,2,3,4,5,6] rfl:):) ?_;rintro _ w a ⟨rfl,H⟩ F
 refine lz ?_;refine ct ⟨⟨_,(H.pm 7 [2,3,0,1,2,3,4,5,6] rfl:)⟩,?_⟩
 refine mb [0] F H rfl fun a F=>m_nil ?_
 refine ct (cPm F rfl hm (fun hg76 hm=>?_) (fun hg76 hm=>?_))
 refine sb [0] F H rfl fun a F=>?_
 replace H:=H.nf 7 rfl
 refine nl (wr (br (tr (tr ?_))));cases hm;refine ⟨_,rfl,?_⟩;rintro rfl
 refine br (tr ?_)
 replace hm:=elimR hm39
 refine tr ?_
 cases hm
 refine x_ret1 F rfl rfl ?_
 exact ⟨_,rfl,rfl,(H.pm 7 [] rfl:)⟩
 refine sk (bn (ct (rl (bb [0,0,0] F H rfl fun a F=>?_))))
 replace H:=H.nf 7 rfl
 refine lz (ct ?_);cases hm
 exact ⟨_,rfl,⟨F.sl rfl,(H.pm 7 [6] rfl:)⟩⟩
 refine ex (cx (cx ?_));cases hm;refine ⟨_,rfl,?_⟩;rintro rfl
 refine ch (ct ?_)
 exact ⟨_,rfl,F.cut _ trivial,(H.pm 1 [] rfl:)⟩
 refine ct (sb [0] F H rfl fun a F=>nl (wr ?_))
 cases hm
 refine x_ret1 F rfl rfl ?_
 exact ⟨_,rfl,rfl,H⟩
theorem fld227_0:FieldT Tryz.prog 227 0 0:=by unfold FieldT;rw [Tryz.underlying227];kernel_rfl
theorem plain3:Plain Tryz.prog 3:=by unfold Plain;rw [Tryz.underlying3];rfl
theorem fld227_2:FieldT Tryz.prog 227 2 2:=by unfold FieldT;rw [Tryz.underlying227];kernel_rfl
theorem plain217:Plain Tryz.prog 217:=by unfold Plain;rw [Tryz.underlying217];rfl
theorem fld227_1:FieldT Tryz.prog 227 1 1:=by unfold FieldT;rw [Tryz.underlying227];kernel_rfl
theorem plain61:Plain Tryz.prog 61:=by unfold Plain;rw [Tryz.underlying61];rfl
theorem ent196:En Tryz.prog 196:=enters Tryz.func196 (by kernel_rfl) rfl
theorem w_m_node_right {x0_:T_api_Node} {cs1:List Value} {w0 w:World} {l:List HP}  {r:Bool} (hm:m_node_right x0_=some r) (H:St w0 w (HP.rc R_api_Node cs1 x0_::l)) :
  Calls Tryz.prog 176 [.agg cs1.toArray].toArray w (fun e w'=>∃ v,e=.returned v∧v=.bool (r)∧St w0 w' (l)):=by
 unfold m_node_right at hm
 refine x_enter Tryz.func176 rfl rfl rfl ?_
 intro a F
 refine sr (s_boxA wkP F rfl rfl rfl rfl rfl H fun b2 w a H F=>bb [0] F H rfl fun a F=>?_)
 replace H:=H.nf 2 rfl
 refine nl (sq (bl (sr (bk [0] F H rfl ⟨fld227_0,trivial⟩ fun a F=>?_))))
 have G:=F;replace H:=rc_api_Node (H.pk 1 rfl);obtain ⟨p3,c4,p5,c6,rfl,J⟩:=H;have H:=J;have F:=G;clear G J
 refine bk [2000,0,0] F H rfl ⟨rfl,plain3,trivial⟩ fun a F=>?_
 rcases spP 7 F rfl hm with ⟨hg7,hm,F⟩ | ⟨hg7,hm,F⟩
 refine bb (List.replicate 5 0) F H rfl fun a F=>nl (cT F rfl ?_)
 cases hm
 refine bk [0,2000,0,0,0] F H rfl ⟨fld227_0,rfl,plain3,trivial⟩ fun a F=>?_
 refine nl (cPm F rfl hm (fun hg8 hm=>?_) (fun hg8 hm=>?_))
 cases hm
 refine sr (bk [0,2000,0,0] F H rfl ⟨fld227_0,rfl,plain3,trivial⟩ fun a F=>?_)
 refine nl (cPm F rfl hm (fun hg9 hm=>?_) (fun hg9 hm=>?_))
 refine sr (bk [2,2002,0,0,0] F H rfl ⟨fld227_2,rfl,plain217,⟨_,Tryz.underlying217⟩,trivial⟩ fun a F=>?_)
 rcases spP 20 F rfl hm with ⟨hg10,hm,F⟩ | ⟨hg10,hm,F⟩
 refine bk [1,2001,0,0,0,0] F H rfl ⟨fld227_1,rfl,plain61,⟨_,Tryz.underlying61⟩,trivial⟩ fun a F=>?_
 rcases spP 26 F rfl hm with ⟨hg11,hm,F⟩ | ⟨hg11,hm,F⟩
 refine bk [1,2001] F H rfl ⟨fld227_1,rfl,plain61,trivial⟩ fun a F=>g_onP F rfl rfl rfl rfl ?_
 obtain ⟨x12,ex12,hm⟩:=ob hm
 refine sd F rfl ent196 (w_riseP ex12 (H.pm 3 [0,0,1,2] rfl:):) ?_;rintro _ w a ⟨rfl,H⟩ F
 refine bb [0,0] F H rfl fun a F=>?_
 replace H:=H.nf 3 rfl
 refine nl (wr (br (tr ?_)))
 cases hm
 refine x_ret1 F rfl rfl ?_
 exact ⟨_,rfl,rfl,(H.pm 3 [] rfl:)⟩
 refine bb (List.replicate 5 0) F H rfl fun a F=>nl (wr (br (tr ?_)))
 cases hm
 refine x_ret1 F rfl rfl ?_
 exact ⟨_,rfl,rfl,(H.pm 3 [] rfl:)⟩
 refine bb (List.replicate 11 0) F H rfl fun a F=>nl (wr (br (tr ?_)))
 cases hm
 refine x_ret1 F rfl rfl ?_
 exact ⟨_,rfl,rfl,(H.pm 3 [] rfl:)⟩
 refine sk (bn (ct ?_))
 cases hm
theorem agg227:AggT Tryz.prog 227 3 [.int .i64 0,.slice none 0 0,.slice none 0 0]:=⟨by rw [Tryz.underlying227];rfl,by kernel_rfl,by kernel_rfl⟩
theorem ent176:En Tryz.prog 176:=enters Tryz.func176 (by kernel_rfl) rfl
theorem agz129:AggT Tryz.prog 129 2 ([.slice none (([]:List UInt8)).length 0,.slice none (([]:List UInt8)).length 0]):=⟨by rw [Tryz.underlying129];rfl,by kernel_rfl,by kernel_rfl⟩
theorem ent20:En Tryz.prog 20:=enters Tryz.func20 (by kernel_rfl) rfl
theorem fld129_1:FieldT Tryz.prog 129 1 1:=by unfold FieldT;rw [Tryz.underlying129];kernel_rfl
theorem elem217:ElemT Tryz.prog 217 223 33 56 (.agg [.slice none 0 0,.int .u8 0,.int .u8 0,.int .u8 0,.int .u8 0,.int .u8 0,.int .u8 0,.int .u8 0,.int .u8 0,.int .u8 0,.int .u8 0,.int .u8 0,.int .u8 0,.int .u8 0,.int .u8 0,.int .u8 0,.int .u8 0,.int .u8 0,.int .u8 0,.int .u8 0,.int .u8 0,.int .u8 0,.int .u8 0,.int .u8 0,.int .u8 0,.int .u8 0,.int .u8 0,.int .u8 0,.int .u8 0,.int .u8 0,.int .u8 0,.int .u8 0,.int .u8 0].toArray):=⟨Tryz.underlying217,by kernel_rfl,by kernel_rfl,by decide⟩
theorem agg223:AggT Tryz.prog 223 33 [.slice none 0 0,.int .u8 0,.int .u8 0,.int .u8 0,.int .u8 0,.int .u8 0,.int .u8 0,.int .u8 0,.int .u8 0,.int .u8 0,.int .u8 0,.int .u8 0,.int .u8 0,.int .u8 0,.int .u8 0,.int .u8 0,.int .u8 0,.int .u8 0,.int .u8 0,.int .u8 0,.int .u8 0,.int .u8 0,.int .u8 0,.int .u8 0,.int .u8 0,.int .u8 0,.int .u8 0,.int .u8 0,.int .u8 0,.int .u8 0,.int .u8 0,.int .u8 0,.int .u8 0]:=⟨by rw [Tryz.underlying223];rfl,by kernel_rfl,by kernel_rfl⟩
theorem agz223:AggT Tryz.prog 223 33 ([Value.slice none (([]:List UInt8)).length 0]++(bcells (List.replicate 32 0))):=⟨by rw [Tryz.underlying223];rfl,by kernel_rfl,by kernel_rfl⟩
theorem ent21:En Tryz.prog 21:=enters Tryz.func21 (by kernel_rfl) rfl
theorem w_ndWrite {n:T_api_Node} {cs1:List Value} {w0 w:World} {l:List HP}  {r:(List UInt8)×Int} (hm:ndWrite n=some r) (H:St w0 w (HP.rc R_api_Node cs1 n::l)) :
  Calls Tryz.prog 149 [.agg cs1.toArray].toArray w (fun e w'=>∃ v,e=.returned v∧∃ (p2:Option Addr) (c2:Nat),v=.tuple [.slice p2 (r.1).length c2,.int .i64 (r.2)].toArray∧St w0 w' (HP.ow rByte 5 p2 c2 r.1::l)):=by
 unfold ndWrite at hm
 refine x_enter Tryz.func149 rfl rfl rfl ?_
 intro a F
 refine sr (s_boxA wkP F rfl rfl rfl rfl rfl H fun b3 w a H F=>bb [0,0] F H rfl fun a F=>?_)
 replace H:=H.nf 2 rfl
 refine nl (sq (sr (bk [999] F H rfl ⟨rfl,(aggn agg227 (H.rcLen 1 rfl)),trivial⟩ fun a F=>?_)))
 obtain ⟨x4,ex4,hm⟩:=ob hm
 refine sd F rfl ent176 (w_m_node_right ex4 (H.pm 2 [1,0,1] rfl:):) ?_;rintro _ w a ⟨rfl,H⟩ F
 refine bb [0] F H rfl fun a F=>?_
 replace H:=H.nf 2 rfl
 refine nl (cB F rfl (fun hg5=>?_) (fun hg5=>?_))
 replace hm:=ifT hg5 hm
 cases hm
 replace hm:=ifF (nT hg5) hm
 refine sk (ct (sr ?_))
 replace H:=H.owNil rByte 5
 refine sv F rfl (y_build F rfl rfl (cs:=[.slice none (([]:List UInt8)).length 0]) (by kernel_rfl)) fun a F=>s_boxA wkP F rfl rfl rfl rfl rfl H fun b6 w a H F=>bb [0] F H rfl fun a F=>?_
 replace H:=H.nf 4 rfl
 refine nl (sr (bk [0,0] F H rfl ⟨fld227_0,trivial⟩ fun a F=>?_))
 have G:=F;replace H:=rc_api_Node (H.pk 3 rfl);obtain ⟨p7,c8,p9,c10,rfl,J⟩:=H;have H:=J;have F:=G;clear G J
 refine bk [4000,1,1,4001,0,2,4002,0,0,1] F H rfl ⟨rfl,plain3,Tryz.underlying3,Tryz.underlying5,fld227_1,rfl,plain61,⟨_,Tryz.underlying61⟩,fld227_2,rfl,plain217,⟨_,Tryz.underlying217⟩,Tryz.underlying3,Tryz.underlying5,trivial⟩ fun a F=>?_
 obtain ⟨x12,ex12,hm⟩:=ob hm
 obtain ⟨x13,ex13,hm⟩:=ob hm
 obtain ⟨x14,ex14,hm⟩:=ob hm
 refine s_buildC wkP F rfl rfl rfl elem25 zero5 rfl rfl rfl rfl (by simp [Value.cells]) (by decide) H fun b11 w a H F=>?_
 replace H:St w0 w (HP.ow rByte 5 (some ⟨b11,0,none⟩) (([x12,x13,x14]).length) ([x12,x13,x14])::HP.sl R_api_Pair p7 c8 n.2.1::HP.sl R_api_Kid p9 c10 n.2.2::HP.blk b6 ([.slice none (([]:List UInt8)).length 0]) 74::HP.ow rByte 5 none 0 ([]:List UInt8)::HP.blk b3 ([.int .i64 (n.1),.slice p7 (n.2.1).length c8,.slice p9 (n.2.2).length c10]) 227::l):=H.blkOw (R:=rByte) 0 rfl (fun gg=>⟨[[.int .u8 (84)],[.int .u8 (IntKind.u8.wrap (n.1))],[.int .u8 (IntKind.u8.wrap (IntKind.i64.wrap (((n.2.1).length:Int)+((n.2.2).length:Int))))]],rfl,(congrArg (fun z=>[Value.int .u8 z]) (u8O_some ex12).symm),(congrArg (fun z=>[Value.int .u8 z]) (u8O_some ex13).symm),(congrArg (fun z=>[Value.int .u8 z]) (u8O_some ex14).symm),trivial⟩) (by simp)
 replace H:=O_pack_Pen_s (x0:=([]:List UInt8)) (H.pm 6 [3,4,0,1,2,5] rfl:)
 replace H:=H.frz 1 rfl
 obtain ⟨x15,ex15,hm⟩:=ob hm
 refine sd F rfl ent18 (w_penRaw ex15 (H.pm 5 [1,0,0,2,3,4] rfl:):) ?_;rintro _ w a ⟨rfl,H⟩ F
 replace H:=H.nf 5 rfl
 refine nl (sq (sr (bk [1,4001,0,0] F H rfl ⟨fld227_1,rfl,plain61,⟨_,Tryz.underlying61⟩,trivial⟩ fun a F=>?_)))
 refine nl (xr0 5 [1,4] [2,3,4] F H hm rfl rfl (fun r56 z=>z) (fun r56 z=>O_pack_Pen b6 r56::z) (fun o56 hm hm56=>?_) (fun r56 a w hm F H=>?_))
 refine bl (xl0 5 [1,4,30,31] [2,3,4] F H hm rfl rfl (fun (s83:T_pack_Pen_o×Int) z=>(32,.int .i64 (s83.2))::z) (fun s83 z=>O_pack_Pen b6 s83.1::z) ⟨F.sl rfl,(H.pm 5 [0,2,3,4] rfl:)⟩ (fun s83 a w o F H hm=>sb [0] F H rfl fun a F=>?_))
 refine nl (sq (cPm F rfl hm (fun hg84 hm=>?_) (fun hg84 hm=>?_)))
 refine sk (ct (sq (bl (sr ?_))))
 obtain ⟨x85,ex85,hm⟩:=ob hm
 obtain ⟨b86,o86,hp86,cs87,H⟩:=H.slE 1 rfl ex85
 refine sv F rfl (y_idxS F elem61 rfl rfl rfl hp86 ex85) fun a F=>bk [999] F H rfl ⟨rfl,(aggn agg129 (H.rcLen 1 rfl)),trivial⟩ fun a F=>?_
 replace H:=H.owNil rByte 5
 replace H:=H.owNil rByte 5
 refine s_allocA wkP F rfl rfl rfl agz129 rfl H fun b88 w a H F=>s_storeA wkP F rfl rfl agg129 rfl rfl rfl H 0 rfl (H.rcLen 4 rfl) rfl (H.rcFlat 4 rfl) fun w H=>?_
 replace H:=H.nf 9 rfl
 refine nl (sr (bk [0,0] F H rfl ⟨fld129_0,trivial⟩ fun a F=>?_))
 have G:=F;replace H:=rc_api_Pair (H.pk 4 rfl);obtain ⟨p89,c90,p91,c92,rfl,J⟩:=H;have H:=J;have F:=G;clear G J
 refine bk [2000] F H rfl ⟨rfl,plain25,trivial⟩ fun a F=>?_
 obtain ⟨x93,ex93,hm⟩:=ob hm
 refine sd F rfl ent20 (w_penText ex93 (H.pm 10 [6,0,0,1,2,3,4,5,7,8,9] rfl:):) ?_;rintro _ w a ⟨rfl,H⟩ F
 refine bb [0,0] F H rfl fun a F=>?_
 rcases spN 41 F rfl hm with ⟨hg94,hm,F⟩ | ⟨hg94,hm,F⟩
 refine bk [0,1,3001] F H rfl ⟨fld129_1,rfl,plain25,trivial⟩ fun a F=>g_onP F rfl rfl rfl rfl ?_
 obtain ⟨x95,ex95,hm⟩:=ob hm
 refine sd F rfl ent20 (w_penText ex95 (H.pm 10 [0,2,1,2,3,4,5,6,7,8,9] rfl:):) ?_;rintro _ w a ⟨rfl,H⟩ F
 refine bb [0,0] F H rfl fun a F=>?_
 replace H:=H.nf 10 rfl
 refine nl (cNm F rfl hm (fun hg96 hm=>?_) (fun hg96 hm=>?_))
 cases hm
 refine sk (bn (ct (rl (bb [0,0] F H rfl fun a F=>?_))))
 refine lz (ct ?_);cases hm
 exact ⟨_,rfl,⟨F.sl rfl,(H.pm 10 [0,7,8,9] rfl:)⟩⟩
 refine bb (List.replicate 6 0) F H rfl fun a F=>?_
 replace H:=H.nf 10 rfl
 refine nl (cT F rfl ?_)
 cases hm
 refine ex (cx (cx ?_));cases hm;refine ⟨_,rfl,?_⟩;rintro rfl
 refine ch (ct ?_)
 exact ⟨_,rfl,F.sl rfl,H⟩
 refine ct (sq (sr (bk [2,3002,0,0] F H rfl ⟨fld227_2,rfl,plain217,⟨_,Tryz.underlying217⟩,trivial⟩ fun a F=>?_)))
 refine nl (xr0 4 [4] [0,1,2,3] F H hm rfl rfl (fun r113 z=>z) (fun r113 z=>z) (fun o113 hm hm113=>?_) (fun r113 a w hm F H=>?_))
 refine bl (xl0 4 [4,50,51,52] [0,1,2,3] F H hm rfl rfl (fun (s124:Unit) z=>z) (fun s124 z=>z) ⟨F.sl rfl,H⟩ (fun s124 a w o F H hm=>sb [0] F H rfl fun a F=>?_))
 refine nl (sq (cPm F rfl hm (fun hg125 hm=>?_) (fun hg125 hm=>?_)))
 refine sk (ct (sq (bl (sr ?_))))
 obtain ⟨x126,ex126,hm⟩:=ob hm
 obtain ⟨b127,o127,hp127,cs128,H⟩:=H.slE 2 rfl ex126
 refine sv F rfl (y_idxS F elem217 rfl rfl rfl hp127 ex126) fun a F=>bk [999] F H rfl ⟨rfl,(aggn agg223 (H.rcLen 1 rfl)),trivial⟩ fun a F=>?_
 replace H:=H.owNil rByte 5
 refine s_allocA wkP F rfl rfl rfl agz223 rfl H fun b129 w a H F=>s_storeA wkP F rfl rfl agg223 rfl rfl rfl H 0 rfl (H.rcLen 3 rfl) (by simp only [List.length_append,List.length_cons,List.length_nil,icells_length,bcells_length,(List.length_replicate (n:=32))]) (H.rcFlat 3 rfl) fun w H=>?_
 replace H:=H.nf 8 rfl
 refine nl (sq ?_)
 cases hm
 refine ex (cx (cx ?_));cases hm;refine ⟨_,rfl,?_⟩;rintro rfl
 refine ch (ct ?_)
 exact ⟨_,rfl,F.sl rfl,H⟩
 refine ct (sb [0] F H rfl fun a F=>?_)
 obtain ⟨x130,ex130,hm⟩:=ob hm
 refine sd F rfl ent21 (w_penData ex130 H:) ?_;rintro _ w a ⟨p131,c131,rfl,H⟩ F
 refine bb [0] F H rfl fun a F=>?_
 replace H:=H.nf 5 rfl
 refine nl (sq (sr (bk [0,0,0] F H rfl ⟨⟨_,Tryz.underlying25⟩,trivial⟩ fun a F=>?_)))
 refine nl (cPm F rfl hm (fun hg132 hm=>?_) (fun hg132 hm=>?_))
 cases hm
 refine sk (ct (sb [0,0,0] F H rfl fun a F=>nl (wr ?_)))
 cases hm
 refine x_ret2 F rfl rfl rfl ?_
 exact ⟨_,rfl,p131,c131,rfl,(H.pm 5 [0] rfl:)⟩
theorem w_equalB {x:List UInt8} {y:List UInt8} {p1:Option Addr} {c1:Nat} {p2:Option Addr} {c2:Nat} {w0 w:World} {l:List HP}  {r:Bool} (hm:equalB x y=some r) (H:St w0 w (HP.sl rByte p1 c1 x::HP.sl rByte p2 c2 y::l)) :
  Calls Tryz.prog 31 [.slice p1 (x).length c1,.slice p2 (y).length c2].toArray w (fun e w'=>∃ v,e=.returned v∧v=.bool (r)∧St w0 w' (l)):=by
 unfold equalB at hm
 refine x_enter Tryz.func31 rfl rfl rfl ?_
 intro a F
 refine sb [0] F H rfl fun a F=>nl (sq (sr (bk (List.replicate 5 0) F H rfl ⟨⟨_,Tryz.underlying25⟩,⟨_,Tryz.underlying25⟩,trivial⟩ fun a F=>?_)))
 refine nl (cNm F rfl hm (fun hg3 hm=>?_) (fun hg3 hm=>?_))
 refine sb [0] F H rfl fun a F=>nl (wr (tr ?_))
 cases hm
 refine x_ret1 F rfl rfl ?_
 exact ⟨_,rfl,rfl,(H.pm 2 [] rfl:)⟩
 refine sk (ct (sq (sr (bk [0,0,0] F H rfl ⟨⟨_,Tryz.underlying25⟩,trivial⟩ fun a F=>?_))))
 refine nl (xr0 2 [] [] F H hm rfl rfl (fun r29 z=>z) (fun r29 z=>z) (fun o29 hm hm29=>?_) (fun r29 a w hm F H=>?_))
 refine bl (xl0 2 [0,1,12] [0,1] F H hm rfl rfl (fun (s46:Int) z=>(13,.int .i64 (s46))::z) (fun s46 z=>z) ⟨F.sl rfl,H⟩ (fun s46 a w o F H hm=>sb [0] F H rfl fun a F=>?_))
 refine nl (sq (cPm F rfl hm (fun hg47 hm=>?_) (fun hg47 hm=>?_)))
 refine sk (ct (sq (bl (sb [0,0] F H rfl fun a F=>nl (sq ?_)))))
 obtain ⟨x48,ex48,hm⟩:=ob hm
 obtain ⟨b49,o49,hp49,cs50,H⟩:=H.slE 0 rfl ex48
 obtain rfl:=H.rcB 1 rfl
 replace H:=H.dp 1 rfl
 obtain ⟨x51,ex51,hm⟩:=ob hm
 obtain ⟨b52,o52,hp52,cs53,H⟩:=H.slE 2 rfl ex51
 obtain rfl:=H.rcB 1 rfl
 replace H:=H.dp 1 rfl
 refine qr H (by kernel_rfl) (by kernel_rfl) ?_
 refine qb [0,0] F rfl fun a F=>qv F rfl (fun u hu=>y_idxS F elem25 rfl rfl rfl hp49 ex48) fun a F=>qbk [1000,0,0] F rfl ⟨rfl,plain5,trivial⟩ fun a F=>qv F rfl (fun u hu=>y_idxS F elem25 rfl rfl rfl hp52 ex51) fun a F=>qbk [0,0] F rfl ⟨rfl,plain5,trivial⟩ fun a F=>?_
 refine q_nil fun w H=>?_
 refine ct (cNm F rfl hm (fun hg54 hm=>?_) (fun hg54 hm=>?_))
 refine sb [0] F H rfl fun a F=>?_
 refine nl (wr (br (tr (tr ?_))));cases hm;refine ⟨_,rfl,?_⟩;rintro rfl
 refine br (tr ?_)
 replace hm:=elimR hm29
 refine tr ?_
 cases hm
 refine x_ret1 F rfl rfl ?_
 exact ⟨_,rfl,rfl,(H.pm 4 [] rfl:)⟩
 refine sk (bn (ct (rl (bb [0,0] F H rfl fun a F=>?_))))
 refine lz (ct ?_);cases hm
 exact ⟨_,rfl,⟨F.sl rfl,(H.pm 4 [2,3] rfl:)⟩⟩
 refine ex (cx (cx ?_));cases hm;refine ⟨_,rfl,?_⟩;rintro rfl
 refine ch (ct ?_)
 exact ⟨_,rfl,F.cut _ trivial,(H.pm 2 [] rfl:)⟩
 refine ct (sb [0] F H rfl fun a F=>nl (wr ?_))
 cases hm
 refine x_ret1 F rfl rfl ?_
 exact ⟨_,rfl,rfl,H⟩
theorem agz227:AggT Tryz.prog 227 3 ([.int .i64 (0),.slice none (([]:List T_api_Pair)).length 0,.slice none (([]:List T_api_Kid)).length 0]):=⟨by rw [Tryz.underlying227];rfl,by kernel_rfl,by kernel_rfl⟩
theorem ent26:En Tryz.prog 26:=enters Tryz.func26 (by kernel_rfl) rfl
theorem ent29:En Tryz.prog 29:=enters Tryz.func29 (by kernel_rfl) rfl
theorem zero61:Zero1 Tryz.prog 61 (.slice none 0 0):=⟨by kernel_rfl,rfl⟩
theorem ent149:En Tryz.prog 149:=enters Tryz.func149 (by kernel_rfl) rfl
theorem ent31:En Tryz.prog 31:=enters Tryz.func31 (by kernel_rfl) rfl
theorem w_ndRead {block:List UInt8} {p1:Option Addr} {c1:Nat} {w0 w:World} {l:List HP}  {r:T_api_Node×Int} (hm:ndRead block=some r) (H:St w0 w (HP.sl rByte p1 c1 block::l)) :
  Calls Tryz.prog 170 [.slice p1 (block).length c1].toArray w (fun e w'=>∃ v,e=.returned v∧∃ (p2:Option Addr) (c2:Nat) (p3:Option Addr) (c3:Nat),v=.tuple [.agg ([.int .i64 (r.1.1),.slice p2 (r.1.2.1).length c2,.slice p3 (r.1.2.2).length c3]).toArray,.int .i64 (r.2)].toArray∧St w0 w' (HP.nsl w0.heap.size (rP2N w0.heap.size) p2 c2 r.1.2.1::HP.sl R_api_Kid p3 c3 r.1.2.2::l)):=by
 unfold ndRead at hm
 refine x_enter Tryz.func170 rfl rfl rfl ?_
 intro a F
 refine sr ?_
 replace H:=H.owNil (rP2N w0.heap.size) 129
 replace H:=H.owNil R_api_Kid 223
 refine s_allocA wkP F rfl rfl rfl agz227 rfl H fun b4 w a H F=>bb [0] F H rfl fun a F=>?_
 replace H:=H.nf 4 rfl
 refine nb [0] F H rfl fun a F=>?_
 obtain ⟨x5,ex5,hm⟩:=ob hm
 refine sd F rfl ent26 (w_newEye ex5 (H.pm 4 [3,0,1,2,3] rfl:):) ?_;rintro _ w a ⟨b6,rfl,H⟩ F
 refine bb [0] F H rfl fun a F=>?_
 replace H:=H.nf 5 rfl
 refine nb [0] F H rfl fun a F=>?_
 obtain ⟨x7,ex7,hm⟩:=ob hm
 refine sd F rfl ent27 (w_eyeUint ex7 H:) ?_;rintro _ w a ⟨rfl,H⟩ F
 replace H:=H.nf 5 rfl
 refine nb [0] F H rfl fun a F=>?_
 obtain ⟨x8,ex8,hm⟩:=ob hm
 refine sd F rfl ent27 (w_eyeUint ex8 H:) ?_;rintro _ w a ⟨rfl,H⟩ F
 refine bb (List.replicate 5 0) F H rfl fun a F=>?_
 replace H:=H.nf 5 rfl
 refine nb [0] F H rfl fun a F=>?_
 obtain ⟨x9,ex9,hm⟩:=ob hm
 refine sd F rfl ent27 (w_eyeUint ex9 H:) ?_;rintro _ w a ⟨rfl,H⟩ F
 refine bb (List.replicate 5 0) F H rfl fun a F=>?_
 replace H:=H.nf 5 rfl
 refine nl (sr (bk [0,0] F H rfl ⟨Tryz.underlying22,Tryz.underlying3,trivial⟩ fun a F=>?_))
 replace H:=H.owNil (rP2N w0.heap.size) 129
 replace H:=H.owNil R_api_Kid 223
 refine sv F rfl (y_build F rfl rfl (cs:=[.int .i64 (IntKind.i64.wrap (x8.1)),.slice none (([]:List T_api_Pair)).length 0,.slice none (([]:List T_api_Kid)).length 0]) (by kernel_rfl)) fun a F=>?_
 replace H:=H.owNil (rP2N w0.heap.size) 129
 replace H:=H.owNil R_api_Kid 223
 refine s_allocA wkP F rfl rfl rfl agz227 rfl H fun b10 w a H F=>s_storeA wkP F rfl rfl agg227 rfl rfl rfl H 0 rfl rfl rfl (fl rfl) fun w H=>?_
 replace H:=H.nf 10 rfl
 refine nl (sq (sb [0,0] F H rfl fun a F=>?_))
 refine nl (xm2 10 [0,2,9] [1,2,3,6,7,8,9] F H hm rfl rfl (fun r72 (p73:Option Addr) (c73:Nat) z=>z) (fun r72 p73 c73 z=>HP.blk b10 ([.int .i64 (IntKind.i64.wrap (x8.1)),.slice p73 (r72.1).length c73,.slice none (([]:List T_api_Kid)).length 0]) 227::O_pack_Eye_1 b6 r72.2::HP.ow (rP2N w0.heap.size) 129 p73 c73 r72.1::z) (fun r72 hm=>?_) (fun r72 a w hm p73 c73 F H=>?_))
 refine bl ?_
 refine xl2 10 [0,2,4,5,9,36] [1,2,3,6,7,8,9] F H hm rfl rfl (fun (s114:(List T_api_Pair)×T_pack_Eye_o×Int) (p115:Option Addr) (c115:Nat) z=>(37,.int .u64 (s114.2.2))::z) (fun s114 p115 c115 z=>HP.blk b10 ([.int .i64 (IntKind.i64.wrap (x8.1)),.slice p115 (s114.1).length c115,.slice none (([]:List T_api_Kid)).length 0]) 227::O_pack_Eye_1 b6 s114.2.1::HP.ow (rP2N w0.heap.size) 129 p115 c115 s114.1::z) ⟨none,0,F.sl rfl,(H.pm 10 [0,5,4,1,2,3,6,7,8,9] rfl:)⟩ (fun s114 a w o p115 c115 F H hm=>?_)
 refine sb [0] F H rfl fun a F=>?_
 refine nl (sq (cPm F rfl hm (fun hg116 hm=>?_) (fun hg116 hm=>?_)))
 refine sk (ct (sq ?_))
 refine xm2 10 [0,2,4,5,9,36,37] [3,4,5,6,7,8,9] F H hm rfl rfl (fun r125 (p126:Option Addr) (c126:Nat) z=>z) (fun r125 p126 c126 z=>HP.blk b10 ([.int .i64 (IntKind.i64.wrap (x8.1)),.slice p126 (r125.1).length c126,.slice none (([]:List T_api_Kid)).length 0]) 227::O_pack_Eye_1 b6 r125.2::HP.ow (rP2N w0.heap.size) 129 p126 c126 r125.1::z) (fun r125 hm=>?_) (fun r125 a w hm p126 c126 F H=>?_)
 refine bl (sb [0] F H rfl fun a F=>?_)
 obtain ⟨x127,ex127,hm⟩:=ob hm
 refine sd F rfl ent29 (w_eyeText ex127 (H.pm 10 [1,0,2,3,4,5,6,7,8,9] rfl:):) ?_;rintro _ w a ⟨p128,c128,rfl,H⟩ F
 refine bb (List.replicate 5 0) F H rfl fun a F=>?_
 replace H:=H.nf 11 rfl
 refine nl (sq (sb [0,0] F H rfl fun a F=>?_))
 refine nl (cPm F rfl hm (fun hg129 hm=>?_) (fun hg129 hm=>?_))
 refine sb [0] F H rfl fun a F=>?_
 obtain ⟨x130,ex130,hm⟩:=ob hm
 refine sd F rfl ent29 (w_eyeText ex130 (H.pm 11 [1,0,2,3,4,5,6,7,8,9,10] rfl:):) ?_;rintro _ w a ⟨p131,c131,rfl,H⟩ F
 refine bb (List.replicate 5 0) F H rfl fun a F=>?_
 replace H:=H.nf 12 rfl
 refine nl (sr (bk [1,3001,0,0] F H rfl ⟨fld227_1,rfl,plain61,trivial⟩ fun a F=>sv F rfl (y_build F rfl rfl (cs:=[.slice p128 (x127.1).length c128,.slice p131 (x130.1).length c131]) (by kernel_rfl)) fun a F=>?_))
 replace H:=H.frzNB 2 rfl
 replace H:=H.nslSl 0 rfl
 replace H:=H.frzNB 2 rfl
 replace H:=H.nslSl 0 rfl
 refine s_build1 wkP F rfl rfl rfl agg129 elem61 rfl rfl rfl (by decide) H fun b132 w a H F=>?_
 replace H:=H.blkOw1 (R:=(rP2N w0.heap.size)) (x:=(x127.1,x130.1)) (fun gg=>⟨_,_,rfl,⟨_,_,rfl,(gg 4 _ rfl).choose_spec⟩,⟨_,_,rfl,(gg 2 _ rfl).choose_spec⟩⟩)
 replace H:=H.frzP2 0 rfl
 replace H:=H.nslSl 0 rfl
 obtain ⟨x134,ex134,hm⟩:=ob hm
 refine s_app wkP F rfl rfl rfl rfl rfl rfl elem61 rfl ex134 H 8 0 rfl rfl fun p133 c133 w a H F=>?_
 refine bk [1] F H rfl ⟨fld227_1,trivial⟩ fun a F=>s_st1 wkP F rfl rfl zero61 rfl rfl rfl rfl rfl H 7 rfl rfl fun w H=>?_
 replace H:=H.nf 16 rfl
 refine nl (ex (cx (ch ?_)))
 cases hm
 refine ct ?_
 exact ⟨p133,c133,F.sl rfl,(H.pm 16 [7,6,8,9,10,11,12,13,14,15] rfl:)⟩
 refine sk (ct ?_)
 cases hm
 refine ct (rl (bb [0,0] F H rfl fun a F=>?_))
 refine lz (ct ?_);cases hm
 exact ⟨_,rfl,⟨p126,c126,F.sl rfl,H⟩⟩
 refine ex (cx (cx ?_));cases hm;refine ⟨_,rfl,?_⟩;rintro rfl
 refine ch (ct ?_)
 exact ⟨p115,c115,F.sl rfl,H⟩
 refine ct (sq (sr (bk [999] F H rfl ⟨rfl,(aggn agg227 rfl),trivial⟩ fun a F=>?_)))
 replace H:=H.frzP2 2 rfl
 replace H:=H.nslSl 0 rfl
 replace H:=H.frz 6 rfl
 replace H:=H.slP2W 1 rfl
 replace H:=mk_api_Node H (IntKind.i64.wrap (x8.1)) 0 rfl 1 rfl
 obtain ⟨x135,ex135,hm⟩:=ob hm
 refine sd F rfl ent149 (w_ndWrite ex135 (H.pm 13 [0,0,1,2,3,4,5,6,7,8,9,10,11,12] rfl:):) ?_;rintro _ w a ⟨p136,c136,rfl,H⟩ F
 refine bb (List.replicate 5 0) F H rfl fun a F=>?_
 replace H:=H.nf 14 rfl
 refine nb [0,0,0] F H rfl fun a F=>?_
 rcases spN 84 F rfl hm with ⟨hg137,hm,F⟩ | ⟨hg137,hm,F⟩
 refine bb [0,0] F H rfl fun a F=>g_onP F rfl rfl rfl rfl ?_
 replace H:=H.frz 0 rfl
 obtain ⟨x138,ex138,hm⟩:=ob hm
 refine sd F rfl ent31 (w_equalB ex138 (H.pm 14 [0,13,0,1,2,3,4,5,6,7,8,9,10,11,12,13] rfl:):) ?_;rintro _ w a ⟨rfl,H⟩ F
 refine bb [0,0] F H rfl fun a F=>?_
 replace H:=H.nf 14 rfl
 refine nl (cB F rfl (fun hg139=>?_) (fun hg139=>?_))
 replace hm:=ifT hg139 hm
 cases hm
 replace hm:=ifF (nT hg139) hm
 refine sk (ct (sr (bk [6999] F H rfl ⟨rfl,(aggn agg227 rfl),trivial⟩ fun a F=>s_storeA wkP F rfl rfl agg227 rfl rfl rfl H 10 rfl rfl rfl (fl rfl) fun w H=>bb [0] F H rfl fun a F=>?_)))
 replace H:=H.nf 14 rfl
 refine nl (wr ?_)
 cases hm
 refine x_resC2 F rfl (⟨_,rfl,agg227.run_load (H.blk 10 rfl).row rfl⟩) rfl ?_
 exact ⟨_,rfl,p73,c73,none,0,rfl,(H.pm 14 [5,3] rfl:)⟩
 refine bb (List.replicate 5 0) F H rfl fun a F=>nl (cT F rfl ?_)
 cases hm
end Go.Proofs.YtapllcabobickaaGreatDoor
