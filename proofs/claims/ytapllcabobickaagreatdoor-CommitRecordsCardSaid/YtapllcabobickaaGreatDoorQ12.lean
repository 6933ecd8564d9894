/- Texts RefA. -/
import Derived.Test.YtapllcabobickaaGreatDoorQ11
set_option linter.unusedSimpArgs false
set_option linter.unusedVariables false
namespace Go.Proofs.YtapllcabobickaaGreatDoor
open Go.RowKit Go.Tri
set_option maxRecDepth 100000
set_option maxHeartbeats 4000000
theorem w_rUint {n:Int} {size:Int}  {w0 w:World} {l:List HP}  {r:(List UInt8)×Int} (hm:rUint n size=some r) (H:St w0 w (l)) :
  Calls Tryz.prog 56 [.int .u64 (n),.int .i64 (size)].toArray w (fun e w'=>∃ v,e=.returned v∧∃ (p1:Option Addr) (c1:Nat),v=.tuple [.slice p1 (r.1).length c1,.int .i64 (r.2)].toArray∧St w0 w' (HP.ow rByte 5 p1 c1 r.1::l)):=by
 unfold rUint at hm
 refine x_enter Tryz.func56 rfl rfl rfl ?_
 intro a F
 refine sb [0,0] F H rfl fun a F=>nl (sq (sb [0,0,0] F H rfl fun a F=>?_))
 rcases spP 11 F rfl hm with ⟨hg2,hm,F⟩ | ⟨hg2,hm,F⟩
 refine bb [0,0,0] F H rfl fun a F=>nl (cT F rfl (sr (s_build0O (R:=rByte) wkP F rfl rfl rfl elem25 rfl H fun b3 w a H F=>bb [0,0] F H rfl fun a F=>?_)))
 replace H:=H.nf 1 rfl
 refine nl (wr (tr ?_))
 cases hm
 refine x_ret2 F rfl rfl rfl ?_
 exact ⟨_,rfl,(some ⟨b3,0,none⟩),0,rfl,H⟩
 refine bb [0,0,0] F H rfl fun a F=>?_
 refine nl (cPm F rfl hm (fun hg4 hm=>?_) (fun hg4 hm=>?_))
 refine sr (s_build0O (R:=rByte) wkP F rfl rfl rfl elem25 rfl H fun b5 w a H F=>bb [0,0] F H rfl fun a F=>?_)
 replace H:=H.nf 1 rfl
 refine nl (wr (tr ?_))
 cases hm
 refine x_ret2 F rfl rfl rfl ?_
 exact ⟨_,rfl,(some ⟨b5,0,none⟩),0,rfl,H⟩
 refine sk (ct (sb [0] F H rfl fun a F=>?_))
 obtain ⟨x7,ex7,hm⟩:=ob hm
 refine s_mkO (R:=rByte) wkP F rfl rfl rfl elem25 rfl rfl rfl rfl rfl rfl (z:=(0:UInt8)) (fun _=>rfl) ex7 H fun b6 w a H F=>?_
 refine bb [0] F H rfl fun a F=>?_
 replace H:=H.nf 1 rfl
 refine nb [0,0] F H rfl fun a F=>nl (sq (sb [0] F H rfl fun a F=>?_))
 refine nl (xm2 1 [] [] F H hm rfl rfl (fun r33 (p34:Option Addr) (c34:Nat) z=>(6,.slice p34 (r33.1).length c34)::(7,.int .u64 (r33.2))::z) (fun r33 p34 c34 z=>HP.ow rByte 5 p34 c34 r33.1::z) (fun r33 hm=>?_) (fun r33 a w hm p34 c34 F H=>?_))
 refine bl (xl2 1 [1] [] F H hm rfl rfl (fun (s51:(List UInt8)×Int×Int) (p52:Option Addr) (c52:Nat) z=>(6,.slice p52 (s51.1).length c52)::(7,.int .u64 (s51.2.1))::(8,.int .i64 (s51.2.2))::z) (fun s51 p52 c52 z=>HP.ow rByte 5 p52 c52 s51.1::z) ⟨(some ⟨b6,0,none⟩),(x7).length,F.sl rfl,H⟩ (fun s51 a w o p52 c52 F H hm=>sq (sb [0,0,0] F H rfl fun a F=>?_)))
 refine nl (cPm F rfl hm (fun hg53 hm=>?_) (fun hg53 hm=>?_))
 refine sk (ct (sq (bl (sb (List.replicate 6 0) F H rfl fun a F=>?_))))
 obtain ⟨x54,ex54,hm⟩:=ob hm
 refine sv F rfl (i_rem F rfl rfl rfl ex54) fun a F=>bk [1] F H rfl ⟨Tryz.underlying22,Tryz.underlying5,trivial⟩ fun a F=>?_
 obtain ⟨x55,ex55,hm⟩:=ob hm
 obtain ⟨b56,hp56⟩:=H.owP 0 rfl (idxO_some ex55).2
 refine sv F rfl (y_idxS F elem25 rfl rfl rfl hp56 ex55) fun a F=>?_
 obtain ⟨x58,ex58,hm⟩:=ob hm
 refine s_owSet1 wkP F rfl rfl zero5 rfl rfl rfl rfl rfl rfl H 0 rfl hp56 ex55 (zz:=x58) (fun gg=>(congrArg (fun z=>[Value.int .u8 z]) (u8O_some ex58).symm)) fun w H=>?_
 replace H:St w0 w (HP.ow rByte 5 p52 c52 ((s51.1).set (IntKind.i64.wrap ((IntKind.i64.wrap (size - 1)) - s51.2.2):Int).toNat x58)::l):=(by have h:=H;first | exact h | (simp only [List.length_set] at h ⊢;exact h))
 replace F:=F.bool (k:=6) (u:=.slice p52 ((s51.1).set (IntKind.i64.wrap ((IntKind.i64.wrap (size - 1)) - s51.2.2):Int).toNat x58).length c52) rfl (by simp only [List.length_set])
 replace F:=F.bool (k:=24) (u:=.slice p52 ((s51.1).set (IntKind.i64.wrap ((IntKind.i64.wrap (size - 1)) - s51.2.2):Int).toNat x58).length c52) rfl (by simp only [List.length_set])
 refine nl (rl (bb [0] F H rfl fun a F=>?_))
 obtain ⟨x59,ex59,hm⟩:=ob hm
 refine sv F rfl (i_quo F rfl rfl rfl ex59) fun a F=>bb [0] F H rfl fun a F=>lz (bn (ct (rl (bb [0,0,0] F H rfl fun a F=>?_))))
 refine lz (ct ?_);cases hm
 exact ⟨_,rfl,⟨p52,c52,F.sl rfl,H⟩⟩
 refine ex (cx (cx ?_));cases hm;refine ⟨_,rfl,?_⟩;rintro rfl
 refine ch (ct ?_)
 exact ⟨p52,c52,F.sl rfl,H⟩
 refine ct (sq (sb [0,0] F H rfl fun a F=>?_))
 refine nl (cPm F rfl hm (fun hg60 hm=>?_) (fun hg60 hm=>?_))
 refine sr (s_build0O (R:=rByte) wkP F rfl rfl rfl elem25 rfl H fun b61 w a H F=>bb [0,0] F H rfl fun a F=>?_)
 replace H:=H.nf 2 rfl
 refine nl (wr (tr ?_))
 cases hm
 refine x_ret2 F rfl rfl rfl ?_
 exact ⟨_,rfl,(some ⟨b61,0,none⟩),0,rfl,(H.pm 2 [0] rfl:)⟩
 refine sk (ct (sb [0,0,0] F H rfl fun a F=>nl (wr ?_)))
 cases hm
 refine x_ret2 F rfl rfl rfl ?_
 exact ⟨_,rfl,p34,c34,rfl,H⟩
theorem ent56:En Tryz.prog 56:=enters Tryz.func56 (by kernel_rfl) rfl
theorem w_rText {b:List UInt8} {p1:Option Addr} {c1:Nat} {w0 w:World} {l:List HP}  {r:(List UInt8)×Int} (hm:rText b=some r) (H:St w0 w (HP.sl rByte p1 c1 b::l)) :
  Calls Tryz.prog 25 [.slice p1 (b).length c1].toArray w (fun e w'=>∃ v,e=.returned v∧∃ (p2:Option Addr) (c2:Nat),v=.tuple [.slice p2 (r.1).length c2,.int .i64 (r.2)].toArray∧St w0 w' (HP.ow rByte 5 p2 c2 r.1::l)):=by
 unfold rText at hm
 refine x_enter Tryz.func25 rfl rfl rfl ?_
 intro a F
 refine sb [0,0] F H rfl fun a F=>nl (sr (bk [0,0,2] F H rfl ⟨⟨_,Tryz.underlying25⟩,Tryz.underlying3,Tryz.underlying22,trivial⟩ fun a F=>?_))
 obtain ⟨x3,ex3,hm⟩:=ob hm
 refine sd F rfl ent56 (w_rUint ex3 H:) ?_;rintro _ w a ⟨p4,c4,rfl,H⟩ F
 refine bb (List.replicate 5 0) F H rfl fun a F=>?_
 replace H:=H.nf 2 rfl
 refine nl (sq (sb [0,0] F H rfl fun a F=>?_))
 refine nl (cNm F rfl hm (fun hg5 hm=>?_) (fun hg5 hm=>?_))
 refine sr (s_build0O (R:=rByte) wkP F rfl rfl rfl elem25 rfl H fun b6 w a H F=>bb [0,0] F H rfl fun a F=>?_)
 replace H:=H.nf 3 rfl
 refine nl (wr (tr ?_))
 cases hm
 refine x_ret2 F rfl rfl rfl ?_
 exact ⟨_,rfl,(some ⟨b6,0,none⟩),0,rfl,(H.pm 3 [0] rfl:)⟩
 refine sk (ct (sb [0,0] F H rfl fun a F=>?_))
 obtain ⟨x8,ex8,hm⟩:=ob hm
 refine s_app wkP F rfl rfl rfl rfl rfl rfl elem25 rfl ex8 H 0 1 rfl rfl fun p7 c7 w a H F=>?_
 refine bb [0,0] F H rfl fun a F=>?_
 replace H:=H.nf 2 rfl
 refine nl (wr ?_)
 cases hm
 refine x_ret2 F rfl rfl rfl ?_
 exact ⟨_,rfl,p7,c7,rfl,(H.pm 2 [0] rfl:)⟩
theorem w_m_triremeref02_Number {x0_:List UInt8} {p1:Option Addr} {c1:Nat} {w0 w:World} {l:List HP}  {r:Int} (hm:m_triremeref02_Number x0_=some r) (H:St w0 w (HP.sl rByte p1 c1 x0_::l)) :
  Calls Tryz.prog 32 [.slice p1 (x0_).length c1].toArray w (fun e w'=>∃ v,e=.returned v∧v=.int .u64 (r)∧St w0 w' (l)):=by
 unfold m_triremeref02_Number at hm
 refine x_enter Tryz.func32 rfl rfl rfl ?_
 intro a F
 refine sb [0] F H rfl fun a F=>nb [0] F H rfl fun a F=>nl (sq (sb [0] F H rfl fun a F=>?_))
 refine nl (xm0 1 [] [] F H hm rfl rfl (fun r15 z=>(3,.int .u64 (r15))::z) (fun r15 z=>z) (fun r15 hm=>?_) (fun r15 a w hm F H=>?_))
 refine bl (xl0 1 [0] [0] F H hm rfl rfl (fun (s24:Int×Int) z=>(3,.int .u64 (s24.1))::(4,.int .i64 (s24.2))::z) (fun s24 z=>z) ⟨F.sl rfl,H⟩ (fun s24 a w o F H hm=>sq (sr (bk [0,0,0,0] F H rfl ⟨⟨_,Tryz.underlying25⟩,trivial⟩ fun a F=>?_))))
 refine nl (cPm F rfl hm (fun hg25 hm=>?_) (fun hg25 hm=>?_))
 refine sk (ct (sq (bl (rl (bb [0,0,0,0] F H rfl fun a F=>?_)))))
 obtain ⟨x26,ex26,hm⟩:=ob hm
 obtain ⟨b27,o27,hp27,cs28,H⟩:=H.slE 0 rfl ex26
 obtain rfl:=H.rcB 1 rfl
 replace H:=H.dp 1 rfl
 refine sv F rfl (y_idxS F elem25 rfl rfl rfl hp27 ex26) fun a F=>bk [0,2,0,0] F H rfl ⟨rfl,plain5,Tryz.underlying5,Tryz.underlying22,trivial⟩ fun a F=>lz (bn (ct (rl (bb [0,0,0] F H rfl fun a F=>?_))))
 refine lz (ct ?_);cases hm
 exact ⟨_,rfl,⟨F.sl rfl,(H.pm 2 [1] rfl:)⟩⟩
 refine ex (cx (cx ?_));cases hm;refine ⟨_,rfl,?_⟩;rintro rfl
 refine ch (ct ?_)
 exact ⟨F.sl rfl,(H.pm 1 [] rfl:)⟩
 refine ct (sb [0,0] F H rfl fun a F=>nl (wr ?_))
 cases hm
 refine x_ret1 F rfl rfl ?_
 exact ⟨_,rfl,rfl,H⟩
theorem fld148_0:FieldT Tryz.prog 148 0 0:=by unfold FieldT;rw [Tryz.underlying148];kernel_rfl
theorem fld148_1:FieldT Tryz.prog 148 1 1:=by unfold FieldT;rw [Tryz.underlying148];kernel_rfl
theorem w_reRaw {ey:T_triremeref02_Eye_o} {n:Int} {bo0:Nat} {w0 w:World} {l:List HP}  {r:(List UInt8)×Int×T_triremeref02_Eye_o} (hm:reRaw ey n=some r) (H:St w0 w (O_triremeref02_Eye bo0 ey::l)) :
  Calls Tryz.prog 85 [.pointer (some ⟨bo0,0,none⟩),.int .i64 (n)].toArray w (fun e w'=>∃ v,e=.returned v∧∃ (p1:Option Addr) (c1:Nat),v=.tuple [.slice p1 (r.1).length c1,.int .i64 (r.2.1)].toArray∧St w0 w' (HP.sl rByte p1 c1 r.1::O_triremeref02_Eye bo0 r.2.2::l)):=by
 unfold reRaw at hm
 refine x_enter Tryz.func85 rfl rfl rfl ?_
 intro a F
 refine sb [0,0] F H rfl fun a F=>nl (sq (sb [0,0] F H rfl fun a F=>?_))
 refine nl (cPm F rfl hm (fun hg2 hm=>?_) (fun hg2 hm=>?_))
 refine sr (s_build0O (R:=rByte) wkP F rfl rfl rfl elem25 rfl H fun b3 w a H F=>bb [0,0] F H rfl fun a F=>?_)
 replace H:=H.nf 2 rfl
 refine nl (wr (tr ?_))
 replace H:=H.frz 0 rfl
 cases hm
 refine x_ret2 F rfl rfl rfl ?_
 exact ⟨_,rfl,(some ⟨b3,0,none⟩),0,rfl,H⟩
 refine sk (ct (sq (sq ?_)))
 obtain ⟨p4,c5,H⟩:=O_triremeref02_Eye_o (H.pk 0 rfl)
 refine qr H (by kernel_rfl) (by kernel_rfl) ?_
 refine qbk [0,0,0,0,0,0,0,0,1,1,0,0] F rfl ⟨fld148_0,rfl,plain25,⟨_,Tryz.underlying25⟩,fld148_1,rfl,plain3,trivial⟩ fun a F=>?_
 refine q_nil fun w H=>?_
 refine ct (cPm F rfl hm (fun hg6 hm=>?_) (fun hg6 hm=>?_))
 refine sr (s_build0O (R:=rByte) wkP F rfl rfl rfl elem25 rfl H fun b7 w a H F=>bb [0,0] F H rfl fun a F=>?_)
 replace H:=H.nf 3 rfl
 refine nl (wr (tr ?_))
 replace H:=H.frz 0 rfl
 replace H:=O_triremeref02_Eye_s (H.pm 3 [1,2,0,2] rfl:)
 cases hm
 refine x_ret2 F rfl rfl rfl ?_
 exact ⟨_,rfl,(some ⟨b7,0,none⟩),0,rfl,(H.pm 3 [1,0] rfl:)⟩
 refine sk (ct (sr (bk [0,0,1,1,0,0,0,1] F H rfl ⟨fld148_1,rfl,plain3,fld148_1,trivial⟩ fun a F=>s_st1 wkP F rfl rfl zero3 rfl rfl rfl rfl rfl H 0 rfl rfl fun w H=>?_)))
 replace H:=H.nf 2 rfl
 refine nl (sq ?_)
 obtain ⟨x9,ex9,hm⟩:=ob hm
 have hc8:=H.slCap 1 rfl
 replace H:=H.slSubN 1 rfl 1 rfl ex9
 refine mix_regionK [0,16] [] (scL [1,2,3,4,5,6,7,8,9,10,11,12,13,14,15,2000,2016,17,18]) [1] H rfl rfl (by kernel_rfl) (by kernel_rfl) fun w H=>?_
 refine mbk [0,0,0] F H rfl ⟨fld148_0,trivial⟩ fun a F=>?_
 refine m_pure F rfl rfl rfl rfl (fun u hu=>y_load1 F plain25 rfl rfl (row_at (v:=.slice p4 (ey.1).length c5) ((hu.choose_spec.blk 0 rfl).row) rfl)) fun a F=>?_
 refine mbk [0,0,1] F H rfl ⟨fld148_1,trivial⟩ fun a F=>?_
 refine m_pure F rfl rfl rfl rfl (fun u hu=>y_load1 F plain3 rfl rfl (row_at (v:=.int .i64 (IntKind.i64.wrap (ey.2+n))) ((hu.choose_spec.blk 0 rfl).row) rfl)) fun a F=>?_
 refine mbk [0,0,0,0,1] F H rfl ⟨fld148_1,trivial⟩ fun a F=>?_
 refine m_pure F rfl rfl rfl rfl (fun u hu=>y_load1 F plain3 rfl rfl (row_at (v:=.int .i64 (IntKind.i64.wrap (ey.2+n))) ((hu.choose_spec.blk 0 rfl).row) rfl)) fun a F=>?_
 refine m_pure F rfl rfl rfl rfl (fun u hu=>y_slLH F elem25 rfl rfl rfl rfl ex9 hc8) fun a F=>?_
 refine m_heavy rfl rfl (s_build0O (R:=rByte) wkP F rfl rfl rfl elem25 rfl H fun b10 w a H F=>?_)
 refine lz ?_;refine ct ⟨⟨_,(H.pm 4 [2,0,1,3] rfl:)⟩,?_⟩
 refine m_heavy rfl rfl ?_
 obtain ⟨x12,ex12,hm⟩:=ob hm
 refine s_app wkP F rfl rfl rfl rfl rfl rfl elem25 rfl ex12 H 0 1 rfl rfl fun p11 c11 w a H F=>?_
 refine lz ?_;refine ct ⟨⟨_,(H.pm 4 [2,0,1,3] rfl:)⟩,?_⟩
 refine mb [0,0] F H rfl fun a F=>m_nil (ct (wr ?_))
 replace H:=H.frz 0 rfl
 replace H:=O_triremeref02_Eye_s (H.pm 4 [2,3,0,1,3] rfl:)
 cases hm
 refine x_ret2 F rfl rfl rfl ?_
 exact ⟨_,rfl,p11,c11,rfl,(H.pm 4 [1,0] rfl:)⟩
theorem ent85:En Tryz.prog 85:=enters Tryz.func85 (by kernel_rfl) rfl
theorem ent32:En Tryz.prog 32:=enters Tryz.func32 (by kernel_rfl) rfl
theorem w_reUint {ey:T_triremeref02_Eye_o} {n:Int} {bo0:Nat} {w0 w:World} {l:List HP}  {r:Int×Int×T_triremeref02_Eye_o} (hm:reUint ey n=some r) (H:St w0 w (O_triremeref02_Eye bo0 ey::l)) :
  Calls Tryz.prog 62 [.pointer (some ⟨bo0,0,none⟩),.int .i64 (n)].toArray w (fun e w'=>∃ v,e=.returned v∧v=.tuple [.int .u64 (r.1),.int .i64 (r.2.1)].toArray∧St w0 w' (O_triremeref02_Eye bo0 r.2.2::l)):=by
 unfold reUint at hm
 refine x_enter Tryz.func62 rfl rfl rfl ?_
 intro a F
 refine sb [0,0] F H rfl fun a F=>nl (sq (sb [0,0,0] F H rfl fun a F=>?_))
 rcases spP 10 F rfl hm with ⟨hg1,hm,F⟩ | ⟨hg1,hm,F⟩
 refine bb [0,0,0] F H rfl fun a F=>nl (cT F rfl (sb [0,0] F H rfl fun a F=>nl (wr (tr ?_))))
 cases hm
 refine x_ret2 F rfl rfl rfl ?_
 exact ⟨_,rfl,rfl,H⟩
 refine bb [0,0,0] F H rfl fun a F=>?_
 refine nl (cPm F rfl hm (fun hg2 hm=>?_) (fun hg2 hm=>?_))
 refine sb [0,0] F H rfl fun a F=>nl (wr (tr ?_))
 cases hm
 refine x_ret2 F rfl rfl rfl ?_
 exact ⟨_,rfl,rfl,H⟩
 refine sk (ct (sb [0,0] F H rfl fun a F=>?_))
 obtain ⟨x3,ex3,hm⟩:=ob hm
 refine sd F rfl ent85 (w_reRaw ex3 H:) ?_;rintro _ w a ⟨p4,c4,rfl,H⟩ F
 refine bb (List.replicate 5 0) F H rfl fun a F=>?_
 replace H:=H.nf 2 rfl
 refine nb [0] F H rfl fun a F=>?_
 obtain ⟨x5,ex5,hm⟩:=ob hm
 refine sd F rfl ent32 (w_m_triremeref02_Number ex5 (H.pm 2 [0,0,1] rfl:):) ?_;rintro _ w a ⟨rfl,H⟩ F
 refine bb [0,0,0] F H rfl fun a F=>?_
 replace H:=H.nf 2 rfl
 refine nl (wr ?_)
 cases hm
 refine x_ret2 F rfl rfl rfl ?_
 exact ⟨_,rfl,rfl,(H.pm 2 [1] rfl:)⟩
theorem w_reText {ey:T_triremeref02_Eye_o} {bo0:Nat} {w0 w:World} {l:List HP}  {r:(List UInt8)×Int×T_triremeref02_Eye_o} (hm:reText ey=some r) (H:St w0 w (O_triremeref02_Eye bo0 ey::l)) :
  Calls Tryz.prog 63 [.pointer (some ⟨bo0,0,none⟩)].toArray w (fun e w'=>∃ v,e=.returned v∧∃ (p1:Option Addr) (c1:Nat),v=.tuple [.slice p1 (r.1).length c1,.int .i64 (r.2.1)].toArray∧St w0 w' (HP.sl rByte p1 c1 r.1::O_triremeref02_Eye bo0 r.2.2::l)):=by
 unfold reText at hm
 refine x_enter Tryz.func63 rfl rfl rfl ?_
 intro a F
 refine sb [0,0] F H rfl fun a F=>nl (sq (sq ?_))
 obtain ⟨p2,c3,H⟩:=O_triremeref02_Eye_o (H.pk 0 rfl)
 refine qr H (by kernel_rfl) (by kernel_rfl) ?_
 refine qbk [0,0,0,0,0,0,0,1,1,0,0] F rfl ⟨fld148_0,rfl,plain25,⟨_,Tryz.underlying25⟩,fld148_1,rfl,plain3,trivial⟩ fun a F=>?_
 refine q_nil fun w H=>?_
 refine ct (cPm F rfl hm (fun hg4 hm=>?_) (fun hg4 hm=>?_))
 refine sr (s_build0O (R:=rByte) wkP F rfl rfl rfl elem25 rfl H fun b5 w a H F=>bb [0,0] F H rfl fun a F=>?_)
 replace H:=H.nf 3 rfl
 refine nl (wr (tr ?_))
 replace H:=H.frz 0 rfl
 replace H:=O_triremeref02_Eye_s (H.pm 3 [1,2,0,2] rfl:)
 cases hm
 refine x_ret2 F rfl rfl rfl ?_
 exact ⟨_,rfl,(some ⟨b5,0,none⟩),0,rfl,(H.pm 3 [1,0] rfl:)⟩
 refine sk (ct (sq ?_))
 obtain ⟨x7,ex7,hm⟩:=ob hm
 have hc6:=H.slCap 1 rfl
 replace H:=H.slSubN 1 rfl 1 rfl ex7
 obtain ⟨x8,ex8,hm⟩:=ob hm
 refine qr H (by kernel_rfl) (by kernel_rfl) ?_
 refine qbk [0,0,0,1000,0,0,1,1001,0,0,1,1001,0] F rfl ⟨fld148_0,rfl,plain25,fld148_1,rfl,plain3,fld148_1,rfl,plain3,trivial⟩ fun a F=>qv F rfl (fun u hu=>y_slLH F elem25 rfl rfl rfl rfl ex7 hc6) fun a F=>?_
 refine q_call F rfl rfl rfl (fun u hu=>y_call F rfl rfl ent32) (fun u hu=>(w_m_triremeref02_Number ex8 (hu.pm 3 [0,0,1,2] rfl:)).mono fun e u2 he=>by obtain ⟨v,rfl,rfl,H⟩:=he;exact ⟨rfl,H⟩) fun a F=>?_
 refine qbk [0,0] F rfl ⟨Tryz.underlying22,Tryz.underlying3,trivial⟩ fun a F=>?_
 refine q_nil fun w H=>?_
 refine ct (sq (sq (qr H (by kernel_rfl) (by kernel_rfl) (qbk [0,0,0,0,1000,0,0,0,1,1001,0,0,0] F rfl ⟨fld148_0,rfl,plain25,⟨_,Tryz.underlying25⟩,fld148_1,rfl,plain3,trivial⟩ fun a F=>?_))))
 refine q_nil fun w H=>?_
 refine ct (cPm F rfl hm (fun hg9 hm=>?_) (fun hg9 hm=>?_))
 refine sr (s_build0O (R:=rByte) wkP F rfl rfl rfl elem25 rfl H fun b10 w a H F=>bb [0,0] F H rfl fun a F=>?_)
 replace H:=H.nf 4 rfl
 refine nl (wr (tr ?_))
 replace H:=H.frz 0 rfl
 replace H:=O_triremeref02_Eye_s (H.pm 4 [2,3,0,1,3] rfl:)
 cases hm
 refine x_ret2 F rfl rfl rfl ?_
 exact ⟨_,rfl,(some ⟨b10,0,none⟩),0,rfl,(H.pm 4 [1,0] rfl:)⟩
 refine sk (ct (sr (bk [0,0,1,1001,0,0,1] F H rfl ⟨fld148_1,rfl,plain3,fld148_1,trivial⟩ fun a F=>s_st1 wkP F rfl rfl zero3 rfl rfl rfl rfl rfl H 1 rfl rfl fun w H=>?_)))
 replace H:=H.nf 3 rfl
 refine nb [0,0] F H rfl fun a F=>?_
 replace H:=O_triremeref02_Eye_s (H.pm 3 [1,2,0,2] rfl:)
 obtain ⟨x11,ex11,hm⟩:=ob hm
 refine sd F rfl ent85 (w_reRaw ex11 H:) ?_;rintro _ w a ⟨p12,c12,rfl,H⟩ F
 refine bb [0,0,0,0] F H rfl fun a F=>?_
 replace H:=H.nf 4 rfl
 refine nl (wr ?_)
 cases hm
 refine x_ret2 F rfl rfl rfl ?_
 exact ⟨_,rfl,p12,c12,rfl,(H.pm 4 [0,1] rfl:)⟩
theorem w_reEnd {ey:T_triremeref02_Eye_o} {bo0:Nat} {w0 w:World} {l:List HP}  {r:Int} (hm:reEnd ey=some r) (H:St w0 w (O_triremeref02_Eye bo0 ey::l)) :
  Calls Tryz.prog 64 [.pointer (some ⟨bo0,0,none⟩)].toArray w (fun e w'=>∃ v,e=.returned v∧v=.int .i64 (r)∧St w0 w' (O_triremeref02_Eye bo0 ey::l)):=by
 unfold reEnd at hm
 refine x_enter Tryz.func64 rfl rfl rfl ?_
 intro a F
 refine sb [0] F H rfl fun a F=>nl (sq (sq ?_))
 obtain ⟨p1,c2,H⟩:=O_triremeref02_Eye_o (H.pk 0 rfl)
 refine qr H (by kernel_rfl) (by kernel_rfl) ?_
 refine qbk [0,0,1,1,0,0,0,0,0,0] F rfl ⟨fld148_1,rfl,plain3,fld148_0,rfl,plain25,⟨_,Tryz.underlying25⟩,trivial⟩ fun a F=>?_
 refine q_nil fun w H=>?_
 refine ct (cPm F rfl hm (fun hg3 hm=>?_) (fun hg3 hm=>?_))
 refine sb [0] F H rfl fun a F=>nl (wr (tr ?_))
 replace H:=O_triremeref02_Eye_s (H.pm 2 [0,1,1] rfl:)
 cases hm
 refine x_ret1 F rfl rfl ?_
 exact ⟨_,rfl,rfl,(H.pm 2 [0] rfl:)⟩
 refine sk (ct (sb [0] F H rfl fun a F=>nl (wr ?_)))
 replace H:=O_triremeref02_Eye_s (H.pm 2 [0,1,1] rfl:)
 cases hm
 refine x_ret1 F rfl rfl ?_
 exact ⟨_,rfl,rfl,(H.pm 2 [0] rfl:)⟩
theorem w_rGreatOp {o:T_api_Op} {cs1:List Value} {w0 w:World} {l:List HP}  {r:Bool} (hm:rGreatOp o=some r) (H:St w0 w (HP.rc R_api_Op cs1 o::l)) :
  Calls Tryz.prog 6 [.agg cs1.toArray].toArray w (fun e w'=>∃ v,e=.returned v∧v=.bool (r)∧St w0 w' (l)):=by
 unfold rGreatOp at hm
 refine x_enter Tryz.func6 rfl rfl rfl ?_
 intro a F
 refine sr (s_boxA wkP F rfl rfl rfl rfl rfl H fun b2 w a H F=>bb [0] F H rfl fun a F=>?_)
 replace H:=H.nf 2 rfl
 refine nl (sr (bk [1] F H rfl ⟨fld27_1,trivial⟩ fun a F=>?_))
 have G:=F;replace H:=rc_api_Op (H.pk 1 rfl);obtain ⟨p3,c4,rfl,J⟩:=H;have H:=J;have F:=G;clear G J
 refine bk [1001] F H rfl ⟨rfl,plain9,trivial⟩ fun a F=>sv F rfl (y_lenT (l:=o.2.1) F rfl Tryz.underlying9 rfl) fun a F=>bb [0,0] F H rfl fun a F=>?_
 rcases spP 7 F rfl hm with ⟨hg5,hm,F⟩ | ⟨hg5,hm,F⟩
 refine bb (List.replicate 12 0) F H rfl fun a F=>nl (wr ?_)
 cases hm
 refine x_ret1 F rfl rfl ?_
 exact ⟨_,rfl,rfl,(H.pm 2 [] rfl:)⟩
 refine bk [2,1002] F H rfl ⟨fld27_2,rfl,plain9,trivial⟩ fun a F=>g_onP F rfl rfl rfl rfl (sv F rfl (y_lenT (l:=o.2.2.1) F rfl Tryz.underlying9 rfl) fun a F=>bb [0,0,0] F H rfl fun a F=>?_)
 rcases spP 13 F rfl hm with ⟨hg6,hm,F⟩ | ⟨hg6,hm,F⟩
 refine bb (List.replicate 6 0) F H rfl fun a F=>nl (wr ?_)
 cases hm
 refine x_ret1 F rfl rfl ?_
 exact ⟨_,rfl,rfl,(H.pm 2 [] rfl:)⟩
 refine bk [5,1005,0,0,0,0] F H rfl ⟨fld27_5,rfl,plain25,⟨_,Tryz.underlying25⟩,trivial⟩ fun a F=>nl (wr ?_)
 cases hm
 refine x_ret1 F rfl rfl ?_
 exact ⟨_,rfl,rfl,(H.pm 2 [] rfl:)⟩
theorem w_rSameOp {a_:T_api_Op} {b_:T_api_Op} {cs1:List Value} {cs2:List Value} {w0 w:World} {l:List HP}  {r:Bool} (hm:rSameOp a_ b_=some r) (H:St w0 w (HP.rc R_api_Op cs1 a_::HP.rc R_api_Op cs2 b_::l)) :
  Calls Tryz.prog 54 [.agg cs1.toArray,.agg cs2.toArray].toArray w (fun e w'=>∃ v,e=.returned v∧v=.bool (r)∧St w0 w' (l)):=by
 unfold rSameOp at hm
 refine x_enter Tryz.func54 rfl rfl rfl ?_
 intro a F
 refine sr (s_boxA wkP F rfl rfl rfl rfl rfl H fun b3 w a H F=>s_boxA wkP F rfl rfl rfl rfl rfl H fun b4 w a H F=>bb [0] F H rfl fun a F=>?_)
 replace H:=H.nf 4 rfl
 refine nl (sr (bk [0] F H rfl ⟨fld27_0,trivial⟩ fun a F=>?_))
 have G:=F;replace H:=rc_api_Op (H.pk 2 rfl);obtain ⟨p5,c6,rfl,J⟩:=H;have H:=J;have F:=G;clear G J
 refine bk [2000,0] F H rfl ⟨rfl,plain3,fld27_0,trivial⟩ fun a F=>?_
 have G:=F;replace H:=rc_api_Op (H.pk 3 rfl);obtain ⟨p7,c8,rfl,J⟩:=H;have H:=J;have F:=G;clear G J
 refine bk [2000,0,0] F H rfl ⟨rfl,plain3,trivial⟩ fun a F=>?_
 rcases spP 10 F rfl hm with ⟨hg9,hm,F⟩ | ⟨hg9,hm,F⟩
 refine bk [1,3001,1,2001] F H rfl ⟨fld27_1,rfl,plain9,fld27_1,rfl,plain9,trivial⟩ fun a F=>g_onP F rfl rfl rfl rfl (sv F rfl (y_eqT (l:=a_.2.1) (m:=b_.2.1) F rfl rfl rfl) fun a F=>bb [0,0] F H rfl fun a F=>?_)
 rcases spP 17 F rfl hm with ⟨hg10,hm,F⟩ | ⟨hg10,hm,F⟩
 refine bk [2,3002,2,2002] F H rfl ⟨fld27_2,rfl,plain9,fld27_2,rfl,plain9,trivial⟩ fun a F=>g_onP F rfl rfl rfl rfl (sv F rfl (y_eqT (l:=a_.2.2.1) (m:=b_.2.2.1) F rfl rfl rfl) fun a F=>bb [0,0] F H rfl fun a F=>?_)
 rcases spP 24 F rfl hm with ⟨hg11,hm,F⟩ | ⟨hg11,hm,F⟩
 refine bk [3,3003,3,2003,0,0,0] F H rfl ⟨fld27_3,rfl,plain3,fld27_3,rfl,plain3,trivial⟩ fun a F=>?_
 rcases spP 31 F rfl hm with ⟨hg12,hm,F⟩ | ⟨hg12,hm,F⟩
 refine bk [4,3004,4,2004,0,0,0] F H rfl ⟨fld27_4,rfl,plain3,fld27_4,rfl,plain3,trivial⟩ fun a F=>?_
 rcases spP 38 F rfl hm with ⟨hg13,hm,F⟩ | ⟨hg13,hm,F⟩
 refine bk [5,3005] F H rfl ⟨fld27_5,rfl,plain25,trivial⟩ fun a F=>g_onP F rfl rfl rfl rfl (sv F rfl (y_b2s F Tryz.underlying25 Tryz.underlying9 Tryz.underlying5 rfl rfl (H) 1 rfl) fun a F=>bk [5,2005] F H rfl ⟨fld27_5,rfl,plain25,trivial⟩ fun a F=>g_onP F rfl rfl rfl rfl (sv F rfl (y_b2s F Tryz.underlying25 Tryz.underlying9 Tryz.underlying5 rfl rfl (H) 0 rfl) fun a F=>g_onP F rfl rfl rfl rfl (sv F rfl (y_eqT (l:=a_.2.2.2.2.2) (m:=b_.2.2.2.2.2) F rfl rfl rfl) fun a F=>bb [0,0] F H rfl fun a F=>nl (wr ?_))))
 cases hm
 refine x_ret1 F rfl rfl ?_
 exact ⟨_,rfl,rfl,(H.pm 4 [] rfl:)⟩
 refine bb (List.replicate 9 0) F H rfl fun a F=>nl (wr ?_)
 cases hm
 refine x_ret1 F rfl rfl ?_
 exact ⟨_,rfl,rfl,(H.pm 4 [] rfl:)⟩
 refine bb (List.replicate 16 0) F H rfl fun a F=>nl (wr ?_)
 cases hm
 refine x_ret1 F rfl rfl ?_
 exact ⟨_,rfl,rfl,(H.pm 4 [] rfl:)⟩
 refine bb (List.replicate 23 0) F H rfl fun a F=>nl (wr ?_)
 cases hm
 refine x_ret1 F rfl rfl ?_
 exact ⟨_,rfl,rfl,(H.pm 4 [] rfl:)⟩
 refine bb (List.replicate 30 0) F H rfl fun a F=>nl (wr ?_)
 cases hm
 refine x_ret1 F rfl rfl ?_
 exact ⟨_,rfl,rfl,(H.pm 4 [] rfl:)⟩
 refine bb (List.replicate 37 0) F H rfl fun a F=>nl (wr ?_)
 cases hm
 refine x_ret1 F rfl rfl ?_
 exact ⟨_,rfl,rfl,(H.pm 4 [] rfl:)⟩
theorem w_rTwo {n:Int}  {w0 w:World} {l:List HP}  {r:(List UInt8)} (hm:rTwo n=some r) (H:St w0 w (l)) :
  Calls Tryz.prog 57 [.int .i64 (n)].toArray w (fun e w'=>∃ v,e=.returned v∧∃ (p1:Option Addr) (c1:Nat),v=.slice p1 (r).length c1∧St w0 w' (HP.ow rByte 5 p1 c1 r::l)):=by
 unfold rTwo at hm
 refine x_enter Tryz.func57 rfl rfl rfl ?_
 intro a F
 refine sb [0] F H rfl fun a F=>nb [0] F H rfl fun a F=>?_
 obtain ⟨x2,ex2,hm⟩:=ob hm
 refine sv F rfl (i_quo F rfl rfl rfl ex2) fun a F=>bk [1,0] F H rfl ⟨Tryz.underlying3,Tryz.underlying5,trivial⟩ fun a F=>?_
 obtain ⟨x3,ex3,hm⟩:=ob hm
 refine sv F rfl (i_rem F rfl rfl rfl ex3) fun a F=>bk [1] F H rfl ⟨Tryz.underlying3,Tryz.underlying5,trivial⟩ fun a F=>?_
 obtain ⟨x5,ex5,hm⟩:=ob hm
 obtain ⟨x6,ex6,hm⟩:=ob hm
 refine s_buildC wkP F rfl rfl rfl elem25 zero5 rfl rfl rfl rfl (by simp [Value.cells]) (by decide) H fun b4 w a H F=>?_
 replace H:St w0 w (HP.ow rByte 5 (some ⟨b4,0,none⟩) (([x5,x6]).length) ([x5,x6])::l):=H.blkOw (R:=rByte) 0 rfl (fun gg=>⟨[[.int .u8 (IntKind.u8.wrap (x2))],[.int .u8 (IntKind.u8.wrap (x3))]],rfl,(congrArg (fun z=>[Value.int .u8 z]) (u8O_some ex5).symm),(congrArg (fun z=>[Value.int .u8 z]) (u8O_some ex6).symm),trivial⟩) (by simp)
 refine bb [0] F H rfl fun a F=>nl (wr ?_)
 cases hm
 refine x_ret1 F rfl rfl ?_
 exact ⟨_,rfl,(some ⟨b4,0,none⟩),([x5,x6]).length,rfl,H⟩
theorem ent25:En Tryz.prog 25:=enters Tryz.func25 (by kernel_rfl) rfl
theorem w_rTextS {s:List UInt8} {p1:Option Addr} {c1:Nat} {w0 w:World} {l:List HP}  {r:(List UInt8)} (hm:rTextS s=some r) (H:St w0 w (HP.sl rByte p1 c1 s::l)) :
  Calls Tryz.prog 58 [.slice p1 (s).length c1].toArray w (fun e w'=>∃ v,e=.returned v∧∃ (p2:Option Addr) (c2:Nat),v=.slice p2 (r).length c2∧St w0 w' (HP.ow rByte 5 p2 c2 r::l)):=by
 unfold rTextS at hm
 refine x_enter Tryz.func58 rfl rfl rfl ?_
 intro a F
 refine sb [0] F H rfl fun a F=>nb [0] F H rfl fun a F=>?_
 obtain ⟨x3,ex3,hm⟩:=ob hm
 refine sd F rfl ent25 (w_rText ex3 (H.pm 1 [0,0] rfl:):) ?_;rintro _ w a ⟨p4,c4,rfl,H⟩ F
 refine bb (List.replicate 5 0) F H rfl fun a F=>?_
 replace H:=H.nf 2 rfl
 refine nb [0,0] F H rfl fun a F=>nl (wr ?_)
 cases hm
 refine x_ret1 F rfl rfl ?_
 exact ⟨_,rfl,p4,c4,rfl,(H.pm 2 [0] rfl:)⟩
theorem w_m_triremeref10_Right {x0_:T_api_Op} {cs1:List Value} {w0 w:World} {l:List HP}  {r:Bool} (hm:m_triremeref10_Right x0_=some r) (H:St w0 w (HP.rc R_api_Op cs1 x0_::l)) :
  Calls Tryz.prog 55 [.agg cs1.toArray].toArray w (fun e w'=>∃ v,e=.returned v∧v=.bool (r)∧St w0 w' (l)):=by
 unfold m_triremeref10_Right at hm
 refine x_enter Tryz.func55 rfl rfl rfl ?_
 intro a F
 refine sr (s_boxA wkP F rfl rfl rfl rfl rfl H fun b2 w a H F=>bb [0] F H rfl fun a F=>?_)
 replace H:=H.nf 2 rfl
 refine nl (sr (bk [0] F H rfl ⟨fld27_0,trivial⟩ fun a F=>?_))
 have G:=F;replace H:=rc_api_Op (H.pk 1 rfl);obtain ⟨p3,c4,rfl,J⟩:=H;have H:=J;have F:=G;clear G J
 refine bk [1000,0,0] F H rfl ⟨rfl,plain3,trivial⟩ fun a F=>?_
 rcases spP 6 F rfl hm with ⟨hg5,hm,F⟩ | ⟨hg5,hm,F⟩
 refine bk [0,1000,0,0,0] F H rfl ⟨fld27_0,rfl,plain3,trivial⟩ fun a F=>?_
 rcases spP 11 F rfl hm with ⟨hg6,hm,F⟩ | ⟨hg6,hm,F⟩
 refine bk [1,1001] F H rfl ⟨fld27_1,rfl,plain9,trivial⟩ fun a F=>g_onP F rfl rfl rfl rfl (sv F rfl (y_lenT (l:=x0_.2.1) F rfl Tryz.underlying9 rfl) fun a F=>bb [0,0,0] F H rfl fun a F=>?_)
 rcases spP 17 F rfl hm with ⟨hg7,hm,F⟩ | ⟨hg7,hm,F⟩
 refine bk [2,1002] F H rfl ⟨fld27_2,rfl,plain9,trivial⟩ fun a F=>g_onP F rfl rfl rfl rfl (sv F rfl (y_lenT (l:=x0_.2.2.1) F rfl Tryz.underlying9 rfl) fun a F=>bb [0,0,0] F H rfl fun a F=>?_)
 rcases spP 23 F rfl hm with ⟨hg8,hm,F⟩ | ⟨hg8,hm,F⟩
 refine bk [3,1003,0,0,0] F H rfl ⟨fld27_3,rfl,plain3,trivial⟩ fun a F=>?_
 rcases spP 28 F rfl hm with ⟨hg9,hm,F⟩ | ⟨hg9,hm,F⟩
 refine bk [3,1003,0,0,0] F H rfl ⟨fld27_3,rfl,plain3,trivial⟩ fun a F=>?_
 rcases spP 33 F rfl hm with ⟨hg10,hm,F⟩ | ⟨hg10,hm,F⟩
 refine bk [4,1004,0,0,0] F H rfl ⟨fld27_4,rfl,plain3,trivial⟩ fun a F=>?_
 rcases spP 38 F rfl hm with ⟨hg11,hm,F⟩ | ⟨hg11,hm,F⟩
 refine bk [4,1004,0,0,0] F H rfl ⟨fld27_4,rfl,plain3,trivial⟩ fun a F=>?_
 rcases spP 43 F rfl hm with ⟨hg12,hm,F⟩ | ⟨hg12,hm,F⟩
 refine bk [5,1005,0,0,0,0] F H rfl ⟨fld27_5,rfl,plain25,⟨_,Tryz.underlying25⟩,trivial⟩ fun a F=>nl (wr ?_)
 cases hm
 refine x_ret1 F rfl rfl ?_
 exact ⟨_,rfl,rfl,(H.pm 2 [] rfl:)⟩
 refine bb (List.replicate 6 0) F H rfl fun a F=>nl (wr ?_)
 cases hm
 refine x_ret1 F rfl rfl ?_
 exact ⟨_,rfl,rfl,(H.pm 2 [] rfl:)⟩
 refine bb (List.replicate 11 0) F H rfl fun a F=>nl (wr ?_)
 cases hm
 refine x_ret1 F rfl rfl ?_
 exact ⟨_,rfl,rfl,(H.pm 2 [] rfl:)⟩
 refine bb (List.replicate 16 0) F H rfl fun a F=>nl (wr ?_)
 cases hm
 refine x_ret1 F rfl rfl ?_
 exact ⟨_,rfl,rfl,(H.pm 2 [] rfl:)⟩
 refine bb (List.replicate 21 0) F H rfl fun a F=>nl (wr ?_)
 cases hm
 refine x_ret1 F rfl rfl ?_
 exact ⟨_,rfl,rfl,(H.pm 2 [] rfl:)⟩
 refine bb (List.replicate 26 0) F H rfl fun a F=>nl (wr ?_)
 cases hm
 refine x_ret1 F rfl rfl ?_
 exact ⟨_,rfl,rfl,(H.pm 2 [] rfl:)⟩
 refine bb (List.replicate 32 0) F H rfl fun a F=>nl (wr ?_)
 cases hm
 refine x_ret1 F rfl rfl ?_
 exact ⟨_,rfl,rfl,(H.pm 2 [] rfl:)⟩
 refine bb (List.replicate 38 0) F H rfl fun a F=>nl (wr ?_)
 cases hm
 refine x_ret1 F rfl rfl ?_
 exact ⟨_,rfl,rfl,(H.pm 2 [] rfl:)⟩
 refine bb (List.replicate 43 0) F H rfl fun a F=>nl (wr ?_)
 cases hm
 refine x_ret1 F rfl rfl ?_
 exact ⟨_,rfl,rfl,(H.pm 2 [] rfl:)⟩
theorem ent55:En Tryz.prog 55:=enters Tryz.func55 (by kernel_rfl) rfl
theorem ent57:En Tryz.prog 57:=enters Tryz.func57 (by kernel_rfl) rfl
theorem ent58:En Tryz.prog 58:=enters Tryz.func58 (by kernel_rfl) rfl
theorem w_m_triremeref10_Write {x0_:T_api_Op} {cs1:List Value} {w0 w:World} {l:List HP}  {r:(List UInt8)×Int} (hm:m_triremeref10_Write x0_=some r) (H:St w0 w (HP.rc R_api_Op cs1 x0_::l)) :
  Calls Tryz.prog 24 [.agg cs1.toArray].toArray w (fun e w'=>∃ v,e=.returned v∧∃ (p2:Option Addr) (c2:Nat),v=.tuple [.slice p2 (r.1).length c2,.int .i64 (r.2)].toArray∧St w0 w' (HP.sl rByte p2 c2 r.1::l)):=by
 unfold m_triremeref10_Write at hm
 refine x_enter Tryz.func24 rfl rfl rfl ?_
 intro a F
 refine sr (s_boxA wkP F rfl rfl rfl rfl rfl H fun b3 w a H F=>bb [0,0] F H rfl fun a F=>?_)
 replace H:=H.nf 2 rfl
 refine nl (sq (sr (bk [999] F H rfl ⟨rfl,(aggn agg27 (H.rcLen 1 rfl)),trivial⟩ fun a F=>?_)))
 obtain ⟨x4,ex4,hm⟩:=ob hm
 refine sd F rfl ent55 (w_m_triremeref10_Right ex4 (H.pm 2 [1,0,1] rfl:):) ?_;rintro _ w a ⟨rfl,H⟩ F
 refine bb [0] F H rfl fun a F=>?_
 replace H:=H.nf 2 rfl
 refine nl (cB F rfl (fun hg5=>?_) (fun hg5=>?_))
 replace hm:=ifT hg5 hm
 refine sr (s_build0O (R:=rByte) wkP F rfl rfl rfl elem25 rfl H fun b6 w a H F=>bb [0,0] F H rfl fun a F=>?_)
 replace H:=H.nf 3 rfl
 refine nl (wr (tr ?_))
 replace H:=H.frz 0 rfl
 cases hm
 refine x_ret2 F rfl rfl rfl ?_
 exact ⟨_,rfl,(some ⟨b6,0,none⟩),0,rfl,(H.pm 3 [0] rfl:)⟩
 replace hm:=ifF (nT hg5) hm
 refine sk (ct (sq (xm3 2 [1] [] F H hm rfl rfl (fun r21 (cs22:List Value) (p23:Option Addr) (c23:Nat) z=>(4,.slice p23 (r21.2).length c23)::z) (fun r21 cs22 p23 c23 z=>HP.blk b3 (cs22) 27::HP.rc R_api_Op cs22 r21.1::HP.ow rByte 5 p23 c23 r21.2::z) (fun r21 hm=>?_) (fun r21 a w hm cs22 p23 c23 F H=>?_))))
 have G:=F;replace H:=rc_api_Op (H.pk 1 rfl);obtain ⟨p24,c25,rfl,J⟩:=H;have H:=J;have F:=G;clear G J
 refine mix_region [3,6,7] [] (.step 0 0 (.step 0 1 (.step 0 2 (.step 0 4 (.step 0 5 (.fork 3 (.step 2 6 (.step 2 7 (.step 0 8 .done))) 6 (.step 2 3 (.step 2 7 (.step 0 8 .done))))))))) (fun u=>∃ ls,St w0 u (HP.blk b3 ([.int .i64 (x0_.1),.string (txb (x0_.2.1)),.string (txb (x0_.2.2.1)),.int .i64 (x0_.2.2.2.1),.int .i64 (x0_.2.2.2.2.1),.slice p24 (x0_.2.2.2.2.2).length c25]) 27::ls)) (by kernel_rfl) (by kernel_rfl) ⟨_,(H.drew.pm 2 [1,0] rfl:)⟩ ?_
 replace H:=H.drew
 generalize w.drew=w at H ⊢
 refine mbk [0] F H rfl ⟨fld27_0,trivial⟩ fun a F=>?_
 refine m_pure F rfl rfl rfl rfl (fun u hu=>y_load1 F plain3 rfl rfl (row_at (v:=.int .i64 (x0_.1)) ((hu.choose_spec.blk 0 rfl).row) rfl)) fun a F=>?_
 refine mbk [1,3] F H rfl ⟨Tryz.underlying3,Tryz.underlying5,fld27_3,trivial⟩ fun a F=>?_
 refine m_pure F rfl rfl rfl rfl (fun u hu=>y_load1 F plain3 rfl rfl (row_at (v:=.int .i64 (x0_.2.2.2.1)) ((hu.choose_spec.blk 0 rfl).row) rfl)) fun a F=>?_
 refine m_fork rfl rfl rfl rfl ?_ ?_
 refine m_heavy rfl rfl ?_
 obtain ⟨x27,ex27,hm⟩:=ob hm
 refine s_buildC wkP F rfl rfl rfl elem25 zero5 rfl rfl rfl rfl (by simp [Value.cells]) (by decide) H fun b26 w a H F=>?_
 replace H:=H.blkOw1 (R:=rByte) (x:=x27) (fun gg=>(congrArg (fun z=>[Value.int .u8 z]) (u8O_some ex27).symm))
 refine lz ?_;refine ct ⟨⟨_,(H.pm 3 [2,0,1] rfl:)⟩,?_⟩
 refine m_heavy rfl rfl ?_
 obtain ⟨x28,ex28,hm⟩:=ob hm
 refine sd F rfl ent57 (w_rTwo ex28 H:) ?_;rintro _ w a ⟨p29,c29,rfl,H⟩ F
 refine lz ?_;refine ct ⟨⟨_,(H.pm 4 [3,0,1,2] rfl:)⟩,?_⟩
 refine m_heavy rfl rfl ?_
 replace H:=H.frz 0 rfl
 obtain ⟨x31,ex31,hm⟩:=ob hm
 refine s_app wkP F rfl rfl rfl rfl rfl rfl elem25 rfl ex31 H 1 0 rfl rfl fun p30 c30 w a H F=>?_
 refine lz ?_;refine ct ⟨⟨_,(H.pm 4 [3,0,1,2] rfl:)⟩,?_⟩
 refine mb [0] F H rfl fun a F=>m_nil ?_
 cases hm
 refine ct ?_
 replace H:=mk_api_Op H x0_.1 x0_.2.1 x0_.2.2.1 x0_.2.2.2.1 x0_.2.2.2.2.1 2 rfl
 exact ⟨[.int .i64 (x0_.1),.string (txb (x0_.2.1)),.string (txb (x0_.2.2.1)),.int .i64 (x0_.2.2.2.1),.int .i64 (x0_.2.2.2.2.1),.slice p24 (x0_.2.2.2.2.2).length c25],p30,c30,F.sl rfl,(H.pm 5 [4,0,2] rfl:)⟩
 refine m_heavy rfl rfl ?_
 obtain ⟨x32,ex32,hm⟩:=ob hm
 obtain ⟨x33,ex33,hm⟩:=ob hm
 refine sd F rfl ent57 (w_rTwo ex33 H:) ?_;rintro _ w a ⟨p34,c34,rfl,H⟩ F
 refine lz ?_;refine ct ⟨⟨_,(H.pm 3 [2,0,1] rfl:)⟩,?_⟩
 refine m_heavy rfl rfl (s_buildC wkP F rfl rfl rfl elem25 zero5 rfl rfl rfl rfl (by simp [Value.cells]) (by decide) H fun b35 w a H F=>?_)
 replace H:=H.blkOw1 (R:=rByte) (x:=x32) (fun gg=>(congrArg (fun z=>[Value.int .u8 z]) (u8O_some ex32).symm))
 refine lz ?_;refine ct ⟨⟨_,(H.pm 4 [3,0,1,2] rfl:)⟩,?_⟩
 refine m_heavy rfl rfl ?_
 replace H:=H.frz 1 rfl
 obtain ⟨x37,ex37,hm⟩:=ob hm
 refine s_app wkP F rfl rfl rfl rfl rfl rfl elem25 rfl ex37 H 1 0 rfl rfl fun p36 c36 w a H F=>?_
 refine lz ?_;refine ct ⟨⟨_,(H.pm 4 [3,0,1,2] rfl:)⟩,?_⟩
 refine mb [0] F H rfl fun a F=>m_nil ?_
 cases hm
 refine ct ?_
 replace H:=mk_api_Op H x0_.1 x0_.2.1 x0_.2.2.1 x0_.2.2.2.1 x0_.2.2.2.2.1 2 rfl
 exact ⟨[.int .i64 (x0_.1),.string (txb (x0_.2.1)),.string (txb (x0_.2.2.1)),.int .i64 (x0_.2.2.2.1),.int .i64 (x0_.2.2.2.2.1),.slice p24 (x0_.2.2.2.2.2).length c25],p36,c36,F.sl rfl,(H.pm 5 [4,0,2] rfl:)⟩
 refine ct (sr (bk [0,4] F H rfl ⟨fld27_4,trivial⟩ fun a F=>?_))
 have G:=F;replace H:=rc_api_Op (H.pk 1 rfl);obtain ⟨p38,c39,rfl,J⟩:=H;have H:=J;have F:=G;clear G J
 refine bk [1004] F H rfl ⟨rfl,plain3,trivial⟩ fun a F=>?_
 obtain ⟨x40,ex40,hm⟩:=ob hm
 refine sd F rfl ent57 (w_rTwo ex40 H:) ?_;rintro _ w a ⟨p41,c41,rfl,H⟩ F
 replace H:=H.frz 0 rfl
 obtain ⟨x43,ex43,hm⟩:=ob hm
 refine s_app wkP F rfl rfl rfl rfl rfl rfl elem25 rfl ex43 H 3 0 rfl rfl fun p42 c42 w a H F=>?_
 refine bb [0] F H rfl fun a F=>?_
 replace H:=H.nf 4 rfl
 refine nl (sr (bk [0,1,2001] F H rfl ⟨fld27_1,rfl,plain9,trivial⟩ fun a F=>?_))
 refine s_cvT (e:=5) (xs:=r21.1.2.1) wkP F rfl rfl rfl Tryz.underlying9 Tryz.underlying25 Tryz.underlying5 rfl rfl H fun b44 c44 w a H F=>?_
 replace H:=H.cvFrz 0 rfl
 obtain ⟨x45,ex45,hm⟩:=ob hm
 refine sd F rfl ent58 (w_rTextS ex45 (H.pm 5 [0,0,1,2,3,4] rfl:):) ?_;rintro _ w a ⟨p46,c46,rfl,H⟩ F
 replace H:=H.frz 0 rfl
 obtain ⟨x48,ex48,hm⟩:=ob hm
 refine s_app wkP F rfl rfl rfl rfl rfl rfl elem25 rfl ex48 H 5 0 rfl rfl fun p47 c47 w a H F=>?_
 refine bb [0] F H rfl fun a F=>?_
 replace H:=H.nf 6 rfl
 refine nl (sr (bk [0,2,4002] F H rfl ⟨fld27_2,rfl,plain9,trivial⟩ fun a F=>?_))
 refine s_cvT (e:=5) (xs:=r21.1.2.2.1) wkP F rfl rfl rfl Tryz.underlying9 Tryz.underlying25 Tryz.underlying5 rfl rfl H fun b49 c49 w a H F=>?_
 replace H:=H.cvFrz 0 rfl
 obtain ⟨x50,ex50,hm⟩:=ob hm
 refine sd F rfl ent58 (w_rTextS ex50 (H.pm 7 [0,0,1,2,3,4,5,6] rfl:):) ?_;rintro _ w a ⟨p51,c51,rfl,H⟩ F
 replace H:=H.frz 0 rfl
 obtain ⟨x53,ex53,hm⟩:=ob hm
 refine s_app wkP F rfl rfl rfl rfl rfl rfl elem25 rfl ex53 H 7 0 rfl rfl fun p52 c52 w a H F=>?_
 refine bb [0] F H rfl fun a F=>?_
 replace H:=H.nf 8 rfl
 refine nl (sr (bk [0,5,6005] F H rfl ⟨fld27_5,rfl,plain25,trivial⟩ fun a F=>?_))
 obtain ⟨x54,ex54,hm⟩:=ob hm
 refine sd F rfl ent58 (w_rTextS ex54 (H.pm 8 [5,0,1,2,3,4,5,6,7] rfl:):) ?_;rintro _ w a ⟨p55,c55,rfl,H⟩ F
 replace H:=H.frz 0 rfl
 obtain ⟨x57,ex57,hm⟩:=ob hm
 refine s_app wkP F rfl rfl rfl rfl rfl rfl elem25 rfl ex57 H 8 0 rfl rfl fun p56 c56 w a H F=>?_
 refine bb [0,0] F H rfl fun a F=>?_
 replace H:=H.nf 9 rfl
 refine nl (wr ?_)
 replace H:=H.frz 8 rfl
 cases hm
 refine x_ret2 F rfl rfl rfl ?_
 exact ⟨_,rfl,p56,c56,rfl,(H.pm 9 [0] rfl:)⟩
theorem ent62:En Tryz.prog 62:=enters Tryz.func62 (by kernel_rfl) rfl
theorem ent63:En Tryz.prog 63:=enters Tryz.func63 (by kernel_rfl) rfl
theorem ent64:En Tryz.prog 64:=enters Tryz.func64 (by kernel_rfl) rfl
theorem w_m_triremeref10_Read {x0_:List UInt8} {p1:Option Addr} {c1:Nat} {w0 w:World} {l:List HP}  {r:T_api_Op×Int} (hm:m_triremeref10_Read x0_=some r) (H:St w0 w (HP.sl rByte p1 c1 x0_::l)) :
  Calls Tryz.prog 34 [.slice p1 (x0_).length c1].toArray w (fun e w'=>∃ v,e=.returned v∧∃ (cs2:List Value),v=.tuple [.agg cs2.toArray,.int .i64 (r.2)].toArray∧St w0 w' (HP.rc R_api_Op cs2 r.1::l)):=by
 unfold m_triremeref10_Read at hm
 refine x_enter Tryz.func34 rfl rfl rfl ?_
 intro a F
 refine sr ?_
 replace H:=H.owNil rByte 5
 refine s_allocA wkP F rfl rfl rfl agz27 rfl H fun b3 w a H F=>bb [0] F H rfl fun a F=>?_
 replace H:=H.nf 3 rfl
 refine nb [0] F H rfl fun a F=>sv F rfl (y_build F rfl rfl (cs:=[.slice p1 (x0_).length c1,.int .i64 (0)]) (by kernel_rfl)) fun a F=>s_boxA wkP F rfl rfl rfl rfl rfl H fun b4 w a H F=>bb [0] F H rfl fun a F=>?_
 replace H:=H.nf 4 rfl
 refine nb [0] F H rfl fun a F=>?_
 replace H:=O_triremeref02_Eye_s (H.pm 4 [0,3,1,2,3] rfl:)
 obtain ⟨x5,ex5,hm⟩:=ob hm
 refine sd F rfl ent62 (w_reUint ex5 H:) ?_;rintro _ w a ⟨rfl,H⟩ F
 refine bb (List.replicate 5 0) F H rfl fun a F=>?_
 replace H:=H.nf 4 rfl
 refine nb [0] F H rfl fun a F=>?_
 obtain ⟨x6,ex6,hm⟩:=ob hm
 refine sd F rfl ent62 (w_reUint ex6 H:) ?_;rintro _ w a ⟨rfl,H⟩ F
 refine bb (List.replicate 5 0) F H rfl fun a F=>?_
 replace H:=H.nf 4 rfl
 refine nb [0] F H rfl fun a F=>?_
 obtain ⟨x7,ex7,hm⟩:=ob hm
 refine sd F rfl ent62 (w_reUint ex7 H:) ?_;rintro _ w a ⟨rfl,H⟩ F
 refine bb (List.replicate 5 0) F H rfl fun a F=>?_
 replace H:=H.nf 4 rfl
 refine nb [0] F H rfl fun a F=>?_
 obtain ⟨x8,ex8,hm⟩:=ob hm
 refine sd F rfl ent63 (w_reText ex8 H:) ?_;rintro _ w a ⟨p9,c9,rfl,H⟩ F
 refine bb (List.replicate 5 0) F H rfl fun a F=>?_
 replace H:=H.nf 5 rfl
 refine nb [0] F H rfl fun a F=>?_
 obtain ⟨x10,ex10,hm⟩:=ob hm
 refine sd F rfl ent63 (w_reText ex10 (H.pm 5 [1,0,2,3,4] rfl:):) ?_;rintro _ w a ⟨p11,c11,rfl,H⟩ F
 refine bb (List.replicate 5 0) F H rfl fun a F=>?_
 replace H:=H.nf 6 rfl
 refine nb [0] F H rfl fun a F=>?_
 obtain ⟨x12,ex12,hm⟩:=ob hm
 refine sd F rfl ent63 (w_reText ex12 (H.pm 6 [1,0,2,3,4,5] rfl:):) ?_;rintro _ w a ⟨p13,c13,rfl,H⟩ F
 refine bb (List.replicate 5 0) F H rfl fun a F=>?_
 replace H:=H.nf 7 rfl
 refine nl (sr (bk (List.replicate 7 0) F H rfl ⟨Tryz.underlying22,Tryz.underlying3,Tryz.underlying22,Tryz.underlying3,Tryz.underlying22,Tryz.underlying3,trivial⟩ fun a F=>sv F rfl (y_b2s F Tryz.underlying25 Tryz.underlying9 Tryz.underlying5 rfl rfl (H) 3 rfl) fun a F=>bb [0] F H rfl fun a F=>sv F rfl (y_b2s F Tryz.underlying25 Tryz.underlying9 Tryz.underlying5 rfl rfl (H) 2 rfl) fun a F=>bb [0] F H rfl fun a F=>sv F rfl (y_build F rfl rfl (cs:=[.int .i64 (IntKind.i64.wrap (x5.1)),.string (txb (x8.1)),.string (txb (x10.1)),.int .i64 (IntKind.i64.wrap (x6.1)),.int .i64 (IntKind.i64.wrap (x7.1)),.slice p13 (x12.1).length c13]) (by kernel_rfl)) fun a F=>?_))
 replace H:=H.owNil rByte 5
 refine s_allocA wkP F rfl rfl rfl agz27 rfl H fun b14 w a H F=>s_storeA wkP F rfl rfl agg27 rfl rfl rfl H 0 rfl rfl rfl (fl rfl) fun w H=>?_
 replace H:=H.nf 9 rfl
 refine nl (sq (sb (List.replicate 12 0) F H rfl fun a F=>?_))
 obtain ⟨x15,ex15,hm⟩:=ob hm
 refine sd F rfl ent64 (w_reEnd ex15 (H.pm 9 [3,0,1,2,4,5,6,7,8] rfl:):) ?_;rintro _ w a ⟨rfl,H⟩ F
 refine bb [0,0,0] F H rfl fun a F=>?_
 rcases spN 78 F rfl hm with ⟨hg16,hm,F⟩ | ⟨hg16,hm,F⟩
 refine bk [1999] F H rfl ⟨rfl,(aggn agg27 rfl),trivial⟩ fun a F=>g_onP F rfl rfl rfl rfl ?_
 replace H:=mk_api_Op H (IntKind.i64.wrap (x5.1)) x8.1 x10.1 (IntKind.i64.wrap (x6.1)) (IntKind.i64.wrap (x7.1)) 3 rfl
 obtain ⟨x17,ex17,hm⟩:=ob hm
 refine sd F rfl ent55 (w_m_triremeref10_Right ex17 (H.pm 10 [0,0,1,2,3,4,5,6,7,8,9] rfl:):) ?_;rintro _ w a ⟨rfl,H⟩ F
 refine bb [0,0] F H rfl fun a F=>?_
 replace H:=H.nf 10 rfl
 refine nl (cB F rfl (fun hg18=>?_) (fun hg18=>?_))
 replace hm:=ifT hg18 hm
 refine sr ?_
 replace H:=H.owNil rByte 5
 refine sv F rfl (y_build F rfl rfl (cs:=[.int .i64 (0),.string (txb ([])),.string (txb ([])),.int .i64 (0),.int .i64 (0),.slice none (([]:List UInt8)).length 0]) (by kernel_rfl)) fun a F=>s_storeA wkP F rfl rfl agg27 rfl rfl rfl H 8 rfl rfl rfl (fl rfl) fun w H=>bb [0] F H rfl fun a F=>?_
 replace H:=H.nf 11 rfl
 refine nl (wr (tr ?_))
 replace H:=H.frz 0 rfl
 replace H:=mk_api_Op H 0 ([]) ([]) 0 0 0 rfl
 cases hm
 refine x_resC2 F rfl (⟨_,rfl,agg27.run_load (H.blk 9 rfl).row rfl⟩) rfl ?_
 exact ⟨_,rfl,[.int .i64 (0),.string (txb ([])),.string (txb ([])),.int .i64 (0),.int .i64 (0),.slice none (([]:List UInt8)).length 0],rfl,(H.pm 12 [0] rfl:)⟩
 replace hm:=ifF (nT hg18) hm
 refine sk (ct (sr (bk [2999] F H rfl ⟨rfl,(aggn agg27 rfl),trivial⟩ fun a F=>s_storeA wkP F rfl rfl agg27 rfl rfl rfl H 7 rfl rfl rfl (fl rfl) fun w H=>bb [0] F H rfl fun a F=>?_)))
 replace H:=H.nf 10 rfl
 refine nl (wr ?_)
 replace H:=mk_api_Op H (IntKind.i64.wrap (x5.1)) x8.1 x10.1 (IntKind.i64.wrap (x6.1)) (IntKind.i64.wrap (x7.1)) 4 rfl
 cases hm
 refine x_resC2 F rfl (⟨_,rfl,agg27.run_load (H.blk 8 rfl).row rfl⟩) rfl ?_
 exact ⟨_,rfl,[.int .i64 (IntKind.i64.wrap (x5.1)),.string (txb (x8.1)),.string (txb (x10.1)),.int .i64 (IntKind.i64.wrap (x6.1)),.int .i64 (IntKind.i64.wrap (x7.1)),.slice p13 (x12.1).length c13],rfl,(H.pm 11 [0] rfl:)⟩
 refine bb [0,0,0,0] F H rfl fun a F=>?_
 replace H:=H.nf 9 rfl
 refine nl (cT F rfl (sr ?_))
 replace H:=H.owNil rByte 5
 refine sv F rfl (y_build F rfl rfl (cs:=[.int .i64 (0),.string (txb ([])),.string (txb ([])),.int .i64 (0),.int .i64 (0),.slice none (([]:List UInt8)).length 0]) (by kernel_rfl)) fun a F=>s_storeA wkP F rfl rfl agg27 rfl rfl rfl H 7 rfl rfl rfl (fl rfl) fun w H=>bb [0] F H rfl fun a F=>?_
 replace H:=H.nf 10 rfl
 refine nl (wr (tr ?_))
 replace H:=H.frz 0 rfl
 replace H:=mk_api_Op H 0 ([]) ([]) 0 0 0 rfl
 cases hm
 refine x_resC2 F rfl (⟨_,rfl,agg27.run_load (H.blk 8 rfl).row rfl⟩) rfl ?_
 exact ⟨_,rfl,[.int .i64 (0),.string (txb ([])),.string (txb ([])),.int .i64 (0),.int .i64 (0),.slice none (([]:List UInt8)).length 0],rfl,(H.pm 11 [0] rfl:)⟩
theorem w_rEight {n:Int}  {w0 w:World} {l:List HP}  {r:(List UInt8)} (hm:rEight n=some r) (H:St w0 w (l)) :
  Calls Tryz.prog 23 [.int .u64 (n)].toArray w (fun e w'=>∃ v,e=.returned v∧∃ (p1:Option Addr) (c1:Nat),v=.slice p1 (r).length c1∧St w0 w' (HP.ow rByte 5 p1 c1 r::l)):=by
 unfold rEight at hm
 refine x_enter Tryz.func23 rfl rfl rfl ?_
 intro a F
 refine sb [0] F H rfl fun a F=>nb [0] F H rfl fun a F=>?_
 obtain ⟨x2,ex2,hm⟩:=ob hm
 refine sd F rfl ent56 (w_rUint ex2 H:) ?_;rintro _ w a ⟨p3,c3,rfl,H⟩ F
 refine bb (List.replicate 5 0) F H rfl fun a F=>?_
 replace H:=H.nf 1 rfl
 refine nb [0,0] F H rfl fun a F=>nl (wr ?_)
 cases hm
 refine x_ret1 F rfl rfl ?_
 exact ⟨_,rfl,p3,c3,rfl,H⟩
theorem ent54:En Tryz.prog 54:=enters Tryz.func54 (by kernel_rfl) rfl
theorem w_m_triremeref14_Right {x0_:T_api_Record} {cs1:List Value} {w0 w:World} {l:List HP}  {r:Bool} (hm:m_triremeref14_Right x0_=some r) (H:St w0 w (HP.rc R_api_Record cs1 x0_::l)) :
  Calls Tryz.prog 22 [.agg cs1.toArray].toArray w (fun e w'=>∃ v,e=.returned v∧v=.bool (r)∧St w0 w' (l)):=by
 unfold m_triremeref14_Right at hm
 refine x_enter Tryz.func22 rfl rfl rfl ?_
 intro a F
 refine sr (s_boxA wkP F rfl rfl rfl rfl rfl H fun b2 w a H F=>bb [0] F H rfl fun a F=>?_)
 replace H:=H.nf 2 rfl
 refine nl (sq (sr (bk [0] F H rfl ⟨fld31_0,trivial⟩ fun a F=>?_)))
 have G:=F;replace H:=rc_api_Record (H.pk 1 rfl);obtain ⟨v3,hl4,hl5,hl6,hl7,rfl,J⟩:=H;have H:=J;have F:=G;clear G J
 refine bk [1000,0] F H rfl ⟨rfl,plain22,trivial⟩ fun a F=>?_
 refine nl (cPm F rfl hm (fun hg8 hm=>?_) (fun hg8 hm=>?_))
 refine sr (bk [1,1001,0,0] F H rfl ⟨fld31_1,rfl,plain22,trivial⟩ fun a F=>?_)
 rcases spP 9 F rfl hm with ⟨hg9,hm,F⟩ | ⟨hg9,hm,F⟩
 refine bk [2] F H rfl ⟨fld31_2,trivial⟩ fun a F=>g_onP F rfl rfl rfl rfl (sv F rfl (y_loadA F agg24 rfl rfl (row_mid (A:=[.int .u64 (x0_.1),.int .u64 (x0_.2.1)]) (X:=bcells x0_.2.2.1) (C:=bcells x0_.2.2.2.1++(bcells x0_.2.2.2.2.1++(bcells x0_.2.2.2.2.2.1++(v3)))) (w:=_) ((H.blk 1 rfl).row) (by simp only [List.length_append,List.length_cons,List.length_nil,icells_length,bcells_length])) ((bcells_length _).trans hl4)) fun a F=>g_onP F rfl rfl rfl rfl (sv F rfl (y_build F rfl rfl (cs:=bcells ((List.replicate 32 0):List UInt8)) (by kernel_rfl)) fun a F=>g_onP F rfl rfl rfl rfl (sv F rfl (y_eqlA F key24 rfl rfl rfl hl4 rfl) fun a F=>bb [0,0] F H rfl fun a F=>?_)))
 rcases spP 15 F rfl hm with ⟨hg10,hm,F⟩ | ⟨hg10,hm,F⟩
 refine bk [130,0] F H rfl ⟨fld31_6,fld29_0,trivial⟩ fun a F=>g_onP F rfl rfl rfl rfl ?_
 have G:=F;replace H:=rc_api_Call (H.pk 0 rfl);obtain ⟨v11,rfl,J⟩:=H;have H:=J;have F:=G;clear G J
 refine sv F rfl (y_load1 F plain3 rfl rfl ((row_midA (n:=130) (A:=[Value.int .u64 (x0_.1),Value.int .u64 (x0_.2.1)]++(bcells x0_.2.2.1++(bcells x0_.2.2.2.1++(bcells x0_.2.2.2.2.1++(bcells x0_.2.2.2.2.2.1))))) (X:=[.int .i64 (x0_.2.2.2.2.2.2.1)]) (C:=[Value.int .u64 (x0_.2.2.2.2.2.2.2.1)]++(v11)) ((H.blk 1 rfl).row) (by simp only [List.append_assoc,List.cons_append,List.nil_append]) (by simp only [List.length_append,List.length_cons,List.length_nil,icells_length,bcells_length,hl4,hl5,hl6,hl7])) 0 _ rfl)) fun a F=>bb [0,0,0] F H rfl fun a F=>?_
 rcases spP 21 F rfl hm with ⟨hg12,hm,F⟩ | ⟨hg12,hm,F⟩
 refine bk [130,1] F H rfl ⟨fld31_6,fld29_1,trivial⟩ fun a F=>g_onP F rfl rfl rfl rfl (sv F rfl (y_load1 F plain22 rfl rfl ((row_midA (n:=131) (A:=[Value.int .u64 (x0_.1),Value.int .u64 (x0_.2.1)]++(bcells x0_.2.2.1++(bcells x0_.2.2.2.1++(bcells x0_.2.2.2.2.1++(bcells x0_.2.2.2.2.2.1++([Value.int .i64 (x0_.2.2.2.2.2.2.1)])))))) (X:=[.int .u64 (x0_.2.2.2.2.2.2.2.1)]) (C:=v11) ((H.blk 1 rfl).row) (by simp only [List.append_assoc,List.cons_append,List.nil_append]) (by simp only [List.length_append,List.length_cons,List.length_nil,icells_length,bcells_length,hl4,hl5,hl6,hl7])) 0 _ rfl)) fun a F=>bb [0,0,0] F H rfl fun a F=>?_)
 rcases spP 27 F rfl hm with ⟨hg13,hm,F⟩ | ⟨hg13,hm,F⟩
 refine bk [130,2] F H rfl ⟨fld31_6,fld29_2,trivial⟩ fun a F=>g_onP F rfl rfl rfl rfl (sv F rfl (y_loadA F agg27 rfl rfl (row_midAE (n:=132) (A:=[Value.int .u64 (x0_.1),Value.int .u64 (x0_.2.1)]++(bcells x0_.2.2.1++(bcells x0_.2.2.2.1++(bcells x0_.2.2.2.2.1++(bcells x0_.2.2.2.2.2.1++([Value.int .i64 (x0_.2.2.2.2.2.2.1),Value.int .u64 (x0_.2.2.2.2.2.2.2.1)])))))) (X:=v11) (w:=_) ((H.blk 1 rfl).row) (by simp only [List.append_assoc,List.cons_append,List.nil_append]) (by simp only [List.length_append,List.length_cons,List.length_nil,icells_length,bcells_length,hl4,hl5,hl6,hl7])) (H.rcLen 0 rfl)) fun a F=>g_onP F rfl rfl rfl rfl ?_)
 replace H:=H.owNil rByte 5
 refine sv F rfl (y_build F rfl rfl (cs:=[.int .i64 (0),.string (txb ([])),.string (txb ([])),.int .i64 (0),.int .i64 (0),.slice none (([]:List UInt8)).length 0]) (by kernel_rfl)) fun a F=>g_onP F rfl rfl rfl rfl ?_
 replace H:=H.frz 0 rfl
 replace H:=mk_api_Op H 0 ([]) ([]) 0 0 0 rfl
 obtain ⟨x14,ex14,hm⟩:=ob hm
 refine sd F rfl ent54 (w_rSameOp ex14 (H.pm 4 [2,0,0,1,2,3] rfl:):) ?_;rintro _ w a ⟨rfl,H⟩ F
 refine bb [0,0] F H rfl fun a F=>?_
 replace H:=H.nf 4 rfl
 refine nl (wr (tr ?_))
 cases hm
 refine x_ret1 F rfl rfl ?_
 exact ⟨_,rfl,rfl,(H.pm 4 [] rfl:)⟩
 refine bb (List.replicate 7 0) F H rfl fun a F=>nl (wr (tr ?_))
 cases hm
 refine x_ret1 F rfl rfl ?_
 exact ⟨_,rfl,rfl,(H.pm 2 [] rfl:)⟩
 refine bb (List.replicate 13 0) F H rfl fun a F=>nl (wr (tr ?_))
 cases hm
 refine x_ret1 F rfl rfl ?_
 exact ⟨_,rfl,rfl,(H.pm 2 [] rfl:)⟩
 refine bb (List.replicate 19 0) F H rfl fun a F=>nl (wr (tr ?_))
 cases hm
 refine x_ret1 F rfl rfl ?_
 exact ⟨_,rfl,rfl,(H.pm 2 [] rfl:)⟩
 refine bb (List.replicate 25 0) F H rfl fun a F=>nl (wr (tr ?_))
 cases hm
 refine x_ret1 F rfl rfl ?_
 exact ⟨_,rfl,rfl,(H.pm 2 [] rfl:)⟩
 refine sk (ct (sr (bk [130,0] F H rfl ⟨fld31_6,fld29_0,trivial⟩ fun a F=>?_)))
 have G:=F;replace H:=rc_api_Call (H.pk 0 rfl);obtain ⟨v15,rfl,J⟩:=H;have H:=J;have F:=G;clear G J
 refine sv F rfl (y_load1 F plain3 rfl rfl ((row_midA (n:=130) (A:=[Value.int .u64 (x0_.1),Value.int .u64 (x0_.2.1)]++(bcells x0_.2.2.1++(bcells x0_.2.2.2.1++(bcells x0_.2.2.2.2.1++(bcells x0_.2.2.2.2.2.1))))) (X:=[.int .i64 (x0_.2.2.2.2.2.2.1)]) (C:=[Value.int .u64 (x0_.2.2.2.2.2.2.2.1)]++(v15)) ((H.blk 1 rfl).row) (by simp only [List.append_assoc,List.cons_append,List.nil_append]) (by simp only [List.length_append,List.length_cons,List.length_nil,icells_length,bcells_length,hl4,hl5,hl6,hl7])) 0 _ rfl)) fun a F=>bb [0,0] F H rfl fun a F=>?_
 rcases spP 38 F rfl hm with ⟨hg16,hm,F⟩ | ⟨hg16,hm,F⟩
 refine bk [130,0] F H rfl ⟨fld31_6,fld29_0,trivial⟩ fun a F=>g_onP F rfl rfl rfl rfl (sv F rfl (y_load1 F plain3 rfl rfl ((row_midA (n:=130) (A:=[Value.int .u64 (x0_.1),Value.int .u64 (x0_.2.1)]++(bcells x0_.2.2.1++(bcells x0_.2.2.2.1++(bcells x0_.2.2.2.2.1++(bcells x0_.2.2.2.2.2.1))))) (X:=[.int .i64 (x0_.2.2.2.2.2.2.1)]) (C:=[Value.int .u64 (x0_.2.2.2.2.2.2.2.1)]++(v15)) ((H.blk 1 rfl).row) (by simp only [List.append_assoc,List.cons_append,List.nil_append]) (by simp only [List.length_append,List.length_cons,List.length_nil,icells_length,bcells_length,hl4,hl5,hl6,hl7])) 0 _ rfl)) fun a F=>bb [0,0,0] F H rfl fun a F=>?_)
 rcases spP 44 F rfl hm with ⟨hg17,hm,F⟩ | ⟨hg17,hm,F⟩
 refine bk [130,1] F H rfl ⟨fld31_6,fld29_1,trivial⟩ fun a F=>g_onP F rfl rfl rfl rfl (sv F rfl (y_load1 F plain22 rfl rfl ((row_midA (n:=131) (A:=[Value.int .u64 (x0_.1),Value.int .u64 (x0_.2.1)]++(bcells x0_.2.2.1++(bcells x0_.2.2.2.1++(bcells x0_.2.2.2.2.1++(bcells x0_.2.2.2.2.2.1++([Value.int .i64 (x0_.2.2.2.2.2.2.1)])))))) (X:=[.int .u64 (x0_.2.2.2.2.2.2.2.1)]) (C:=v15) ((H.blk 1 rfl).row) (by simp only [List.append_assoc,List.cons_append,List.nil_append]) (by simp only [List.length_append,List.length_cons,List.length_nil,icells_length,bcells_length,hl4,hl5,hl6,hl7])) 0 _ rfl)) fun a F=>bb [0,0,0] F H rfl fun a F=>?_)
 rcases spP 50 F rfl hm with ⟨hg18,hm,F⟩ | ⟨hg18,hm,F⟩
 refine bk [130,2] F H rfl ⟨fld31_6,fld29_2,trivial⟩ fun a F=>g_onP F rfl rfl rfl rfl (sv F rfl (y_loadA F agg27 rfl rfl (row_midAE (n:=132) (A:=[Value.int .u64 (x0_.1),Value.int .u64 (x0_.2.1)]++(bcells x0_.2.2.1++(bcells x0_.2.2.2.1++(bcells x0_.2.2.2.2.1++(bcells x0_.2.2.2.2.2.1++([Value.int .i64 (x0_.2.2.2.2.2.2.1),Value.int .u64 (x0_.2.2.2.2.2.2.2.1)])))))) (X:=v15) (w:=_) ((H.blk 1 rfl).row) (by simp only [List.append_assoc,List.cons_append,List.nil_append]) (by simp only [List.length_append,List.length_cons,List.length_nil,icells_length,bcells_length,hl4,hl5,hl6,hl7])) (H.rcLen 0 rfl)) fun a F=>g_onP F rfl rfl rfl rfl ?_)
 obtain ⟨x19,ex19,hm⟩:=ob hm
 refine sd F rfl ent55 (w_m_triremeref10_Right ex19 (H.pm 2 [0,0,1] rfl:):) ?_;rintro _ w a ⟨rfl,H⟩ F
 refine bb [0,0] F H rfl fun a F=>?_
 replace H:=H.nf 2 rfl
 refine nl (wr ?_)
 cases hm
 refine x_ret1 F rfl rfl ?_
 exact ⟨_,rfl,rfl,(H.pm 2 [] rfl:)⟩
 refine bb (List.replicate 6 0) F H rfl fun a F=>nl (wr ?_)
 cases hm
 refine x_ret1 F rfl rfl ?_
 exact ⟨_,rfl,rfl,(H.pm 2 [] rfl:)⟩
 refine bb (List.replicate 12 0) F H rfl fun a F=>nl (wr ?_)
 cases hm
 refine x_ret1 F rfl rfl ?_
 exact ⟨_,rfl,rfl,(H.pm 2 [] rfl:)⟩
 refine bb (List.replicate 18 0) F H rfl fun a F=>nl (wr ?_)
 cases hm
 refine x_ret1 F rfl rfl ?_
 exact ⟨_,rfl,rfl,(H.pm 2 [] rfl:)⟩
theorem ent22:En Tryz.prog 22:=enters Tryz.func22 (by kernel_rfl) rfl
theorem ent23:En Tryz.prog 23:=enters Tryz.func23 (by kernel_rfl) rfl
theorem ent24:En Tryz.prog 24:=enters Tryz.func24 (by kernel_rfl) rfl
theorem w_m_triremeref14_Write {x0_:T_api_Record} {cs1:List Value} {w0 w:World} {l:List HP}  {r:(List UInt8)×Int} (hm:m_triremeref14_Write x0_=some r) (H:St w0 w (HP.rc R_api_Record cs1 x0_::l)) :
  Calls Tryz.prog 8 [.agg cs1.toArray].toArray w (fun e w'=>∃ v,e=.returned v∧∃ (p2:Option Addr) (c2:Nat),v=.tuple [.slice p2 (r.1).length c2,.int .i64 (r.2)].toArray∧St w0 w' (HP.sl rByte p2 c2 r.1::l)):=by
 unfold m_triremeref14_Write at hm
 refine x_enter Tryz.func8 rfl rfl rfl ?_
 intro a F
 refine sr (s_boxA wkP F rfl rfl rfl rfl rfl H fun b3 w a H F=>bb [0,0] F H rfl fun a F=>?_)
 replace H:=H.nf 2 rfl
 refine nl (sq (sr (bk [999] F H rfl ⟨rfl,(aggn agg31 (H.rcLen 1 rfl)),trivial⟩ fun a F=>?_)))
 obtain ⟨x4,ex4,hm⟩:=ob hm
 refine sd F rfl ent22 (w_m_triremeref14_Right ex4 (H.pm 2 [1,0,1] rfl:):) ?_;rintro _ w a ⟨rfl,H⟩ F
 refine bb [0] F H rfl fun a F=>?_
 replace H:=H.nf 2 rfl
 refine nl (cB F rfl (fun hg5=>?_) (fun hg5=>?_))
 replace hm:=ifT hg5 hm
 refine sr (s_build0O (R:=rByte) wkP F rfl rfl rfl elem25 rfl H fun b6 w a H F=>bb [0,0] F H rfl fun a F=>?_)
 replace H:=H.nf 3 rfl
 refine nl (wr (tr ?_))
 replace H:=H.frz 0 rfl
 cases hm
 refine x_ret2 F rfl rfl rfl ?_
 exact ⟨_,rfl,(some ⟨b6,0,none⟩),0,rfl,(H.pm 3 [0] rfl:)⟩
 replace hm:=ifF (nT hg5) hm
 refine sk (ct (sr ?_))
 obtain ⟨x8,ex8,hm⟩:=ob hm
 refine s_buildC wkP F rfl rfl rfl elem25 zero5 rfl rfl rfl rfl (by simp [Value.cells]) (by decide) H fun b7 w a H F=>?_
 replace H:=H.blkOw1 (R:=rByte) (x:=x8) (fun gg=>(congrArg (fun z=>[Value.int .u8 z]) (u8O_some ex8).symm))
 refine bk [0] F H rfl ⟨fld31_0,trivial⟩ fun a F=>?_
 have G:=F;replace H:=rc_api_Record (H.pk 2 rfl);obtain ⟨v9,hl10,hl11,hl12,hl13,rfl,J⟩:=H;have H:=J;have F:=G;clear G J
 refine bk [2000] F H rfl ⟨rfl,plain22,trivial⟩ fun a F=>?_
 obtain ⟨x14,ex14,hm⟩:=ob hm
 refine sd F rfl ent23 (w_rEight ex14 H:) ?_;rintro _ w a ⟨p15,c15,rfl,H⟩ F
 replace H:=H.frz 0 rfl
 obtain ⟨x17,ex17,hm⟩:=ob hm
 refine s_app wkP F rfl rfl rfl rfl rfl rfl elem25 rfl ex17 H 2 0 rfl rfl fun p16 c16 w a H F=>?_
 refine bb [0] F H rfl fun a F=>?_
 replace H:=H.nf 4 rfl
 refine nl (sr (bk [0,1,3001] F H rfl ⟨fld31_1,rfl,plain22,trivial⟩ fun a F=>?_))
 obtain ⟨x18,ex18,hm⟩:=ob hm
 refine sd F rfl ent23 (w_rEight ex18 H:) ?_;rintro _ w a ⟨p19,c19,rfl,H⟩ F
 replace H:=H.frz 0 rfl
 obtain ⟨x21,ex21,hm⟩:=ob hm
 refine s_app wkP F rfl rfl rfl rfl rfl rfl elem25 rfl ex21 H 3 0 rfl rfl fun p20 c20 w a H F=>?_
 refine bb [0] F H rfl fun a F=>?_
 replace H:=H.nf 5 rfl
 refine nl (sr (bk [0,2] F H rfl ⟨fld31_2,trivial⟩ fun a F=>?_))
 replace H:=H.blkFrz 4 rfl
 replace H:St w0 w (HP.sl rByte (shp (some ⟨b3,0+2,none⟩) 32 0 1) (32 - 0) x0_.2.2.1::HP.row b3 (0) ([Value.int .u64 (x0_.1),Value.int .u64 (x0_.2.1)]++(bcells x0_.2.2.1++(bcells x0_.2.2.2.1++(bcells x0_.2.2.2.2.1++(bcells x0_.2.2.2.2.2.1++(v9))))))::HP.sl rByte p19 c19 x18::HP.sl rByte p15 c15 x14::HP.rc R_api_Call v9 x0_.2.2.2.2.2.2::HP.ow rByte 5 p20 c20 x21::l):=H.rowSl 0 rfl (pre:=[.int .u64 (x0_.1),.int .u64 (x0_.2.1)]) (post:=bcells x0_.2.2.2.1++(bcells x0_.2.2.2.2.1++(bcells x0_.2.2.2.2.2.1++(v9)))) (k:=2) (by simp) rfl hl10 (by decide)
 refine sv F rfl (y_slAW F arr24 rfl rfl hl10) fun a F=>?_
 obtain ⟨x23,ex23,hm⟩:=ob hm
 refine s_app wkP F rfl rfl rfl rfl rfl rfl elem25 rfl ex23 H 5 0 rfl rfl fun p22 c22 w a H F=>?_
 refine bb [0] F H rfl fun a F=>?_
 replace H:=H.nf 6 rfl
 refine nl (sr (bk [0,34] F H rfl ⟨fld31_3,trivial⟩ fun a F=>?_))
 replace H:St w0 w (HP.sl rByte (shp (some ⟨b3,0+34,none⟩) 32 0 1) (32 - 0) x0_.2.2.2.1::HP.sl rByte (shp (some ⟨b3,0+2,none⟩) 32 0 1) (32 - 0) x0_.2.2.1::HP.row b3 (0) ([Value.int .u64 (x0_.1),Value.int .u64 (x0_.2.1)]++(bcells x0_.2.2.1++(bcells x0_.2.2.2.1++(bcells x0_.2.2.2.2.1++(bcells x0_.2.2.2.2.2.1++(v9))))))::HP.sl rByte p19 c19 x18::HP.sl rByte p15 c15 x14::HP.rc R_api_Call v9 x0_.2.2.2.2.2.2::HP.ow rByte 5 p22 c22 x23::l):=H.rowSl 1 rfl (pre:=[Value.int .u64 (x0_.1),Value.int .u64 (x0_.2.1)]++(bcells x0_.2.2.1)) (post:=bcells x0_.2.2.2.2.1++(bcells x0_.2.2.2.2.2.1++(v9))) (k:=34) (by simp) (by simp only [List.length_append,List.length_cons,List.length_nil,icells_length,bcells_length,hl10]) hl11 (by decide)
 refine sv F rfl (y_slAW F arr24 rfl rfl hl11) fun a F=>?_
 obtain ⟨x25,ex25,hm⟩:=ob hm
 refine s_app wkP F rfl rfl rfl rfl rfl rfl elem25 rfl ex25 H 6 0 rfl rfl fun p24 c24 w a H F=>?_
 refine bb [0] F H rfl fun a F=>?_
 replace H:=H.nf 7 rfl
 refine nl (sr (bk [0,66] F H rfl ⟨fld31_4,trivial⟩ fun a F=>?_))
 replace H:St w0 w (HP.sl rByte (shp (some ⟨b3,0+66,none⟩) 32 0 1) (32 - 0) x0_.2.2.2.2.1::HP.sl rByte (shp (some ⟨b3,0+34,none⟩) 32 0 1) (32 - 0) x0_.2.2.2.1::HP.sl rByte (shp (some ⟨b3,0+2,none⟩) 32 0 1) (32 - 0) x0_.2.2.1::HP.row b3 (0) ([Value.int .u64 (x0_.1),Value.int .u64 (x0_.2.1)]++(bcells x0_.2.2.1++(bcells x0_.2.2.2.1++(bcells x0_.2.2.2.2.1++(bcells x0_.2.2.2.2.2.1++(v9))))))::HP.sl rByte p19 c19 x18::HP.sl rByte p15 c15 x14::HP.rc R_api_Call v9 x0_.2.2.2.2.2.2::HP.ow rByte 5 p24 c24 x25::l):=H.rowSl 2 rfl (pre:=[Value.int .u64 (x0_.1),Value.int .u64 (x0_.2.1)]++(bcells x0_.2.2.1++(bcells x0_.2.2.2.1))) (post:=bcells x0_.2.2.2.2.2.1++(v9)) (k:=66) (by simp) (by simp only [List.length_append,List.length_cons,List.length_nil,icells_length,bcells_length,hl10,hl11]) hl12 (by decide)
 refine sv F rfl (y_slAW F arr24 rfl rfl hl12) fun a F=>?_
 obtain ⟨x27,ex27,hm⟩:=ob hm
 refine s_app wkP F rfl rfl rfl rfl rfl rfl elem25 rfl ex27 H 7 0 rfl rfl fun p26 c26 w a H F=>?_
 refine bb [0] F H rfl fun a F=>?_
 replace H:=H.nf 8 rfl
 refine nl (sr (bk [0,98] F H rfl ⟨fld31_5,trivial⟩ fun a F=>?_))
 replace H:St w0 w (HP.sl rByte (shp (some ⟨b3,0+98,none⟩) 32 0 1) (32 - 0) x0_.2.2.2.2.2.1::HP.sl rByte (shp (some ⟨b3,0+66,none⟩) 32 0 1) (32 - 0) x0_.2.2.2.2.1::HP.sl rByte (shp (some ⟨b3,0+34,none⟩) 32 0 1) (32 - 0) x0_.2.2.2.1::HP.sl rByte (shp (some ⟨b3,0+2,none⟩) 32 0 1) (32 - 0) x0_.2.2.1::HP.row b3 (0) ([Value.int .u64 (x0_.1),Value.int .u64 (x0_.2.1)]++(bcells x0_.2.2.1++(bcells x0_.2.2.2.1++(bcells x0_.2.2.2.2.1++(bcells x0_.2.2.2.2.2.1++(v9))))))::HP.sl rByte p19 c19 x18::HP.sl rByte p15 c15 x14::HP.rc R_api_Call v9 x0_.2.2.2.2.2.2::HP.ow rByte 5 p26 c26 x27::l):=H.rowSl 3 rfl (pre:=[Value.int .u64 (x0_.1),Value.int .u64 (x0_.2.1)]++(bcells x0_.2.2.1++(bcells x0_.2.2.2.1++(bcells x0_.2.2.2.2.1)))) (post:=v9) (k:=98) (by simp) (by simp only [List.length_append,List.length_cons,List.length_nil,icells_length,bcells_length,hl10,hl11,hl12]) hl13 (by decide)
 refine sv F rfl (y_slAW F arr24 rfl rfl hl13) fun a F=>?_
 obtain ⟨x29,ex29,hm⟩:=ob hm
 refine s_app wkP F rfl rfl rfl rfl rfl rfl elem25 rfl ex29 H 8 0 rfl rfl fun p28 c28 w a H F=>?_
 refine bb [0] F H rfl fun a F=>?_
 replace H:=H.nf 9 rfl
 refine nl (sr (bk [0,130,0] F H rfl ⟨fld31_6,fld29_0,trivial⟩ fun a F=>?_))
 have G:=F;replace H:=rc_api_Call (H.pk 7 rfl);obtain ⟨v30,rfl,J⟩:=H;have H:=J;have F:=G;clear G J
 refine sv F rfl (y_load1 F plain3 rfl rfl ((row_midA (n:=130) (A:=[Value.int .u64 (x0_.1),Value.int .u64 (x0_.2.1)]++(bcells x0_.2.2.1++(bcells x0_.2.2.2.1++(bcells x0_.2.2.2.2.1++(bcells x0_.2.2.2.2.2.1))))) (X:=[.int .i64 (x0_.2.2.2.2.2.2.1)]) (C:=[Value.int .u64 (x0_.2.2.2.2.2.2.2.1)]++(v30)) (H.rowAt 5 rfl) (by simp only [List.append_assoc,List.cons_append,List.nil_append]) (by simp only [List.length_append,List.length_cons,List.length_nil,icells_length,bcells_length,hl10,hl11,hl12,hl13])) 0 _ rfl)) fun a F=>bk [1] F H rfl ⟨Tryz.underlying3,Tryz.underlying5,trivial⟩ fun a F=>?_
 obtain ⟨x32,ex32,hm⟩:=ob hm
 refine s_buildC wkP F rfl rfl rfl elem25 zero5 rfl rfl rfl rfl (by simp [Value.cells]) (by decide) H fun b31 w a H F=>?_
 replace H:=H.blkOw1 (R:=rByte) (x:=x32) (fun gg=>(congrArg (fun z=>[Value.int .u8 z]) (u8O_some ex32).symm))
 replace H:=H.frz 0 rfl
 obtain ⟨x34,ex34,hm⟩:=ob hm
 refine s_app wkP F rfl rfl rfl rfl rfl rfl elem25 rfl ex34 H 9 0 rfl rfl fun p33 c33 w a H F=>?_
 refine bb [0] F H rfl fun a F=>?_
 replace H:=H.nf 10 rfl
 refine nl (sr (bk [0,130,1] F H rfl ⟨fld31_6,fld29_1,trivial⟩ fun a F=>sv F rfl (y_load1 F plain22 rfl rfl ((row_midA (n:=131) (A:=[Value.int .u64 (x0_.1),Value.int .u64 (x0_.2.1)]++(bcells x0_.2.2.1++(bcells x0_.2.2.2.1++(bcells x0_.2.2.2.2.1++(bcells x0_.2.2.2.2.2.1++([Value.int .i64 (x0_.2.2.2.2.2.2.1)])))))) (X:=[.int .u64 (x0_.2.2.2.2.2.2.2.1)]) (C:=v30) (H.rowAt 6 rfl) (by simp only [List.append_assoc,List.cons_append,List.nil_append]) (by simp only [List.length_append,List.length_cons,List.length_nil,icells_length,bcells_length,hl10,hl11,hl12,hl13])) 0 _ rfl)) fun a F=>?_))
 obtain ⟨x35,ex35,hm⟩:=ob hm
 refine sd F rfl ent23 (w_rEight ex35 H:) ?_;rintro _ w a ⟨p36,c36,rfl,H⟩ F
 replace H:=H.frz 0 rfl
 obtain ⟨x38,ex38,hm⟩:=ob hm
 refine s_app wkP F rfl rfl rfl rfl rfl rfl elem25 rfl ex38 H 10 0 rfl rfl fun p37 c37 w a H F=>?_
 refine bb [0] F H rfl fun a F=>?_
 replace H:=H.nf 11 rfl
 refine nl (sr (bk [130,2] F H rfl ⟨fld31_6,fld29_2,trivial⟩ fun a F=>sv F rfl (y_loadA F agg27 rfl rfl (row_midAE (n:=132) (A:=[Value.int .u64 (x0_.1),Value.int .u64 (x0_.2.1)]++(bcells x0_.2.2.1++(bcells x0_.2.2.2.1++(bcells x0_.2.2.2.2.1++(bcells x0_.2.2.2.2.2.1++([Value.int .i64 (x0_.2.2.2.2.2.2.1),Value.int .u64 (x0_.2.2.2.2.2.2.2.1)])))))) (X:=v30) (w:=_) (H.rowAt 7 rfl) (by simp only [List.append_assoc,List.cons_append,List.nil_append]) (by simp only [List.length_append,List.length_cons,List.length_nil,icells_length,bcells_length,hl10,hl11,hl12,hl13])) (H.rcLen 2 rfl)) fun a F=>?_))
 obtain ⟨x39,ex39,hm⟩:=ob hm
 refine sd F rfl ent24 (w_m_triremeref10_Write ex39 (H.pm 11 [2,0,1,2,3,4,5,6,7,8,9,10] rfl:):) ?_;rintro _ w a ⟨p40,c40,rfl,H⟩ F
 refine bb (List.replicate 5 0) F H rfl fun a F=>?_
 replace H:=H.nf 12 rfl
 refine nb [0] F H rfl fun a F=>?_
 obtain ⟨x41,ex41,hm⟩:=ob hm
 refine sd F rfl ent25 (w_rText ex41 (H.pm 12 [0,0,1,2,3,4,5,6,7,8,9,10,11] rfl:):) ?_;rintro _ w a ⟨p42,c42,rfl,H⟩ F
 refine bb (List.replicate 5 0) F H rfl fun a F=>?_
 replace H:=H.nf 13 rfl
 refine nb [0,0] F H rfl fun a F=>?_
 replace H:=H.frz 0 rfl
 obtain ⟨x44,ex44,hm⟩:=ob hm
 refine s_app wkP F rfl rfl rfl rfl rfl rfl elem25 rfl ex44 H 12 0 rfl rfl fun p43 c43 w a H F=>?_
 refine bb [0,0] F H rfl fun a F=>?_
 replace H:=H.nf 13 rfl
 refine nl (wr ?_)
 replace H:=H.frz 12 rfl
 cases hm
 refine x_ret2 F rfl rfl rfl ?_
 exact ⟨_,rfl,p43,c43,rfl,(H.pm 13 [0] rfl:)⟩
theorem w_m_triremeref14_hash {x0_:List UInt8} {p1:Option Addr} {c1:Nat} {w0 w:World} {l:List HP}  {r:(List UInt8)} (hm:m_triremeref14_hash x0_=some r) (H:St w0 w (HP.sl rByte p1 c1 x0_::l)) :
  Calls Tryz.prog 33 [.slice p1 (x0_).length c1].toArray w (fun e w'=>∃ v,e=.returned v∧v=.agg (bcells r).toArray∧((r).length=32)∧St w0 w' (l)):=by
 unfold m_triremeref14_hash at hm
 refine x_enter Tryz.func33 rfl rfl rfl ?_
 intro a F
 refine sr (s_allocA wkP F rfl rfl rfl agz24 rfl H fun b3 w a H F=>?_)
 replace H:=H.nf 2 rfl
 refine nl (sr (sv F rfl (y_build F rfl rfl (cs:=bcells ((List.replicate 32 0):List UInt8)) (by kernel_rfl)) fun a F=>s_allocA wkP F rfl rfl rfl agz24 rfl H fun b4 w a H F=>s_storeA wkP F rfl rfl agg24 rfl rfl rfl H 0 rfl ((bcells_length _).trans rfl) ((bcells_length _).trans (List.length_replicate (n:=32))) (bcells_flat _) fun w H=>?_))
 replace H:=H.nf 3 rfl
 refine nl (sq (sb [0] F H rfl fun a F=>nl ?_))
 obtain ⟨r30,er30,hm30⟩:=ob hm;clear hm;revert er30;intro hm
 refine x_mid (fun aa ww=>Fr ⟨17,[]⟩ aa [(2,.pointer (some ⟨b3,0,none⟩)),(3,.pointer (some ⟨b4,0,none⟩))]∧((r30).length=32)∧St w0 ww (HP.blk b4 (bcells r30) 24::HP.blk b3 (bcells (List.replicate 32 0)) 24::l)) ?_ ?_
 refine bl (x_loopO _ (fun (s48:(List UInt8)×Int) aa ww=>Fr ⟨17,[]⟩ aa [(0,.slice p1 (x0_).length c1),(2,.pointer (some ⟨b3,0,none⟩)),(3,.pointer (some ⟨b4,0,none⟩)),(4,.int .i64 (s48.2))]∧((s48.1).length=32)∧St w0 ww (HP.blk b4 (bcells s48.1) 24::HP.blk b3 (bcells (List.replicate 32 0)) 24::HP.sl rByte p1 c1 x0_::l)) hm ⟨F.sl rfl,rfl,H⟩ ?_)
 clear F H hm
 rintro s48 a w o ⟨F,hl49,H⟩ hm
 refine sq (sb [0,0] F H rfl fun a F=>?_)
 refine nl (cPm F rfl hm (fun hg50 hm=>?_) (fun hg50 hm=>?_))
 refine sk (ct (sq (bl (rl (bb [0,0,0] F H rfl fun a F=>?_)))))
 obtain ⟨x51,ex51,hm⟩:=ob hm
 obtain ⟨b52,o52,hp52,cs53,H⟩:=H.slE 2 rfl ex51
 obtain rfl:=H.rcB 1 rfl
 replace H:=H.dp 1 rfl
 refine sv F rfl (y_idxS F elem25 rfl rfl rfl hp52 ex51) fun a F=>bk [0] F H rfl ⟨rfl,plain5,trivial⟩ fun a F=>?_
 obtain ⟨x54,ex54,hm⟩:=ob hm
 refine sv F rfl (y_idxA F arr24 rfl rfl rfl ex54 hl49) fun a F=>?_
 obtain ⟨x56,ex56,hm⟩:=ob hm
 refine s_stB wkP F rfl rfl zero5 rfl rfl rfl ex56 H 1 rfl ex54 fun w H=>?_
 replace H:=H.nf 4 rfl
 refine lz (bn (ct (rl (bb [0,0,0] F H rfl fun a F=>?_))))
 refine lz (ct ?_);cases hm
 exact ⟨_,rfl,⟨F.sl rfl,((List.length_set ..).trans hl49),(H.pm 4 [1,2,3] rfl:)⟩⟩
 refine ex (cx (cx ?_));cases hm;refine ⟨_,rfl,?_⟩;rintro rfl
 refine ch (ct ?_)
 exact ⟨F.sl rfl,hl49,(H.pm 3 [0,1] rfl:)⟩
 clear F H hm
 rintro a w ⟨F,hl31,H⟩;have hm:=hm30;clear hm30
 refine ct (sr (bk [999] F H rfl ⟨rfl,(aggn agg24 ((bcells_length _).trans hl31)),trivial⟩ fun a F=>s_storeA wkP F rfl rfl agg24 rfl rfl rfl H 1 rfl ((bcells_length _).trans hl31) ((bcells_length _).trans (List.length_replicate (n:=32))) (bcells_flat _) fun w H=>?_))
 replace H:=H.nf 2 rfl
 refine nl (wr ?_)
 cases hm
 refine x_resC1 F rfl (⟨_,rfl,agg24.run_load (H.blk 1 rfl).row ((bcells_length _).trans hl31)⟩) ?_
 exact ⟨_,rfl,rfl,hl31,(H.pm 2 [] rfl:)⟩
theorem ent33:En Tryz.prog 33:=enters Tryz.func33 (by kernel_rfl) rfl
theorem build_31_0_1_2_3_4_5:∀ (n0:Int) (n1:Int) (s2:List UInt8) (h2:s2.length=32) (s3:List UInt8) (h3:s3.length=32) (s4:List UInt8) (h4:s4.length=32) (s5:List UInt8) (h5:s5.length=32),Tryz.prog.built 31 [(0,.int .u64 (n0)),(1,.int .u64 (n1)),(2,.agg (bcells s2).toArray),(3,.agg (bcells s3).toArray),(4,.agg (bcells s4).toArray),(5,.agg (bcells s5).toArray)]=some (([Value.int .u64 (n0),Value.int .u64 (n1)]++(bcells s2++(bcells s3++(bcells s4++(bcells s5++([Value.int .i64 (0),Value.int .u64 (0),Value.int .i64 (0),Value.string (txb ([])),Value.string (txb ([])),Value.int .i64 (0),Value.int .i64 (0),Value.slice none (([]:List UInt8)).length 0]))))):List Value)).toArray:=fun n0 n1 s2 h2 s3 h3 s4 h4 s5 h5=>match s2,h2,s3,h3,s4,h4,s5,h5 with | [a0_0,a0_1,a0_2,a0_3,a0_4,a0_5,a0_6,a0_7,a0_8,a0_9,a0_10,a0_11,a0_12,a0_13,a0_14,a0_15,a0_16,a0_17,a0_18,a0_19,a0_20,a0_21,a0_22,a0_23,a0_24,a0_25,a0_26,a0_27,a0_28,a0_29,a0_30,a0_31],_,[a1_0,a1_1,a1_2,a1_3,a1_4,a1_5,a1_6,a1_7,a1_8,a1_9,a1_10,a1_11,a1_12,a1_13,a1_14,a1_15,a1_16,a1_17,a1_18,a1_19,a1_20,a1_21,a1_22,a1_23,a1_24,a1_25,a1_26,a1_27,a1_28,a1_29,a1_30,a1_31],_,[a2_0,a2_1,a2_2,a2_3,a2_4,a2_5,a2_6,a2_7,a2_8,a2_9,a2_10,a2_11,a2_12,a2_13,a2_14,a2_15,a2_16,a2_17,a2_18,a2_19,a2_20,a2_21,a2_22,a2_23,a2_24,a2_25,a2_26,a2_27,a2_28,a2_29,a2_30,a2_31],_,[a3_0,a3_1,a3_2,a3_3,a3_4,a3_5,a3_6,a3_7,a3_8,a3_9,a3_10,a3_11,a3_12,a3_13,a3_14,a3_15,a3_16,a3_17,a3_18,a3_19,a3_20,a3_21,a3_22,a3_23,a3_24,a3_25,a3_26,a3_27,a3_28,a3_29,a3_30,a3_31],_=>by kernel_rfl
theorem ent34:En Tryz.prog 34:=enters Tryz.func34 (by kernel_rfl) rfl
theorem w_m_triremeref14_Read {x0_:List UInt8} {p1:Option Addr} {c1:Nat} {w0 w:World} {l:List HP}  {r:T_api_Record×Int} (hm:m_triremeref14_Read x0_=some r) (H:St w0 w (HP.sl rByte p1 c1 x0_::l)) :
  Calls Tryz.prog 10 [.slice p1 (x0_).length c1].toArray w (fun e w'=>∃ v,e=.returned v∧∃ (cs2:List Value),v=.tuple [.agg cs2.toArray,.int .i64 (r.2)].toArray∧St w0 w' (HP.rc R_api_Record cs2 r.1::l)):=by
 unfold m_triremeref14_Read at hm
 refine x_enter Tryz.func10 rfl rfl rfl ?_
 intro a F
 refine sr ?_
 replace H:=H.owNil rByte 5
 refine s_allocA wkP F rfl rfl rfl agz31 rfl H fun b3 w a H F=>bb [0] F H rfl fun a F=>?_
 replace H:=H.nf 3 rfl
 refine nl (sr ?_)
 replace H:=H.owNil rByte 5
 refine sv F rfl (y_build F rfl rfl (cs:=[Value.int .u64 (0),Value.int .u64 (0)]++(bcells (List.replicate 32 0)++(bcells (List.replicate 32 0)++(bcells (List.replicate 32 0)++(bcells (List.replicate 32 0)++([Value.int .i64 (0),Value.int .u64 (0),Value.int .i64 (0),Value.string (txb ([])),Value.string (txb ([])),Value.int .i64 (0),Value.int .i64 (0),Value.slice none (([]:List UInt8)).length 0])))))) (by kernel_rfl)) fun a F=>?_
 replace H:=H.owNil rByte 5
 refine s_allocA wkP F rfl rfl rfl agz31 rfl H fun b4 w a H F=>s_storeA wkP F rfl rfl agg31 rfl rfl rfl H 0 rfl (by simp only [List.length_append,List.length_cons,List.length_nil,icells_length,bcells_length,(List.length_replicate (n:=32)),(List.length_replicate (n:=32)),(List.length_replicate (n:=32)),(List.length_replicate (n:=32))]) (by simp only [List.length_append,List.length_cons,List.length_nil,icells_length,bcells_length,(List.length_replicate (n:=32)),(List.length_replicate (n:=32)),(List.length_replicate (n:=32)),(List.length_replicate (n:=32))]) (flA (fl rfl) (flA (bcells_flat _) (flA (bcells_flat _) (flA (bcells_flat _) (flA (bcells_flat _) (fl rfl)))))) fun w H=>?_
 replace H:=H.nf 6 rfl
 refine nl (sq (sr (bk [0,0,0,0] F H rfl ⟨⟨_,Tryz.underlying25⟩,trivial⟩ fun a F=>?_)))
 rcases spP 13 F rfl hm with ⟨hg5,hm,F⟩ | ⟨hg5,hm,F⟩
 refine bb (List.replicate 5 0) F H rfl fun a F=>nl (cT F rfl (sr (bk [999] F H rfl ⟨rfl,(aggn agg31 (by simp only [List.length_append,List.length_cons,List.length_nil,icells_length,bcells_length,(List.length_replicate (n:=32)),(List.length_replicate (n:=32)),(List.length_replicate (n:=32)),(List.length_replicate (n:=32))])),trivial⟩ fun a F=>s_storeA wkP F rfl rfl agg31 rfl rfl rfl H 3 rfl (by simp only [List.length_append,List.length_cons,List.length_nil,icells_length,bcells_length,(List.length_replicate (n:=32)),(List.length_replicate (n:=32)),(List.length_replicate (n:=32)),(List.length_replicate (n:=32))]) (by simp only [List.length_append,List.length_cons,List.length_nil,icells_length,bcells_length,(List.length_replicate (n:=32)),(List.length_replicate (n:=32)),(List.length_replicate (n:=32)),(List.length_replicate (n:=32))]) (flA (fl rfl) (flA (bcells_flat _) (flA (bcells_flat _) (flA (bcells_flat _) (flA (bcells_flat _) (fl rfl)))))) fun w H=>?_)))
 refine bb [0] F H rfl fun a F=>?_
 replace H:=H.nf 6 rfl
 refine nl (wr (tr ?_))
 replace H:=H.frz 2 rfl
 replace H:=H.mkRc (R:=R_api_Record) (cs:=[Value.int .u64 (0),Value.int .u64 (0)]++(bcells (List.replicate 32 0)++(bcells (List.replicate 32 0)++(bcells (List.replicate 32 0)++(bcells (List.replicate 32 0)++([Value.int .i64 (0),Value.int .u64 (0),Value.int .i64 (0),Value.string (txb ([])),Value.string (txb ([])),Value.int .i64 (0),Value.int .i64 (0),Value.slice none (([]:List UInt8)).length 0])))))) (x:=(0,0,(List.replicate 32 0),(List.replicate 32 0),(List.replicate 32 0),(List.replicate 32 0),(0,0,(0,[],[],0,0,([]:List UInt8))))) (fun gg=>⟨[Value.int .u64 (0)],_,rfl,rfl,⟨[Value.int .u64 (0)],_,rfl,rfl,⟨bcells (List.replicate 32 0),_,rfl,⟨rfl,(List.length_replicate (n:=32))⟩,⟨bcells (List.replicate 32 0),_,rfl,⟨rfl,(List.length_replicate (n:=32))⟩,⟨bcells (List.replicate 32 0),_,rfl,⟨rfl,(List.length_replicate (n:=32))⟩,⟨bcells (List.replicate 32 0),_,rfl,⟨rfl,(List.length_replicate (n:=32))⟩,⟨[Value.int .i64 (0)],_,rfl,rfl,⟨[Value.int .u64 (0)],_,rfl,rfl,⟨[Value.int .i64 (0)],_,rfl,rfl,⟨[Value.string (txb ([]))],_,rfl,rfl,⟨[Value.string (txb ([]))],_,rfl,rfl,⟨[Value.int .i64 (0)],_,rfl,rfl,⟨[Value.int .i64 (0)],_,rfl,rfl,⟨_,_,rfl,(gg 0 _ rfl).choose_spec⟩⟩⟩⟩⟩⟩⟩⟩⟩⟩⟩⟩⟩⟩)
 cases hm
 refine x_resC2 F rfl (⟨_,rfl,agg31.run_load (H.blk 4 rfl).row (by simp only [List.length_append,List.length_cons,List.length_nil,icells_length,bcells_length,(List.length_replicate (n:=32)),(List.length_replicate (n:=32)),(List.length_replicate (n:=32)),(List.length_replicate (n:=32))])⟩) rfl ?_
 exact ⟨_,rfl,[Value.int .u64 (0),Value.int .u64 (0)]++(bcells (List.replicate 32 0)++(bcells (List.replicate 32 0)++(bcells (List.replicate 32 0)++(bcells (List.replicate 32 0)++([Value.int .i64 (0),Value.int .u64 (0),Value.int .i64 (0),Value.string (txb ([])),Value.string (txb ([])),Value.int .i64 (0),Value.int .i64 (0),Value.slice none (([]:List UInt8)).length 0]))))),rfl,(H.pm 7 [0] rfl:)⟩
 refine bb [0] F H rfl fun a F=>g_onP F rfl rfl rfl rfl ?_
 obtain ⟨x6,ex6,hm⟩:=ob hm
 obtain ⟨b7,o7,hp7,cs8,H⟩:=H.slE 5 rfl ex6
 obtain rfl:=H.rcB 1 rfl
 replace H:=H.dp 1 rfl
 refine sv F rfl (y_idxS F elem25 rfl rfl rfl hp7 ex6) fun a F=>bk [0,0,0] F H rfl ⟨rfl,plain5,trivial⟩ fun a F=>?_
 refine nl (cNm F rfl hm (fun hg9 hm=>?_) (fun hg9 hm=>?_))
 refine sr (bk [1999] F H rfl ⟨rfl,(aggn agg31 (by simp only [List.length_append,List.length_cons,List.length_nil,icells_length,bcells_length,(List.length_replicate (n:=32)),(List.length_replicate (n:=32)),(List.length_replicate (n:=32)),(List.length_replicate (n:=32))])),trivial⟩ fun a F=>s_storeA wkP F rfl rfl agg31 rfl rfl rfl H 4 rfl (by simp only [List.length_append,List.length_cons,List.length_nil,icells_length,bcells_length,(List.length_replicate (n:=32)),(List.length_replicate (n:=32)),(List.length_replicate (n:=32)),(List.length_replicate (n:=32))]) (by simp only [List.length_append,List.length_cons,List.length_nil,icells_length,bcells_length,(List.length_replicate (n:=32)),(List.length_replicate (n:=32)),(List.length_replicate (n:=32)),(List.length_replicate (n:=32))]) (flA (fl rfl) (flA (bcells_flat _) (flA (bcells_flat _) (flA (bcells_flat _) (flA (bcells_flat _) (fl rfl)))))) fun w H=>?_)
 refine bb [0] F H rfl fun a F=>?_
 replace H:=H.nf 7 rfl
 refine nl (wr (tr ?_))
 replace H:=H.frz 3 rfl
 replace H:=H.mkRc (R:=R_api_Record) (cs:=[Value.int .u64 (0),Value.int .u64 (0)]++(bcells (List.replicate 32 0)++(bcells (List.replicate 32 0)++(bcells (List.replicate 32 0)++(bcells (List.replicate 32 0)++([Value.int .i64 (0),Value.int .u64 (0),Value.int .i64 (0),Value.string (txb ([])),Value.string (txb ([])),Value.int .i64 (0),Value.int .i64 (0),Value.slice none (([]:List UInt8)).length 0])))))) (x:=(0,0,(List.replicate 32 0),(List.replicate 32 0),(List.replicate 32 0),(List.replicate 32 0),(0,0,(0,[],[],0,0,([]:List UInt8))))) (fun gg=>⟨[Value.int .u64 (0)],_,rfl,rfl,⟨[Value.int .u64 (0)],_,rfl,rfl,⟨bcells (List.replicate 32 0),_,rfl,⟨rfl,(List.length_replicate (n:=32))⟩,⟨bcells (List.replicate 32 0),_,rfl,⟨rfl,(List.length_replicate (n:=32))⟩,⟨bcells (List.replicate 32 0),_,rfl,⟨rfl,(List.length_replicate (n:=32))⟩,⟨bcells (List.replicate 32 0),_,rfl,⟨rfl,(List.length_replicate (n:=32))⟩,⟨[Value.int .i64 (0)],_,rfl,rfl,⟨[Value.int .u64 (0)],_,rfl,rfl,⟨[Value.int .i64 (0)],_,rfl,rfl,⟨[Value.string (txb ([]))],_,rfl,rfl,⟨[Value.string (txb ([]))],_,rfl,rfl,⟨[Value.int .i64 (0)],_,rfl,rfl,⟨[Value.int .i64 (0)],_,rfl,rfl,⟨_,_,rfl,(gg 0 _ rfl).choose_spec⟩⟩⟩⟩⟩⟩⟩⟩⟩⟩⟩⟩⟩⟩)
 cases hm
 refine x_resC2 F rfl (⟨_,rfl,agg31.run_load (H.blk 5 rfl).row (by simp only [List.length_append,List.length_cons,List.length_nil,icells_length,bcells_length,(List.length_replicate (n:=32)),(List.length_replicate (n:=32)),(List.length_replicate (n:=32)),(List.length_replicate (n:=32))])⟩) rfl ?_
 exact ⟨_,rfl,[Value.int .u64 (0),Value.int .u64 (0)]++(bcells (List.replicate 32 0)++(bcells (List.replicate 32 0)++(bcells (List.replicate 32 0)++(bcells (List.replicate 32 0)++([Value.int .i64 (0),Value.int .u64 (0),Value.int .i64 (0),Value.string (txb ([])),Value.string (txb ([])),Value.int .i64 (0),Value.int .i64 (0),Value.slice none (([]:List UInt8)).length 0]))))),rfl,(H.pm 8 [0] rfl:)⟩
 refine sk (ct (sq ?_))
 obtain ⟨r78,er78,hm78⟩:=ob hm;clear hm;revert er78;intro hm
 refine x_mid (fun aa ww=>∃ (b79:Nat) (p84:Option Addr) (c84:Nat),Fr ⟨87,[]⟩ aa [(0,.slice p1 (x0_).length c1),(2,.pointer (some ⟨b3,0,none⟩)),(4,.pointer (some ⟨b4,0,none⟩)),(5,.pointer (some ⟨b79,0,none⟩))]∧((r78.2.2.1).length=32)∧((r78.2.2.2.1).length=32)∧((r78.2.2.2.2.1).length=32)∧((r78.2.2.2.2.2.1).length=32)∧St w0 ww (HP.row b7 (o7+(0:Int).toNat * 1) ([.int .u8 (((x6).toNat:Int))])::HP.blk b4 ([Value.int .u64 (0),Value.int .u64 (0)]++(bcells (List.replicate 32 0)++(bcells (List.replicate 32 0)++(bcells (List.replicate 32 0)++(bcells (List.replicate 32 0)++([Value.int .i64 (0),Value.int .u64 (0),Value.int .i64 (0),Value.string (txb ([])),Value.string (txb ([])),Value.int .i64 (0),Value.int .i64 (0),Value.slice none (([]:List UInt8)).length 0])))))) 31::HP.ow rByte 5 none 0 ([]:List UInt8)::HP.ow rByte 5 none 0 ([]:List UInt8)::HP.blk b3 ([Value.int .u64 (0),Value.int .u64 (0)]++(bcells (List.replicate 32 0)++(bcells (List.replicate 32 0)++(bcells (List.replicate 32 0)++(bcells (List.replicate 32 0)++([Value.int .i64 (0),Value.int .u64 (0),Value.int .i64 (0),Value.string (txb ([])),Value.string (txb ([])),Value.int .i64 (0),Value.int .i64 (0),Value.slice none (([]:List UInt8)).length 0])))))) 31::HP.ow rByte 5 none 0 ([]:List UInt8)::HP.sl rByte p1 c1 x0_::HP.blk b79 ([Value.int .u64 (r78.1),Value.int .u64 (r78.2.1)]++(bcells r78.2.2.1++(bcells r78.2.2.2.1++(bcells r78.2.2.2.2.1++(bcells r78.2.2.2.2.2.1++([Value.int .i64 (0),Value.int .u64 (0),Value.int .i64 (0),Value.string (txb ([])),Value.string (txb ([])),Value.int .i64 (0),Value.int .i64 (0),Value.slice p84 (r78.2.2.2.2.2.2).length c84])))))) 31::HP.ow rByte 5 p84 c84 r78.2.2.2.2.2.2::l)) ?_ ?_
 obtain ⟨x86,ex86,hm⟩:=ob hm
 have hc85:=H.slCap 6 rfl
 replace H:=H.slSubN 1 rfl 6 rfl ex86
 obtain ⟨x88,ex88,hm⟩:=ob hm
 have hc87:=H.slCap 7 rfl
 replace H:=H.slSubN 1 rfl 7 rfl ex88
 obtain ⟨x90,ex90,hm⟩:=ob hm
 have hc89:=H.slCap 8 rfl
 replace H:=H.slSubN 1 rfl 8 rfl ex90
 obtain ⟨x92,ex92,hm⟩:=ob hm
 have hc91:=H.slCap 9 rfl
 replace H:=H.slSubN 1 rfl 9 rfl ex92
 obtain ⟨x94,ex94,hm⟩:=ob hm
 have hc93:=H.slCap 10 rfl
 replace H:=H.slSubN 1 rfl 10 rfl ex94
 obtain ⟨x96,ex96,hm⟩:=ob hm
 have hc95:=H.slCap 11 rfl
 replace H:=H.slSubN 1 rfl 11 rfl ex96
 refine mix_region [2,5,8,11,14,17,19,20] [20] (.step 0 0 (.step 0 1 (.step 0 3 (.step 0 4 (.step 0 6 (.step 0 7 (.step 0 9 (.step 0 10 (.step 0 12 (.step 0 13 (.step 0 15 (.step 0 16 (.fork 2 (.fork 5 (.fork 8 (.fork 11 (.fork 14 (.fork 17 (.step 0 18 (.step 2 19 (.step 3 20 .done))) 19 (.step 2 17 (.step 0 18 (.step 3 20 .done)))) 19 (.step 2 14 (.step 2 17 (.step 0 18 (.step 3 20 .done))))) 19 (.step 2 11 (.step 2 14 (.step 2 17 (.step 0 18 (.step 3 20 .done)))))) 19 (.step 2 8 (.step 2 11 (.step 2 14 (.step 2 17 (.step 0 18 (.step 3 20 .done))))))) 19 (.step 2 5 (.step 2 8 (.step 2 11 (.step 2 14 (.step 2 17 (.step 0 18 (.step 3 20 .done)))))))) 19 (.step 2 2 (.step 2 5 (.step 2 8 (.step 2 11 (.step 2 14 (.step 2 17 (.step 0 18 (.step 3 20 .done))))))))))))))))))))) (fun u=>∃ ls,St w0 u (ls)) (by kernel_rfl) (by kernel_rfl) ⟨_,H.drew⟩ ?_
 replace H:=H.drew
 generalize w.drew=w at H ⊢
 refine mb [0] F H rfl fun a F=>?_
 refine m_pure F rfl rfl rfl rfl (fun u hu=>y_slLH F elem25 rfl rfl rfl rfl ex86 hc85) fun a F=>?_
 refine mb [0] F H rfl fun a F=>?_
 refine m_pure F rfl rfl rfl rfl (fun u hu=>y_slLH F elem25 rfl rfl rfl rfl ex88 hc87) fun a F=>?_
 refine mb [0] F H rfl fun a F=>?_
 refine m_pure F rfl rfl rfl rfl (fun u hu=>y_slLH F elem25 rfl rfl rfl rfl ex90 hc89) fun a F=>?_
 refine mb [0] F H rfl fun a F=>?_
 refine m_pure F rfl rfl rfl rfl (fun u hu=>y_slLH F elem25 rfl rfl rfl rfl ex92 hc91) fun a F=>?_
 refine mb [0] F H rfl fun a F=>?_
 refine m_pure F rfl rfl rfl rfl (fun u hu=>y_slLH F elem25 rfl rfl rfl rfl ex94 hc93) fun a F=>?_
 refine mb [0] F H rfl fun a F=>?_
 refine m_pure F rfl rfl rfl rfl (fun u hu=>y_slLH F elem25 rfl rfl rfl rfl ex96 hc95) fun a F=>?_
 refine m_fork rfl rfl rfl rfl ?_ ?_
 refine m_heavy rfl rfl ?_
 obtain ⟨x97,ex97,hm⟩:=ob hm
 refine sd F rfl ent32 (w_m_triremeref02_Number ex97 (H.pm 13 [5,0,1,2,3,4,5,6,7,8,9,10,11,12] rfl:):) ?_;rintro _ w a ⟨rfl,H⟩ F
 refine lz ?_;refine ct ⟨⟨_,H⟩,?_⟩
 refine m_fork rfl rfl rfl rfl ?_ ?_
 refine m_heavy rfl rfl ?_
 obtain ⟨x98,ex98,hm⟩:=ob hm
 refine sd F rfl ent32 (w_m_triremeref02_Number ex98 (H.pm 13 [4,0,1,2,3,4,5,6,7,8,9,10,11,12] rfl:):) ?_;rintro _ w a ⟨rfl,H⟩ F
 refine lz ?_;refine ct ⟨⟨_,H⟩,?_⟩
 refine m_fork rfl rfl rfl rfl ?_ ?_
 refine m_heavy rfl rfl ?_
 obtain ⟨x99,ex99,hm⟩:=ob hm
 refine sd F rfl ent33 (w_m_triremeref14_hash ex99 (H.pm 13 [3,0,1,2,3,4,5,6,7,8,9,10,11,12] rfl:):) ?_;rintro _ w a ⟨rfl,hl100,H⟩ F
 refine lz ?_;refine ct ⟨⟨_,H⟩,?_⟩
 refine m_fork rfl rfl rfl rfl ?_ ?_
 refine m_heavy rfl rfl ?_
 obtain ⟨x101,ex101,hm⟩:=ob hm
 refine sd F rfl ent33 (w_m_triremeref14_hash ex101 (H.pm 13 [2,0,1,2,3,4,5,6,7,8,9,10,11,12] rfl:):) ?_;rintro _ w a ⟨rfl,hl102,H⟩ F
 refine lz ?_;refine ct ⟨⟨_,H⟩,?_⟩
 refine m_fork rfl rfl rfl rfl ?_ ?_
 refine m_heavy rfl rfl ?_
 obtain ⟨x103,ex103,hm⟩:=ob hm
 refine sd F rfl ent33 (w_m_triremeref14_hash ex103 (H.pm 13 [1,0,1,2,3,4,5,6,7,8,9,10,11,12] rfl:):) ?_;rintro _ w a ⟨rfl,hl104,H⟩ F
 refine lz ?_;refine ct ⟨⟨_,H⟩,?_⟩
 refine m_fork rfl rfl rfl rfl ?_ ?_
 refine m_heavy rfl rfl ?_
 obtain ⟨x105,ex105,hm⟩:=ob hm
 refine sd F rfl ent33 (w_m_triremeref14_hash ex105 (H.pm 13 [0,0,1,2,3,4,5,6,7,8,9,10,11,12] rfl:):) ?_;rintro _ w a ⟨rfl,hl106,H⟩ F
 refine lz ?_;refine ct ⟨⟨_,H⟩,?_⟩
 replace H:=H.owNil rByte 5
 refine m_pure F rfl rfl rfl rfl (fun u hu=>y_build F rfl rfl (cs:=[Value.int .u64 (x97),Value.int .u64 (x98)]++(bcells x99++(bcells x101++(bcells x103++(bcells x105++([Value.int .i64 (0),Value.int .u64 (0),Value.int .i64 (0),Value.string (txb ([])),Value.string (txb ([])),Value.int .i64 (0),Value.int .i64 (0),Value.slice none (([]:List UInt8)).length 0])))))) (build_31_0_1_2_3_4_5 x97 x98 x99 hl100 x101 hl102 x103 hl104 x105 hl106)) fun a F=>?_
 refine m_heavy rfl rfl ?_
 replace H:=H.owNil rByte 5
 refine s_allocA wkP F rfl rfl rfl agz31 rfl H fun b107 w a H F=>?_
 refine lz ?_;refine ct ⟨⟨_,H⟩,?_⟩
 refine m_last rfl rfl (s_storeA wkP F rfl rfl agg31 rfl rfl rfl H 0 rfl (by simp only [List.length_append,List.length_cons,List.length_nil,icells_length,bcells_length,hl100,hl102,hl104,hl106]) (by simp only [List.length_append,List.length_cons,List.length_nil,icells_length,bcells_length,(List.length_replicate (n:=32)),(List.length_replicate (n:=32)),(List.length_replicate (n:=32)),(List.length_replicate (n:=32))]) (flA (fl rfl) (flA (bcells_flat _) (flA (bcells_flat _) (flA (bcells_flat _) (flA (bcells_flat _) (fl rfl)))))) fun w H=>?_)
 refine lz ?_;refine ct ?_
 refine m_nil ?_
 cases hm
 refine ct ?_
 exact ⟨b107,none,0,F.sl rfl,hl100,hl102,hl104,hl106,(H.pm 16 [9,10,11,12,13,14,15,0,2] rfl:)⟩
 refine m_heavy rfl rfl ?_
 replace H:=H.owNil rByte 5
 refine s_allocA wkP F rfl rfl rfl agz31 rfl H fun b108 w a H F=>?_
 refine lz ?_;refine ct ⟨⟨_,H⟩,?_⟩
 refine m_heavy rfl rfl ?_
 obtain ⟨x109,ex109,hm⟩:=ob hm
 refine sd F rfl ent33 (w_m_triremeref14_hash ex109 (H.pm 15 [2,0,1,2,3,4,5,6,7,8,9,10,11,12,13,14] rfl:):) ?_;rintro _ w a ⟨rfl,hl110,H⟩ F
 refine lz ?_;refine ct ⟨⟨_,H⟩,?_⟩
 replace H:=H.owNil rByte 5
 refine m_pure F rfl rfl rfl rfl (fun u hu=>y_build F rfl rfl (cs:=[Value.int .u64 (x97),Value.int .u64 (x98)]++(bcells x99++(bcells x101++(bcells x103++(bcells x109++([Value.int .i64 (0),Value.int .u64 (0),Value.int .i64 (0),Value.string (txb ([])),Value.string (txb ([])),Value.int .i64 (0),Value.int .i64 (0),Value.slice none (([]:List UInt8)).length 0])))))) (build_31_0_1_2_3_4_5 x97 x98 x99 hl100 x101 hl102 x103 hl104 x109 hl110)) fun a F=>?_
 refine m_last rfl rfl (s_storeA wkP F rfl rfl agg31 rfl rfl rfl H 1 rfl (by simp only [List.length_append,List.length_cons,List.length_nil,icells_length,bcells_length,hl100,hl102,hl104,hl110]) (by simp only [List.length_append,List.length_cons,List.length_nil,icells_length,bcells_length,(List.length_replicate (n:=32)),(List.length_replicate (n:=32)),(List.length_replicate (n:=32)),(List.length_replicate (n:=32))]) (flA (fl rfl) (flA (bcells_flat _) (flA (bcells_flat _) (flA (bcells_flat _) (flA (bcells_flat _) (fl rfl)))))) fun w H=>?_)
 refine lz ?_;refine ct ?_
 refine m_nil ?_
 cases hm
 refine ct ?_
 exact ⟨b108,none,0,F.sl rfl,hl100,hl102,hl104,hl110,(H.pm 16 [9,10,11,12,13,14,15,1,0] rfl:)⟩
 refine m_heavy rfl rfl ?_
 replace H:=H.owNil rByte 5
 refine s_allocA wkP F rfl rfl rfl agz31 rfl H fun b111 w a H F=>?_
 refine lz ?_;refine ct ⟨⟨_,H⟩,?_⟩
 refine m_heavy rfl rfl ?_
 obtain ⟨x112,ex112,hm⟩:=ob hm
 refine sd F rfl ent33 (w_m_triremeref14_hash ex112 (H.pm 15 [3,0,1,2,3,4,5,6,7,8,9,10,11,12,13,14] rfl:):) ?_;rintro _ w a ⟨rfl,hl113,H⟩ F
 refine lz ?_;refine ct ⟨⟨_,H⟩,?_⟩
 refine m_heavy rfl rfl ?_
 obtain ⟨x114,ex114,hm⟩:=ob hm
 refine sd F rfl ent33 (w_m_triremeref14_hash ex114 (H.pm 15 [2,0,1,2,3,4,5,6,7,8,9,10,11,12,13,14] rfl:):) ?_;rintro _ w a ⟨rfl,hl115,H⟩ F
 refine lz ?_;refine ct ⟨⟨_,H⟩,?_⟩
 replace H:=H.owNil rByte 5
 refine m_pure F rfl rfl rfl rfl (fun u hu=>y_build F rfl rfl (cs:=[Value.int .u64 (x97),Value.int .u64 (x98)]++(bcells x99++(bcells x101++(bcells x112++(bcells x114++([Value.int .i64 (0),Value.int .u64 (0),Value.int .i64 (0),Value.string (txb ([])),Value.string (txb ([])),Value.int .i64 (0),Value.int .i64 (0),Value.slice none (([]:List UInt8)).length 0])))))) (build_31_0_1_2_3_4_5 x97 x98 x99 hl100 x101 hl102 x112 hl113 x114 hl115)) fun a F=>?_
 refine m_last rfl rfl (s_storeA wkP F rfl rfl agg31 rfl rfl rfl H 1 rfl (by simp only [List.length_append,List.length_cons,List.length_nil,icells_length,bcells_length,hl100,hl102,hl113,hl115]) (by simp only [List.length_append,List.length_cons,List.length_nil,icells_length,bcells_length,(List.length_replicate (n:=32)),(List.length_replicate (n:=32)),(List.length_replicate (n:=32)),(List.length_replicate (n:=32))]) (flA (fl rfl) (flA (bcells_flat _) (flA (bcells_flat _) (flA (bcells_flat _) (flA (bcells_flat _) (fl rfl)))))) fun w H=>?_)
 refine lz ?_;refine ct ?_
 refine m_nil ?_
 cases hm
 refine ct ?_
 exact ⟨b111,none,0,F.sl rfl,hl100,hl102,hl113,hl115,(H.pm 16 [9,10,11,12,13,14,15,1,0] rfl:)⟩
 refine m_heavy rfl rfl ?_
 replace H:=H.owNil rByte 5
 refine s_allocA wkP F rfl rfl rfl agz31 rfl H fun b116 w a H F=>?_
 refine lz ?_;refine ct ⟨⟨_,H⟩,?_⟩
 refine m_heavy rfl rfl ?_
 obtain ⟨x117,ex117,hm⟩:=ob hm
 refine sd F rfl ent33 (w_m_triremeref14_hash ex117 (H.pm 15 [4,0,1,2,3,4,5,6,7,8,9,10,11,12,13,14] rfl:):) ?_;rintro _ w a ⟨rfl,hl118,H⟩ F
 refine lz ?_;refine ct ⟨⟨_,H⟩,?_⟩
 refine m_heavy rfl rfl ?_
 obtain ⟨x119,ex119,hm⟩:=ob hm
 refine sd F rfl ent33 (w_m_triremeref14_hash ex119 (H.pm 15 [3,0,1,2,3,4,5,6,7,8,9,10,11,12,13,14] rfl:):) ?_;rintro _ w a ⟨rfl,hl120,H⟩ F
 refine lz ?_;refine ct ⟨⟨_,H⟩,?_⟩
 refine m_heavy rfl rfl ?_
 obtain ⟨x121,ex121,hm⟩:=ob hm
 refine sd F rfl ent33 (w_m_triremeref14_hash ex121 (H.pm 15 [2,0,1,2,3,4,5,6,7,8,9,10,11,12,13,14] rfl:):) ?_;rintro _ w a ⟨rfl,hl122,H⟩ F
 refine lz ?_;refine ct ⟨⟨_,H⟩,?_⟩
 replace H:=H.owNil rByte 5
 refine m_pure F rfl rfl rfl rfl (fun u hu=>y_build F rfl rfl (cs:=[Value.int .u64 (x97),Value.int .u64 (x98)]++(bcells x99++(bcells x117++(bcells x119++(bcells x121++([Value.int .i64 (0),Value.int .u64 (0),Value.int .i64 (0),Value.string (txb ([])),Value.string (txb ([])),Value.int .i64 (0),Value.int .i64 (0),Value.slice none (([]:List UInt8)).length 0])))))) (build_31_0_1_2_3_4_5 x97 x98 x99 hl100 x117 hl118 x119 hl120 x121 hl122)) fun a F=>?_
 refine m_last rfl rfl (s_storeA wkP F rfl rfl agg31 rfl rfl rfl H 1 rfl (by simp only [List.length_append,List.length_cons,List.length_nil,icells_length,bcells_length,hl100,hl118,hl120,hl122]) (by simp only [List.length_append,List.length_cons,List.length_nil,icells_length,bcells_length,(List.length_replicate (n:=32)),(List.length_replicate (n:=32)),(List.length_replicate (n:=32)),(List.length_replicate (n:=32))]) (flA (fl rfl) (flA (bcells_flat _) (flA (bcells_flat _) (flA (bcells_flat _) (flA (bcells_flat _) (fl rfl)))))) fun w H=>?_)
 refine lz ?_;refine ct ?_
 refine m_nil ?_
 cases hm
 refine ct ?_
 exact ⟨b116,none,0,F.sl rfl,hl100,hl118,hl120,hl122,(H.pm 16 [9,10,11,12,13,14,15,1,0] rfl:)⟩
 refine m_heavy rfl rfl ?_
 replace H:=H.owNil rByte 5
 refine s_allocA wkP F rfl rfl rfl agz31 rfl H fun b123 w a H F=>?_
 refine lz ?_;refine ct ⟨⟨_,H⟩,?_⟩
 refine m_heavy rfl rfl ?_
 obtain ⟨x124,ex124,hm⟩:=ob hm
 refine sd F rfl ent33 (w_m_triremeref14_hash ex124 (H.pm 15 [5,0,1,2,3,4,5,6,7,8,9,10,11,12,13,14] rfl:):) ?_;rintro _ w a ⟨rfl,hl125,H⟩ F
 refine lz ?_;refine ct ⟨⟨_,H⟩,?_⟩
 refine m_heavy rfl rfl ?_
 obtain ⟨x126,ex126,hm⟩:=ob hm
 refine sd F rfl ent33 (w_m_triremeref14_hash ex126 (H.pm 15 [4,0,1,2,3,4,5,6,7,8,9,10,11,12,13,14] rfl:):) ?_;rintro _ w a ⟨rfl,hl127,H⟩ F
 refine lz ?_;refine ct ⟨⟨_,H⟩,?_⟩
 refine m_heavy rfl rfl ?_
 obtain ⟨x128,ex128,hm⟩:=ob hm
 refine sd F rfl ent33 (w_m_triremeref14_hash ex128 (H.pm 15 [3,0,1,2,3,4,5,6,7,8,9,10,11,12,13,14] rfl:):) ?_;rintro _ w a ⟨rfl,hl129,H⟩ F
 refine lz ?_;refine ct ⟨⟨_,H⟩,?_⟩
 refine m_heavy rfl rfl ?_
 obtain ⟨x130,ex130,hm⟩:=ob hm
 refine sd F rfl ent33 (w_m_triremeref14_hash ex130 (H.pm 15 [2,0,1,2,3,4,5,6,7,8,9,10,11,12,13,14] rfl:):) ?_;rintro _ w a ⟨rfl,hl131,H⟩ F
 refine lz ?_;refine ct ⟨⟨_,H⟩,?_⟩
 replace H:=H.owNil rByte 5
 refine m_pure F rfl rfl rfl rfl (fun u hu=>y_build F rfl rfl (cs:=[Value.int .u64 (x97),Value.int .u64 (x98)]++(bcells x124++(bcells x126++(bcells x128++(bcells x130++([Value.int .i64 (0),Value.int .u64 (0),Value.int .i64 (0),Value.string (txb ([])),Value.string (txb ([])),Value.int .i64 (0),Value.int .i64 (0),Value.slice none (([]:List UInt8)).length 0])))))) (build_31_0_1_2_3_4_5 x97 x98 x124 hl125 x126 hl127 x128 hl129 x130 hl131)) fun a F=>?_
 refine m_last rfl rfl (s_storeA wkP F rfl rfl agg31 rfl rfl rfl H 1 rfl (by simp only [List.length_append,List.length_cons,List.length_nil,icells_length,bcells_length,hl125,hl127,hl129,hl131]) (by simp only [List.length_append,List.length_cons,List.length_nil,icells_length,bcells_length,(List.length_replicate (n:=32)),(List.length_replicate (n:=32)),(List.length_replicate (n:=32)),(List.length_replicate (n:=32))]) (flA (fl rfl) (flA (bcells_flat _) (flA (bcells_flat _) (flA (bcells_flat _) (flA (bcells_flat _) (fl rfl)))))) fun w H=>?_)
 refine lz ?_;refine ct ?_
 refine m_nil ?_
 cases hm
 refine ct ?_
 exact ⟨b123,none,0,F.sl rfl,hl125,hl127,hl129,hl131,(H.pm 16 [9,10,11,12,13,14,15,1,0] rfl:)⟩
 refine m_heavy rfl rfl ?_
 replace H:=H.owNil rByte 5
 refine s_allocA wkP F rfl rfl rfl agz31 rfl H fun b132 w a H F=>?_
 refine lz ?_;refine ct ⟨⟨_,H⟩,?_⟩
 refine m_heavy rfl rfl ?_
 obtain ⟨x133,ex133,hm⟩:=ob hm
 refine sd F rfl ent32 (w_m_triremeref02_Number ex133 (H.pm 15 [6,0,1,2,3,4,5,6,7,8,9,10,11,12,13,14] rfl:):) ?_;rintro _ w a ⟨rfl,H⟩ F
 refine lz ?_;refine ct ⟨⟨_,H⟩,?_⟩
 refine m_heavy rfl rfl ?_
 obtain ⟨x134,ex134,hm⟩:=ob hm
 refine sd F rfl ent33 (w_m_triremeref14_hash ex134 (H.pm 15 [5,0,1,2,3,4,5,6,7,8,9,10,11,12,13,14] rfl:):) ?_;rintro _ w a ⟨rfl,hl135,H⟩ F
 refine lz ?_;refine ct ⟨⟨_,H⟩,?_⟩
 refine m_heavy rfl rfl ?_
 obtain ⟨x136,ex136,hm⟩:=ob hm
 refine sd F rfl ent33 (w_m_triremeref14_hash ex136 (H.pm 15 [4,0,1,2,3,4,5,6,7,8,9,10,11,12,13,14] rfl:):) ?_;rintro _ w a ⟨rfl,hl137,H⟩ F
 refine lz ?_;refine ct ⟨⟨_,H⟩,?_⟩
 refine m_heavy rfl rfl ?_
 obtain ⟨x138,ex138,hm⟩:=ob hm
 refine sd F rfl ent33 (w_m_triremeref14_hash ex138 (H.pm 15 [3,0,1,2,3,4,5,6,7,8,9,10,11,12,13,14] rfl:):) ?_;rintro _ w a ⟨rfl,hl139,H⟩ F
 refine lz ?_;refine ct ⟨⟨_,H⟩,?_⟩
 refine m_heavy rfl rfl ?_
 obtain ⟨x140,ex140,hm⟩:=ob hm
 refine sd F rfl ent33 (w_m_triremeref14_hash ex140 (H.pm 15 [2,0,1,2,3,4,5,6,7,8,9,10,11,12,13,14] rfl:):) ?_;rintro _ w a ⟨rfl,hl141,H⟩ F
 refine lz ?_;refine ct ⟨⟨_,H⟩,?_⟩
 replace H:=H.owNil rByte 5
 refine m_pure F rfl rfl rfl rfl (fun u hu=>y_build F rfl rfl (cs:=[Value.int .u64 (x97),Value.int .u64 (x133)]++(bcells x134++(bcells x136++(bcells x138++(bcells x140++([Value.int .i64 (0),Value.int .u64 (0),Value.int .i64 (0),Value.string (txb ([])),Value.string (txb ([])),Value.int .i64 (0),Value.int .i64 (0),Value.slice none (([]:List UInt8)).length 0])))))) (build_31_0_1_2_3_4_5 x97 x133 x134 hl135 x136 hl137 x138 hl139 x140 hl141)) fun a F=>?_
 refine m_last rfl rfl (s_storeA wkP F rfl rfl agg31 rfl rfl rfl H 1 rfl (by simp only [List.length_append,List.length_cons,List.length_nil,icells_length,bcells_length,hl135,hl137,hl139,hl141]) (by simp only [List.length_append,List.length_cons,List.length_nil,icells_length,bcells_length,(List.length_replicate (n:=32)),(List.length_replicate (n:=32)),(List.length_replicate (n:=32)),(List.length_replicate (n:=32))]) (flA (fl rfl) (flA (bcells_flat _) (flA (bcells_flat _) (flA (bcells_flat _) (flA (bcells_flat _) (fl rfl)))))) fun w H=>?_)
 refine lz ?_;refine ct ?_
 refine m_nil ?_
 cases hm
 refine ct ?_
 exact ⟨b132,none,0,F.sl rfl,hl135,hl137,hl139,hl141,(H.pm 16 [9,10,11,12,13,14,15,1,0] rfl:)⟩
 refine m_heavy rfl rfl ?_
 replace H:=H.owNil rByte 5
 refine s_allocA wkP F rfl rfl rfl agz31 rfl H fun b142 w a H F=>?_
 refine lz ?_;refine ct ⟨⟨_,H⟩,?_⟩
 refine m_heavy rfl rfl ?_
 obtain ⟨x143,ex143,hm⟩:=ob hm
 refine sd F rfl ent32 (w_m_triremeref02_Number ex143 (H.pm 15 [7,0,1,2,3,4,5,6,7,8,9,10,11,12,13,14] rfl:):) ?_;rintro _ w a ⟨rfl,H⟩ F
 refine lz ?_;refine ct ⟨⟨_,H⟩,?_⟩
 refine m_heavy rfl rfl ?_
 obtain ⟨x144,ex144,hm⟩:=ob hm
 refine sd F rfl ent32 (w_m_triremeref02_Number ex144 (H.pm 15 [6,0,1,2,3,4,5,6,7,8,9,10,11,12,13,14] rfl:):) ?_;rintro _ w a ⟨rfl,H⟩ F
 refine lz ?_;refine ct ⟨⟨_,H⟩,?_⟩
 refine m_heavy rfl rfl ?_
 obtain ⟨x145,ex145,hm⟩:=ob hm
 refine sd F rfl ent33 (w_m_triremeref14_hash ex145 (H.pm 15 [5,0,1,2,3,4,5,6,7,8,9,10,11,12,13,14] rfl:):) ?_;rintro _ w a ⟨rfl,hl146,H⟩ F
 refine lz ?_;refine ct ⟨⟨_,H⟩,?_⟩
 refine m_heavy rfl rfl ?_
 obtain ⟨x147,ex147,hm⟩:=ob hm
 refine sd F rfl ent33 (w_m_triremeref14_hash ex147 (H.pm 15 [4,0,1,2,3,4,5,6,7,8,9,10,11,12,13,14] rfl:):) ?_;rintro _ w a ⟨rfl,hl148,H⟩ F
 refine lz ?_;refine ct ⟨⟨_,H⟩,?_⟩
 refine m_heavy rfl rfl ?_
 obtain ⟨x149,ex149,hm⟩:=ob hm
 refine sd F rfl ent33 (w_m_triremeref14_hash ex149 (H.pm 15 [3,0,1,2,3,4,5,6,7,8,9,10,11,12,13,14] rfl:):) ?_;rintro _ w a ⟨rfl,hl150,H⟩ F
 refine lz ?_;refine ct ⟨⟨_,H⟩,?_⟩
 refine m_heavy rfl rfl ?_
 obtain ⟨x151,ex151,hm⟩:=ob hm
 refine sd F rfl ent33 (w_m_triremeref14_hash ex151 (H.pm 15 [2,0,1,2,3,4,5,6,7,8,9,10,11,12,13,14] rfl:):) ?_;rintro _ w a ⟨rfl,hl152,H⟩ F
 refine lz ?_;refine ct ⟨⟨_,H⟩,?_⟩
 replace H:=H.owNil rByte 5
 refine m_pure F rfl rfl rfl rfl (fun u hu=>y_build F rfl rfl (cs:=[Value.int .u64 (x143),Value.int .u64 (x144)]++(bcells x145++(bcells x147++(bcells x149++(bcells x151++([Value.int .i64 (0),Value.int .u64 (0),Value.int .i64 (0),Value.string (txb ([])),Value.string (txb ([])),Value.int .i64 (0),Value.int .i64 (0),Value.slice none (([]:List UInt8)).length 0])))))) (build_31_0_1_2_3_4_5 x143 x144 x145 hl146 x147 hl148 x149 hl150 x151 hl152)) fun a F=>?_
 refine m_last rfl rfl (s_storeA wkP F rfl rfl agg31 rfl rfl rfl H 1 rfl (by simp only [List.length_append,List.length_cons,List.length_nil,icells_length,bcells_length,hl146,hl148,hl150,hl152]) (by simp only [List.length_append,List.length_cons,List.length_nil,icells_length,bcells_length,(List.length_replicate (n:=32)),(List.length_replicate (n:=32)),(List.length_replicate (n:=32)),(List.length_replicate (n:=32))]) (flA (fl rfl) (flA (bcells_flat _) (flA (bcells_flat _) (flA (bcells_flat _) (flA (bcells_flat _) (fl rfl)))))) fun w H=>?_)
 refine lz ?_;refine ct ?_
 refine m_nil ?_
 cases hm
 refine ct ?_
 exact ⟨b142,none,0,F.sl rfl,hl146,hl148,hl150,hl152,(H.pm 16 [9,10,11,12,13,14,15,1,0] rfl:)⟩
 clear F H hm
 rintro a w ⟨b79,p84,c84,F,hl80,hl81,hl82,hl83,H⟩;have hm:=hm78;clear hm78
 refine ct (sb [0] F H rfl fun a F=>?_)
 obtain ⟨x153,ex153,hm⟩:=ob hm
 obtain ⟨b154,o154,hp154,cs155,H⟩:=H.slE 6 rfl ex153
 obtain rfl:=H.rcB 1 rfl
 replace H:=H.dp 1 rfl
 refine sv F rfl (y_idxS F elem25 rfl rfl rfl hp154 ex153) fun a F=>bk [0,0,130,0] F H rfl ⟨rfl,plain5,Tryz.underlying5,Tryz.underlying3,fld31_6,fld29_0,trivial⟩ fun a F=>?_
 refine s_stC wkP F rfl rfl zero3 rfl rfl rfl rfl rfl H 8 rfl (A:=[Value.int .u64 (r78.1),Value.int .u64 (r78.2.1)]++(bcells r78.2.2.1++(bcells r78.2.2.2.1++(bcells r78.2.2.2.2.1++(bcells r78.2.2.2.2.2.1))))) (C:=[.int .u64 (0),.int .i64 (0),.string (txb ([])),.string (txb ([])),.int .i64 (0),.int .i64 (0),.slice p84 (r78.2.2.2.2.2.2).length c84]) (x0:=.int .i64 (0)) (by simp only [List.append_assoc,List.cons_append,List.nil_append,List.append_nil]) (by simp only [List.length_append,List.length_cons,List.length_nil,icells_length,bcells_length,hl80,hl81,hl82,hl83]) fun w H=>?_
 replace H:St w0 w (HP.row b154 (o154+(145:Int).toNat * 1) ([.int .u8 (((x153).toNat:Int))])::HP.row b7 (o7+(0:Int).toNat * 1) ([.int .u8 (((x6).toNat:Int))])::HP.blk b4 ([Value.int .u64 (0),Value.int .u64 (0)]++(bcells (List.replicate 32 0)++(bcells (List.replicate 32 0)++(bcells (List.replicate 32 0)++(bcells (List.replicate 32 0)++([Value.int .i64 (0),Value.int .u64 (0),Value.int .i64 (0),Value.string (txb ([])),Value.string (txb ([])),Value.int .i64 (0),Value.int .i64 (0),Value.slice none (([]:List UInt8)).length 0])))))) 31::HP.ow rByte 5 none 0 ([]:List UInt8)::HP.ow rByte 5 none 0 ([]:List UInt8)::HP.blk b3 ([Value.int .u64 (0),Value.int .u64 (0)]++(bcells (List.replicate 32 0)++(bcells (List.replicate 32 0)++(bcells (List.replicate 32 0)++(bcells (List.replicate 32 0)++([Value.int .i64 (0),Value.int .u64 (0),Value.int .i64 (0),Value.string (txb ([])),Value.string (txb ([])),Value.int .i64 (0),Value.int .i64 (0),Value.slice none (([]:List UInt8)).length 0])))))) 31::HP.ow rByte 5 none 0 ([]:List UInt8)::HP.sl rByte p1 c1 x0_::HP.blk b79 ([Value.int .u64 (r78.1),Value.int .u64 (r78.2.1)]++(bcells r78.2.2.1++(bcells r78.2.2.2.1++(bcells r78.2.2.2.2.1++(bcells r78.2.2.2.2.2.1++([Value.int .i64 (IntKind.i64.wrap (((x153).toNat:Int))),Value.int .u64 (0),Value.int .i64 (0),Value.string (txb ([])),Value.string (txb ([])),Value.int .i64 (0),Value.int .i64 (0),Value.slice p84 (r78.2.2.2.2.2.2).length c84])))))) 31::HP.ow rByte 5 p84 c84 r78.2.2.2.2.2.2::l):=H.blkEq 8 rfl ([Value.int .u64 (r78.1),Value.int .u64 (r78.2.1)]++(bcells r78.2.2.1++(bcells r78.2.2.2.1++(bcells r78.2.2.2.2.1++(bcells r78.2.2.2.2.2.1++([Value.int .i64 (IntKind.i64.wrap (((x153).toNat:Int))),Value.int .u64 (0),Value.int .i64 (0),Value.string (txb ([])),Value.string (txb ([])),Value.int .i64 (0),Value.int .i64 (0),Value.slice p84 (r78.2.2.2.2.2.2).length c84])))))) (by simp only [List.append_assoc,List.cons_append,List.nil_append,List.append_nil])
 refine nb [0] F H rfl fun a F=>?_
 obtain ⟨x157,ex157,hm⟩:=ob hm
 have hc156:=H.slCap 7 rfl
 replace H:=H.slSubN 1 rfl 7 rfl ex157
 refine sv F rfl (y_slLH F elem25 rfl rfl rfl rfl ex157 hc156) fun a F=>?_
 obtain ⟨x158,ex158,hm⟩:=ob hm
 refine sd F rfl ent32 (w_m_triremeref02_Number ex158 (H.pm 11 [0,0,1,2,3,4,5,6,7,8,9,10] rfl:):) ?_;rintro _ w a ⟨rfl,H⟩ F
 refine bk [130,1] F H rfl ⟨fld31_6,fld29_1,trivial⟩ fun a F=>?_
 refine s_stC wkP F rfl rfl zero22 rfl rfl rfl rfl rfl H 9 rfl (A:=[Value.int .u64 (r78.1),Value.int .u64 (r78.2.1)]++(bcells r78.2.2.1++(bcells r78.2.2.2.1++(bcells r78.2.2.2.2.1++(bcells r78.2.2.2.2.2.1++([Value.int .i64 (IntKind.i64.wrap (((x153).toNat:Int)))])))))) (C:=[.int .i64 (0),.string (txb ([])),.string (txb ([])),.int .i64 (0),.int .i64 (0),.slice p84 (r78.2.2.2.2.2.2).length c84]) (x0:=.int .u64 (0)) (by simp only [List.append_assoc,List.cons_append,List.nil_append,List.append_nil]) (by simp only [List.length_append,List.length_cons,List.length_nil,icells_length,bcells_length,hl80,hl81,hl82,hl83]) fun w H=>?_
 replace H:St w0 w (HP.sl rByte (shp p1 c1 (146:Int).toNat 1) (c1 - (146:Int).toNat) x157::HP.row b154 (o154+(145:Int).toNat * 1) ([.int .u8 (((x153).toNat:Int))])::HP.row b7 (o7+(0:Int).toNat * 1) ([.int .u8 (((x6).toNat:Int))])::HP.blk b4 ([Value.int .u64 (0),Value.int .u64 (0)]++(bcells (List.replicate 32 0)++(bcells (List.replicate 32 0)++(bcells (List.replicate 32 0)++(bcells (List.replicate 32 0)++([Value.int .i64 (0),Value.int .u64 (0),Value.int .i64 (0),Value.string (txb ([])),Value.string (txb ([])),Value.int .i64 (0),Value.int .i64 (0),Value.slice none (([]:List UInt8)).length 0])))))) 31::HP.ow rByte 5 none 0 ([]:List UInt8)::HP.ow rByte 5 none 0 ([]:List UInt8)::HP.blk b3 ([Value.int .u64 (0),Value.int .u64 (0)]++(bcells (List.replicate 32 0)++(bcells (List.replicate 32 0)++(bcells (List.replicate 32 0)++(bcells (List.replicate 32 0)++([Value.int .i64 (0),Value.int .u64 (0),Value.int .i64 (0),Value.string (txb ([])),Value.string (txb ([])),Value.int .i64 (0),Value.int .i64 (0),Value.slice none (([]:List UInt8)).length 0])))))) 31::HP.ow rByte 5 none 0 ([]:List UInt8)::HP.sl rByte p1 c1 x0_::HP.blk b79 ([Value.int .u64 (r78.1),Value.int .u64 (r78.2.1)]++(bcells r78.2.2.1++(bcells r78.2.2.2.1++(bcells r78.2.2.2.2.1++(bcells r78.2.2.2.2.2.1++([Value.int .i64 (IntKind.i64.wrap (((x153).toNat:Int))),Value.int .u64 (x158),Value.int .i64 (0),Value.string (txb ([])),Value.string (txb ([])),Value.int .i64 (0),Value.int .i64 (0),Value.slice p84 (r78.2.2.2.2.2.2).length c84])))))) 31::HP.ow rByte 5 p84 c84 r78.2.2.2.2.2.2::l):=H.blkEq 9 rfl ([Value.int .u64 (r78.1),Value.int .u64 (r78.2.1)]++(bcells r78.2.2.1++(bcells r78.2.2.2.1++(bcells r78.2.2.2.2.1++(bcells r78.2.2.2.2.2.1++([Value.int .i64 (IntKind.i64.wrap (((x153).toNat:Int))),Value.int .u64 (x158),Value.int .i64 (0),Value.string (txb ([])),Value.string (txb ([])),Value.int .i64 (0),Value.int .i64 (0),Value.slice p84 (r78.2.2.2.2.2.2).length c84])))))) (by simp only [List.append_assoc,List.cons_append,List.nil_append,List.append_nil])
 refine nb [0] F H rfl fun a F=>?_
 obtain ⟨x160,ex160,hm⟩:=ob hm
 have hc159:=H.slCap 8 rfl
 replace H:=H.slSubN 1 rfl 8 rfl ex160
 refine sv F rfl (y_slLH F elem25 rfl rfl rfl rfl ex160 hc159) fun a F=>?_
 obtain ⟨x161,ex161,hm⟩:=ob hm
 refine sd F rfl ent32 (w_m_triremeref02_Number ex161 (H.pm 12 [0,0,1,2,3,4,5,6,7,8,9,10,11] rfl:):) ?_;rintro _ w a ⟨rfl,H⟩ F
 refine bk [0,0] F H rfl ⟨Tryz.underlying22,Tryz.underlying3,trivial⟩ fun a F=>?_
 replace H:=H.nf 12 rfl
 refine nl (sq (sr (bk (List.replicate 5 0) F H rfl ⟨⟨_,Tryz.underlying25⟩,trivial⟩ fun a F=>?_)))
 refine nl (cNm F rfl hm (fun hg162 hm=>?_) (fun hg162 hm=>?_))
 refine sr (bk [4999] F H rfl ⟨rfl,(aggn agg31 (by simp only [List.length_append,List.length_cons,List.length_nil,icells_length,bcells_length,(List.length_replicate (n:=32)),(List.length_replicate (n:=32)),(List.length_replicate (n:=32)),(List.length_replicate (n:=32))])),trivial⟩ fun a F=>s_storeA wkP F rfl rfl agg31 rfl rfl rfl H 7 rfl (by simp only [List.length_append,List.length_cons,List.length_nil,icells_length,bcells_length,(List.length_replicate (n:=32)),(List.length_replicate (n:=32)),(List.length_replicate (n:=32)),(List.length_replicate (n:=32))]) (by simp only [List.length_append,List.length_cons,List.length_nil,icells_length,bcells_length,(List.length_replicate (n:=32)),(List.length_replicate (n:=32)),(List.length_replicate (n:=32)),(List.length_replicate (n:=32))]) (flA (fl rfl) (flA (bcells_flat _) (flA (bcells_flat _) (flA (bcells_flat _) (flA (bcells_flat _) (fl rfl)))))) fun w H=>?_)
 refine bb [0] F H rfl fun a F=>?_
 replace H:=H.nf 12 rfl
 refine nl (wr (tr ?_))
 replace H:=H.frz 6 rfl
 replace H:=H.mkRc (R:=R_api_Record) (cs:=[Value.int .u64 (0),Value.int .u64 (0)]++(bcells (List.replicate 32 0)++(bcells (List.replicate 32 0)++(bcells (List.replicate 32 0)++(bcells (List.replicate 32 0)++([Value.int .i64 (0),Value.int .u64 (0),Value.int .i64 (0),Value.string (txb ([])),Value.string (txb ([])),Value.int .i64 (0),Value.int .i64 (0),Value.slice none (([]:List UInt8)).length 0])))))) (x:=(0,0,(List.replicate 32 0),(List.replicate 32 0),(List.replicate 32 0),(List.replicate 32 0),(0,0,(0,[],[],0,0,([]:List UInt8))))) (fun gg=>⟨[Value.int .u64 (0)],_,rfl,rfl,⟨[Value.int .u64 (0)],_,rfl,rfl,⟨bcells (List.replicate 32 0),_,rfl,⟨rfl,(List.length_replicate (n:=32))⟩,⟨bcells (List.replicate 32 0),_,rfl,⟨rfl,(List.length_replicate (n:=32))⟩,⟨bcells (List.replicate 32 0),_,rfl,⟨rfl,(List.length_replicate (n:=32))⟩,⟨bcells (List.replicate 32 0),_,rfl,⟨rfl,(List.length_replicate (n:=32))⟩,⟨[Value.int .i64 (0)],_,rfl,rfl,⟨[Value.int .u64 (0)],_,rfl,rfl,⟨[Value.int .i64 (0)],_,rfl,rfl,⟨[Value.string (txb ([]))],_,rfl,rfl,⟨[Value.string (txb ([]))],_,rfl,rfl,⟨[Value.int .i64 (0)],_,rfl,rfl,⟨[Value.int .i64 (0)],_,rfl,rfl,⟨_,_,rfl,(gg 0 _ rfl).choose_spec⟩⟩⟩⟩⟩⟩⟩⟩⟩⟩⟩⟩⟩⟩)
 cases hm
 refine x_resC2 F rfl (⟨_,rfl,agg31.run_load (H.blk 8 rfl).row (by simp only [List.length_append,List.length_cons,List.length_nil,icells_length,bcells_length,(List.length_replicate (n:=32)),(List.length_replicate (n:=32)),(List.length_replicate (n:=32)),(List.length_replicate (n:=32))])⟩) rfl ?_
 exact ⟨_,rfl,[Value.int .u64 (0),Value.int .u64 (0)]++(bcells (List.replicate 32 0)++(bcells (List.replicate 32 0)++(bcells (List.replicate 32 0)++(bcells (List.replicate 32 0)++([Value.int .i64 (0),Value.int .u64 (0),Value.int .i64 (0),Value.string (txb ([])),Value.string (txb ([])),Value.int .i64 (0),Value.int .i64 (0),Value.slice none (([]:List UInt8)).length 0]))))),rfl,(H.pm 13 [0] rfl:)⟩
 refine sk (ct (sq (sb [0,0] F H rfl fun a F=>nl ?_)))
 obtain ⟨o170,eo170,hm170⟩:=ob hm;clear hm;revert eo170;intro hm
 refine x_mid (fun aa ww=>∃ r170,o170=Sum.inl r170∧∃ (cs175:List Value),Fr ⟨87,[]⟩ aa [(2,.pointer (some ⟨b3,0,none⟩)),(4,.pointer (some ⟨b4,0,none⟩)),(5,.pointer (some ⟨b79,0,none⟩)),(6,.int .i64 (IntKind.i64.wrap (x161)))]∧((r78.2.2.1).length=32)∧((r78.2.2.2.1).length=32)∧((r78.2.2.2.2.1).length=32)∧((r78.2.2.2.2.2.1).length=32)∧St w0 ww (HP.row b154 (o154+(145:Int).toNat * 1) ([.int .u8 (((x153).toNat:Int))])::HP.row b7 (o7+(0:Int).toNat * 1) ([.int .u8 (((x6).toNat:Int))])::HP.blk b4 ([Value.int .u64 (0),Value.int .u64 (0)]++(bcells (List.replicate 32 0)++(bcells (List.replicate 32 0)++(bcells (List.replicate 32 0)++(bcells (List.replicate 32 0)++([Value.int .i64 (0),Value.int .u64 (0),Value.int .i64 (0),Value.string (txb ([])),Value.string (txb ([])),Value.int .i64 (0),Value.int .i64 (0),Value.slice none (([]:List UInt8)).length 0])))))) 31::HP.ow rByte 5 none 0 ([]:List UInt8)::HP.ow rByte 5 none 0 ([]:List UInt8)::HP.blk b3 ([Value.int .u64 (0),Value.int .u64 (0)]++(bcells (List.replicate 32 0)++(bcells (List.replicate 32 0)++(bcells (List.replicate 32 0)++(bcells (List.replicate 32 0)++([Value.int .i64 (0),Value.int .u64 (0),Value.int .i64 (0),Value.string (txb ([])),Value.string (txb ([])),Value.int .i64 (0),Value.int .i64 (0),Value.slice none (([]:List UInt8)).length 0])))))) 31::HP.ow rByte 5 none 0 ([]:List UInt8)::HP.blk b79 ([Value.int .u64 (r78.1),Value.int .u64 (r78.2.1)]++(bcells r78.2.2.1++(bcells r78.2.2.2.1++(bcells r78.2.2.2.2.1++(bcells r78.2.2.2.2.2.1++([Value.int .i64 (IntKind.i64.wrap (((x153).toNat:Int))),Value.int .u64 (x158)]++(cs175))))))) 31::HP.rc R_api_Op cs175 r170::l)) ?_ ?_
 refine cPm F rfl hm (fun hg176 hm=>?_) (fun hg176 hm=>?_)
 refine sb [0] F H rfl fun a F=>?_
 obtain ⟨x178,ex178,hm⟩:=ob hm
 have hc177:=H.slCap 9 rfl
 replace H:=H.slSubN 1 rfl 9 rfl ex178
 refine sv F rfl (y_slL F elem25 rfl rfl rfl ex178 hc177) fun a F=>?_
 obtain ⟨x179,ex179,hm⟩:=ob hm
 refine sd F rfl ent34 (w_m_triremeref10_Read ex179 (H.pm 13 [0,0,1,2,3,4,5,6,7,8,9,10,11,12] rfl:):) ?_;rintro _ w a ⟨cs180,rfl,H⟩ F
 refine bb [0,0,0] F H rfl fun a F=>?_
 replace H:=H.owNil rByte 5
 refine s_allocA wkP F rfl rfl rfl agz27 rfl H fun b181 w a H F=>s_storeA wkP F rfl rfl agg27 rfl rfl rfl H 0 rfl (H.rcLen 2 rfl) rfl (H.rcFlat 2 rfl) fun w H=>bb [0] F H rfl fun a F=>?_
 replace H:=H.nf 16 rfl
 refine nl (sq (sb [0,0] F H rfl fun a F=>?_))
 refine nl (cNm F rfl hm (fun hg182 hm=>?_) (fun hg182 hm=>?_))
 refine sr (bk [8999] F H rfl ⟨rfl,(aggn agg31 (by simp only [List.length_append,List.length_cons,List.length_nil,icells_length,bcells_length,(List.length_replicate (n:=32)),(List.length_replicate (n:=32)),(List.length_replicate (n:=32)),(List.length_replicate (n:=32))])),trivial⟩ fun a F=>s_storeA wkP F rfl rfl agg31 rfl rfl rfl H 11 rfl (by simp only [List.length_append,List.length_cons,List.length_nil,icells_length,bcells_length,(List.length_replicate (n:=32)),(List.length_replicate (n:=32)),(List.length_replicate (n:=32)),(List.length_replicate (n:=32))]) (by simp only [List.length_append,List.length_cons,List.length_nil,icells_length,bcells_length,(List.length_replicate (n:=32)),(List.length_replicate (n:=32)),(List.length_replicate (n:=32)),(List.length_replicate (n:=32))]) (flA (fl rfl) (flA (bcells_flat _) (flA (bcells_flat _) (flA (bcells_flat _) (flA (bcells_flat _) (fl rfl)))))) fun w H=>?_)
 refine bb [0] F H rfl fun a F=>?_
 replace H:=H.nf 16 rfl
 refine nl (wr (tr (tr ?_)))
 cases hm
 replace hm:=elimR hm170
 refine tr ?_
 replace H:=H.frz 10 rfl
 replace H:=H.mkRc (R:=R_api_Record) (cs:=[Value.int .u64 (0),Value.int .u64 (0)]++(bcells (List.replicate 32 0)++(bcells (List.replicate 32 0)++(bcells (List.replicate 32 0)++(bcells (List.replicate 32 0)++([Value.int .i64 (0),Value.int .u64 (0),Value.int .i64 (0),Value.string (txb ([])),Value.string (txb ([])),Value.int .i64 (0),Value.int .i64 (0),Value.slice none (([]:List UInt8)).length 0])))))) (x:=(0,0,(List.replicate 32 0),(List.replicate 32 0),(List.replicate 32 0),(List.replicate 32 0),(0,0,(0,[],[],0,0,([]:List UInt8))))) (fun gg=>⟨[Value.int .u64 (0)],_,rfl,rfl,⟨[Value.int .u64 (0)],_,rfl,rfl,⟨bcells (List.replicate 32 0),_,rfl,⟨rfl,(List.length_replicate (n:=32))⟩,⟨bcells (List.replicate 32 0),_,rfl,⟨rfl,(List.length_replicate (n:=32))⟩,⟨bcells (List.replicate 32 0),_,rfl,⟨rfl,(List.length_replicate (n:=32))⟩,⟨bcells (List.replicate 32 0),_,rfl,⟨rfl,(List.length_replicate (n:=32))⟩,⟨[Value.int .i64 (0)],_,rfl,rfl,⟨[Value.int .u64 (0)],_,rfl,rfl,⟨[Value.int .i64 (0)],_,rfl,rfl,⟨[Value.string (txb ([]))],_,rfl,rfl,⟨[Value.string (txb ([]))],_,rfl,rfl,⟨[Value.int .i64 (0)],_,rfl,rfl,⟨[Value.int .i64 (0)],_,rfl,rfl,⟨_,_,rfl,(gg 0 _ rfl).choose_spec⟩⟩⟩⟩⟩⟩⟩⟩⟩⟩⟩⟩⟩⟩)
 cases hm
 refine x_resC2 F rfl (⟨_,rfl,agg31.run_load (H.blk 12 rfl).row (by simp only [List.length_append,List.length_cons,List.length_nil,icells_length,bcells_length,(List.length_replicate (n:=32)),(List.length_replicate (n:=32)),(List.length_replicate (n:=32)),(List.length_replicate (n:=32))])⟩) rfl ?_
 exact ⟨_,rfl,[Value.int .u64 (0),Value.int .u64 (0)]++(bcells (List.replicate 32 0)++(bcells (List.replicate 32 0)++(bcells (List.replicate 32 0)++(bcells (List.replicate 32 0)++([Value.int .i64 (0),Value.int .u64 (0),Value.int .i64 (0),Value.string (txb ([])),Value.string (txb ([])),Value.int .i64 (0),Value.int .i64 (0),Value.slice none (([]:List UInt8)).length 0]))))),rfl,(H.pm 17 [0] rfl:)⟩
 refine sk (ct (rl (bk [999,130,2] F H rfl ⟨rfl,(aggn agg27 (H.rcLen 2 rfl)),fld31_6,fld29_2,trivial⟩ fun a F=>?_)))
 refine s_storeFE wkP F rfl rfl agg27 rfl rfl rfl H 14 rfl (A:=[Value.int .u64 (r78.1),Value.int .u64 (r78.2.1)]++(bcells r78.2.2.1++(bcells r78.2.2.2.1++(bcells r78.2.2.2.2.1++(bcells r78.2.2.2.2.2.1++([Value.int .i64 (IntKind.i64.wrap (((x153).toNat:Int))),Value.int .u64 (x158)])))))) (X:=[.int .i64 (0),.string (txb ([])),.string (txb ([])),.int .i64 (0),.int .i64 (0),.slice p84 (r78.2.2.2.2.2.2).length c84]) (by simp only [List.append_assoc,List.cons_append,List.nil_append]) (by simp only [List.length_append,List.length_cons,List.length_nil,icells_length,bcells_length,hl80,hl81,hl82,hl83]) rfl (H.rcLen 2 rfl) (H.rcFlat 2 rfl) fun w H=>?_
 replace H:St w0 w (HP.blk b181 (cs180) 27::HP.ow rByte 5 none 0 ([]:List UInt8)::HP.rc R_api_Op cs180 x179.1::HP.sl rByte (shp p1 c1 (156:Int).toNat 1) (c1 - (156:Int).toNat) x178::HP.sl rByte (shp p1 c1 (154:Int).toNat 1) (c1 - (154:Int).toNat) x160::HP.sl rByte (shp p1 c1 (146:Int).toNat 1) (c1 - (146:Int).toNat) x157::HP.row b154 (o154+(145:Int).toNat * 1) ([.int .u8 (((x153).toNat:Int))])::HP.row b7 (o7+(0:Int).toNat * 1) ([.int .u8 (((x6).toNat:Int))])::HP.blk b4 ([Value.int .u64 (0),Value.int .u64 (0)]++(bcells (List.replicate 32 0)++(bcells (List.replicate 32 0)++(bcells (List.replicate 32 0)++(bcells (List.replicate 32 0)++([Value.int .i64 (0),Value.int .u64 (0),Value.int .i64 (0),Value.string (txb ([])),Value.string (txb ([])),Value.int .i64 (0),Value.int .i64 (0),Value.slice none (([]:List UInt8)).length 0])))))) 31::HP.ow rByte 5 none 0 ([]:List UInt8)::HP.ow rByte 5 none 0 ([]:List UInt8)::HP.blk b3 ([Value.int .u64 (0),Value.int .u64 (0)]++(bcells (List.replicate 32 0)++(bcells (List.replicate 32 0)++(bcells (List.replicate 32 0)++(bcells (List.replicate 32 0)++([Value.int .i64 (0),Value.int .u64 (0),Value.int .i64 (0),Value.string (txb ([])),Value.string (txb ([])),Value.int .i64 (0),Value.int .i64 (0),Value.slice none (([]:List UInt8)).length 0])))))) 31::HP.ow rByte 5 none 0 ([]:List UInt8)::HP.sl rByte p1 c1 x0_::HP.blk b79 ([Value.int .u64 (r78.1),Value.int .u64 (r78.2.1)]++(bcells r78.2.2.1++(bcells r78.2.2.2.1++(bcells r78.2.2.2.2.1++(bcells r78.2.2.2.2.2.1++([Value.int .i64 (IntKind.i64.wrap (((x153).toNat:Int))),Value.int .u64 (x158)]++(cs180))))))) 31::HP.ow rByte 5 p84 c84 r78.2.2.2.2.2.2::l):=H.blkEq 14 rfl ([Value.int .u64 (r78.1),Value.int .u64 (r78.2.1)]++(bcells r78.2.2.1++(bcells r78.2.2.2.1++(bcells r78.2.2.2.2.1++(bcells r78.2.2.2.2.2.1++([Value.int .i64 (IntKind.i64.wrap (((x153).toNat:Int))),Value.int .u64 (x158)]++(cs180))))))) (by simp only [List.append_assoc,List.cons_append,List.nil_append])
 refine lz ?_
 cases hm
 refine ct ?_
 exact ⟨_,rfl,cs180,F.sl rfl,hl80,hl81,hl82,hl83,(H.pm 16 [6,7,8,9,10,11,12,14,2] rfl:)⟩
 refine sk ?_
 cases hm
 refine ct ?_
 replace H:=H.frz 11 rfl
 replace H:=mk_api_Op H 0 ([]) ([]) 0 0 0 rfl
 exact ⟨_,rfl,[.int .i64 (0),.string (txb ([])),.string (txb ([])),.int .i64 (0),.int .i64 (0),.slice p84 (r78.2.2.2.2.2.2).length c84],F.sl rfl,hl80,hl81,hl82,hl83,(H.pm 13 [4,5,6,7,8,9,10,12,0] rfl:)⟩
 clear F H hm
 rintro a w ⟨r170,rfl,cs175,F,hl171,hl172,hl173,hl174,H⟩;have hm:=elimL hm170;clear hm170
 refine ct (sq (sr (bk [7999] F H rfl ⟨rfl,(aggn agg31 (by simp only [List.length_append,List.length_cons,List.length_nil,icells_length,bcells_length,hl171,hl172,hl173,hl174,H.rcLen 8 rfl]<;>rfl)),trivial⟩ fun a F=>?_)))
 replace H:=H.mkRc (R:=R_api_Record) (cs:=[Value.int .u64 (r78.1),Value.int .u64 (r78.2.1)]++(bcells r78.2.2.1++(bcells r78.2.2.2.1++(bcells r78.2.2.2.2.1++(bcells r78.2.2.2.2.2.1++([Value.int .i64 (IntKind.i64.wrap (((x153).toNat:Int))),Value.int .u64 (x158)]++(cs175))))))) (x:=(r78.1,r78.2.1,r78.2.2.1,r78.2.2.2.1,r78.2.2.2.2.1,r78.2.2.2.2.2.1,(IntKind.i64.wrap (((x153).toNat:Int)),x158,r170))) (fun gg=>⟨[Value.int .u64 (r78.1)],_,rfl,rfl,⟨[Value.int .u64 (r78.2.1)],_,rfl,rfl,⟨bcells r78.2.2.1,_,rfl,⟨rfl,hl171⟩,⟨bcells r78.2.2.2.1,_,rfl,⟨rfl,hl172⟩,⟨bcells r78.2.2.2.2.1,_,rfl,⟨rfl,hl173⟩,⟨bcells r78.2.2.2.2.2.1,_,rfl,⟨rfl,hl174⟩,⟨[Value.int .i64 (IntKind.i64.wrap (((x153).toNat:Int)))],_,rfl,rfl,⟨[Value.int .u64 (x158)],_,rfl,rfl,(gg 8 _ rfl).choose_spec⟩⟩⟩⟩⟩⟩⟩⟩)
 obtain ⟨x183,ex183,hm⟩:=ob hm
 refine sd F rfl ent22 (w_m_triremeref14_Right ex183 (H.pm 10 [0,0,1,2,3,4,5,6,7,8,9] rfl:):) ?_;rintro _ w a ⟨rfl,H⟩ F
 refine bb [0,0] F H rfl fun a F=>?_
 by_cases hg184:(!x183)=true
 replace hm:=ifT hg184 hm
 replace F:=F.vT 77 hg184 rfl
 refine bb (List.replicate 7 0) F H rfl fun a F=>?_
 replace H:=H.nf 10 rfl
 refine nl (cT F rfl (sr (bk [3999] F H rfl ⟨rfl,(aggn agg31 (by simp only [List.length_append,List.length_cons,List.length_nil,icells_length,bcells_length,(List.length_replicate (n:=32)),(List.length_replicate (n:=32)),(List.length_replicate (n:=32)),(List.length_replicate (n:=32))])),trivial⟩ fun a F=>s_storeA wkP F rfl rfl agg31 rfl rfl rfl H 6 rfl (by simp only [List.length_append,List.length_cons,List.length_nil,icells_length,bcells_length,(List.length_replicate (n:=32)),(List.length_replicate (n:=32)),(List.length_replicate (n:=32)),(List.length_replicate (n:=32))]) (by simp only [List.length_append,List.length_cons,List.length_nil,icells_length,bcells_length,(List.length_replicate (n:=32)),(List.length_replicate (n:=32)),(List.length_replicate (n:=32)),(List.length_replicate (n:=32))]) (flA (fl rfl) (flA (bcells_flat _) (flA (bcells_flat _) (flA (bcells_flat _) (flA (bcells_flat _) (fl rfl)))))) fun w H=>?_)))
 refine bb [0] F H rfl fun a F=>?_
 replace H:=H.nf 10 rfl
 refine nl (wr (tr ?_))
 replace H:=H.frz 5 rfl
 replace H:=H.mkRc (R:=R_api_Record) (cs:=[Value.int .u64 (0),Value.int .u64 (0)]++(bcells (List.replicate 32 0)++(bcells (List.replicate 32 0)++(bcells (List.replicate 32 0)++(bcells (List.replicate 32 0)++([Value.int .i64 (0),Value.int .u64 (0),Value.int .i64 (0),Value.string (txb ([])),Value.string (txb ([])),Value.int .i64 (0),Value.int .i64 (0),Value.slice none (([]:List UInt8)).length 0])))))) (x:=(0,0,(List.replicate 32 0),(List.replicate 32 0),(List.replicate 32 0),(List.replicate 32 0),(0,0,(0,[],[],0,0,([]:List UInt8))))) (fun gg=>⟨[Value.int .u64 (0)],_,rfl,rfl,⟨[Value.int .u64 (0)],_,rfl,rfl,⟨bcells (List.replicate 32 0),_,rfl,⟨rfl,(List.length_replicate (n:=32))⟩,⟨bcells (List.replicate 32 0),_,rfl,⟨rfl,(List.length_replicate (n:=32))⟩,⟨bcells (List.replicate 32 0),_,rfl,⟨rfl,(List.length_replicate (n:=32))⟩,⟨bcells (List.replicate 32 0),_,rfl,⟨rfl,(List.length_replicate (n:=32))⟩,⟨[Value.int .i64 (0)],_,rfl,rfl,⟨[Value.int .u64 (0)],_,rfl,rfl,⟨[Value.int .i64 (0)],_,rfl,rfl,⟨[Value.string (txb ([]))],_,rfl,rfl,⟨[Value.string (txb ([]))],_,rfl,rfl,⟨[Value.int .i64 (0)],_,rfl,rfl,⟨[Value.int .i64 (0)],_,rfl,rfl,⟨_,_,rfl,(gg 0 _ rfl).choose_spec⟩⟩⟩⟩⟩⟩⟩⟩⟩⟩⟩⟩⟩⟩)
 cases hm
 refine x_resC2 F rfl (⟨_,rfl,agg31.run_load (H.blk 7 rfl).row (by simp only [List.length_append,List.length_cons,List.length_nil,icells_length,bcells_length,(List.length_replicate (n:=32)),(List.length_replicate (n:=32)),(List.length_replicate (n:=32)),(List.length_replicate (n:=32))])⟩) rfl ?_
 exact ⟨_,rfl,[Value.int .u64 (0),Value.int .u64 (0)]++(bcells (List.replicate 32 0)++(bcells (List.replicate 32 0)++(bcells (List.replicate 32 0)++(bcells (List.replicate 32 0)++([Value.int .i64 (0),Value.int .u64 (0),Value.int .i64 (0),Value.string (txb ([])),Value.string (txb ([])),Value.int .i64 (0),Value.int .i64 (0),Value.slice none (([]:List UInt8)).length 0]))))),rfl,(H.pm 11 [0] rfl:)⟩
 replace hm:=ifF hg184 hm
 replace F:=F.vF 77 hg184 rfl
 refine bk [0,8000,0,0,0] F H rfl ⟨fld31_0,rfl,plain22,trivial⟩ fun a F=>g_onP F rfl rfl rfl rfl (sv F rfl (y_neqBool (p:=decide (r78.1=0)) (q:=decide ((IntKind.i64.wrap (x161))=0)) F rfl Tryz.underlying4 rfl rfl) fun a F=>bb [0] F H rfl fun a F=>?_)
 replace H:=H.nf 10 rfl
 refine nl (cNm F rfl hm (fun hg185 hm=>?_) (fun hg185 hm=>?_))
 refine sr (bk [3999] F H rfl ⟨rfl,(aggn agg31 (by simp only [List.length_append,List.length_cons,List.length_nil,icells_length,bcells_length,(List.length_replicate (n:=32)),(List.length_replicate (n:=32)),(List.length_replicate (n:=32)),(List.length_replicate (n:=32))])),trivial⟩ fun a F=>s_storeA wkP F rfl rfl agg31 rfl rfl rfl H 6 rfl (by simp only [List.length_append,List.length_cons,List.length_nil,icells_length,bcells_length,(List.length_replicate (n:=32)),(List.length_replicate (n:=32)),(List.length_replicate (n:=32)),(List.length_replicate (n:=32))]) (by simp only [List.length_append,List.length_cons,List.length_nil,icells_length,bcells_length,(List.length_replicate (n:=32)),(List.length_replicate (n:=32)),(List.length_replicate (n:=32)),(List.length_replicate (n:=32))]) (flA (fl rfl) (flA (bcells_flat _) (flA (bcells_flat _) (flA (bcells_flat _) (flA (bcells_flat _) (fl rfl)))))) fun w H=>?_)
 refine bb [0] F H rfl fun a F=>?_
 replace H:=H.nf 10 rfl
 refine nl (wr (tr ?_))
 replace H:=H.frz 5 rfl
 replace H:=H.mkRc (R:=R_api_Record) (cs:=[Value.int .u64 (0),Value.int .u64 (0)]++(bcells (List.replicate 32 0)++(bcells (List.replicate 32 0)++(bcells (List.replicate 32 0)++(bcells (List.replicate 32 0)++([Value.int .i64 (0),Value.int .u64 (0),Value.int .i64 (0),Value.string (txb ([])),Value.string (txb ([])),Value.int .i64 (0),Value.int .i64 (0),Value.slice none (([]:List UInt8)).length 0])))))) (x:=(0,0,(List.replicate 32 0),(List.replicate 32 0),(List.replicate 32 0),(List.replicate 32 0),(0,0,(0,[],[],0,0,([]:List UInt8))))) (fun gg=>⟨[Value.int .u64 (0)],_,rfl,rfl,⟨[Value.int .u64 (0)],_,rfl,rfl,⟨bcells (List.replicate 32 0),_,rfl,⟨rfl,(List.length_replicate (n:=32))⟩,⟨bcells (List.replicate 32 0),_,rfl,⟨rfl,(List.length_replicate (n:=32))⟩,⟨bcells (List.replicate 32 0),_,rfl,⟨rfl,(List.length_replicate (n:=32))⟩,⟨bcells (List.replicate 32 0),_,rfl,⟨rfl,(List.length_replicate (n:=32))⟩,⟨[Value.int .i64 (0)],_,rfl,rfl,⟨[Value.int .u64 (0)],_,rfl,rfl,⟨[Value.int .i64 (0)],_,rfl,rfl,⟨[Value.string (txb ([]))],_,rfl,rfl,⟨[Value.string (txb ([]))],_,rfl,rfl,⟨[Value.int .i64 (0)],_,rfl,rfl,⟨[Value.int .i64 (0)],_,rfl,rfl,⟨_,_,rfl,(gg 0 _ rfl).choose_spec⟩⟩⟩⟩⟩⟩⟩⟩⟩⟩⟩⟩⟩⟩)
 cases hm
 refine x_resC2 F rfl (⟨_,rfl,agg31.run_load (H.blk 7 rfl).row (by simp only [List.length_append,List.length_cons,List.length_nil,icells_length,bcells_length,(List.length_replicate (n:=32)),(List.length_replicate (n:=32)),(List.length_replicate (n:=32)),(List.length_replicate (n:=32))])⟩) rfl ?_
 exact ⟨_,rfl,[Value.int .u64 (0),Value.int .u64 (0)]++(bcells (List.replicate 32 0)++(bcells (List.replicate 32 0)++(bcells (List.replicate 32 0)++(bcells (List.replicate 32 0)++([Value.int .i64 (0),Value.int .u64 (0),Value.int .i64 (0),Value.string (txb ([])),Value.string (txb ([])),Value.int .i64 (0),Value.int .i64 (0),Value.slice none (([]:List UInt8)).length 0]))))),rfl,(H.pm 11 [0] rfl:)⟩
 refine sk (ct (sr (bk [8999] F H rfl ⟨rfl,(aggn agg31 (by simp only [List.length_append,List.length_cons,List.length_nil,icells_length,bcells_length,hl171,hl172,hl173,hl174,H.rcLen 9 rfl]<;>rfl)),trivial⟩ fun a F=>?_)))
 refine s_storeA wkP F rfl rfl agg31 rfl rfl rfl H 6 rfl (by simp only [List.length_append,List.length_cons,List.length_nil,icells_length,bcells_length,hl171,hl172,hl173,hl174,H.rcLen 9 rfl]<;>rfl) (by simp only [List.length_append,List.length_cons,List.length_nil,icells_length,bcells_length,(List.length_replicate (n:=32)),(List.length_replicate (n:=32)),(List.length_replicate (n:=32)),(List.length_replicate (n:=32))]) (flA (fl rfl) (flA (bcells_flat _) (flA (bcells_flat _) (flA (bcells_flat _) (flA (bcells_flat _) (flA (fl rfl) (H.rcFlat 9 rfl))))))) fun w H=>?_
 refine bb [0] F H rfl fun a F=>?_
 replace H:=H.nf 10 rfl
 refine nl (wr ?_)
 replace H:=H.mkRc (R:=R_api_Record) (cs:=[Value.int .u64 (r78.1),Value.int .u64 (r78.2.1)]++(bcells r78.2.2.1++(bcells r78.2.2.2.1++(bcells r78.2.2.2.2.1++(bcells r78.2.2.2.2.2.1++([Value.int .i64 (IntKind.i64.wrap (((x153).toNat:Int))),Value.int .u64 (x158)]++(cs175))))))) (x:=(r78.1,r78.2.1,r78.2.2.1,r78.2.2.2.1,r78.2.2.2.2.1,r78.2.2.2.2.2.1,(IntKind.i64.wrap (((x153).toNat:Int)),x158,r170))) (fun gg=>⟨[Value.int .u64 (r78.1)],_,rfl,rfl,⟨[Value.int .u64 (r78.2.1)],_,rfl,rfl,⟨bcells r78.2.2.1,_,rfl,⟨rfl,hl171⟩,⟨bcells r78.2.2.2.1,_,rfl,⟨rfl,hl172⟩,⟨bcells r78.2.2.2.2.1,_,rfl,⟨rfl,hl173⟩,⟨bcells r78.2.2.2.2.2.1,_,rfl,⟨rfl,hl174⟩,⟨[Value.int .i64 (IntKind.i64.wrap (((x153).toNat:Int)))],_,rfl,rfl,⟨[Value.int .u64 (x158)],_,rfl,rfl,(gg 9 _ rfl).choose_spec⟩⟩⟩⟩⟩⟩⟩⟩)
 cases hm
 refine x_resC2 F rfl (⟨_,rfl,agg31.run_load (H.blk 7 rfl).row (by simp only [List.length_append,List.length_cons,List.length_nil,icells_length,bcells_length,hl171,hl172,hl173,hl174,H.rcLen 10 rfl]<;>rfl)⟩) rfl ?_
 exact ⟨_,rfl,[Value.int .u64 (r78.1),Value.int .u64 (r78.2.1)]++(bcells r78.2.2.1++(bcells r78.2.2.2.1++(bcells r78.2.2.2.2.1++(bcells r78.2.2.2.2.2.1++([Value.int .i64 (IntKind.i64.wrap (((x153).toNat:Int))),Value.int .u64 (x158)]++(cs175)))))),rfl,(H.pm 11 [0] rfl:)⟩
theorem w_m_triremeref14_SameCall {x0_:T_api_Call} {x1_:T_api_Call} {cs1:List Value} {cs2:List Value} {w0 w:World} {l:List HP}  {r:Bool} (hm:m_triremeref14_SameCall x0_ x1_=some r) (H:St w0 w (HP.rc R_api_Call cs1 x0_::HP.rc R_api_Call cs2 x1_::l)) :
  Calls Tryz.prog 35 [.agg cs1.toArray,.agg cs2.toArray].toArray w (fun e w'=>∃ v,e=.returned v∧v=.bool (r)∧St w0 w' (l)):=by
 unfold m_triremeref14_SameCall at hm
 refine x_enter Tryz.func35 rfl rfl rfl ?_
 intro a F
 refine sr (s_boxA wkP F rfl rfl rfl rfl rfl H fun b3 w a H F=>s_boxA wkP F rfl rfl rfl rfl rfl H fun b4 w a H F=>bb [0] F H rfl fun a F=>?_)
 replace H:=H.nf 4 rfl
 refine nl (sr (bk [0] F H rfl ⟨fld29_0,trivial⟩ fun a F=>?_))
 have G:=F;replace H:=rc_api_Call (H.pk 2 rfl);obtain ⟨v5,rfl,J⟩:=H;have H:=J;have F:=G;clear G J
 refine bk [2000,0] F H rfl ⟨rfl,plain3,fld29_0,trivial⟩ fun a F=>?_
 have G:=F;replace H:=rc_api_Call (H.pk 3 rfl);obtain ⟨v6,rfl,J⟩:=H;have H:=J;have F:=G;clear G J
 refine bk [2000,0,0] F H rfl ⟨rfl,plain3,trivial⟩ fun a F=>?_
 rcases spP 10 F rfl hm with ⟨hg7,hm,F⟩ | ⟨hg7,hm,F⟩
 refine bk [1,3001,1,2001,0,0,0] F H rfl ⟨fld29_1,rfl,plain22,fld29_1,rfl,plain22,trivial⟩ fun a F=>?_
 rcases spP 17 F rfl hm with ⟨hg8,hm,F⟩ | ⟨hg8,hm,F⟩
 refine bk [2] F H rfl ⟨fld29_2,trivial⟩ fun a F=>g_onP F rfl rfl rfl rfl (sv F rfl (y_loadA F agg27 rfl rfl (row_midE (A:=[.int .i64 (x0_.1),.int .u64 (x0_.2.1)]) (X:=v5) (w:=_) ((H.blk 3 rfl).row) (by simp only [List.length_append,List.length_cons,List.length_nil,icells_length,bcells_length])) (H.rcLen 1 rfl)) fun a F=>bk [2] F H rfl ⟨fld29_2,trivial⟩ fun a F=>g_onP F rfl rfl rfl rfl (sv F rfl (y_loadA F agg27 rfl rfl (row_midE (A:=[.int .i64 (x1_.1),.int .u64 (x1_.2.1)]) (X:=v6) (w:=_) ((H.blk 2 rfl).row) (by simp only [List.length_append,List.length_cons,List.length_nil,icells_length,bcells_length])) (H.rcLen 0 rfl)) fun a F=>g_onP F rfl rfl rfl rfl ?_))
 obtain ⟨x9,ex9,hm⟩:=ob hm
 refine sd F rfl ent54 (w_rSameOp ex9 (H.pm 4 [1,0,0,1,2,3] rfl:):) ?_;rintro _ w a ⟨rfl,H⟩ F
 refine bb [0,0] F H rfl fun a F=>?_
 replace H:=H.nf 4 rfl
 refine nl (wr ?_)
 cases hm
 refine x_ret1 F rfl rfl ?_
 exact ⟨_,rfl,rfl,(H.pm 4 [] rfl:)⟩
 refine bb (List.replicate 7 0) F H rfl fun a F=>nl (wr ?_)
 cases hm
 refine x_ret1 F rfl rfl ?_
 exact ⟨_,rfl,rfl,(H.pm 4 [] rfl:)⟩
 refine bb (List.replicate 14 0) F H rfl fun a F=>nl (wr ?_)
 cases hm
 refine x_ret1 F rfl rfl ?_
 exact ⟨_,rfl,rfl,(H.pm 4 [] rfl:)⟩
theorem ent35:En Tryz.prog 35:=enters Tryz.func35 (by kernel_rfl) rfl
theorem w_m_triremeref14_Same {x0_:T_api_Record} {x1_:T_api_Record} {cs1:List Value} {cs2:List Value} {w0 w:World} {l:List HP}  {r:Bool} (hm:m_triremeref14_Same x0_ x1_=some r) (H:St w0 w (HP.rc R_api_Record cs1 x0_::HP.rc R_api_Record cs2 x1_::l)) :
  Calls Tryz.prog 11 [.agg cs1.toArray,.agg cs2.toArray].toArray w (fun e w'=>∃ v,e=.returned v∧v=.bool (r)∧St w0 w' (l)):=by
 unfold m_triremeref14_Same at hm
 refine x_enter Tryz.func11 rfl rfl rfl ?_
 intro a F
 refine sr (s_boxA wkP F rfl rfl rfl rfl rfl H fun b3 w a H F=>s_boxA wkP F rfl rfl rfl rfl rfl H fun b4 w a H F=>bb [0] F H rfl fun a F=>?_)
 replace H:=H.nf 4 rfl
 refine nl (sr (bk [0] F H rfl ⟨fld31_0,trivial⟩ fun a F=>?_))
 have G:=F;replace H:=rc_api_Record (H.pk 2 rfl);obtain ⟨v5,hl6,hl7,hl8,hl9,rfl,J⟩:=H;have H:=J;have F:=G;clear G J
 refine bk [2000,0] F H rfl ⟨rfl,plain22,fld31_0,trivial⟩ fun a F=>?_
 have G:=F;replace H:=rc_api_Record (H.pk 3 rfl);obtain ⟨v10,hl11,hl12,hl13,hl14,rfl,J⟩:=H;have H:=J;have F:=G;clear G J
 refine bk [2000,0,0] F H rfl ⟨rfl,plain22,trivial⟩ fun a F=>?_
 rcases spP 10 F rfl hm with ⟨hg15,hm,F⟩ | ⟨hg15,hm,F⟩
 refine bk [1,3001,1,2001,0,0,0] F H rfl ⟨fld31_1,rfl,plain22,fld31_1,rfl,plain22,trivial⟩ fun a F=>?_
 rcases spP 17 F rfl hm with ⟨hg16,hm,F⟩ | ⟨hg16,hm,F⟩
 refine bk [2] F H rfl ⟨fld31_2,trivial⟩ fun a F=>g_onP F rfl rfl rfl rfl (sv F rfl (y_loadA F agg24 rfl rfl (row_mid (A:=[.int .u64 (x0_.1),.int .u64 (x0_.2.1)]) (X:=bcells x0_.2.2.1) (C:=bcells x0_.2.2.2.1++(bcells x0_.2.2.2.2.1++(bcells x0_.2.2.2.2.2.1++(v5)))) (w:=_) ((H.blk 3 rfl).row) (by simp only [List.length_append,List.length_cons,List.length_nil,icells_length,bcells_length])) ((bcells_length _).trans hl6)) fun a F=>bk [2] F H rfl ⟨fld31_2,trivial⟩ fun a F=>g_onP F rfl rfl rfl rfl (sv F rfl (y_loadA F agg24 rfl rfl (row_mid (A:=[.int .u64 (x1_.1),.int .u64 (x1_.2.1)]) (X:=bcells x1_.2.2.1) (C:=bcells x1_.2.2.2.1++(bcells x1_.2.2.2.2.1++(bcells x1_.2.2.2.2.2.1++(v10)))) (w:=_) ((H.blk 2 rfl).row) (by simp only [List.length_append,List.length_cons,List.length_nil,icells_length,bcells_length])) ((bcells_length _).trans hl11)) fun a F=>g_onP F rfl rfl rfl rfl (sv F rfl (y_eqlA F key24 rfl rfl rfl hl6 hl11) fun a F=>?_)))
 refine bb [0,0] F H rfl fun a F=>?_
 rcases spP 24 F rfl hm with ⟨hg17,hm,F⟩ | ⟨hg17,hm,F⟩
 refine bk [34] F H rfl ⟨fld31_3,trivial⟩ fun a F=>g_onP F rfl rfl rfl rfl (sv F rfl (y_loadA F agg24 rfl rfl (row_midA (n:=34) (A:=[Value.int .u64 (x0_.1),Value.int .u64 (x0_.2.1)]++(bcells x0_.2.2.1)) (X:=bcells x0_.2.2.2.1) (C:=bcells x0_.2.2.2.2.1++(bcells x0_.2.2.2.2.2.1++(v5))) (w:=_) ((H.blk 3 rfl).row) (by simp only [List.append_assoc,List.cons_append,List.nil_append]) (by simp only [List.length_append,List.length_cons,List.length_nil,icells_length,bcells_length,hl6])) ((bcells_length _).trans hl7)) fun a F=>bk [34] F H rfl ⟨fld31_3,trivial⟩ fun a F=>g_onP F rfl rfl rfl rfl (sv F rfl (y_loadA F agg24 rfl rfl (row_midA (n:=34) (A:=[Value.int .u64 (x1_.1),Value.int .u64 (x1_.2.1)]++(bcells x1_.2.2.1)) (X:=bcells x1_.2.2.2.1) (C:=bcells x1_.2.2.2.2.1++(bcells x1_.2.2.2.2.2.1++(v10))) (w:=_) ((H.blk 2 rfl).row) (by simp only [List.append_assoc,List.cons_append,List.nil_append]) (by simp only [List.length_append,List.length_cons,List.length_nil,icells_length,bcells_length,hl11])) ((bcells_length _).trans hl12)) fun a F=>?_))
 refine g_onP F rfl rfl rfl rfl (sv F rfl (y_eqlA F key24 rfl rfl rfl hl7 hl12) fun a F=>bb [0,0] F H rfl fun a F=>?_)
 rcases spP 31 F rfl hm with ⟨hg18,hm,F⟩ | ⟨hg18,hm,F⟩
 refine bk [66] F H rfl ⟨fld31_4,trivial⟩ fun a F=>g_onP F rfl rfl rfl rfl (sv F rfl (y_loadA F agg24 rfl rfl (row_midA (n:=66) (A:=[Value.int .u64 (x0_.1),Value.int .u64 (x0_.2.1)]++(bcells x0_.2.2.1++(bcells x0_.2.2.2.1))) (X:=bcells x0_.2.2.2.2.1) (C:=bcells x0_.2.2.2.2.2.1++(v5)) (w:=_) ((H.blk 3 rfl).row) (by simp only [List.append_assoc,List.cons_append,List.nil_append]) (by simp only [List.length_append,List.length_cons,List.length_nil,icells_length,bcells_length,hl6,hl7])) ((bcells_length _).trans hl8)) fun a F=>bk [66] F H rfl ⟨fld31_4,trivial⟩ fun a F=>g_onP F rfl rfl rfl rfl (sv F rfl (y_loadA F agg24 rfl rfl (row_midA (n:=66) (A:=[Value.int .u64 (x1_.1),Value.int .u64 (x1_.2.1)]++(bcells x1_.2.2.1++(bcells x1_.2.2.2.1))) (X:=bcells x1_.2.2.2.2.1) (C:=bcells x1_.2.2.2.2.2.1++(v10)) (w:=_) ((H.blk 2 rfl).row) (by simp only [List.append_assoc,List.cons_append,List.nil_append]) (by simp only [List.length_append,List.length_cons,List.length_nil,icells_length,bcells_length,hl11,hl12])) ((bcells_length _).trans hl13)) fun a F=>?_))
 refine g_onP F rfl rfl rfl rfl (sv F rfl (y_eqlA F key24 rfl rfl rfl hl8 hl13) fun a F=>bb [0,0] F H rfl fun a F=>?_)
 rcases spP 38 F rfl hm with ⟨hg19,hm,F⟩ | ⟨hg19,hm,F⟩
 refine bk [98] F H rfl ⟨fld31_5,trivial⟩ fun a F=>g_onP F rfl rfl rfl rfl (sv F rfl (y_loadA F agg24 rfl rfl (row_midA (n:=98) (A:=[Value.int .u64 (x0_.1),Value.int .u64 (x0_.2.1)]++(bcells x0_.2.2.1++(bcells x0_.2.2.2.1++(bcells x0_.2.2.2.2.1)))) (X:=bcells x0_.2.2.2.2.2.1) (C:=v5) (w:=_) ((H.blk 3 rfl).row) (by simp only [List.append_assoc,List.cons_append,List.nil_append]) (by simp only [List.length_append,List.length_cons,List.length_nil,icells_length,bcells_length,hl6,hl7,hl8])) ((bcells_length _).trans hl9)) fun a F=>bk [98] F H rfl ⟨fld31_5,trivial⟩ fun a F=>g_onP F rfl rfl rfl rfl (sv F rfl (y_loadA F agg24 rfl rfl (row_midA (n:=98) (A:=[Value.int .u64 (x1_.1),Value.int .u64 (x1_.2.1)]++(bcells x1_.2.2.1++(bcells x1_.2.2.2.1++(bcells x1_.2.2.2.2.1)))) (X:=bcells x1_.2.2.2.2.2.1) (C:=v10) (w:=_) ((H.blk 2 rfl).row) (by simp only [List.append_assoc,List.cons_append,List.nil_append]) (by simp only [List.length_append,List.length_cons,List.length_nil,icells_length,bcells_length,hl11,hl12,hl13])) ((bcells_length _).trans hl14)) fun a F=>?_))
 refine g_onP F rfl rfl rfl rfl (sv F rfl (y_eqlA F key24 rfl rfl rfl hl9 hl14) fun a F=>bb [0,0] F H rfl fun a F=>?_)
 rcases spP 45 F rfl hm with ⟨hg20,hm,F⟩ | ⟨hg20,hm,F⟩
 refine bk [130] F H rfl ⟨fld31_6,trivial⟩ fun a F=>g_onP F rfl rfl rfl rfl (sv F rfl (y_loadA F agg29 rfl rfl (row_midAE (n:=130) (A:=[Value.int .u64 (x0_.1),Value.int .u64 (x0_.2.1)]++(bcells x0_.2.2.1++(bcells x0_.2.2.2.1++(bcells x0_.2.2.2.2.1++(bcells x0_.2.2.2.2.2.1))))) (X:=v5) (w:=_) ((H.blk 3 rfl).row) (by simp only [List.append_assoc,List.cons_append,List.nil_append]) (by simp only [List.length_append,List.length_cons,List.length_nil,icells_length,bcells_length,hl6,hl7,hl8,hl9])) (H.rcLen 1 rfl)) fun a F=>bk [130] F H rfl ⟨fld31_6,trivial⟩ fun a F=>g_onP F rfl rfl rfl rfl (sv F rfl (y_loadA F agg29 rfl rfl (row_midAE (n:=130) (A:=[Value.int .u64 (x1_.1),Value.int .u64 (x1_.2.1)]++(bcells x1_.2.2.1++(bcells x1_.2.2.2.1++(bcells x1_.2.2.2.2.1++(bcells x1_.2.2.2.2.2.1))))) (X:=v10) (w:=_) ((H.blk 2 rfl).row) (by simp only [List.append_assoc,List.cons_append,List.nil_append]) (by simp only [List.length_append,List.length_cons,List.length_nil,icells_length,bcells_length,hl11,hl12,hl13,hl14])) (H.rcLen 0 rfl)) fun a F=>?_))
 refine g_onP F rfl rfl rfl rfl ?_
 obtain ⟨x21,ex21,hm⟩:=ob hm
 refine sd F rfl ent35 (w_m_triremeref14_SameCall ex21 (H.pm 4 [1,0,0,1,2,3] rfl:):) ?_;rintro _ w a ⟨rfl,H⟩ F
 refine bb [0,0] F H rfl fun a F=>?_
 replace H:=H.nf 4 rfl
 refine nl (wr ?_)
 cases hm
 refine x_ret1 F rfl rfl ?_
 exact ⟨_,rfl,rfl,(H.pm 4 [] rfl:)⟩
 refine bb (List.replicate 7 0) F H rfl fun a F=>nl (wr ?_)
 cases hm
 refine x_ret1 F rfl rfl ?_
 exact ⟨_,rfl,rfl,(H.pm 4 [] rfl:)⟩
 refine bb (List.replicate 14 0) F H rfl fun a F=>nl (wr ?_)
 cases hm
 refine x_ret1 F rfl rfl ?_
 exact ⟨_,rfl,rfl,(H.pm 4 [] rfl:)⟩
 refine bb (List.replicate 21 0) F H rfl fun a F=>nl (wr ?_)
 cases hm
 refine x_ret1 F rfl rfl ?_
 exact ⟨_,rfl,rfl,(H.pm 4 [] rfl:)⟩
 refine bb (List.replicate 28 0) F H rfl fun a F=>nl (wr ?_)
 cases hm
 refine x_ret1 F rfl rfl ?_
 exact ⟨_,rfl,rfl,(H.pm 4 [] rfl:)⟩
 refine bb (List.replicate 35 0) F H rfl fun a F=>nl (wr ?_)
 cases hm
 refine x_ret1 F rfl rfl ?_
 exact ⟨_,rfl,rfl,(H.pm 4 [] rfl:)⟩
 refine bb (List.replicate 42 0) F H rfl fun a F=>nl (wr ?_)
 cases hm
 refine x_ret1 F rfl rfl ?_
 exact ⟨_,rfl,rfl,(H.pm 4 [] rfl:)⟩
end Go.Proofs.YtapllcabobickaaGreatDoor
