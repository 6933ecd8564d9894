/- Texts RefA. -/
import Derived.Test.YtapllcabobickaaGreatDoorQ11
set_option linter.unusedSimpArgs false
set_option linter.unusedVariables false
namespace Go.Proofs.YtapllcabobickaaGreatDoor
open Go.RowKit Go.Tri
set_option maxRecDepth 100000
set_option maxHeartbeats 4000000
theorem w_rotr {x:Int} {n:Int}  {w0 w:World} {l:List HP}  {r:Int} (hm:rotr x n=some r) (H:St w0 w (l)) :
  Calls Tryz.prog 98 [.int .u32 (x),.int .i64 (n)].toArray w (fun e w'=>∃ v,e=.returned v∧v=.int .u32 (r)∧St w0 w' (l)):=by
 unfold rotr at hm
 refine x_enter Tryz.func98 rfl rfl rfl ?_
 intro a F
 refine sb [0] F H rfl fun a F=>nl (sr (bk [0,0,2] F H rfl ⟨Tryz.underlying3,Tryz.underlying141,trivial⟩ fun a F=>?_))
 obtain ⟨x1,ex1,hm⟩:=ob hm
 refine sv F rfl (i_shrO F rfl rfl rfl ex1) fun a F=>bk [0,0,0,2] F H rfl ⟨Tryz.underlying3,Tryz.underlying141,trivial⟩ fun a F=>?_
 obtain ⟨x2,ex2,hm⟩:=ob hm
 refine sv F rfl (i_shlO F rfl rfl rfl ex2) fun a F=>bb [0,0] F H rfl fun a F=>nl (wr ?_)
 cases hm
 refine x_ret1 F rfl rfl ?_
 exact ⟨_,rfl,rfl,H⟩
theorem w_rConst   {w0 w:World} {l:List HP}  {r:(List Int)} (hm:rConst =some r) (H:St w0 w (l)) :
  Calls Tryz.prog 96 [].toArray w (fun e w'=>∃ v,e=.returned v∧v=.agg (icells .u32 r).toArray∧((r).length=64)∧St w0 w' (l)):=by
 unfold rConst at hm
 refine x_enter Tryz.func96 rfl rfl rfl ?_
 intro a F
 refine sr (s_allocA wkP F rfl rfl rfl agz189 rfl H fun b2 w a H F=>?_)
 replace H:=H.nf 1 rfl
 refine nl (sr (sv F rfl (y_build F rfl rfl (cs:=icells .u32 ([1116352408,1899447441,3049323471,3921009573,961987163,1508970993,2453635748,2870763221,3624381080,310598401,607225278,1426881987,1925078388,2162078206,2614888103,3248222580,3835390401,4022224774,264347078,604807628,770255983,1249150122,1555081692,1996064986,2554220882,2821834349,2952996808,3210313671,3336571891,3584528711,113926993,338241895,666307205,773529912,1294757372,1396182291,1695183700,1986661051,2177026350,2456956037,2730485921,2820302411,3259730800,3345764771,3516065817,3600352804,4094571909,275423344,430227734,506948616,659060556,883997877,958139571,1322822218,1537002063,1747873779,1955562222,2024104815,2227730452,2361852424,2428436474,2756734187,3204031479,3329325298]:List Int)) (by kernel_rfl)) fun a F=>s_storeA wkP F rfl rfl agg189 rfl rfl rfl H 0 rfl ((icells_length _ _).trans rfl) ((icells_length _ _).trans (List.length_replicate (n:=64))) (icells_flat _ _) fun w H=>?_))
 replace H:=H.nf 1 rfl
 refine nl (wr ?_)
 cases hm
 refine x_resC1 F rfl (⟨_,rfl,agg189.run_load (H.blk 0 rfl).row ((icells_length _ _).trans rfl)⟩) ?_
 exact ⟨_,rfl,rfl,rfl,(H.pm 1 [] rfl:)⟩
theorem w_rPad {b:List UInt8} {p1:Option Addr} {c1:Nat} {w0 w:World} {l:List HP}  {r:(List UInt8)} (hm:rPad b=some r) (H:St w0 w (HP.sl rByte p1 c1 b::l)) :
  Calls Tryz.prog 97 [.slice p1 (b).length c1].toArray w (fun e w'=>∃ v,e=.returned v∧∃ (p2:Option Addr) (c2:Nat),v=.slice p2 (r).length c2∧St w0 w' (HP.ow rByte 5 p2 c2 r::l)):=by
 unfold rPad at hm
 refine x_enter Tryz.func97 rfl rfl rfl ?_
 intro a F
 refine sb [0] F H rfl fun a F=>nl (sr (s_build0O (R:=rByte) wkP F rfl rfl rfl elem25 rfl H fun b3 w a H F=>bb [0] F H rfl fun a F=>?_))
 obtain ⟨x5,ex5,hm⟩:=ob hm
 refine s_app wkP F rfl rfl rfl rfl rfl rfl elem25 rfl ex5 H 0 1 rfl rfl fun p4 c4 w a H F=>?_
 obtain ⟨x7,ex7,hm⟩:=ob hm
 refine s_buildC wkP F rfl rfl rfl elem25 zero5 rfl rfl rfl rfl (by simp [Value.cells]) (by decide) H fun b6 w a H F=>?_
 replace H:=H.blkOw1 (R:=rByte) (x:=x7) (fun gg=>(congrArg (fun z=>[Value.int .u8 z]) (u8O_some ex7).symm))
 replace H:=H.frz 0 rfl
 obtain ⟨x9,ex9,hm⟩:=ob hm
 refine s_app wkP F rfl rfl rfl rfl rfl rfl elem25 rfl ex9 H 1 0 rfl rfl fun p8 c8 w a H F=>?_
 refine bb [0] F H rfl fun a F=>?_
 replace H:=H.nf 3 rfl
 refine nl (sq (xm2 3 [0] [2] F H hm rfl rfl (fun r32 (p33:Option Addr) (c33:Nat) z=>(3,.slice p33 (r32).length c33)::z) (fun r32 p33 c33 z=>HP.ow rByte 5 p33 c33 r32::z) (fun r32 hm=>?_) (fun r32 a w hm p33 c33 F H=>?_)))
 refine bl (xl2 3 [0] [2] F H hm rfl rfl (fun (s48:(List UInt8)) (p49:Option Addr) (c49:Nat) z=>(3,.slice p49 (s48).length c49)::z) (fun s48 p49 c49 z=>HP.ow rByte 5 p49 c49 s48::z) ⟨p8,c8,F.sl rfl,(H.pm 3 [1,2] rfl:)⟩ (fun s48 a w o p49 c49 F H hm=>sq (sr (bk [0,0] F H rfl ⟨⟨_,Tryz.underlying25⟩,trivial⟩ fun a F=>?_))))
 obtain ⟨x50,ex50,hm⟩:=ob hm
 refine sv F rfl (i_rem F rfl rfl rfl ex50) fun a F=>bb [0] F H rfl fun a F=>?_
 refine nl (cNm F rfl hm (fun hg51 hm=>?_) (fun hg51 hm=>?_))
 refine sk (ct (bl (rl (bb [0] F H rfl fun a F=>?_))))
 obtain ⟨x53,ex53,hm⟩:=ob hm
 refine s_buildC wkP F rfl rfl rfl elem25 zero5 rfl rfl rfl rfl (by simp [Value.cells]) (by decide) H fun b52 w a H F=>?_
 replace H:=H.blkOw1 (R:=rByte) (x:=x53) (fun gg=>(congrArg (fun z=>[Value.int .u8 z]) (u8O_some ex53).symm))
 replace H:=H.frz 0 rfl
 obtain ⟨x55,ex55,hm⟩:=ob hm
 refine s_app wkP F rfl rfl rfl rfl rfl rfl elem25 rfl ex55 H 1 0 rfl rfl fun p54 c54 w a H F=>?_
 refine bb [0] F H rfl fun a F=>?_
 replace H:=H.nf 3 rfl
 refine lz (bn (ct ?_));cases hm
 exact ⟨_,rfl,⟨p54,c54,F.sl rfl,(H.pm 3 [1,2] rfl:)⟩⟩
 refine ex (cx (cx ?_));cases hm;refine ⟨_,rfl,?_⟩;rintro rfl
 refine ch (ct ?_)
 exact ⟨p49,c49,F.sl rfl,H⟩
 refine ct (sr (bk [0,0,2,0,0] F H rfl ⟨⟨_,Tryz.underlying25⟩,Tryz.underlying3,Tryz.underlying22,trivial⟩ fun a F=>nl (sq (sb [0] F H rfl fun a F=>?_))))
 refine nl (xm2 2 [] [] F H hm rfl rfl (fun r78 (p79:Option Addr) (c79:Nat) z=>(3,.slice p79 (r78).length c79)::z) (fun r78 p79 c79 z=>HP.ow rByte 5 p79 c79 r78::z) (fun r78 hm=>?_) (fun r78 a w hm p79 c79 F H=>?_))
 refine bl (xl2 2 [4] [] F H hm rfl rfl (fun (s94:(List UInt8)×Int) (p95:Option Addr) (c95:Nat) z=>(3,.slice p95 (s94.1).length c95)::(5,.int .i64 (s94.2))::z) (fun s94 p95 c95 z=>HP.ow rByte 5 p95 c95 s94.1::z) ⟨p33,c33,F.sl rfl,(H.pm 2 [0] rfl:)⟩ (fun s94 a w o p95 c95 F H hm=>sq (sb [0,0] F H rfl fun a F=>?_)))
 refine nl (cPm F rfl hm (fun hg96 hm=>?_) (fun hg96 hm=>?_))
 refine sk (ct (sq (bl (rl (bk [0,0,0,0,2] F H rfl ⟨Tryz.underlying3,Tryz.underlying141,trivial⟩ fun a F=>?_)))))
 obtain ⟨x97,ex97,hm⟩:=ob hm
 refine sv F rfl (i_shrO F rfl rfl rfl ex97) fun a F=>bk [1] F H rfl ⟨Tryz.underlying22,Tryz.underlying5,trivial⟩ fun a F=>?_
 obtain ⟨x99,ex99,hm⟩:=ob hm
 refine s_buildC wkP F rfl rfl rfl elem25 zero5 rfl rfl rfl rfl (by simp [Value.cells]) (by decide) H fun b98 w a H F=>?_
 replace H:=H.blkOw1 (R:=rByte) (x:=x99) (fun gg=>(congrArg (fun z=>[Value.int .u8 z]) (u8O_some ex99).symm))
 replace H:=H.frz 0 rfl
 obtain ⟨x101,ex101,hm⟩:=ob hm
 refine s_app wkP F rfl rfl rfl rfl rfl rfl elem25 rfl ex101 H 1 0 rfl rfl fun p100 c100 w a H F=>?_
 refine bb [0] F H rfl fun a F=>?_
 replace H:=H.nf 2 rfl
 refine lz (bn (ct (rl (bb [0,0,0] F H rfl fun a F=>?_))))
 refine lz (ct ?_);cases hm
 exact ⟨_,rfl,⟨p100,c100,F.sl rfl,(H.pm 2 [1] rfl:)⟩⟩
 refine ex (cx (cx ?_));cases hm;refine ⟨_,rfl,?_⟩;rintro rfl
 refine ch (ct ?_)
 exact ⟨p95,c95,F.sl rfl,H⟩
 refine ct (sb [0,0] F H rfl fun a F=>nl (wr ?_))
 cases hm
 refine x_ret1 F rfl rfl ?_
 exact ⟨_,rfl,p79,c79,rfl,H⟩
theorem ent96:En Tryz.prog 96:=enters Tryz.func96 (by kernel_rfl) rfl
theorem ent97:En Tryz.prog 97:=enters Tryz.func97 (by kernel_rfl) rfl
theorem ent98:En Tryz.prog 98:=enters Tryz.func98 (by kernel_rfl) rfl
theorem w_rSum {b:List UInt8} {p1:Option Addr} {c1:Nat} {w0 w:World} {l:List HP}  {r:(List UInt8)} (hm:rSum b=some r) (H:St w0 w (HP.sl rByte p1 c1 b::l)) :
  Calls Tryz.prog 71 [.slice p1 (b).length c1].toArray w (fun e w'=>∃ v,e=.returned v∧v=.agg (bcells r).toArray∧((r).length=32)∧St w0 w' (l)):=by
 unfold rSum at hm
 refine x_enter Tryz.func71 rfl rfl rfl ?_
 intro a F
 refine sr (s_allocA wkP F rfl rfl rfl agz24 rfl H fun b3 w a H F=>?_)
 replace H:=H.nf 2 rfl
 refine nl (sr ?_)
 obtain ⟨x4,ex4,hm⟩:=ob hm
 refine sd F rfl ent96 (w_rConst ex4 H:) ?_;rintro _ w a ⟨rfl,hl5,H⟩ F
 refine s_allocA wkP F rfl rfl rfl agz189 rfl H fun b6 w a H F=>s_storeA wkP F rfl rfl agg189 rfl rfl rfl H 0 rfl ((icells_length _ _).trans hl5) ((icells_length _ _).trans (List.length_replicate (n:=64))) (icells_flat _ _) fun w H=>?_
 replace H:=H.nf 3 rfl
 refine nl (sr (sv F rfl (y_build F rfl rfl (cs:=icells .u32 ([1779033703,3144134277,1013904242,2773480762,1359893119,2600822924,528734635,1541459225]:List Int)) (by kernel_rfl)) fun a F=>s_allocA wkP F rfl rfl rfl agz191 rfl H fun b7 w a H F=>s_storeA wkP F rfl rfl agg191 rfl rfl rfl H 0 rfl ((icells_length _ _).trans rfl) ((icells_length _ _).trans (List.length_replicate (n:=8))) (icells_flat _ _) fun w H=>?_))
 replace H:=H.nf 4 rfl
 refine nb [0] F H rfl fun a F=>?_
 obtain ⟨x8,ex8,hm⟩:=ob hm
 refine sd F rfl ent97 (w_rPad ex8 (H.pm 4 [3,0,1,2,3] rfl:):) ?_;rintro _ w a ⟨p9,c9,rfl,H⟩ F
 refine bb [0] F H rfl fun a F=>?_
 replace H:=H.nf 5 rfl
 refine nl (sq (sb [0] F H rfl fun a F=>nl ?_))
 obtain ⟨r1355,er1355,hm1355⟩:=ob hm;clear hm;revert er1355;intro hm
 refine x_mid (fun aa ww=>Fr ⟨234,[]⟩ aa [(2,.pointer (some ⟨b3,0,none⟩)),(4,.pointer (some ⟨b7,0,none⟩))]∧((r1355).length=8)∧St w0 ww (HP.ow rByte 5 p9 c9 x8::HP.blk b7 (icells .u32 r1355) 191::HP.blk b6 (icells .u32 x4) 189::HP.blk b3 (bcells (List.replicate 32 0)) 24::l)) ?_ ?_
 refine bl ?_
 refine x_loopO _ (fun (s2253:(List Int)×Int) aa ww=>Fr ⟨234,[]⟩ aa [(2,.pointer (some ⟨b3,0,none⟩)),(3,.pointer (some ⟨b6,0,none⟩)),(4,.pointer (some ⟨b7,0,none⟩)),(5,.slice p9 (x8).length c9),(6,.int .i64 (s2253.2))]∧((s2253.1).length=8)∧St w0 ww (HP.ow rByte 5 p9 c9 x8::HP.blk b7 (icells .u32 s2253.1) 191::HP.blk b6 (icells .u32 x4) 189::HP.blk b3 (bcells (List.replicate 32 0)) 24::l)) hm ⟨F.sl rfl,rfl,(H.pm 5 [0,1,2,3] rfl:)⟩ ?_
 clear F H hm
 rintro s2253 a w o ⟨F,hl2254,H⟩ hm
 refine sq (sr (bk [0,0,0,0] F H rfl ⟨⟨_,Tryz.underlying25⟩,trivial⟩ fun a F=>?_))
 refine nl (cPm F rfl hm (fun hg2255 hm=>?_) (fun hg2255 hm=>?_))
 refine sk (ct (sq (bl (sr (sv F rfl (y_build F rfl rfl (cs:=icells .u32 ([0,0,0,0,0,0,0,0,0,0,0,0,0,0,0,0,0,0,0,0,0,0,0,0,0,0,0,0,0,0,0,0,0,0,0,0,0,0,0,0,0,0,0,0,0,0,0,0,0,0,0,0,0,0,0,0,0,0,0,0,0,0,0,0]:List Int)) (by kernel_rfl)) fun a F=>s_allocA wkP F rfl rfl rfl agz189 rfl H fun b2256 w a H F=>s_storeA wkP F rfl rfl agg189 rfl rfl rfl H 0 rfl ((icells_length _ _).trans rfl) ((icells_length _ _).trans (List.length_replicate (n:=64))) (icells_flat _ _) fun w H=>?_)))))
 replace H:=H.nf 5 rfl
 refine nl (sq (sb [0] F H rfl fun a F=>nl ?_))
 obtain ⟨r2402,er2402,hm2402⟩:=ob hm;clear hm;revert er2402;intro hm
 refine x_mid (fun aa ww=>Fr ⟨234,[]⟩ aa [(2,.pointer (some ⟨b3,0,none⟩)),(3,.pointer (some ⟨b6,0,none⟩)),(4,.pointer (some ⟨b7,0,none⟩)),(5,.slice p9 (x8).length c9),(6,.int .i64 (s2253.2)),(7,.pointer (some ⟨b2256,0,none⟩))]∧((r2402).length=64)∧St w0 ww (HP.blk b2256 (icells .u32 r2402) 189::HP.ow rByte 5 p9 c9 x8::HP.blk b7 (icells .u32 s2253.1) 191::HP.blk b6 (icells .u32 x4) 189::HP.blk b3 (bcells (List.replicate 32 0)) 24::l)) ?_ ?_
 refine bl ?_
 refine x_loopO _ (fun (s2500:(List Int)×Int) aa ww=>Fr ⟨234,[]⟩ aa [(2,.pointer (some ⟨b3,0,none⟩)),(3,.pointer (some ⟨b6,0,none⟩)),(4,.pointer (some ⟨b7,0,none⟩)),(5,.slice p9 (x8).length c9),(6,.int .i64 (s2253.2)),(7,.pointer (some ⟨b2256,0,none⟩)),(8,.int .i64 (s2500.2))]∧((s2500.1).length=64)∧St w0 ww (HP.blk b2256 (icells .u32 s2500.1) 189::HP.ow rByte 5 p9 c9 x8::HP.blk b7 (icells .u32 s2253.1) 191::HP.blk b6 (icells .u32 x4) 189::HP.blk b3 (bcells (List.replicate 32 0)) 24::l)) hm ⟨F.sl rfl,rfl,H⟩ ?_
 clear F H hm
 rintro s2500 a w o ⟨F,hl2501,H⟩ hm
 refine sq (sb [0,0] F H rfl fun a F=>?_)
 refine nl (cPm F rfl hm (fun hg2502 hm=>?_) (fun hg2502 hm=>?_))
 refine sk (ct (sq ?_))
 obtain ⟨r2525,er2525,hm2525⟩:=ob hm;clear hm;revert er2525;intro hm
 refine x_mid (fun aa ww=>Fr ⟨234,[]⟩ aa [(2,.pointer (some ⟨b3,0,none⟩)),(3,.pointer (some ⟨b6,0,none⟩)),(4,.pointer (some ⟨b7,0,none⟩)),(5,.slice p9 (x8).length c9),(6,.int .i64 (s2253.2)),(7,.pointer (some ⟨b2256,0,none⟩)),(8,.int .i64 (s2500.2))]∧((r2525).length=64)∧St w0 ww (HP.blk b2256 (icells .u32 r2525) 189::HP.ow rByte 5 p9 c9 x8::HP.blk b7 (icells .u32 s2253.1) 191::HP.blk b6 (icells .u32 x4) 189::HP.blk b3 (bcells (List.replicate 32 0)) 24::l)) ?_ ?_
 refine bl (sq (sb [0,0] F H rfl fun a F=>?_))
 refine nl (cPm F rfl hm (fun hg2527 hm=>?_) (fun hg2527 hm=>?_))
 refine sb (List.replicate 5 0) F H rfl fun a F=>nl (sq ?_)
 obtain ⟨x2528,ex2528,hm⟩:=ob hm
 obtain ⟨b2529,hp2529⟩:=H.owP 1 rfl (idxO_some ex2528).2
 obtain ⟨x2531,ex2531,hm⟩:=ob hm
 obtain ⟨x2533,ex2533,hm⟩:=ob hm
 obtain ⟨x2535,ex2535,hm⟩:=ob hm
 obtain ⟨x2537,ex2537,hm⟩:=ob hm
 refine mix_regionK [31] [31] (scL [0,1,2,3,1004,5,6,7,8,9,10,1011,12,13,14,15,16,17,18,1019,20,21,22,23,24,25,26,1027,28,29,30,3031]) [] H rfl rfl (by kernel_rfl) (by kernel_rfl) fun w H=>?_
 refine mb [0,0,0] F H rfl fun a F=>?_
 refine m_pure F rfl rfl rfl rfl (fun u hu=>y_idxS F elem25 rfl rfl rfl hp2529 ex2528) fun a F=>?_
 refine m_read F rfl rfl rfl rfl (y_load1 F plain5 rfl rfl (H.owB 1 rfl hp2529 ex2528)) fun a F=>?_
 refine mbk [3] F H rfl ⟨Tryz.underlying5,Tryz.underlying188,trivial⟩ fun a F=>?_
 refine m_pure F rfl rfl rfl rfl (fun u hu=>i_shl F rfl rfl rfl (by decide)) fun a F=>?_
 refine mb [0,0,0] F H rfl fun a F=>?_
 refine m_pure F rfl rfl rfl rfl (fun u hu=>y_idxS F elem25 rfl rfl rfl hp2529 ex2531) fun a F=>?_
 refine m_read F rfl rfl rfl rfl (y_load1 F plain5 rfl rfl (H.owB 1 rfl hp2529 ex2531)) fun a F=>?_
 refine mbk [3] F H rfl ⟨Tryz.underlying5,Tryz.underlying188,trivial⟩ fun a F=>?_
 refine m_pure F rfl rfl rfl rfl (fun u hu=>i_shl F rfl rfl rfl (by decide)) fun a F=>?_
 refine mb [0,0,0,0] F H rfl fun a F=>?_
 refine m_pure F rfl rfl rfl rfl (fun u hu=>y_idxS F elem25 rfl rfl rfl hp2529 ex2533) fun a F=>?_
 refine m_read F rfl rfl rfl rfl (y_load1 F plain5 rfl rfl (H.owB 1 rfl hp2529 ex2533)) fun a F=>?_
 refine mbk [3] F H rfl ⟨Tryz.underlying5,Tryz.underlying188,trivial⟩ fun a F=>?_
 refine m_pure F rfl rfl rfl rfl (fun u hu=>i_shl F rfl rfl rfl (by decide)) fun a F=>?_
 refine mb [0,0,0,0] F H rfl fun a F=>?_
 refine m_pure F rfl rfl rfl rfl (fun u hu=>y_idxS F elem25 rfl rfl rfl hp2529 ex2535) fun a F=>?_
 refine m_read F rfl rfl rfl rfl (y_load1 F plain5 rfl rfl (H.owB 1 rfl hp2529 ex2535)) fun a F=>?_
 refine mbk [3,0] F H rfl ⟨Tryz.underlying5,Tryz.underlying188,trivial⟩ fun a F=>?_
 refine m_pure F rfl rfl rfl rfl (fun u hu=>y_idxA F arr189 rfl rfl rfl ex2537 hl2501) fun a F=>?_
 refine m_last rfl rfl ?_
 refine s_stI wkP F rfl rfl zero188 rfl rfl rfl H 0 rfl ex2537 fun w H=>?_
 refine lz ?_;refine ct ?_
 refine m_nil (ct (ex (cx (ch ?_))))
 cases hm
 refine ct ?_
 exact ⟨F.sl rfl,((List.length_set ..).trans hl2501),H⟩
 refine sk (ct (sq ?_))
 obtain ⟨x2539,ex2539,hm⟩:=ob hm
 obtain ⟨x2540,ex2540,hm⟩:=ob hm
 refine qr H (by kernel_rfl) (by kernel_rfl) ?_
 refine qb [0,0] F rfl fun a F=>qv F rfl (fun u hu=>y_idxA F arr189 rfl rfl rfl ex2539 hl2501) fun a F=>qv F rfl (fun u hu=>y_load1 F plain188 rfl rfl (row_ix ((hu.blk 0 rfl).row) (icells_idx ex2539))) fun a F=>qb [0,0] F rfl fun a F=>qv F rfl (fun u hu=>y_idxA F arr189 rfl rfl rfl ex2540 hl2501) fun a F=>qv F rfl (fun u hu=>y_load1 F plain188 rfl rfl (row_ix ((hu.blk 0 rfl).row) (icells_idx ex2540))) fun a F=>qb [0,0] F rfl fun a F=>?_
 refine q_nil fun w H=>?_
 refine ct (sb [0] F H rfl fun a F=>?_)
 obtain ⟨x2541,ex2541,hm⟩:=ob hm
 refine sd F rfl ent98 (w_rotr ex2541 H:) ?_;rintro _ w a ⟨rfl,H⟩ F
 refine bb [0] F H rfl fun a F=>?_
 obtain ⟨x2542,ex2542,hm⟩:=ob hm
 refine sd F rfl ent98 (w_rotr ex2542 H:) ?_;rintro _ w a ⟨rfl,H⟩ F
 refine bb [0,0] F H rfl fun a F=>sv F rfl (i_shr F rfl rfl rfl (by decide)) fun a F=>bb [0,0] F H rfl fun a F=>?_
 replace H:=H.nf 5 rfl
 refine nb [0] F H rfl fun a F=>?_
 obtain ⟨x2543,ex2543,hm⟩:=ob hm
 refine sd F rfl ent98 (w_rotr ex2543 H:) ?_;rintro _ w a ⟨rfl,H⟩ F
 refine bb [0] F H rfl fun a F=>?_
 obtain ⟨x2544,ex2544,hm⟩:=ob hm
 refine sd F rfl ent98 (w_rotr ex2544 H:) ?_;rintro _ w a ⟨rfl,H⟩ F
 refine bb [0,0] F H rfl fun a F=>sv F rfl (i_shr F rfl rfl rfl (by decide)) fun a F=>bb [0,0] F H rfl fun a F=>?_
 replace H:=H.nf 5 rfl
 refine nl ?_
 obtain ⟨x2545,ex2545,hm⟩:=ob hm
 obtain ⟨x2546,ex2546,hm⟩:=ob hm
 obtain ⟨x2547,ex2547,hm⟩:=ob hm
 refine mix_regionK [15] [15] (scL [0,1,2,3,1004,5,6,7,8,9,1010,11,12,13,14,3015]) [] H rfl rfl (by kernel_rfl) (by kernel_rfl) fun w H=>?_
 refine mb [0,0,0] F H rfl fun a F=>?_
 refine m_pure F rfl rfl rfl rfl (fun u hu=>y_idxA F arr189 rfl rfl rfl ex2545 hl2501) fun a F=>?_
 refine m_read F rfl rfl rfl rfl (y_load1 F plain188 rfl rfl (row_ix ((H.blk 0 rfl).row) (icells_idx ex2545))) fun a F=>?_
 refine mb [0,0,0,0] F H rfl fun a F=>?_
 refine m_pure F rfl rfl rfl rfl (fun u hu=>y_idxA F arr189 rfl rfl rfl ex2546 hl2501) fun a F=>?_
 refine m_read F rfl rfl rfl rfl (y_load1 F plain188 rfl rfl (row_ix ((H.blk 0 rfl).row) (icells_idx ex2546))) fun a F=>?_
 refine mb [0,0,0] F H rfl fun a F=>?_
 refine m_pure F rfl rfl rfl rfl (fun u hu=>y_idxA F arr189 rfl rfl rfl ex2547 hl2501) fun a F=>?_
 refine m_last rfl rfl ?_
 refine s_stI wkP F rfl rfl zero188 rfl rfl rfl H 0 rfl ex2547 fun w H=>?_
 refine lz ?_;refine ct ?_
 refine m_nil (bn ?_)
 cases hm
 refine ct ?_
 exact ⟨F.sl rfl,((List.length_set ..).trans hl2501),H⟩
 clear F H hm
 rintro a w ⟨F,hl2526,H⟩;have hm:=hm2525;clear hm2525
 refine ct (rl (bb [0,0,0] F H rfl fun a F=>?_))
 refine lz (ct ?_);cases hm
 exact ⟨_,rfl,⟨F.sl rfl,hl2526,H⟩⟩
 refine ex (cx (cx ?_));cases hm;refine ⟨_,rfl,?_⟩;rintro rfl
 refine ch (ct ?_)
 exact ⟨F.sl rfl,hl2501,H⟩
 clear F H hm
 rintro a w ⟨F,hl2403,H⟩;have hm:=hm2402;clear hm2402
 refine ct (sr (bk [2999] F H rfl ⟨rfl,(aggn agg191 ((icells_length _ _).trans hl2254)),trivial⟩ fun a F=>s_allocA wkP F rfl rfl rfl agz191 rfl H fun b2549 w a H F=>s_storeA wkP F rfl rfl agg191 rfl rfl rfl H 0 rfl ((icells_length _ _).trans hl2254) ((icells_length _ _).trans (List.length_replicate (n:=8))) (icells_flat _ _) fun w H=>?_))
 replace H:=H.nf 6 rfl
 refine nl (sq (sb [0] F H rfl fun a F=>nl ?_))
 obtain ⟨r2605,er2605,hm2605⟩:=ob hm;clear hm;revert er2605;intro hm
 refine x_mid (fun aa ww=>Fr ⟨234,[]⟩ aa [(2,.pointer (some ⟨b3,0,none⟩)),(3,.pointer (some ⟨b6,0,none⟩)),(4,.pointer (some ⟨b7,0,none⟩)),(5,.slice p9 (x8).length c9),(6,.int .i64 (s2253.2)),(14,.pointer (some ⟨b2549,0,none⟩))]∧((r2605).length=8)∧St w0 ww (HP.blk b2549 (icells .u32 r2605) 191::HP.blk b2256 (icells .u32 r2402) 189::HP.ow rByte 5 p9 c9 x8::HP.blk b7 (icells .u32 s2253.1) 191::HP.blk b6 (icells .u32 x4) 189::HP.blk b3 (bcells (List.replicate 32 0)) 24::l)) ?_ ?_
 refine bl ?_
 refine x_loopO _ (fun (s2643:(List Int)×Int) aa ww=>Fr ⟨234,[]⟩ aa [(2,.pointer (some ⟨b3,0,none⟩)),(3,.pointer (some ⟨b6,0,none⟩)),(4,.pointer (some ⟨b7,0,none⟩)),(5,.slice p9 (x8).length c9),(6,.int .i64 (s2253.2)),(7,.pointer (some ⟨b2256,0,none⟩)),(14,.pointer (some ⟨b2549,0,none⟩)),(15,.int .i64 (s2643.2))]∧((s2643.1).length=8)∧St w0 ww (HP.blk b2549 (icells .u32 s2643.1) 191::HP.blk b2256 (icells .u32 r2402) 189::HP.ow rByte 5 p9 c9 x8::HP.blk b7 (icells .u32 s2253.1) 191::HP.blk b6 (icells .u32 x4) 189::HP.blk b3 (bcells (List.replicate 32 0)) 24::l)) hm ⟨F.sl rfl,hl2254,H⟩ ?_
 clear F H hm
 rintro s2643 a w o ⟨F,hl2644,H⟩ hm
 refine sq (sb [0,0] F H rfl fun a F=>?_)
 refine nl (cPm F rfl hm (fun hg2645 hm=>?_) (fun hg2645 hm=>?_))
 refine sk (ct (sq (bl (sq ?_))))
 obtain ⟨x2646,ex2646,hm⟩:=ob hm
 obtain ⟨x2647,ex2647,hm⟩:=ob hm
 obtain ⟨x2648,ex2648,hm⟩:=ob hm
 obtain ⟨x2649,ex2649,hm⟩:=ob hm
 obtain ⟨x2650,ex2650,hm⟩:=ob hm
 obtain ⟨x2651,ex2651,hm⟩:=ob hm
 refine qr H (by kernel_rfl) (by kernel_rfl) ?_
 refine qv F rfl (fun u hu=>y_idxA F arr191 rfl rfl rfl ex2646 hl2644) fun a F=>qv F rfl (fun u hu=>y_load1 F plain188 rfl rfl (row_ix ((hu.blk 0 rfl).row) (icells_idx ex2646))) fun a F=>qv F rfl (fun u hu=>y_idxA F arr191 rfl rfl rfl ex2647 hl2644) fun a F=>qv F rfl (fun u hu=>y_load1 F plain188 rfl rfl (row_ix ((hu.blk 0 rfl).row) (icells_idx ex2647))) fun a F=>qv F rfl (fun u hu=>y_idxA F arr191 rfl rfl rfl ex2648 hl2644) fun a F=>qv F rfl (fun u hu=>y_load1 F plain188 rfl rfl (row_ix ((hu.blk 0 rfl).row) (icells_idx ex2648))) fun a F=>qv F rfl (fun u hu=>y_idxA F arr191 rfl rfl rfl ex2649 hl2644) fun a F=>qv F rfl (fun u hu=>y_load1 F plain188 rfl rfl (row_ix ((hu.blk 0 rfl).row) (icells_idx ex2649))) fun a F=>qv F rfl (fun u hu=>y_idxA F arr191 rfl rfl rfl ex2650 hl2644) fun a F=>qv F rfl (fun u hu=>y_load1 F plain188 rfl rfl (row_ix ((hu.blk 0 rfl).row) (icells_idx ex2650))) fun a F=>?_
 refine qv F rfl (fun u hu=>y_idxA F arr191 rfl rfl rfl ex2651 hl2644) fun a F=>qv F rfl (fun u hu=>y_load1 F plain188 rfl rfl (row_ix ((hu.blk 0 rfl).row) (icells_idx ex2651))) fun a F=>qb (List.replicate 6 0) F rfl fun a F=>?_
 refine q_nil fun w H=>?_
 refine ct (sb [0] F H rfl fun a F=>?_)
 obtain ⟨x2652,ex2652,hm⟩:=ob hm
 refine sd F rfl ent98 (w_rotr ex2652 H:) ?_;rintro _ w a ⟨rfl,H⟩ F
 refine bb [0] F H rfl fun a F=>?_
 obtain ⟨x2653,ex2653,hm⟩:=ob hm
 refine sd F rfl ent98 (w_rotr ex2653 H:) ?_;rintro _ w a ⟨rfl,H⟩ F
 refine bb [0,0] F H rfl fun a F=>?_
 obtain ⟨x2654,ex2654,hm⟩:=ob hm
 refine sd F rfl ent98 (w_rotr ex2654 H:) ?_;rintro _ w a ⟨rfl,H⟩ F
 refine bb [0,0] F H rfl fun a F=>?_
 replace H:=H.nf 6 rfl
 refine nb (List.replicate 9 0) F H rfl fun a F=>nl (sq ?_)
 obtain ⟨x2655,ex2655,hm⟩:=ob hm
 obtain ⟨x2656,ex2656,hm⟩:=ob hm
 obtain ⟨x2657,ex2657,hm⟩:=ob hm
 refine qr H (by kernel_rfl) (by kernel_rfl) ?_
 refine qv F rfl (fun u hu=>y_idxA F arr191 rfl rfl rfl ex2655 hl2644) fun a F=>qv F rfl (fun u hu=>y_load1 F plain188 rfl rfl (row_ix ((hu.blk 0 rfl).row) (icells_idx ex2655))) fun a F=>qb (List.replicate 5 0) F rfl fun a F=>qv F rfl (fun u hu=>y_idxA F arr189 rfl rfl rfl ex2656 hl5) fun a F=>qv F rfl (fun u hu=>y_load1 F plain188 rfl rfl (row_ix ((hu.blk 4 rfl).row) (icells_idx ex2656))) fun a F=>qb [0,0] F rfl fun a F=>qv F rfl (fun u hu=>y_idxA F arr189 rfl rfl rfl ex2657 hl2403) fun a F=>qv F rfl (fun u hu=>y_load1 F plain188 rfl rfl (row_ix ((hu.blk 1 rfl).row) (icells_idx ex2657))) fun a F=>qb [0,0] F rfl fun a F=>?_
 refine q_nil fun w H=>?_
 refine ct (sb [0] F H rfl fun a F=>?_)
 obtain ⟨x2658,ex2658,hm⟩:=ob hm
 refine sd F rfl ent98 (w_rotr ex2658 H:) ?_;rintro _ w a ⟨rfl,H⟩ F
 refine bb [0] F H rfl fun a F=>?_
 obtain ⟨x2659,ex2659,hm⟩:=ob hm
 refine sd F rfl ent98 (w_rotr ex2659 H:) ?_;rintro _ w a ⟨rfl,H⟩ F
 refine bb [0,0] F H rfl fun a F=>?_
 obtain ⟨x2660,ex2660,hm⟩:=ob hm
 refine sd F rfl ent98 (w_rotr ex2660 H:) ?_;rintro _ w a ⟨rfl,H⟩ F
 refine bb [0,0] F H rfl fun a F=>?_
 replace H:=H.nf 6 rfl
 refine nb (List.replicate 12 0) F H rfl fun a F=>nl (rl (bb (List.replicate 8 0) F H rfl fun a F=>?_))
 obtain ⟨x2661,ex2661,hm⟩:=ob hm
 refine sv F rfl (y_idxA F arr191 rfl rfl rfl ex2661 hl2644) fun a F=>sv F rfl (y_load1 F plain188 rfl rfl (row_ix ((H.blk 0 rfl).row) (icells_idx ex2661))) fun a F=>bb (List.replicate 5 0) F H rfl fun a F=>sv F rfl (y_build F rfl rfl (cs:=icells .u32 ([IntKind.u32.wrap ((IntKind.u32.wrap ((IntKind.u32.wrap ((IntKind.u32.wrap ((IntKind.u32.wrap ((IntKind.u32.wrap (x2655+(xorI .u32 (xorI .u32 x2652 x2653) x2654)))+(xorI .u32 (andI .u32 x2649 x2650) (andI .u32 (xorI .u32 4294967295 x2649) x2651))))+x2656))+x2657))+(xorI .u32 (xorI .u32 x2658 x2659) x2660)))+(xorI .u32 (xorI .u32 (andI .u32 x2646 x2647) (andI .u32 x2646 x2648)) (andI .u32 x2647 x2648))),x2646,x2647,x2648,IntKind.u32.wrap (x2661+(IntKind.u32.wrap ((IntKind.u32.wrap ((IntKind.u32.wrap ((IntKind.u32.wrap (x2655+(xorI .u32 (xorI .u32 x2652 x2653) x2654)))+(xorI .u32 (andI .u32 x2649 x2650) (andI .u32 (xorI .u32 4294967295 x2649) x2651))))+x2656))+x2657))),x2649,x2650,x2651]:List Int)) (by kernel_rfl)) fun a F=>?_
 refine s_storeA wkP F rfl rfl agg191 rfl rfl rfl H 0 rfl ((icells_length _ _).trans rfl) ((icells_length _ _).trans hl2644) (icells_flat _ _) fun w H=>?_
 replace H:=H.nf 6 rfl
 refine lz (bn (ct (rl (bb [0,0,0] F H rfl fun a F=>?_))))
 refine lz (ct ?_);cases hm
 exact ⟨_,rfl,⟨F.sl rfl,rfl,H⟩⟩
 refine ex (cx (cx ?_));cases hm;refine ⟨_,rfl,?_⟩;rintro rfl
 refine ch (ct ?_)
 exact ⟨F.sl rfl,hl2644,H⟩
 clear F H hm
 rintro a w ⟨F,hl2606,H⟩;have hm:=hm2605;clear hm2605
 refine ct (sb [0] F H rfl fun a F=>nl ?_)
 obtain ⟨r2681,er2681,hm2681⟩:=ob hm;clear hm;revert er2681;intro hm
 refine x_mid (fun aa ww=>Fr ⟨234,[]⟩ aa [(2,.pointer (some ⟨b3,0,none⟩)),(3,.pointer (some ⟨b6,0,none⟩)),(4,.pointer (some ⟨b7,0,none⟩)),(5,.slice p9 (x8).length c9),(6,.int .i64 (s2253.2))]∧((r2681).length=8)∧St w0 ww (HP.blk b2549 (icells .u32 r2605) 191::HP.blk b2256 (icells .u32 r2402) 189::HP.ow rByte 5 p9 c9 x8::HP.blk b7 (icells .u32 r2681) 191::HP.blk b6 (icells .u32 x4) 189::HP.blk b3 (bcells (List.replicate 32 0)) 24::l)) ?_ ?_
 refine bl ?_
 refine x_loopO _ (fun (s2695:(List Int)×Int) aa ww=>Fr ⟨234,[]⟩ aa [(2,.pointer (some ⟨b3,0,none⟩)),(3,.pointer (some ⟨b6,0,none⟩)),(4,.pointer (some ⟨b7,0,none⟩)),(5,.slice p9 (x8).length c9),(6,.int .i64 (s2253.2)),(14,.pointer (some ⟨b2549,0,none⟩)),(27,.int .i64 (s2695.2))]∧((s2695.1).length=8)∧St w0 ww (HP.blk b2549 (icells .u32 r2605) 191::HP.blk b2256 (icells .u32 r2402) 189::HP.ow rByte 5 p9 c9 x8::HP.blk b7 (icells .u32 s2695.1) 191::HP.blk b6 (icells .u32 x4) 189::HP.blk b3 (bcells (List.replicate 32 0)) 24::l)) hm ⟨F.sl rfl,hl2254,H⟩ ?_
 clear F H hm
 rintro s2695 a w o ⟨F,hl2696,H⟩ hm
 refine sq (sb [0,0] F H rfl fun a F=>?_)
 refine nl (cPm F rfl hm (fun hg2697 hm=>?_) (fun hg2697 hm=>?_))
 refine sk (ct (sq (bl ?_)))
 obtain ⟨x2698,ex2698,hm⟩:=ob hm
 obtain ⟨x2699,ex2699,hm⟩:=ob hm
 obtain ⟨x2700,ex2700,hm⟩:=ob hm
 refine mix_regionK [8] [8] (scL [0,1,1002,3,4,1005,6,7,3008]) [] H rfl rfl (by kernel_rfl) (by kernel_rfl) fun w H=>?_
 refine mb [0] F H rfl fun a F=>?_
 refine m_pure F rfl rfl rfl rfl (fun u hu=>y_idxA F arr191 rfl rfl rfl ex2698 hl2696) fun a F=>?_
 refine m_read F rfl rfl rfl rfl (y_load1 F plain188 rfl rfl (row_ix ((H.blk 3 rfl).row) (icells_idx ex2698))) fun a F=>?_
 refine mb [0] F H rfl fun a F=>?_
 refine m_pure F rfl rfl rfl rfl (fun u hu=>y_idxA F arr191 rfl rfl rfl ex2699 hl2606) fun a F=>?_
 refine m_read F rfl rfl rfl rfl (y_load1 F plain188 rfl rfl (row_ix ((H.blk 0 rfl).row) (icells_idx ex2699))) fun a F=>?_
 refine mb [0] F H rfl fun a F=>?_
 refine m_pure F rfl rfl rfl rfl (fun u hu=>y_idxA F arr191 rfl rfl rfl ex2700 hl2696) fun a F=>?_
 refine m_last rfl rfl ?_
 refine s_stI wkP F rfl rfl zero188 rfl rfl rfl H 3 rfl ex2700 fun w H=>?_
 refine lz ?_;refine ct ?_
 refine m_nil (bn (ct (rl (bb [0,0,0] F H rfl fun a F=>?_))))
 replace H:=H.nf 6 rfl
 refine lz (ct ?_);cases hm
 exact ⟨_,rfl,⟨F.sl rfl,((List.length_set ..).trans hl2696),H⟩⟩
 refine ex (cx (cx ?_));cases hm;refine ⟨_,rfl,?_⟩;rintro rfl
 refine ch (ct ?_)
 exact ⟨F.sl rfl,hl2696,H⟩
 clear F H hm
 rintro a w ⟨F,hl2682,H⟩;have hm:=hm2681;clear hm2681
 refine bn (ct (rl (bb [0,0,0] F H rfl fun a F=>?_)))
 refine lz (ct ?_);cases hm
 exact ⟨_,rfl,⟨F.sl rfl,hl2682,(H.pm 6 [2,3,4,5] rfl:)⟩⟩
 refine ex (cx (cx ?_));cases hm;refine ⟨_,rfl,?_⟩;rintro rfl
 refine ch (ct ?_)
 exact ⟨F.sl rfl,hl2254,H⟩
 clear F H hm
 rintro a w ⟨F,hl1356,H⟩;have hm:=hm1355;clear hm1355
 refine ct (sr (sv F rfl (y_build F rfl rfl (cs:=bcells ((List.replicate 32 0):List UInt8)) (by kernel_rfl)) fun a F=>s_allocA wkP F rfl rfl rfl agz24 rfl H fun b2702 w a H F=>s_storeA wkP F rfl rfl agg24 rfl rfl rfl H 0 rfl ((bcells_length _).trans rfl) ((bcells_length _).trans (List.length_replicate (n:=32))) (bcells_flat _) fun w H=>?_))
 replace H:=H.nf 5 rfl
 refine nl (sq (sb [0] F H rfl fun a F=>nl ?_))
 obtain ⟨r2731,er2731,hm2731⟩:=ob hm;clear hm;revert er2731;intro hm
 refine x_mid (fun aa ww=>Fr ⟨234,[]⟩ aa [(2,.pointer (some ⟨b3,0,none⟩)),(28,.pointer (some ⟨b2702,0,none⟩))]∧((r2731).length=32)∧St w0 ww (HP.blk b2702 (bcells r2731) 24::HP.ow rByte 5 p9 c9 x8::HP.blk b7 (icells .u32 r1355) 191::HP.blk b6 (icells .u32 x4) 189::HP.blk b3 (bcells (List.replicate 32 0)) 24::l)) ?_ ?_
 refine bl ?_
 refine x_loopO _ (fun (s2751:(List UInt8)×Int) aa ww=>Fr ⟨234,[]⟩ aa [(2,.pointer (some ⟨b3,0,none⟩)),(4,.pointer (some ⟨b7,0,none⟩)),(28,.pointer (some ⟨b2702,0,none⟩)),(29,.int .i64 (s2751.2))]∧((s2751.1).length=32)∧St w0 ww (HP.blk b2702 (bcells s2751.1) 24::HP.ow rByte 5 p9 c9 x8::HP.blk b7 (icells .u32 r1355) 191::HP.blk b6 (icells .u32 x4) 189::HP.blk b3 (bcells (List.replicate 32 0)) 24::l)) hm ⟨F.sl rfl,rfl,H⟩ ?_
 clear F H hm
 rintro s2751 a w o ⟨F,hl2752,H⟩ hm
 refine sq (sb [0,0] F H rfl fun a F=>?_)
 refine nl (cPm F rfl hm (fun hg2753 hm=>?_) (fun hg2753 hm=>?_))
 refine sk (ct (sq (bl (rl (bb [0,0] F H rfl fun a F=>?_)))))
 obtain ⟨x2754,ex2754,hm⟩:=ob hm
 refine sv F rfl (i_quo F rfl rfl rfl ex2754) fun a F=>?_
 obtain ⟨x2755,ex2755,hm⟩:=ob hm
 refine sv F rfl (y_idxA F arr191 rfl rfl rfl ex2755 hl1356) fun a F=>sv F rfl (y_load1 F plain188 rfl rfl (row_ix ((H.blk 2 rfl).row) (icells_idx ex2755))) fun a F=>bb [0] F H rfl fun a F=>?_
 obtain ⟨x2756,ex2756,hm⟩:=ob hm
 refine sv F rfl (i_rem F rfl rfl rfl ex2756) fun a F=>bk [0,0,2] F H rfl ⟨Tryz.underlying3,Tryz.underlying141,trivial⟩ fun a F=>?_
 obtain ⟨x2757,ex2757,hm⟩:=ob hm
 refine sv F rfl (i_shrO F rfl rfl rfl ex2757) fun a F=>bk [1] F H rfl ⟨Tryz.underlying188,Tryz.underlying5,trivial⟩ fun a F=>?_
 obtain ⟨x2758,ex2758,hm⟩:=ob hm
 refine sv F rfl (y_idxA F arr24 rfl rfl rfl ex2758 hl2752) fun a F=>?_
 obtain ⟨x2760,ex2760,hm⟩:=ob hm
 refine s_stB wkP F rfl rfl zero5 rfl rfl rfl ex2760 H 0 rfl ex2758 fun w H=>?_
 replace H:=H.nf 5 rfl
 refine lz (bn (ct (rl (bb [0,0,0] F H rfl fun a F=>?_))))
 refine lz (ct ?_);cases hm
 exact ⟨_,rfl,⟨F.sl rfl,((List.length_set ..).trans hl2752),H⟩⟩
 refine ex (cx (cx ?_));cases hm;refine ⟨_,rfl,?_⟩;rintro rfl
 refine ch (ct ?_)
 exact ⟨F.sl rfl,hl2752,H⟩
 clear F H hm
 rintro a w ⟨F,hl2732,H⟩;have hm:=hm2731;clear hm2731
 refine ct (sr (bk [999] F H rfl ⟨rfl,(aggn agg24 ((bcells_length _).trans hl2732)),trivial⟩ fun a F=>s_storeA wkP F rfl rfl agg24 rfl rfl rfl H 4 rfl ((bcells_length _).trans hl2732) ((bcells_length _).trans (List.length_replicate (n:=32))) (bcells_flat _) fun w H=>?_))
 replace H:=H.nf 5 rfl
 refine nl (wr ?_)
 cases hm
 refine x_resC1 F rfl (⟨_,rfl,agg24.run_load (H.blk 4 rfl).row ((bcells_length _).trans hl2732)⟩) ?_
 exact ⟨_,rfl,rfl,hl2732,(H.pm 5 [] rfl:)⟩
theorem w_rUint {n:Int} {size:Int}  {w0 w:World} {l:List HP}  {r:(List UInt8)×Int} (hm:rUint n size=some r) (H:St w0 w (l)) :
  Calls Tryz.prog 56 [.int .u64 (n),.int .i64 (size)].toArray w (fun e w'=>∃ v,e=.returned v∧∃ (p1:Option Addr) (c1:Nat),v=.tuple [.slice p1 (r.1).length c1,.int .i64 (r.2)].toArray∧St w0 w' (HP.ow rByte 5 p1 c1 r.1::l)):=by
 unfold rUint at hm
 refine x_enter Tryz.func56 rfl rfl rfl ?_
 intro a F
 refine sb [0,0] F H rfl fun a F=>nl (sq (sb [0,0,0] F H rfl fun a F=>?_))
 rcases spP 11 F rfl hm with ⟨hg2,hm,F⟩ | ⟨hg2,hm,F⟩
 refine bb [0,0,0] F H rfl fun a F=>nl (cT F rfl (sr (s_build0O (R:=rByte) wkP F rfl rfl rfl elem25 rfl H fun b3 w a H F=>bb [0,0] F H rfl fun a F=>?_)))
 replace H:=H.nf 1 rfl
 refine nl (wr (tr ?_))
 cases hm
 refine x_ret2 F rfl rfl rfl ?_
 exact ⟨_,rfl,(some ⟨b3,0,none⟩),0,rfl,H⟩
 refine bb [0,0,0] F H rfl fun a F=>?_
 refine nl (cPm F rfl hm (fun hg4 hm=>?_) (fun hg4 hm=>?_))
 refine sr (s_build0O (R:=rByte) wkP F rfl rfl rfl elem25 rfl H fun b5 w a H F=>bb [0,0] F H rfl fun a F=>?_)
 replace H:=H.nf 1 rfl
 refine nl (wr (tr ?_))
 cases hm
 refine x_ret2 F rfl rfl rfl ?_
 exact ⟨_,rfl,(some ⟨b5,0,none⟩),0,rfl,H⟩
 refine sk (ct (sb [0] F H rfl fun a F=>?_))
 obtain ⟨x7,ex7,hm⟩:=ob hm
 refine s_mkO (R:=rByte) wkP F rfl rfl rfl elem25 rfl rfl rfl rfl rfl rfl (z:=(0:UInt8)) (fun _=>rfl) ex7 H fun b6 w a H F=>?_
 refine bb [0] F H rfl fun a F=>?_
 replace H:=H.nf 1 rfl
 refine nb [0,0] F H rfl fun a F=>nl (sq (sb [0] F H rfl fun a F=>?_))
 refine nl (xm2 1 [] [] F H hm rfl rfl (fun r33 (p34:Option Addr) (c34:Nat) z=>(6,.slice p34 (r33.1).length c34)::(7,.int .u64 (r33.2))::z) (fun r33 p34 c34 z=>HP.ow rByte 5 p34 c34 r33.1::z) (fun r33 hm=>?_) (fun r33 a w hm p34 c34 F H=>?_))
 refine bl (xl2 1 [1] [] F H hm rfl rfl (fun (s51:(List UInt8)×Int×Int) (p52:Option Addr) (c52:Nat) z=>(6,.slice p52 (s51.1).length c52)::(7,.int .u64 (s51.2.1))::(8,.int .i64 (s51.2.2))::z) (fun s51 p52 c52 z=>HP.ow rByte 5 p52 c52 s51.1::z) ⟨(some ⟨b6,0,none⟩),(x7).length,F.sl rfl,H⟩ (fun s51 a w o p52 c52 F H hm=>sq (sb [0,0,0] F H rfl fun a F=>?_)))
 refine nl (cPm F rfl hm (fun hg53 hm=>?_) (fun hg53 hm=>?_))
 refine sk (ct (sq (bl (sb (List.replicate 6 0) F H rfl fun a F=>?_))))
 obtain ⟨x54,ex54,hm⟩:=ob hm
 refine sv F rfl (i_rem F rfl rfl rfl ex54) fun a F=>bk [1] F H rfl ⟨Tryz.underlying22,Tryz.underlying5,trivial⟩ fun a F=>?_
 obtain ⟨x55,ex55,hm⟩:=ob hm
 obtain ⟨b56,hp56⟩:=H.owP 0 rfl (idxO_some ex55).2
 refine sv F rfl (y_idxS F elem25 rfl rfl rfl hp56 ex55) fun a F=>?_
 obtain ⟨x58,ex58,hm⟩:=ob hm
 refine s_owSet1 wkP F rfl rfl zero5 rfl rfl rfl rfl rfl rfl H 0 rfl hp56 ex55 (zz:=x58) (fun gg=>(congrArg (fun z=>[Value.int .u8 z]) (u8O_some ex58).symm)) fun w H=>?_
 replace H:St w0 w (HP.ow rByte 5 p52 c52 ((s51.1).set (IntKind.i64.wrap ((IntKind.i64.wrap (size - 1)) - s51.2.2):Int).toNat x58)::l):=(by have h:=H;first | exact h | (simp only [List.length_set] at h ⊢;exact h))
 replace F:=F.bool (k:=6) (u:=.slice p52 ((s51.1).set (IntKind.i64.wrap ((IntKind.i64.wrap (size - 1)) - s51.2.2):Int).toNat x58).length c52) rfl (by simp only [List.length_set])
 replace F:=F.bool (k:=24) (u:=.slice p52 ((s51.1).set (IntKind.i64.wrap ((IntKind.i64.wrap (size - 1)) - s51.2.2):Int).toNat x58).length c52) rfl (by simp only [List.length_set])
 refine nl (rl (bb [0] F H rfl fun a F=>?_))
 obtain ⟨x59,ex59,hm⟩:=ob hm
 refine sv F rfl (i_quo F rfl rfl rfl ex59) fun a F=>bb [0] F H rfl fun a F=>lz (bn (ct (rl (bb [0,0,0] F H rfl fun a F=>?_))))
 refine lz (ct ?_);cases hm
 exact ⟨_,rfl,⟨p52,c52,F.sl rfl,H⟩⟩
 refine ex (cx (cx ?_));cases hm;refine ⟨_,rfl,?_⟩;rintro rfl
 refine ch (ct ?_)
 exact ⟨p52,c52,F.sl rfl,H⟩
 refine ct (sq (sb [0,0] F H rfl fun a F=>?_))
 refine nl (cPm F rfl hm (fun hg60 hm=>?_) (fun hg60 hm=>?_))
 refine sr (s_build0O (R:=rByte) wkP F rfl rfl rfl elem25 rfl H fun b61 w a H F=>bb [0,0] F H rfl fun a F=>?_)
 replace H:=H.nf 2 rfl
 refine nl (wr (tr ?_))
 cases hm
 refine x_ret2 F rfl rfl rfl ?_
 exact ⟨_,rfl,(some ⟨b61,0,none⟩),0,rfl,(H.pm 2 [0] rfl:)⟩
 refine sk (ct (sb [0,0,0] F H rfl fun a F=>nl (wr ?_)))
 cases hm
 refine x_ret2 F rfl rfl rfl ?_
 exact ⟨_,rfl,p34,c34,rfl,H⟩
theorem ent56:En Tryz.prog 56:=enters Tryz.func56 (by kernel_rfl) rfl
theorem w_rText {b:List UInt8} {p1:Option Addr} {c1:Nat} {w0 w:World} {l:List HP}  {r:(List UInt8)×Int} (hm:rText b=some r) (H:St w0 w (HP.sl rByte p1 c1 b::l)) :
  Calls Tryz.prog 25 [.slice p1 (b).length c1].toArray w (fun e w'=>∃ v,e=.returned v∧∃ (p2:Option Addr) (c2:Nat),v=.tuple [.slice p2 (r.1).length c2,.int .i64 (r.2)].toArray∧St w0 w' (HP.ow rByte 5 p2 c2 r.1::l)):=by
 unfold rText at hm
 refine x_enter Tryz.func25 rfl rfl rfl ?_
 intro a F
 refine sb [0,0] F H rfl fun a F=>nl (sr (bk [0,0,2] F H rfl ⟨⟨_,Tryz.underlying25⟩,Tryz.underlying3,Tryz.underlying22,trivial⟩ fun a F=>?_))
 obtain ⟨x3,ex3,hm⟩:=ob hm
 refine sd F rfl ent56 (w_rUint ex3 H:) ?_;rintro _ w a ⟨p4,c4,rfl,H⟩ F
 refine bb (List.replicate 5 0) F H rfl fun a F=>?_
 replace H:=H.nf 2 rfl
 refine nl (sq (sb [0,0] F H rfl fun a F=>?_))
 refine nl (cNm F rfl hm (fun hg5 hm=>?_) (fun hg5 hm=>?_))
 refine sr (s_build0O (R:=rByte) wkP F rfl rfl rfl elem25 rfl H fun b6 w a H F=>bb [0,0] F H rfl fun a F=>?_)
 replace H:=H.nf 3 rfl
 refine nl (wr (tr ?_))
 cases hm
 refine x_ret2 F rfl rfl rfl ?_
 exact ⟨_,rfl,(some ⟨b6,0,none⟩),0,rfl,(H.pm 3 [0] rfl:)⟩
 refine sk (ct (sb [0,0] F H rfl fun a F=>?_))
 obtain ⟨x8,ex8,hm⟩:=ob hm
 refine s_app wkP F rfl rfl rfl rfl rfl rfl elem25 rfl ex8 H 0 1 rfl rfl fun p7 c7 w a H F=>?_
 refine bb [0,0] F H rfl fun a F=>?_
 replace H:=H.nf 2 rfl
 refine nl (wr ?_)
 cases hm
 refine x_ret2 F rfl rfl rfl ?_
 exact ⟨_,rfl,p7,c7,rfl,(H.pm 2 [0] rfl:)⟩
theorem w_rSameOp {a_:T_api_Op} {b_:T_api_Op} {cs1:List Value} {cs2:List Value} {w0 w:World} {l:List HP}  {r:Bool} (hm:rSameOp a_ b_=some r) (H:St w0 w (HP.rc R_api_Op cs1 a_::HP.rc R_api_Op cs2 b_::l)) :
  Calls Tryz.prog 54 [.agg cs1.toArray,.agg cs2.toArray].toArray w (fun e w'=>∃ v,e=.returned v∧v=.bool (r)∧St w0 w' (l)):=by
 unfold rSameOp at hm
 refine x_enter Tryz.func54 rfl rfl rfl ?_
 intro a F
 refine sr (s_boxA wkP F rfl rfl rfl rfl rfl H fun b3 w a H F=>s_boxA wkP F rfl rfl rfl rfl rfl H fun b4 w a H F=>bb [0] F H rfl fun a F=>?_)
 replace H:=H.nf 4 rfl
 refine nl (sr (bk [0] F H rfl ⟨fld27_0,trivial⟩ fun a F=>?_))
 have G:=F;replace H:=rc_api_Op (H.pk 2 rfl);obtain ⟨p5,c6,rfl,J⟩:=H;have H:=J;have F:=G;clear G J
 refine bk [2000,0] F H rfl ⟨rfl,plain3,fld27_0,trivial⟩ fun a F=>?_
 have G:=F;replace H:=rc_api_Op (H.pk 3 rfl);obtain ⟨p7,c8,rfl,J⟩:=H;have H:=J;have F:=G;clear G J
 refine bk [2000,0,0] F H rfl ⟨rfl,plain3,trivial⟩ fun a F=>?_
 rcases spP 10 F rfl hm with ⟨hg9,hm,F⟩ | ⟨hg9,hm,F⟩
 refine bk [1,3001,1,2001] F H rfl ⟨fld27_1,rfl,plain9,fld27_1,rfl,plain9,trivial⟩ fun a F=>g_onP F rfl rfl rfl rfl (sv F rfl (y_eqT (l:=a_.2.1) (m:=b_.2.1) F rfl rfl rfl) fun a F=>bb [0,0] F H rfl fun a F=>?_)
 rcases spP 17 F rfl hm with ⟨hg10,hm,F⟩ | ⟨hg10,hm,F⟩
 refine bk [2,3002,2,2002] F H rfl ⟨fld27_2,rfl,plain9,fld27_2,rfl,plain9,trivial⟩ fun a F=>g_onP F rfl rfl rfl rfl (sv F rfl (y_eqT (l:=a_.2.2.1) (m:=b_.2.2.1) F rfl rfl rfl) fun a F=>bb [0,0] F H rfl fun a F=>?_)
 rcases spP 24 F rfl hm with ⟨hg11,hm,F⟩ | ⟨hg11,hm,F⟩
 refine bk [3,3003,3,2003,0,0,0] F H rfl ⟨fld27_3,rfl,plain3,fld27_3,rfl,plain3,trivial⟩ fun a F=>?_
 rcases spP 31 F rfl hm with ⟨hg12,hm,F⟩ | ⟨hg12,hm,F⟩
 refine bk [4,3004,4,2004,0,0,0] F H rfl ⟨fld27_4,rfl,plain3,fld27_4,rfl,plain3,trivial⟩ fun a F=>?_
 rcases spP 38 F rfl hm with ⟨hg13,hm,F⟩ | ⟨hg13,hm,F⟩
 refine bk [5,3005] F H rfl ⟨fld27_5,rfl,plain25,trivial⟩ fun a F=>g_onP F rfl rfl rfl rfl (sv F rfl (y_b2s F Tryz.underlying25 Tryz.underlying9 Tryz.underlying5 rfl rfl (H) 1 rfl) fun a F=>bk [5,2005] F H rfl ⟨fld27_5,rfl,plain25,trivial⟩ fun a F=>g_onP F rfl rfl rfl rfl (sv F rfl (y_b2s F Tryz.underlying25 Tryz.underlying9 Tryz.underlying5 rfl rfl (H) 0 rfl) fun a F=>g_onP F rfl rfl rfl rfl (sv F rfl (y_eqT (l:=a_.2.2.2.2.2) (m:=b_.2.2.2.2.2) F rfl rfl rfl) fun a F=>bb [0,0] F H rfl fun a F=>nl (wr ?_))))
 cases hm
 refine x_ret1 F rfl rfl ?_
 exact ⟨_,rfl,rfl,(H.pm 4 [] rfl:)⟩
 refine bb (List.replicate 9 0) F H rfl fun a F=>nl (wr ?_)
 cases hm
 refine x_ret1 F rfl rfl ?_
 exact ⟨_,rfl,rfl,(H.pm 4 [] rfl:)⟩
 refine bb (List.replicate 16 0) F H rfl fun a F=>nl (wr ?_)
 cases hm
 refine x_ret1 F rfl rfl ?_
 exact ⟨_,rfl,rfl,(H.pm 4 [] rfl:)⟩
 refine bb (List.replicate 23 0) F H rfl fun a F=>nl (wr ?_)
 cases hm
 refine x_ret1 F rfl rfl ?_
 exact ⟨_,rfl,rfl,(H.pm 4 [] rfl:)⟩
 refine bb (List.replicate 30 0) F H rfl fun a F=>nl (wr ?_)
 cases hm
 refine x_ret1 F rfl rfl ?_
 exact ⟨_,rfl,rfl,(H.pm 4 [] rfl:)⟩
 refine bb (List.replicate 37 0) F H rfl fun a F=>nl (wr ?_)
 cases hm
 refine x_ret1 F rfl rfl ?_
 exact ⟨_,rfl,rfl,(H.pm 4 [] rfl:)⟩
theorem w_rTwo {n:Int}  {w0 w:World} {l:List HP}  {r:(List UInt8)} (hm:rTwo n=some r) (H:St w0 w (l)) :
  Calls Tryz.prog 57 [.int .i64 (n)].toArray w (fun e w'=>∃ v,e=.returned v∧∃ (p1:Option Addr) (c1:Nat),v=.slice p1 (r).length c1∧St w0 w' (HP.ow rByte 5 p1 c1 r::l)):=by
 unfold rTwo at hm
 refine x_enter Tryz.func57 rfl rfl rfl ?_
 intro a F
 refine sb [0] F H rfl fun a F=>nb [0] F H rfl fun a F=>?_
 obtain ⟨x2,ex2,hm⟩:=ob hm
 refine sv F rfl (i_quo F rfl rfl rfl ex2) fun a F=>bk [1,0] F H rfl ⟨Tryz.underlying3,Tryz.underlying5,trivial⟩ fun a F=>?_
 obtain ⟨x3,ex3,hm⟩:=ob hm
 refine sv F rfl (i_rem F rfl rfl rfl ex3) fun a F=>bk [1] F H rfl ⟨Tryz.underlying3,Tryz.underlying5,trivial⟩ fun a F=>?_
 obtain ⟨x5,ex5,hm⟩:=ob hm
 obtain ⟨x6,ex6,hm⟩:=ob hm
 refine s_buildC wkP F rfl rfl rfl elem25 zero5 rfl rfl rfl rfl (by simp [Value.cells]) (by decide) H fun b4 w a H F=>?_
 replace H:St w0 w (HP.ow rByte 5 (some ⟨b4,0,none⟩) (([x5,x6]).length) ([x5,x6])::l):=H.blkOw (R:=rByte) 0 rfl (fun gg=>⟨[[.int .u8 (IntKind.u8.wrap (x2))],[.int .u8 (IntKind.u8.wrap (x3))]],rfl,(congrArg (fun z=>[Value.int .u8 z]) (u8O_some ex5).symm),(congrArg (fun z=>[Value.int .u8 z]) (u8O_some ex6).symm),trivial⟩) (by simp)
 refine bb [0] F H rfl fun a F=>nl (wr ?_)
 cases hm
 refine x_ret1 F rfl rfl ?_
 exact ⟨_,rfl,(some ⟨b4,0,none⟩),([x5,x6]).length,rfl,H⟩
theorem ent25:En Tryz.prog 25:=enters Tryz.func25 (by kernel_rfl) rfl
theorem w_rTextS {s:List UInt8} {p1:Option Addr} {c1:Nat} {w0 w:World} {l:List HP}  {r:(List UInt8)} (hm:rTextS s=some r) (H:St w0 w (HP.sl rByte p1 c1 s::l)) :
  Calls Tryz.prog 58 [.slice p1 (s).length c1].toArray w (fun e w'=>∃ v,e=.returned v∧∃ (p2:Option Addr) (c2:Nat),v=.slice p2 (r).length c2∧St w0 w' (HP.ow rByte 5 p2 c2 r::l)):=by
 unfold rTextS at hm
 refine x_enter Tryz.func58 rfl rfl rfl ?_
 intro a F
 refine sb [0] F H rfl fun a F=>nb [0] F H rfl fun a F=>?_
 obtain ⟨x3,ex3,hm⟩:=ob hm
 refine sd F rfl ent25 (w_rText ex3 (H.pm 1 [0,0] rfl:):) ?_;rintro _ w a ⟨p4,c4,rfl,H⟩ F
 refine bb (List.replicate 5 0) F H rfl fun a F=>?_
 replace H:=H.nf 2 rfl
 refine nb [0,0] F H rfl fun a F=>nl (wr ?_)
 cases hm
 refine x_ret1 F rfl rfl ?_
 exact ⟨_,rfl,p4,c4,rfl,(H.pm 2 [0] rfl:)⟩
theorem w_m_triremeref10_Right {x0_:T_api_Op} {cs1:List Value} {w0 w:World} {l:List HP}  {r:Bool} (hm:m_triremeref10_Right x0_=some r) (H:St w0 w (HP.rc R_api_Op cs1 x0_::l)) :
  Calls Tryz.prog 55 [.agg cs1.toArray].toArray w (fun e w'=>∃ v,e=.returned v∧v=.bool (r)∧St w0 w' (l)):=by
 unfold m_triremeref10_Right at hm
 refine x_enter Tryz.func55 rfl rfl rfl ?_
 intro a F
 refine sr (s_boxA wkP F rfl rfl rfl rfl rfl H fun b2 w a H F=>bb [0] F H rfl fun a F=>?_)
 replace H:=H.nf 2 rfl
 refine nl (sr (bk [0] F H rfl ⟨fld27_0,trivial⟩ fun a F=>?_))
 have G:=F;replace H:=rc_api_Op (H.pk 1 rfl);obtain ⟨p3,c4,rfl,J⟩:=H;have H:=J;have F:=G;clear G J
 refine bk [1000,0,0] F H rfl ⟨rfl,plain3,trivial⟩ fun a F=>?_
 rcases spP 6 F rfl hm with ⟨hg5,hm,F⟩ | ⟨hg5,hm,F⟩
 refine bk [0,1000,0,0,0] F H rfl ⟨fld27_0,rfl,plain3,trivial⟩ fun a F=>?_
 rcases spP 11 F rfl hm with ⟨hg6,hm,F⟩ | ⟨hg6,hm,F⟩
 refine bk [1,1001] F H rfl ⟨fld27_1,rfl,plain9,trivial⟩ fun a F=>g_onP F rfl rfl rfl rfl (sv F rfl (y_lenT (l:=x0_.2.1) F rfl Tryz.underlying9 rfl) fun a F=>bb [0,0,0] F H rfl fun a F=>?_)
 rcases spP 17 F rfl hm with ⟨hg7,hm,F⟩ | ⟨hg7,hm,F⟩
 refine bk [2,1002] F H rfl ⟨fld27_2,rfl,plain9,trivial⟩ fun a F=>g_onP F rfl rfl rfl rfl (sv F rfl (y_lenT (l:=x0_.2.2.1) F rfl Tryz.underlying9 rfl) fun a F=>bb [0,0,0] F H rfl fun a F=>?_)
 rcases spP 23 F rfl hm with ⟨hg8,hm,F⟩ | ⟨hg8,hm,F⟩
 refine bk [3,1003,0,0,0] F H rfl ⟨fld27_3,rfl,plain3,trivial⟩ fun a F=>?_
 rcases spP 28 F rfl hm with ⟨hg9,hm,F⟩ | ⟨hg9,hm,F⟩
 refine bk [3,1003,0,0,0] F H rfl ⟨fld27_3,rfl,plain3,trivial⟩ fun a F=>?_
 rcases spP 33 F rfl hm with ⟨hg10,hm,F⟩ | ⟨hg10,hm,F⟩
 refine bk [4,1004,0,0,0] F H rfl ⟨fld27_4,rfl,plain3,trivial⟩ fun a F=>?_
 rcases spP 38 F rfl hm with ⟨hg11,hm,F⟩ | ⟨hg11,hm,F⟩
 refine bk [4,1004,0,0,0] F H rfl ⟨fld27_4,rfl,plain3,trivial⟩ fun a F=>?_
 rcases spP 43 F rfl hm with ⟨hg12,hm,F⟩ | ⟨hg12,hm,F⟩
 refine bk [5,1005,0,0,0,0] F H rfl ⟨fld27_5,rfl,plain25,⟨_,Tryz.underlying25⟩,trivial⟩ fun a F=>nl (wr ?_)
 cases hm
 refine x_ret1 F rfl rfl ?_
 exact ⟨_,rfl,rfl,(H.pm 2 [] rfl:)⟩
 refine bb (List.replicate 6 0) F H rfl fun a F=>nl (wr ?_)
 cases hm
 refine x_ret1 F rfl rfl ?_
 exact ⟨_,rfl,rfl,(H.pm 2 [] rfl:)⟩
 refine bb (List.replicate 11 0) F H rfl fun a F=>nl (wr ?_)
 cases hm
 refine x_ret1 F rfl rfl ?_
 exact ⟨_,rfl,rfl,(H.pm 2 [] rfl:)⟩
 refine bb (List.replicate 16 0) F H rfl fun a F=>nl (wr ?_)
 cases hm
 refine x_ret1 F rfl rfl ?_
 exact ⟨_,rfl,rfl,(H.pm 2 [] rfl:)⟩
 refine bb (List.replicate 21 0) F H rfl fun a F=>nl (wr ?_)
 cases hm
 refine x_ret1 F rfl rfl ?_
 exact ⟨_,rfl,rfl,(H.pm 2 [] rfl:)⟩
 refine bb (List.replicate 26 0) F H rfl fun a F=>nl (wr ?_)
 cases hm
 refine x_ret1 F rfl rfl ?_
 exact ⟨_,rfl,rfl,(H.pm 2 [] rfl:)⟩
 refine bb (List.replicate 32 0) F H rfl fun a F=>nl (wr ?_)
 cases hm
 refine x_ret1 F rfl rfl ?_
 exact ⟨_,rfl,rfl,(H.pm 2 [] rfl:)⟩
 refine bb (List.replicate 38 0) F H rfl fun a F=>nl (wr ?_)
 cases hm
 refine x_ret1 F rfl rfl ?_
 exact ⟨_,rfl,rfl,(H.pm 2 [] rfl:)⟩
 refine bb (List.replicate 43 0) F H rfl fun a F=>nl (wr ?_)
 cases hm
 refine x_ret1 F rfl rfl ?_
 exact ⟨_,rfl,rfl,(H.pm 2 [] rfl:)⟩
theorem ent55:En Tryz.prog 55:=enters Tryz.func55 (by kernel_rfl) rfl
theorem ent57:En Tryz.prog 57:=enters Tryz.func57 (by kernel_rfl) rfl
theorem ent58:En Tryz.prog 58:=enters Tryz.func58 (by kernel_rfl) rfl
theorem w_m_triremeref10_Write {x0_:T_api_Op} {cs1:List Value} {w0 w:World} {l:List HP}  {r:(List UInt8)×Int} (hm:m_triremeref10_Write x0_=some r) (H:St w0 w (HP.rc R_api_Op cs1 x0_::l)) :
  Calls Tryz.prog 24 [.agg cs1.toArray].toArray w (fun e w'=>∃ v,e=.returned v∧∃ (p2:Option Addr) (c2:Nat),v=.tuple [.slice p2 (r.1).length c2,.int .i64 (r.2)].toArray∧St w0 w' (HP.sl rByte p2 c2 r.1::l)):=by
 unfold m_triremeref10_Write at hm
 refine x_enter Tryz.func24 rfl rfl rfl ?_
 intro a F
 refine sr (s_boxA wkP F rfl rfl rfl rfl rfl H fun b3 w a H F=>bb [0,0] F H rfl fun a F=>?_)
 replace H:=H.nf 2 rfl
 refine nl (sq (sr (bk [999] F H rfl ⟨rfl,(aggn agg27 (H.rcLen 1 rfl)),trivial⟩ fun a F=>?_)))
 obtain ⟨x4,ex4,hm⟩:=ob hm
 refine sd F rfl ent55 (w_m_triremeref10_Right ex4 (H.pm 2 [1,0,1] rfl:):) ?_;rintro _ w a ⟨rfl,H⟩ F
 refine bb [0] F H rfl fun a F=>?_
 replace H:=H.nf 2 rfl
 refine nl (cB F rfl (fun hg5=>?_) (fun hg5=>?_))
 replace hm:=ifT hg5 hm
 refine sr (s_build0O (R:=rByte) wkP F rfl rfl rfl elem25 rfl H fun b6 w a H F=>bb [0,0] F H rfl fun a F=>?_)
 replace H:=H.nf 3 rfl
 refine nl (wr (tr ?_))
 replace H:=H.frz 0 rfl
 cases hm
 refine x_ret2 F rfl rfl rfl ?_
 exact ⟨_,rfl,(some ⟨b6,0,none⟩),0,rfl,(H.pm 3 [0] rfl:)⟩
 replace hm:=ifF (nT hg5) hm
 refine sk (ct (sq (xm3 2 [1] [] F H hm rfl rfl (fun r21 (cs22:List Value) (p23:Option Addr) (c23:Nat) z=>(4,.slice p23 (r21.2).length c23)::z) (fun r21 cs22 p23 c23 z=>HP.blk b3 (cs22) 27::HP.rc R_api_Op cs22 r21.1::HP.ow rByte 5 p23 c23 r21.2::z) (fun r21 hm=>?_) (fun r21 a w hm cs22 p23 c23 F H=>?_))))
 have G:=F;replace H:=rc_api_Op (H.pk 1 rfl);obtain ⟨p24,c25,rfl,J⟩:=H;have H:=J;have F:=G;clear G J
 refine mix_region [3,6,7] [] (.step 0 0 (.step 0 1 (.step 0 2 (.step 0 4 (.step 0 5 (.fork 3 (.step 2 6 (.step 2 7 (.step 0 8 .done))) 6 (.step 2 3 (.step 2 7 (.step 0 8 .done))))))))) (fun u=>∃ ls,St w0 u (HP.blk b3 ([.int .i64 (x0_.1),.string (txb (x0_.2.1)),.string (txb (x0_.2.2.1)),.int .i64 (x0_.2.2.2.1),.int .i64 (x0_.2.2.2.2.1),.slice p24 (x0_.2.2.2.2.2).length c25]) 27::ls)) (by kernel_rfl) (by kernel_rfl) ⟨_,(H.drew.pm 2 [1,0] rfl:)⟩ ?_
 replace H:=H.drew
 generalize w.drew=w at H ⊢
 refine mbk [0] F H rfl ⟨fld27_0,trivial⟩ fun a F=>?_
 refine m_pure F rfl rfl rfl rfl (fun u hu=>y_load1 F plain3 rfl rfl (row_at (v:=.int .i64 (x0_.1)) ((hu.choose_spec.blk 0 rfl).row) rfl)) fun a F=>?_
 refine mbk [1,3] F H rfl ⟨Tryz.underlying3,Tryz.underlying5,fld27_3,trivial⟩ fun a F=>?_
 refine m_pure F rfl rfl rfl rfl (fun u hu=>y_load1 F plain3 rfl rfl (row_at (v:=.int .i64 (x0_.2.2.2.1)) ((hu.choose_spec.blk 0 rfl).row) rfl)) fun a F=>?_
 refine m_fork rfl rfl rfl rfl ?_ ?_
 refine m_heavy rfl rfl ?_
 obtain ⟨x27,ex27,hm⟩:=ob hm
 refine s_buildC wkP F rfl rfl rfl elem25 zero5 rfl rfl rfl rfl (by simp [Value.cells]) (by decide) H fun b26 w a H F=>?_
 replace H:=H.blkOw1 (R:=rByte) (x:=x27) (fun gg=>(congrArg (fun z=>[Value.int .u8 z]) (u8O_some ex27).symm))
 refine lz ?_;refine ct ⟨⟨_,(H.pm 3 [2,0,1] rfl:)⟩,?_⟩
 refine m_heavy rfl rfl ?_
 obtain ⟨x28,ex28,hm⟩:=ob hm
 refine sd F rfl ent57 (w_rTwo ex28 H:) ?_;rintro _ w a ⟨p29,c29,rfl,H⟩ F
 refine lz ?_;refine ct ⟨⟨_,(H.pm 4 [3,0,1,2] rfl:)⟩,?_⟩
 refine m_heavy rfl rfl ?_
 replace H:=H.frz 0 rfl
 obtain ⟨x31,ex31,hm⟩:=ob hm
 refine s_app wkP F rfl rfl rfl rfl rfl rfl elem25 rfl ex31 H 1 0 rfl rfl fun p30 c30 w a H F=>?_
 refine lz ?_;refine ct ⟨⟨_,(H.pm 4 [3,0,1,2] rfl:)⟩,?_⟩
 refine mb [0] F H rfl fun a F=>m_nil ?_
 cases hm
 refine ct ?_
 replace H:=mk_api_Op H x0_.1 x0_.2.1 x0_.2.2.1 x0_.2.2.2.1 x0_.2.2.2.2.1 2 rfl
 exact ⟨[.int .i64 (x0_.1),.string (txb (x0_.2.1)),.string (txb (x0_.2.2.1)),.int .i64 (x0_.2.2.2.1),.int .i64 (x0_.2.2.2.2.1),.slice p24 (x0_.2.2.2.2.2).length c25],p30,c30,F.sl rfl,(H.pm 5 [4,0,2] rfl:)⟩
 refine m_heavy rfl rfl ?_
 obtain ⟨x32,ex32,hm⟩:=ob hm
 obtain ⟨x33,ex33,hm⟩:=ob hm
 refine sd F rfl ent57 (w_rTwo ex33 H:) ?_;rintro _ w a ⟨p34,c34,rfl,H⟩ F
 refine lz ?_;refine ct ⟨⟨_,(H.pm 3 [2,0,1] rfl:)⟩,?_⟩
 refine m_heavy rfl rfl (s_buildC wkP F rfl rfl rfl elem25 zero5 rfl rfl rfl rfl (by simp [Value.cells]) (by decide) H fun b35 w a H F=>?_)
 replace H:=H.blkOw1 (R:=rByte) (x:=x32) (fun gg=>(congrArg (fun z=>[Value.int .u8 z]) (u8O_some ex32).symm))
 refine lz ?_;refine ct ⟨⟨_,(H.pm 4 [3,0,1,2] rfl:)⟩,?_⟩
 refine m_heavy rfl rfl ?_
 replace H:=H.frz 1 rfl
 obtain ⟨x37,ex37,hm⟩:=ob hm
 refine s_app wkP F rfl rfl rfl rfl rfl rfl elem25 rfl ex37 H 1 0 rfl rfl fun p36 c36 w a H F=>?_
 refine lz ?_;refine ct ⟨⟨_,(H.pm 4 [3,0,1,2] rfl:)⟩,?_⟩
 refine mb [0] F H rfl fun a F=>m_nil ?_
 cases hm
 refine ct ?_
 replace H:=mk_api_Op H x0_.1 x0_.2.1 x0_.2.2.1 x0_.2.2.2.1 x0_.2.2.2.2.1 2 rfl
 exact ⟨[.int .i64 (x0_.1),.string (txb (x0_.2.1)),.string (txb (x0_.2.2.1)),.int .i64 (x0_.2.2.2.1),.int .i64 (x0_.2.2.2.2.1),.slice p24 (x0_.2.2.2.2.2).length c25],p36,c36,F.sl rfl,(H.pm 5 [4,0,2] rfl:)⟩
 refine ct (sr (bk [0,4] F H rfl ⟨fld27_4,trivial⟩ fun a F=>?_))
 have G:=F;replace H:=rc_api_Op (H.pk 1 rfl);obtain ⟨p38,c39,rfl,J⟩:=H;have H:=J;have F:=G;clear G J
 refine bk [1004] F H rfl ⟨rfl,plain3,trivial⟩ fun a F=>?_
 obtain ⟨x40,ex40,hm⟩:=ob hm
 refine sd F rfl ent57 (w_rTwo ex40 H:) ?_;rintro _ w a ⟨p41,c41,rfl,H⟩ F
 replace H:=H.frz 0 rfl
 obtain ⟨x43,ex43,hm⟩:=ob hm
 refine s_app wkP F rfl rfl rfl rfl rfl rfl elem25 rfl ex43 H 3 0 rfl rfl fun p42 c42 w a H F=>?_
 refine bb [0] F H rfl fun a F=>?_
 replace H:=H.nf 4 rfl
 refine nl (sr (bk [0,1,2001] F H rfl ⟨fld27_1,rfl,plain9,trivial⟩ fun a F=>?_))
 refine s_cvT (e:=5) (xs:=r21.1.2.1) wkP F rfl rfl rfl Tryz.underlying9 Tryz.underlying25 Tryz.underlying5 rfl rfl H fun b44 c44 w a H F=>?_
 replace H:=H.cvFrz 0 rfl
 obtain ⟨x45,ex45,hm⟩:=ob hm
 refine sd F rfl ent58 (w_rTextS ex45 (H.pm 5 [0,0,1,2,3,4] rfl:):) ?_;rintro _ w a ⟨p46,c46,rfl,H⟩ F
 replace H:=H.frz 0 rfl
 obtain ⟨x48,ex48,hm⟩:=ob hm
 refine s_app wkP F rfl rfl rfl rfl rfl rfl elem25 rfl ex48 H 5 0 rfl rfl fun p47 c47 w a H F=>?_
 refine bb [0] F H rfl fun a F=>?_
 replace H:=H.nf 6 rfl
 refine nl (sr (bk [0,2,4002] F H rfl ⟨fld27_2,rfl,plain9,trivial⟩ fun a F=>?_))
 refine s_cvT (e:=5) (xs:=r21.1.2.2.1) wkP F rfl rfl rfl Tryz.underlying9 Tryz.underlying25 Tryz.underlying5 rfl rfl H fun b49 c49 w a H F=>?_
 replace H:=H.cvFrz 0 rfl
 obtain ⟨x50,ex50,hm⟩:=ob hm
 refine sd F rfl ent58 (w_rTextS ex50 (H.pm 7 [0,0,1,2,3,4,5,6] rfl:):) ?_;rintro _ w a ⟨p51,c51,rfl,H⟩ F
 replace H:=H.frz 0 rfl
 obtain ⟨x53,ex53,hm⟩:=ob hm
 refine s_app wkP F rfl rfl rfl rfl rfl rfl elem25 rfl ex53 H 7 0 rfl rfl fun p52 c52 w a H F=>?_
 refine bb [0] F H rfl fun a F=>?_
 replace H:=H.nf 8 rfl
 refine nl (sr (bk [0,5,6005] F H rfl ⟨fld27_5,rfl,plain25,trivial⟩ fun a F=>?_))
 obtain ⟨x54,ex54,hm⟩:=ob hm
 refine sd F rfl ent58 (w_rTextS ex54 (H.pm 8 [5,0,1,2,3,4,5,6,7] rfl:):) ?_;rintro _ w a ⟨p55,c55,rfl,H⟩ F
 replace H:=H.frz 0 rfl
 obtain ⟨x57,ex57,hm⟩:=ob hm
 refine s_app wkP F rfl rfl rfl rfl rfl rfl elem25 rfl ex57 H 8 0 rfl rfl fun p56 c56 w a H F=>?_
 refine bb [0,0] F H rfl fun a F=>?_
 replace H:=H.nf 9 rfl
 refine nl (wr ?_)
 replace H:=H.frz 8 rfl
 cases hm
 refine x_ret2 F rfl rfl rfl ?_
 exact ⟨_,rfl,p56,c56,rfl,(H.pm 9 [0] rfl:)⟩
theorem w_rEight {n:Int}  {w0 w:World} {l:List HP}  {r:(List UInt8)} (hm:rEight n=some r) (H:St w0 w (l)) :
  Calls Tryz.prog 23 [.int .u64 (n)].toArray w (fun e w'=>∃ v,e=.returned v∧∃ (p1:Option Addr) (c1:Nat),v=.slice p1 (r).length c1∧St w0 w' (HP.ow rByte 5 p1 c1 r::l)):=by
 unfold rEight at hm
 refine x_enter Tryz.func23 rfl rfl rfl ?_
 intro a F
 refine sb [0] F H rfl fun a F=>nb [0] F H rfl fun a F=>?_
 obtain ⟨x2,ex2,hm⟩:=ob hm
 refine sd F rfl ent56 (w_rUint ex2 H:) ?_;rintro _ w a ⟨p3,c3,rfl,H⟩ F
 refine bb (List.replicate 5 0) F H rfl fun a F=>?_
 replace H:=H.nf 1 rfl
 refine nb [0,0] F H rfl fun a F=>nl (wr ?_)
 cases hm
 refine x_ret1 F rfl rfl ?_
 exact ⟨_,rfl,p3,c3,rfl,H⟩
theorem ent54:En Tryz.prog 54:=enters Tryz.func54 (by kernel_rfl) rfl
theorem w_m_triremeref14_Right {x0_:T_api_Record} {cs1:List Value} {w0 w:World} {l:List HP}  {r:Bool} (hm:m_triremeref14_Right x0_=some r) (H:St w0 w (HP.rc R_api_Record cs1 x0_::l)) :
  Calls Tryz.prog 22 [.agg cs1.toArray].toArray w (fun e w'=>∃ v,e=.returned v∧v=.bool (r)∧St w0 w' (l)):=by
 unfold m_triremeref14_Right at hm
 refine x_enter Tryz.func22 rfl rfl rfl ?_
 intro a F
 refine sr (s_boxA wkP F rfl rfl rfl rfl rfl H fun b2 w a H F=>bb [0] F H rfl fun a F=>?_)
 replace H:=H.nf 2 rfl
 refine nl (sq (sr (bk [0] F H rfl ⟨fld31_0,trivial⟩ fun a F=>?_)))
 have G:=F;replace H:=rc_api_Record (H.pk 1 rfl);obtain ⟨v3,hl4,hl5,hl6,hl7,rfl,J⟩:=H;have H:=J;have F:=G;clear G J
 refine bk [1000,0] F H rfl ⟨rfl,plain22,trivial⟩ fun a F=>?_
 refine nl (cPm F rfl hm (fun hg8 hm=>?_) (fun hg8 hm=>?_))
 refine sr (bk [1,1001,0,0] F H rfl ⟨fld31_1,rfl,plain22,trivial⟩ fun a F=>?_)
 rcases spP 9 F rfl hm with ⟨hg9,hm,F⟩ | ⟨hg9,hm,F⟩
 refine bk [2] F H rfl ⟨fld31_2,trivial⟩ fun a F=>g_onP F rfl rfl rfl rfl (sv F rfl (y_loadA F agg24 rfl rfl (row_mid (A:=[.int .u64 (x0_.1),.int .u64 (x0_.2.1)]) (X:=bcells x0_.2.2.1) (C:=bcells x0_.2.2.2.1++(bcells x0_.2.2.2.2.1++(bcells x0_.2.2.2.2.2.1++(v3)))) (w:=_) ((H.blk 1 rfl).row) (by simp only [List.length_append,List.length_cons,List.length_nil,icells_length,bcells_length])) ((bcells_length _).trans hl4)) fun a F=>g_onP F rfl rfl rfl rfl (sv F rfl (y_build F rfl rfl (cs:=bcells ((List.replicate 32 0):List UInt8)) (by kernel_rfl)) fun a F=>g_onP F rfl rfl rfl rfl (sv F rfl (y_eqlA F key24 rfl rfl rfl hl4 rfl) fun a F=>bb [0,0] F H rfl fun a F=>?_)))
 rcases spP 15 F rfl hm with ⟨hg10,hm,F⟩ | ⟨hg10,hm,F⟩
 refine bk [130,0] F H rfl ⟨fld31_6,fld29_0,trivial⟩ fun a F=>g_onP F rfl rfl rfl rfl ?_
 have G:=F;replace H:=rc_api_Call (H.pk 0 rfl);obtain ⟨v11,rfl,J⟩:=H;have H:=J;have F:=G;clear G J
 refine sv F rfl (y_load1 F plain3 rfl rfl ((row_midA (n:=130) (A:=[Value.int .u64 (x0_.1),Value.int .u64 (x0_.2.1)]++(bcells x0_.2.2.1++(bcells x0_.2.2.2.1++(bcells x0_.2.2.2.2.1++(bcells x0_.2.2.2.2.2.1))))) (X:=[.int .i64 (x0_.2.2.2.2.2.2.1)]) (C:=[Value.int .u64 (x0_.2.2.2.2.2.2.2.1)]++(v11)) ((H.blk 1 rfl).row) (by simp only [List.append_assoc,List.cons_append,List.nil_append]) (by simp only [List.length_append,List.length_cons,List.length_nil,icells_length,bcells_length,hl4,hl5,hl6,hl7])) 0 _ rfl)) fun a F=>bb [0,0,0] F H rfl fun a F=>?_
 rcases spP 21 F rfl hm with ⟨hg12,hm,F⟩ | ⟨hg12,hm,F⟩
 refine bk [130,1] F H rfl ⟨fld31_6,fld29_1,trivial⟩ fun a F=>g_onP F rfl rfl rfl rfl (sv F rfl (y_load1 F plain22 rfl rfl ((row_midA (n:=131) (A:=[Value.int .u64 (x0_.1),Value.int .u64 (x0_.2.1)]++(bcells x0_.2.2.1++(bcells x0_.2.2.2.1++(bcells x0_.2.2.2.2.1++(bcells x0_.2.2.2.2.2.1++([Value.int .i64 (x0_.2.2.2.2.2.2.1)])))))) (X:=[.int .u64 (x0_.2.2.2.2.2.2.2.1)]) (C:=v11) ((H.blk 1 rfl).row) (by simp only [List.append_assoc,List.cons_append,List.nil_append]) (by simp only [List.length_append,List.length_cons,List.length_nil,icells_length,bcells_length,hl4,hl5,hl6,hl7])) 0 _ rfl)) fun a F=>bb [0,0,0] F H rfl fun a F=>?_)
 rcases spP 27 F rfl hm with ⟨hg13,hm,F⟩ | ⟨hg13,hm,F⟩
 refine bk [130,2] F H rfl ⟨fld31_6,fld29_2,trivial⟩ fun a F=>g_onP F rfl rfl rfl rfl (sv F rfl (y_loadA F agg27 rfl rfl (row_midAE (n:=132) (A:=[Value.int .u64 (x0_.1),Value.int .u64 (x0_.2.1)]++(bcells x0_.2.2.1++(bcells x0_.2.2.2.1++(bcells x0_.2.2.2.2.1++(bcells x0_.2.2.2.2.2.1++([Value.int .i64 (x0_.2.2.2.2.2.2.1),Value.int .u64 (x0_.2.2.2.2.2.2.2.1)])))))) (X:=v11) (w:=_) ((H.blk 1 rfl).row) (by simp only [List.append_assoc,List.cons_append,List.nil_append]) (by simp only [List.length_append,List.length_cons,List.length_nil,icells_length,bcells_length,hl4,hl5,hl6,hl7])) (H.rcLen 0 rfl)) fun a F=>g_onP F rfl rfl rfl rfl ?_)
 replace H:=H.owNil rByte 5
 refine sv F rfl (y_build F rfl rfl (cs:=[.int .i64 (0),.string (txb ([])),.string (txb ([])),.int .i64 (0),.int .i64 (0),.slice none (([]:List UInt8)).length 0]) (by kernel_rfl)) fun a F=>g_onP F rfl rfl rfl rfl ?_
 replace H:=H.frz 0 rfl
 replace H:=mk_api_Op H 0 ([]) ([]) 0 0 0 rfl
 obtain ⟨x14,ex14,hm⟩:=ob hm
 refine sd F rfl ent54 (w_rSameOp ex14 (H.pm 4 [2,0,0,1,2,3] rfl:):) ?_;rintro _ w a ⟨rfl,H⟩ F
 refine bb [0,0] F H rfl fun a F=>?_
 replace H:=H.nf 4 rfl
 refine nl (wr (tr ?_))
 cases hm
 refine x_ret1 F rfl rfl ?_
 exact ⟨_,rfl,rfl,(H.pm 4 [] rfl:)⟩
 refine bb (List.replicate 7 0) F H rfl fun a F=>nl (wr (tr ?_))
 cases hm
 refine x_ret1 F rfl rfl ?_
 exact ⟨_,rfl,rfl,(H.pm 2 [] rfl:)⟩
 refine bb (List.replicate 13 0) F H rfl fun a F=>nl (wr (tr ?_))
 cases hm
 refine x_ret1 F rfl rfl ?_
 exact ⟨_,rfl,rfl,(H.pm 2 [] rfl:)⟩
 refine bb (List.replicate 19 0) F H rfl fun a F=>nl (wr (tr ?_))
 cases hm
 refine x_ret1 F rfl rfl ?_
 exact ⟨_,rfl,rfl,(H.pm 2 [] rfl:)⟩
 refine bb (List.replicate 25 0) F H rfl fun a F=>nl (wr (tr ?_))
 cases hm
 refine x_ret1 F rfl rfl ?_
 exact ⟨_,rfl,rfl,(H.pm 2 [] rfl:)⟩
 refine sk (ct (sr (bk [130,0] F H rfl ⟨fld31_6,fld29_0,trivial⟩ fun a F=>?_)))
 have G:=F;replace H:=rc_api_Call (H.pk 0 rfl);obtain ⟨v15,rfl,J⟩:=H;have H:=J;have F:=G;clear G J
 refine sv F rfl (y_load1 F plain3 rfl rfl ((row_midA (n:=130) (A:=[Value.int .u64 (x0_.1),Value.int .u64 (x0_.2.1)]++(bcells x0_.2.2.1++(bcells x0_.2.2.2.1++(bcells x0_.2.2.2.2.1++(bcells x0_.2.2.2.2.2.1))))) (X:=[.int .i64 (x0_.2.2.2.2.2.2.1)]) (C:=[Value.int .u64 (x0_.2.2.2.2.2.2.2.1)]++(v15)) ((H.blk 1 rfl).row) (by simp only [List.append_assoc,List.cons_append,List.nil_append]) (by simp only [List.length_append,List.length_cons,List.length_nil,icells_length,bcells_length,hl4,hl5,hl6,hl7])) 0 _ rfl)) fun a F=>bb [0,0] F H rfl fun a F=>?_
 rcases spP 38 F rfl hm with ⟨hg16,hm,F⟩ | ⟨hg16,hm,F⟩
 refine bk [130,0] F H rfl ⟨fld31_6,fld29_0,trivial⟩ fun a F=>g_onP F rfl rfl rfl rfl (sv F rfl (y_load1 F plain3 rfl rfl ((row_midA (n:=130) (A:=[Value.int .u64 (x0_.1),Value.int .u64 (x0_.2.1)]++(bcells x0_.2.2.1++(bcells x0_.2.2.2.1++(bcells x0_.2.2.2.2.1++(bcells x0_.2.2.2.2.2.1))))) (X:=[.int .i64 (x0_.2.2.2.2.2.2.1)]) (C:=[Value.int .u64 (x0_.2.2.2.2.2.2.2.1)]++(v15)) ((H.blk 1 rfl).row) (by simp only [List.append_assoc,List.cons_append,List.nil_append]) (by simp only [List.length_append,List.length_cons,List.length_nil,icells_length,bcells_length,hl4,hl5,hl6,hl7])) 0 _ rfl)) fun a F=>bb [0,0,0] F H rfl fun a F=>?_)
 rcases spP 44 F rfl hm with ⟨hg17,hm,F⟩ | ⟨hg17,hm,F⟩
 refine bk [130,1] F H rfl ⟨fld31_6,fld29_1,trivial⟩ fun a F=>g_onP F rfl rfl rfl rfl (sv F rfl (y_load1 F plain22 rfl rfl ((row_midA (n:=131) (A:=[Value.int .u64 (x0_.1),Value.int .u64 (x0_.2.1)]++(bcells x0_.2.2.1++(bcells x0_.2.2.2.1++(bcells x0_.2.2.2.2.1++(bcells x0_.2.2.2.2.2.1++([Value.int .i64 (x0_.2.2.2.2.2.2.1)])))))) (X:=[.int .u64 (x0_.2.2.2.2.2.2.2.1)]) (C:=v15) ((H.blk 1 rfl).row) (by simp only [List.append_assoc,List.cons_append,List.nil_append]) (by simp only [List.length_append,List.length_cons,List.length_nil,icells_length,bcells_length,hl4,hl5,hl6,hl7])) 0 _ rfl)) fun a F=>bb [0,0,0] F H rfl fun a F=>?_)
 rcases spP 50 F rfl hm with ⟨hg18,hm,F⟩ | ⟨hg18,hm,F⟩
 refine bk [130,2] F H rfl ⟨fld31_6,fld29_2,trivial⟩ fun a F=>g_onP F rfl rfl rfl rfl (sv F rfl (y_loadA F agg27 rfl rfl (row_midAE (n:=132) (A:=[Value.int .u64 (x0_.1),Value.int .u64 (x0_.2.1)]++(bcells x0_.2.2.1++(bcells x0_.2.2.2.1++(bcells x0_.2.2.2.2.1++(bcells x0_.2.2.2.2.2.1++([Value.int .i64 (x0_.2.2.2.2.2.2.1),Value.int .u64 (x0_.2.2.2.2.2.2.2.1)])))))) (X:=v15) (w:=_) ((H.blk 1 rfl).row) (by simp only [List.append_assoc,List.cons_append,List.nil_append]) (by simp only [List.length_append,List.length_cons,List.length_nil,icells_length,bcells_length,hl4,hl5,hl6,hl7])) (H.rcLen 0 rfl)) fun a F=>g_onP F rfl rfl rfl rfl ?_)
 obtain ⟨x19,ex19,hm⟩:=ob hm
 refine sd F rfl ent55 (w_m_triremeref10_Right ex19 (H.pm 2 [0,0,1] rfl:):) ?_;rintro _ w a ⟨rfl,H⟩ F
 refine bb [0,0] F H rfl fun a F=>?_
 replace H:=H.nf 2 rfl
 refine nl (wr ?_)
 cases hm
 refine x_ret1 F rfl rfl ?_
 exact ⟨_,rfl,rfl,(H.pm 2 [] rfl:)⟩
 refine bb (List.replicate 6 0) F H rfl fun a F=>nl (wr ?_)
 cases hm
 refine x_ret1 F rfl rfl ?_
 exact ⟨_,rfl,rfl,(H.pm 2 [] rfl:)⟩
 refine bb (List.replicate 12 0) F H rfl fun a F=>nl (wr ?_)
 cases hm
 refine x_ret1 F rfl rfl ?_
 exact ⟨_,rfl,rfl,(H.pm 2 [] rfl:)⟩
 refine bb (List.replicate 18 0) F H rfl fun a F=>nl (wr ?_)
 cases hm
 refine x_ret1 F rfl rfl ?_
 exact ⟨_,rfl,rfl,(H.pm 2 [] rfl:)⟩
theorem ent22:En Tryz.prog 22:=enters Tryz.func22 (by kernel_rfl) rfl
theorem ent23:En Tryz.prog 23:=enters Tryz.func23 (by kernel_rfl) rfl
theorem ent24:En Tryz.prog 24:=enters Tryz.func24 (by kernel_rfl) rfl
theorem w_m_triremeref14_Write {x0_:T_api_Record} {cs1:List Value} {w0 w:World} {l:List HP}  {r:(List UInt8)×Int} (hm:m_triremeref14_Write x0_=some r) (H:St w0 w (HP.rc R_api_Record cs1 x0_::l)) :
  Calls Tryz.prog 8 [.agg cs1.toArray].toArray w (fun e w'=>∃ v,e=.returned v∧∃ (p2:Option Addr) (c2:Nat),v=.tuple [.slice p2 (r.1).length c2,.int .i64 (r.2)].toArray∧St w0 w' (HP.sl rByte p2 c2 r.1::l)):=by
 unfold m_triremeref14_Write at hm
 refine x_enter Tryz.func8 rfl rfl rfl ?_
 intro a F
 refine sr (s_boxA wkP F rfl rfl rfl rfl rfl H fun b3 w a H F=>bb [0,0] F H rfl fun a F=>?_)
 replace H:=H.nf 2 rfl
 refine nl (sq (sr (bk [999] F H rfl ⟨rfl,(aggn agg31 (H.rcLen 1 rfl)),trivial⟩ fun a F=>?_)))
 obtain ⟨x4,ex4,hm⟩:=ob hm
 refine sd F rfl ent22 (w_m_triremeref14_Right ex4 (H.pm 2 [1,0,1] rfl:):) ?_;rintro _ w a ⟨rfl,H⟩ F
 refine bb [0] F H rfl fun a F=>?_
 replace H:=H.nf 2 rfl
 refine nl (cB F rfl (fun hg5=>?_) (fun hg5=>?_))
 replace hm:=ifT hg5 hm
 refine sr (s_build0O (R:=rByte) wkP F rfl rfl rfl elem25 rfl H fun b6 w a H F=>bb [0,0] F H rfl fun a F=>?_)
 replace H:=H.nf 3 rfl
 refine nl (wr (tr ?_))
 replace H:=H.frz 0 rfl
 cases hm
 refine x_ret2 F rfl rfl rfl ?_
 exact ⟨_,rfl,(some ⟨b6,0,none⟩),0,rfl,(H.pm 3 [0] rfl:)⟩
 replace hm:=ifF (nT hg5) hm
 refine sk (ct (sr ?_))
 obtain ⟨x8,ex8,hm⟩:=ob hm
 refine s_buildC wkP F rfl rfl rfl elem25 zero5 rfl rfl rfl rfl (by simp [Value.cells]) (by decide) H fun b7 w a H F=>?_
 replace H:=H.blkOw1 (R:=rByte) (x:=x8) (fun gg=>(congrArg (fun z=>[Value.int .u8 z]) (u8O_some ex8).symm))
 refine bk [0] F H rfl ⟨fld31_0,trivial⟩ fun a F=>?_
 have G:=F;replace H:=rc_api_Record (H.pk 2 rfl);obtain ⟨v9,hl10,hl11,hl12,hl13,rfl,J⟩:=H;have H:=J;have F:=G;clear G J
 refine bk [2000] F H rfl ⟨rfl,plain22,trivial⟩ fun a F=>?_
 obtain ⟨x14,ex14,hm⟩:=ob hm
 refine sd F rfl ent23 (w_rEight ex14 H:) ?_;rintro _ w a ⟨p15,c15,rfl,H⟩ F
 replace H:=H.frz 0 rfl
 obtain ⟨x17,ex17,hm⟩:=ob hm
 refine s_app wkP F rfl rfl rfl rfl rfl rfl elem25 rfl ex17 H 2 0 rfl rfl fun p16 c16 w a H F=>?_
 refine bb [0] F H rfl fun a F=>?_
 replace H:=H.nf 4 rfl
 refine nl (sr (bk [0,1,3001] F H rfl ⟨fld31_1,rfl,plain22,trivial⟩ fun a F=>?_))
 obtain ⟨x18,ex18,hm⟩:=ob hm
 refine sd F rfl ent23 (w_rEight ex18 H:) ?_;rintro _ w a ⟨p19,c19,rfl,H⟩ F
 replace H:=H.frz 0 rfl
 obtain ⟨x21,ex21,hm⟩:=ob hm
 refine s_app wkP F rfl rfl rfl rfl rfl rfl elem25 rfl ex21 H 3 0 rfl rfl fun p20 c20 w a H F=>?_
 refine bb [0] F H rfl fun a F=>?_
 replace H:=H.nf 5 rfl
 refine nl (sr (bk [0,2] F H rfl ⟨fld31_2,trivial⟩ fun a F=>?_))
 replace H:=H.blkFrz 4 rfl
 replace H:St w0 w (HP.sl rByte (shp (some ⟨b3,0+2,none⟩) 32 0 1) (32 - 0) x0_.2.2.1::HP.row b3 (0) ([Value.int .u64 (x0_.1),Value.int .u64 (x0_.2.1)]++(bcells x0_.2.2.1++(bcells x0_.2.2.2.1++(bcells x0_.2.2.2.2.1++(bcells x0_.2.2.2.2.2.1++(v9))))))::HP.sl rByte p19 c19 x18::HP.sl rByte p15 c15 x14::HP.rc R_api_Call v9 x0_.2.2.2.2.2.2::HP.ow rByte 5 p20 c20 x21::l):=H.rowSl 0 rfl (pre:=[.int .u64 (x0_.1),.int .u64 (x0_.2.1)]) (post:=bcells x0_.2.2.2.1++(bcells x0_.2.2.2.2.1++(bcells x0_.2.2.2.2.2.1++(v9)))) (k:=2) (by simp) rfl hl10 (by decide)
 refine sv F rfl (y_slAW F arr24 rfl rfl hl10) fun a F=>?_
 obtain ⟨x23,ex23,hm⟩:=ob hm
 refine s_app wkP F rfl rfl rfl rfl rfl rfl elem25 rfl ex23 H 5 0 rfl rfl fun p22 c22 w a H F=>?_
 refine bb [0] F H rfl fun a F=>?_
 replace H:=H.nf 6 rfl
 refine nl (sr (bk [0,34] F H rfl ⟨fld31_3,trivial⟩ fun a F=>?_))
 replace H:St w0 w (HP.sl rByte (shp (some ⟨b3,0+34,none⟩) 32 0 1) (32 - 0) x0_.2.2.2.1::HP.sl rByte (shp (some ⟨b3,0+2,none⟩) 32 0 1) (32 - 0) x0_.2.2.1::HP.row b3 (0) ([Value.int .u64 (x0_.1),Value.int .u64 (x0_.2.1)]++(bcells x0_.2.2.1++(bcells x0_.2.2.2.1++(bcells x0_.2.2.2.2.1++(bcells x0_.2.2.2.2.2.1++(v9))))))::HP.sl rByte p19 c19 x18::HP.sl rByte p15 c15 x14::HP.rc R_api_Call v9 x0_.2.2.2.2.2.2::HP.ow rByte 5 p22 c22 x23::l):=H.rowSl 1 rfl (pre:=[Value.int .u64 (x0_.1),Value.int .u64 (x0_.2.1)]++(bcells x0_.2.2.1)) (post:=bcells x0_.2.2.2.2.1++(bcells x0_.2.2.2.2.2.1++(v9))) (k:=34) (by simp) (by simp only [List.length_append,List.length_cons,List.length_nil,icells_length,bcells_length,hl10]) hl11 (by decide)
 refine sv F rfl (y_slAW F arr24 rfl rfl hl11) fun a F=>?_
 obtain ⟨x25,ex25,hm⟩:=ob hm
 refine s_app wkP F rfl rfl rfl rfl rfl rfl elem25 rfl ex25 H 6 0 rfl rfl fun p24 c24 w a H F=>?_
 refine bb [0] F H rfl fun a F=>?_
 replace H:=H.nf 7 rfl
 refine nl (sr (bk [0,66] F H rfl ⟨fld31_4,trivial⟩ fun a F=>?_))
 replace H:St w0 w (HP.sl rByte (shp (some ⟨b3,0+66,none⟩) 32 0 1) (32 - 0) x0_.2.2.2.2.1::HP.sl rByte (shp (some ⟨b3,0+34,none⟩) 32 0 1) (32 - 0) x0_.2.2.2.1::HP.sl rByte (shp (some ⟨b3,0+2,none⟩) 32 0 1) (32 - 0) x0_.2.2.1::HP.row b3 (0) ([Value.int .u64 (x0_.1),Value.int .u64 (x0_.2.1)]++(bcells x0_.2.2.1++(bcells x0_.2.2.2.1++(bcells x0_.2.2.2.2.1++(bcells x0_.2.2.2.2.2.1++(v9))))))::HP.sl rByte p19 c19 x18::HP.sl rByte p15 c15 x14::HP.rc R_api_Call v9 x0_.2.2.2.2.2.2::HP.ow rByte 5 p24 c24 x25::l):=H.rowSl 2 rfl (pre:=[Value.int .u64 (x0_.1),Value.int .u64 (x0_.2.1)]++(bcells x0_.2.2.1++(bcells x0_.2.2.2.1))) (post:=bcells x0_.2.2.2.2.2.1++(v9)) (k:=66) (by simp) (by simp only [List.length_append,List.length_cons,List.length_nil,icells_length,bcells_length,hl10,hl11]) hl12 (by decide)
 refine sv F rfl (y_slAW F arr24 rfl rfl hl12) fun a F=>?_
 obtain ⟨x27,ex27,hm⟩:=ob hm
 refine s_app wkP F rfl rfl rfl rfl rfl rfl elem25 rfl ex27 H 7 0 rfl rfl fun p26 c26 w a H F=>?_
 refine bb [0] F H rfl fun a F=>?_
 replace H:=H.nf 8 rfl
 refine nl (sr (bk [0,98] F H rfl ⟨fld31_5,trivial⟩ fun a F=>?_))
 replace H:St w0 w (HP.sl rByte (shp (some ⟨b3,0+98,none⟩) 32 0 1) (32 - 0) x0_.2.2.2.2.2.1::HP.sl rByte (shp (some ⟨b3,0+66,none⟩) 32 0 1) (32 - 0) x0_.2.2.2.2.1::HP.sl rByte (shp (some ⟨b3,0+34,none⟩) 32 0 1) (32 - 0) x0_.2.2.2.1::HP.sl rByte (shp (some ⟨b3,0+2,none⟩) 32 0 1) (32 - 0) x0_.2.2.1::HP.row b3 (0) ([Value.int .u64 (x0_.1),Value.int .u64 (x0_.2.1)]++(bcells x0_.2.2.1++(bcells x0_.2.2.2.1++(bcells x0_.2.2.2.2.1++(bcells x0_.2.2.2.2.2.1++(v9))))))::HP.sl rByte p19 c19 x18::HP.sl rByte p15 c15 x14::HP.rc R_api_Call v9 x0_.2.2.2.2.2.2::HP.ow rByte 5 p26 c26 x27::l):=H.rowSl 3 rfl (pre:=[Value.int .u64 (x0_.1),Value.int .u64 (x0_.2.1)]++(bcells x0_.2.2.1++(bcells x0_.2.2.2.1++(bcells x0_.2.2.2.2.1)))) (post:=v9) (k:=98) (by simp) (by simp only [List.length_append,List.length_cons,List.length_nil,icells_length,bcells_length,hl10,hl11,hl12]) hl13 (by decide)
 refine sv F rfl (y_slAW F arr24 rfl rfl hl13) fun a F=>?_
 obtain ⟨x29,ex29,hm⟩:=ob hm
 refine s_app wkP F rfl rfl rfl rfl rfl rfl elem25 rfl ex29 H 8 0 rfl rfl fun p28 c28 w a H F=>?_
 refine bb [0] F H rfl fun a F=>?_
 replace H:=H.nf 9 rfl
 refine nl (sr (bk [0,130,0] F H rfl ⟨fld31_6,fld29_0,trivial⟩ fun a F=>?_))
 have G:=F;replace H:=rc_api_Call (H.pk 7 rfl);obtain ⟨v30,rfl,J⟩:=H;have H:=J;have F:=G;clear G J
 refine sv F rfl (y_load1 F plain3 rfl rfl ((row_midA (n:=130) (A:=[Value.int .u64 (x0_.1),Value.int .u64 (x0_.2.1)]++(bcells x0_.2.2.1++(bcells x0_.2.2.2.1++(bcells x0_.2.2.2.2.1++(bcells x0_.2.2.2.2.2.1))))) (X:=[.int .i64 (x0_.2.2.2.2.2.2.1)]) (C:=[Value.int .u64 (x0_.2.2.2.2.2.2.2.1)]++(v30)) (H.rowAt 5 rfl) (by simp only [List.append_assoc,List.cons_append,List.nil_append]) (by simp only [List.length_append,List.length_cons,List.length_nil,icells_length,bcells_length,hl10,hl11,hl12,hl13])) 0 _ rfl)) fun a F=>bk [1] F H rfl ⟨Tryz.underlying3,Tryz.underlying5,trivial⟩ fun a F=>?_
 obtain ⟨x32,ex32,hm⟩:=ob hm
 refine s_buildC wkP F rfl rfl rfl elem25 zero5 rfl rfl rfl rfl (by simp [Value.cells]) (by decide) H fun b31 w a H F=>?_
 replace H:=H.blkOw1 (R:=rByte) (x:=x32) (fun gg=>(congrArg (fun z=>[Value.int .u8 z]) (u8O_some ex32).symm))
 replace H:=H.frz 0 rfl
 obtain ⟨x34,ex34,hm⟩:=ob hm
 refine s_app wkP F rfl rfl rfl rfl rfl rfl elem25 rfl ex34 H 9 0 rfl rfl fun p33 c33 w a H F=>?_
 refine bb [0] F H rfl fun a F=>?_
 replace H:=H.nf 10 rfl
 refine nl (sr (bk [0,130,1] F H rfl ⟨fld31_6,fld29_1,trivial⟩ fun a F=>sv F rfl (y_load1 F plain22 rfl rfl ((row_midA (n:=131) (A:=[Value.int .u64 (x0_.1),Value.int .u64 (x0_.2.1)]++(bcells x0_.2.2.1++(bcells x0_.2.2.2.1++(bcells x0_.2.2.2.2.1++(bcells x0_.2.2.2.2.2.1++([Value.int .i64 (x0_.2.2.2.2.2.2.1)])))))) (X:=[.int .u64 (x0_.2.2.2.2.2.2.2.1)]) (C:=v30) (H.rowAt 6 rfl) (by simp only [List.append_assoc,List.cons_append,List.nil_append]) (by simp only [List.length_append,List.length_cons,List.length_nil,icells_length,bcells_length,hl10,hl11,hl12,hl13])) 0 _ rfl)) fun a F=>?_))
 obtain ⟨x35,ex35,hm⟩:=ob hm
 refine sd F rfl ent23 (w_rEight ex35 H:) ?_;rintro _ w a ⟨p36,c36,rfl,H⟩ F
 replace H:=H.frz 0 rfl
 obtain ⟨x38,ex38,hm⟩:=ob hm
 refine s_app wkP F rfl rfl rfl rfl rfl rfl elem25 rfl ex38 H 10 0 rfl rfl fun p37 c37 w a H F=>?_
 refine bb [0] F H rfl fun a F=>?_
 replace H:=H.nf 11 rfl
 refine nl (sr (bk [130,2] F H rfl ⟨fld31_6,fld29_2,trivial⟩ fun a F=>sv F rfl (y_loadA F agg27 rfl rfl (row_midAE (n:=132) (A:=[Value.int .u64 (x0_.1),Value.int .u64 (x0_.2.1)]++(bcells x0_.2.2.1++(bcells x0_.2.2.2.1++(bcells x0_.2.2.2.2.1++(bcells x0_.2.2.2.2.2.1++([Value.int .i64 (x0_.2.2.2.2.2.2.1),Value.int .u64 (x0_.2.2.2.2.2.2.2.1)])))))) (X:=v30) (w:=_) (H.rowAt 7 rfl) (by simp only [List.append_assoc,List.cons_append,List.nil_append]) (by simp only [List.length_append,List.length_cons,List.length_nil,icells_length,bcells_length,hl10,hl11,hl12,hl13])) (H.rcLen 2 rfl)) fun a F=>?_))
 obtain ⟨x39,ex39,hm⟩:=ob hm
 refine sd F rfl ent24 (w_m_triremeref10_Write ex39 (H.pm 11 [2,0,1,2,3,4,5,6,7,8,9,10] rfl:):) ?_;rintro _ w a ⟨p40,c40,rfl,H⟩ F
 refine bb (List.replicate 5 0) F H rfl fun a F=>?_
 replace H:=H.nf 12 rfl
 refine nb [0] F H rfl fun a F=>?_
 obtain ⟨x41,ex41,hm⟩:=ob hm
 refine sd F rfl ent25 (w_rText ex41 (H.pm 12 [0,0,1,2,3,4,5,6,7,8,9,10,11] rfl:):) ?_;rintro _ w a ⟨p42,c42,rfl,H⟩ F
 refine bb (List.replicate 5 0) F H rfl fun a F=>?_
 replace H:=H.nf 13 rfl
 refine nb [0,0] F H rfl fun a F=>?_
 replace H:=H.frz 0 rfl
 obtain ⟨x44,ex44,hm⟩:=ob hm
 refine s_app wkP F rfl rfl rfl rfl rfl rfl elem25 rfl ex44 H 12 0 rfl rfl fun p43 c43 w a H F=>?_
 refine bb [0,0] F H rfl fun a F=>?_
 replace H:=H.nf 13 rfl
 refine nl (wr ?_)
 replace H:=H.frz 12 rfl
 cases hm
 refine x_ret2 F rfl rfl rfl ?_
 exact ⟨_,rfl,p43,c43,rfl,(H.pm 13 [0] rfl:)⟩
end Go.Proofs.YtapllcabobickaaGreatDoor
