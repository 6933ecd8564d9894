/- Texts RefB. -/
import Derived.Test.YtapllcabobickaaGreatDoorQ12
set_option linter.unusedSimpArgs false
set_option linter.unusedVariables false
namespace Go.Proofs.YtapllcabobickaaGreatDoor
open Go.RowKit Go.Tri
set_option maxRecDepth 100000
set_option maxHeartbeats 4000000
theorem w_m_triremeref05_Less {x0_:List UInt8} {x1_:List UInt8}  {w0 w:World} {l:List HP} (hl1:(x0_).length=32) (hl2:(x1_).length=32) {r:Bool} (hm:m_triremeref05_Less x0_ x1_=some r) (H:St w0 w (l)) :
  Calls Tryz.prog 100 [.agg (bcells x0_).toArray,.agg (bcells x1_).toArray].toArray w (fun e w'=>∃ v,e=.returned v∧v=.bool (r)∧St w0 w' (l)):=by
 unfold m_triremeref05_Less at hm
 refine x_enter Tryz.func100 rfl rfl rfl ?_
 intro a F
 refine sr (s_boxA wkP F rfl rfl rfl rfl rfl H fun b3 w a H F=>s_boxA wkP F rfl rfl rfl rfl rfl H fun b4 w a H F=>bb [0] F H rfl fun a F=>?_)
 replace H:=H.nf 2 rfl
 refine nl (sq (sb [0] F H rfl fun a F=>?_))
 refine nl (xr0 2 [] [0,1] F H hm rfl rfl (fun r24 z=>z) (fun r24 z=>z) (fun o24 hm hm24=>?_) (fun r24 a w hm F H=>?_))
 refine bl (xl0 2 [2,3] [0,1] F H hm rfl rfl (fun (s37:Int) z=>(5,.int .i64 (s37))::z) (fun s37 z=>z) ⟨F.sl rfl,H⟩ (fun s37 a w o F H hm=>sq (sb [0,0] F H rfl fun a F=>?_)))
 refine nl (cPm F rfl hm (fun hg38 hm=>?_) (fun hg38 hm=>?_))
 refine sk (ct (sq (bl (sq ?_))))
 obtain ⟨x39,ex39,hm⟩:=ob hm
 obtain ⟨x40,ex40,hm⟩:=ob hm
 refine qr H (by kernel_rfl) (by kernel_rfl) ?_
 refine qb [0] F rfl fun a F=>qv F rfl (fun u hu=>y_idxA F arr24 rfl rfl rfl ex39 hl1) fun a F=>qv F rfl (fun u hu=>y_load1 F plain5 rfl rfl (row_ix ((hu.blk 1 rfl).row) (bcells_idx ex39))) fun a F=>qb [0] F rfl fun a F=>qv F rfl (fun u hu=>y_idxA F arr24 rfl rfl rfl ex40 hl2) fun a F=>qv F rfl (fun u hu=>y_load1 F plain5 rfl rfl (row_ix ((hu.blk 0 rfl).row) (bcells_idx ex40))) fun a F=>qb [0] F rfl fun a F=>?_
 refine q_nil fun w H=>?_
 refine ct (cNm F rfl hm (fun hg41 hm=>?_) (fun hg41 hm=>?_))
 refine sq ?_
 obtain ⟨x42,ex42,hm⟩:=ob hm
 obtain ⟨x43,ex43,hm⟩:=ob hm
 refine qr H (by kernel_rfl) (by kernel_rfl) ?_
 refine qb [0] F rfl fun a F=>qv F rfl (fun u hu=>y_idxA F arr24 rfl rfl rfl ex42 hl1) fun a F=>qv F rfl (fun u hu=>y_load1 F plain5 rfl rfl (row_ix ((hu.blk 1 rfl).row) (bcells_idx ex42))) fun a F=>qb [0] F rfl fun a F=>qv F rfl (fun u hu=>y_idxA F arr24 rfl rfl rfl ex43 hl2) fun a F=>qv F rfl (fun u hu=>y_load1 F plain5 rfl rfl (row_ix ((hu.blk 0 rfl).row) (bcells_idx ex43))) fun a F=>qb [0,0] F rfl fun a F=>?_
 refine q_nil fun w H=>?_
 refine ct (wr (br (tr (tr ?_))));cases hm;refine ⟨_,rfl,?_⟩;rintro rfl
 refine br (tr ?_)
 replace hm:=elimR hm24
 refine tr ?_
 cases hm
 refine x_ret1 F rfl rfl ?_
 exact ⟨_,rfl,rfl,(H.pm 2 [] rfl:)⟩
 refine sk (bn (ct (rl (bb [0,0,0] F H rfl fun a F=>?_))))
 refine lz (ct ?_);cases hm
 exact ⟨_,rfl,⟨F.sl rfl,H⟩⟩
 refine ex (cx (cx ?_));cases hm;refine ⟨_,rfl,?_⟩;rintro rfl
 refine ch (ct ?_)
 exact ⟨_,rfl,F.cut _ trivial,H⟩
 refine ct (sb [0] F H rfl fun a F=>nl (wr ?_))
 cases hm
 refine x_ret1 F rfl rfl ?_
 exact ⟨_,rfl,rfl,(H.pm 2 [] rfl:)⟩
theorem elem49:ElemT Tryz.prog 49 24 32 32 (.agg [.int .u8 0,.int .u8 0,.int .u8 0,.int .u8 0,.int .u8 0,.int .u8 0,.int .u8 0,.int .u8 0,.int .u8 0,.int .u8 0,.int .u8 0,.int .u8 0,.int .u8 0,.int .u8 0,.int .u8 0,.int .u8 0,.int .u8 0,.int .u8 0,.int .u8 0,.int .u8 0,.int .u8 0,.int .u8 0,.int .u8 0,.int .u8 0,.int .u8 0,.int .u8 0,.int .u8 0,.int .u8 0,.int .u8 0,.int .u8 0,.int .u8 0,.int .u8 0].toArray):=⟨Tryz.underlying49,by kernel_rfl,by kernel_rfl,by decide⟩
theorem ent100:En Tryz.prog 100:=enters Tryz.func100 (by kernel_rfl) rfl
theorem w_m_triremeref05_Sorted {x0_:List (List UInt8)} {p1:Option Addr} {c1:Nat} {w0 w:World} {l:List HP}  {r:(List (List UInt8))} (hm:m_triremeref05_Sorted x0_=some r) (H:St w0 w (HP.sl (rBytesN 32) p1 c1 x0_::l)) :
  Calls Tryz.prog 74 [.slice p1 (x0_).length c1].toArray w (fun e w'=>∃ v,e=.returned v∧∃ (p2:Option Addr) (c2:Nat),v=.slice p2 (r).length c2∧St w0 w' (HP.sl (rBytesN 32) p2 c2 r::l)):=by
 unfold m_triremeref05_Sorted at hm
 refine x_enter Tryz.func74 rfl rfl rfl ?_
 intro a F
 refine sb [0] F H rfl fun a F=>nl (sr (s_build0O (R:=(rBytesN 32)) wkP F rfl rfl rfl elem49 rfl H fun b3 w a H F=>bb [0] F H rfl fun a F=>?_))
 replace H:=H.nf 2 rfl
 refine nl (sq (sb [0] F H rfl fun a F=>?_))
 refine nl (xm2 2 [] [] F H hm rfl rfl (fun r1769 (p1770:Option Addr) (c1770:Nat) z=>(3,.slice p1770 (r1769).length c1770)::z) (fun r1769 p1770 c1770 z=>HP.ow (rBytesN 32) 24 p1770 c1770 r1769::z) (fun r1769 hm=>?_) (fun r1769 a w hm p1770 c1770 F H=>?_))
 refine bl (xl2 2 [0] [1] F H hm rfl rfl (fun (s2947:(List (List UInt8))×Int) (p2948:Option Addr) (c2948:Nat) z=>(3,.slice p2948 (s2947.1).length c2948)::(4,.int .i64 (s2947.2))::z) (fun s2947 p2948 c2948 z=>HP.ow (rBytesN 32) 24 p2948 c2948 s2947.1::z) ⟨(some ⟨b3,0,none⟩),0,F.sl rfl,H⟩ (fun s2947 a w o p2948 c2948 F H hm=>sq (sr (bk [0,0,0,0] F H rfl ⟨⟨_,Tryz.underlying49⟩,trivial⟩ fun a F=>?_))))
 refine nl (cPm F rfl hm (fun hg2949 hm=>?_) (fun hg2949 hm=>?_))
 refine sk (ct (sq (xm2 2 [0,4] [1] F H hm rfl rfl (fun r3242 (p3243:Option Addr) (c3243:Nat) z=>(3,.slice p3243 (r3242).length c3243)::z) (fun r3242 p3243 c3243 z=>HP.ow (rBytesN 32) 24 p3243 c3243 r3242::z) (fun r3242 hm=>?_) (fun r3242 a w hm p3243 c3243 F H=>?_))))
 refine bl (sb [0] F H rfl fun a F=>?_)
 refine nl (sq (xm0 2 [0,3,4] [0,1] F H hm rfl rfl (fun r3278 z=>(5,.int .i64 (r3278))::z) (fun r3278 z=>z) (fun r3278 hm=>?_) (fun r3278 a w hm F H=>?_)))
 refine bl (xl0 2 [0,3,4] [0,1] F H hm rfl rfl (fun (s3301:Int) z=>(5,.int .i64 (s3301))::z) (fun s3301 z=>z) ⟨F.sl rfl,H⟩ (fun s3301 a w o F H hm=>sq (sq ?_)))
 by_cases hg3302:s3301<((s2947.1).length:Int)
 replace hm:=ifT hg3302 hm
 obtain ⟨x3303,ex3303,hm⟩:=ob hm
 obtain ⟨b3304,hp3304⟩:=H.owP 0 rfl (idxO_some ex3303).2
 obtain ⟨css3305,H⟩:=H.oxOpen 0 rfl
 obtain ⟨cs3305,hcs3305,hcl3305,H⟩:=H.oxEl 0 rfl (idxO_some ex3303).2
 have G:=F;obtain ⟨rfl,hl3306⟩:=H.rcBN 0 rfl;have F:=G;clear G
 replace H:=H.dp 0 rfl
 obtain ⟨x3307,ex3307,hm⟩:=ob hm
 obtain ⟨b3308,o3308,hp3308,cs3309,H⟩:=H.slE 1 rfl ex3307
 have G:=F;obtain ⟨rfl,hl3310⟩:=H.rcBN 1 rfl;have F:=G;clear G
 replace H:=H.dp 1 rfl
 obtain ⟨x3311,ex3311,hm⟩:=ob hm
 refine qr H (by kernel_rfl) (by kernel_rfl) ?_
 refine qbk (List.replicate 5 0) F rfl ⟨⟨_,Tryz.underlying49⟩,trivial⟩ fun a F=>?_
 replace F:=F.bT 19 hg3302 rfl
 refine qb [0,0] F rfl fun a F=>?_
 refine qg_on F rfl rfl rfl rfl ?_
 refine qv F rfl (fun u hu=>y_idxS F elem49 rfl rfl rfl hp3304 ex3303) fun a F=>?_
 refine qg_on F rfl rfl rfl rfl ?_
 refine qv F rfl (fun u hu=>y_loadA F agg24 rfl rfl (hu.oxRow 1 rfl hp3304 hcs3305 hcl3305) ((bcells_length _).trans hl3306)) fun a F=>qb [0,0] F rfl fun a F=>?_
 refine qg_on F rfl rfl rfl rfl ?_
 refine qv F rfl (fun u hu=>y_idxS F elem49 rfl rfl rfl hp3308 ex3307) fun a F=>qbk [999] F rfl ⟨rfl,(aggn agg24 ((bcells_length _).trans hl3310)),trivial⟩ fun a F=>?_
 refine qg_on F rfl rfl rfl rfl ?_
 refine q_call F rfl rfl rfl (fun u hu=>y_call F rfl rfl ent100) (fun u hu=>(w_m_triremeref05_Less hl3306 hl3310 ex3311 hu).mono fun e u2 he=>by obtain ⟨v,rfl,rfl,H⟩:=he;exact ⟨rfl,H⟩) fun a F=>?_
 refine qb [0] F rfl fun a F=>?_
 refine q_nil fun w H=>?_
 replace H:=H.oxShut 1 rfl
 refine ct (cB F rfl (fun hg3312=>?_) (fun hg3312=>?_))
 replace hm:=ifT hg3312 hm
 refine sk (ct (bl (rl (bb [0,0,0] F H rfl fun a F=>?_))))
 replace H:=H.nf 3 rfl
 refine lz (bn (ct ?_));cases hm
 exact ⟨_,rfl,⟨F.sl rfl,(H.pm 3 [1,2] rfl:)⟩⟩
 replace hm:=ifF (nT hg3312) hm
 refine ex (cx (cx ?_));cases hm;refine ⟨_,rfl,?_⟩;rintro rfl
 refine ch (ct ?_)
 exact ⟨F.sl rfl,(H.pm 3 [1,2] rfl:)⟩
 replace hm:=ifF hg3302 hm
 refine qr H (by kernel_rfl) (by kernel_rfl) ?_
 refine qbk (List.replicate 5 0) F rfl ⟨⟨_,Tryz.underlying49⟩,trivial⟩ fun a F=>?_
 replace F:=F.bF 19 hg3302 rfl
 refine qb (List.replicate 10 0) F rfl fun a F=>?_
 refine q_nil fun w H=>?_
 refine ct (cF F rfl ?_)
 refine ex (cx (cx ?_));cases hm;refine ⟨_,rfl,?_⟩;rintro rfl
 refine ch (ct ?_)
 exact ⟨F.sl rfl,H⟩
 refine ct (sq (sq ?_))
 by_cases hg3313:r3278<((s2947.1).length:Int)
 replace hm:=ifT hg3313 hm
 obtain ⟨x3314,ex3314,hm⟩:=ob hm
 obtain ⟨b3315,hp3315⟩:=H.owP 0 rfl (idxO_some ex3314).2
 obtain ⟨css3316,H⟩:=H.oxOpen 0 rfl
 obtain ⟨cs3316,hcs3316,hcl3316,H⟩:=H.oxEl 0 rfl (idxO_some ex3314).2
 have G:=F;obtain ⟨rfl,hl3317⟩:=H.rcBN 0 rfl;have F:=G;clear G
 replace H:=H.dp 0 rfl
 obtain ⟨x3318,ex3318,hm⟩:=ob hm
 obtain ⟨b3319,o3319,hp3319,cs3320,H⟩:=H.slE 1 rfl ex3318
 have G:=F;obtain ⟨rfl,hl3321⟩:=H.rcBN 1 rfl;have F:=G;clear G
 replace H:=H.dp 1 rfl
 refine qr H (by kernel_rfl) (by kernel_rfl) ?_
 refine qbk (List.replicate 5 0) F rfl ⟨⟨_,Tryz.underlying49⟩,trivial⟩ fun a F=>?_
 replace F:=F.bT 36 hg3313 rfl
 refine qb [0,0] F rfl fun a F=>?_
 refine qg_on F rfl rfl rfl rfl ?_
 refine qv F rfl (fun u hu=>y_idxS F elem49 rfl rfl rfl hp3315 ex3314) fun a F=>?_
 refine qg_on F rfl rfl rfl rfl ?_
 refine qv F rfl (fun u hu=>y_loadA F agg24 rfl rfl (hu.oxRow 1 rfl hp3315 hcs3316 hcl3316) ((bcells_length _).trans hl3317)) fun a F=>qb [0,0] F rfl fun a F=>?_
 refine qg_on F rfl rfl rfl rfl ?_
 refine qv F rfl (fun u hu=>y_idxS F elem49 rfl rfl rfl hp3319 ex3318) fun a F=>qbk [999] F rfl ⟨rfl,(aggn agg24 ((bcells_length _).trans hl3321)),trivial⟩ fun a F=>?_
 refine qg_on F rfl rfl rfl rfl ?_
 refine qv F rfl (fun u hu=>y_eqlA F key24 rfl rfl rfl hl3317 hl3321) fun a F=>qb [0] F rfl fun a F=>?_
 refine q_nil fun w H=>?_
 replace H:=H.oxShut 1 rfl
 refine ct (cPm F rfl hm (fun hg3322 hm=>?_) (fun hg3322 hm=>?_))
 refine ex (cx (ch ?_))
 cases hm
 refine ct ?_
 exact ⟨p2948,c2948,F.sl rfl,(H.pm 3 [1,2] rfl:)⟩
 refine sk (ct (sb [0,0,0] F H rfl fun a F=>?_))
 obtain ⟨x3323,ex3323,hm⟩:=ob hm
 obtain ⟨cs3324,H⟩:=H.slF 2 rfl hp3319 ex3323
 have G:=F;obtain ⟨rfl,hl3325⟩:=H.rcBN 1 rfl;have F:=G;clear G
 replace H:=H.dp 1 rfl
 refine sv F rfl (y_idxS F elem49 rfl rfl rfl hp3319 ex3323) fun a F=>bk [999] F H rfl ⟨rfl,(aggn agg24 ((bcells_length _).trans hl3325)),trivial⟩ fun a F=>?_
 refine s_build1 wkP F rfl rfl rfl agg24 elem49 rfl rfl ((bcells_length _).trans hl3325) (by decide) H fun b3326 w a H F=>?_
 replace H:=H.blkOw1 (R:=(rBytesN 32)) (x:=x3323) (fun gg=>⟨rfl,hl3325⟩)
 replace H:=H.frz 0 rfl
 obtain ⟨x3328,ex3328,hm⟩:=ob hm
 refine s_app wkP F rfl rfl rfl rfl rfl rfl elem49 rfl ex3328 H 3 0 rfl rfl fun p3327 c3327 w a H F=>?_
 refine bb [0] F H rfl fun a F=>?_
 replace H:=H.nf 5 rfl
 refine nl (sr (bk [0,0,0,0] F H rfl ⟨⟨_,Tryz.underlying49⟩,trivial⟩ fun a F=>?_))
 refine nl (xm2 5 [0,4] [1,2,4] F H hm rfl rfl (fun r3378 (p3379:Option Addr) (c3379:Nat) z=>(3,.slice p3379 (r3378).length c3379)::z) (fun r3378 p3379 c3379 z=>HP.ow (rBytesN 32) 24 p3379 c3379 r3378::z) (fun r3378 hm=>?_) (fun r3378 a w hm p3379 c3379 F H=>?_))
 refine bl (xl2 5 [0,4,5] [1,2,4] F H hm rfl rfl (fun (s3412:(List (List UInt8))×Int) (p3413:Option Addr) (c3413:Nat) z=>(3,.slice p3413 (s3412.1).length c3413)::(6,.int .i64 (s3412.2))::z) (fun s3412 p3413 c3413 z=>HP.ow (rBytesN 32) 24 p3413 c3413 s3412.1::z) ⟨p3327,c3327,F.sl rfl,(H.pm 5 [3,1,2,4] rfl:)⟩ (fun s3412 a w o p3413 c3413 F H hm=>sq (sb [0,0,0] F H rfl fun a F=>?_)))
 refine nl (cPm F rfl hm (fun hg3414 hm=>?_) (fun hg3414 hm=>?_))
 refine sk (ct (sq (bl (sb [0,0] F H rfl fun a F=>?_))))
 obtain ⟨x3415,ex3415,hm⟩:=ob hm
 obtain ⟨b3416,hp3416⟩:=H.owP 0 rfl (idxO_some ex3415).2
 obtain ⟨css3417,H⟩:=H.oxOpen 0 rfl
 obtain ⟨cs3417,hcs3417,hcl3417,H⟩:=H.oxEl 0 rfl (idxO_some ex3415).2
 have G:=F;obtain ⟨rfl,hl3418⟩:=H.rcBN 0 rfl;have F:=G;clear G
 replace H:=H.dp 0 rfl
 refine sv F rfl (y_idxS F elem49 rfl rfl rfl hp3416 ex3415) fun a F=>sv F rfl (y_loadA F agg24 rfl rfl (H.oxRow 0 rfl hp3416 hcs3417 hcl3417) ((bcells_length _).trans hl3418)) fun a F=>s_allocA wkP F rfl rfl rfl agz24 rfl H fun b3419 w a H F=>s_storeA wkP F rfl rfl agg24 rfl rfl rfl H 0 rfl ((bcells_length _).trans hl3418) ((bcells_length _).trans (List.length_replicate (n:=32))) (bcells_flat _) fun w H=>?_
 replace H:=H.nf 5 rfl
 refine nl ?_
 replace H:=H.oxShut 1 rfl
 refine sb (List.replicate 5 0) F H rfl fun a F=>?_
 obtain ⟨x3420,ex3420,hm⟩:=ob hm
 obtain ⟨css3421,H⟩:=H.oxOpen 1 rfl
 obtain ⟨cs3421,hcs3421,hcl3421,H⟩:=H.oxEl 1 rfl (idxO_some ex3420).2
 have G:=F;obtain ⟨rfl,hl3422⟩:=H.rcBN 0 rfl;have F:=G;clear G
 replace H:=H.dp 0 rfl
 refine sv F rfl (y_idxS F elem49 rfl rfl rfl hp3416 ex3420) fun a F=>sv F rfl (y_loadA F agg24 rfl rfl (H.oxRow 1 rfl hp3416 hcs3421 hcl3421) ((bcells_length _).trans hl3422)) fun a F=>?_
 obtain ⟨x3423,ex3423,hm⟩:=ob hm
 obtain ⟨cs3424,hcs3424,hcl3424,H⟩:=H.oxEl 1 rfl (idxO_some ex3423).2
 have G:=F;obtain ⟨rfl,hl3425⟩:=H.rcBN 0 rfl;have F:=G;clear G
 replace H:=H.dp 0 rfl
 refine sv F rfl (y_idxS F elem49 rfl rfl rfl hp3416 ex3423) fun a F=>?_
 replace H:=H.oxShut 1 rfl
 refine s_owSetA wkP F rfl rfl agg24 rfl rfl rfl rfl H 1 rfl hp3416 ex3423 (zz:=x3420) (fun gg=>⟨rfl,hl3422⟩) (bcells_flat _) ((bcells_length _).trans hl3422) fun w H=>?_
 replace H:St w0 w (HP.blk b3419 (bcells x3415) 24::HP.ow (rBytesN 32) 24 p3413 c3413 ((s3412.1).set (s3412.2:Int).toNat x3420)::HP.row b3319 (o3319+(s2947.2:Int).toNat * 32) (bcells x3323)::HP.row b3319 (o3319+(s2947.2:Int).toNat * 32) (bcells x3318)::HP.sl (rBytesN 32) p1 c1 x0_::l):=(by have h:=H;first | exact h | (simp only [List.length_set] at h ⊢;exact h))
 replace F:=F.bool (k:=3) (u:=.slice p3413 ((s3412.1).set (s3412.2:Int).toNat x3420).length c3413) rfl (by simp only [List.length_set])
 replace F:=F.bool (k:=62) (u:=.slice p3413 ((s3412.1).set (s3412.2:Int).toNat x3420).length c3413) rfl (by simp only [List.length_set])
 replace F:=F.bool (k:=66) (u:=.slice p3413 ((s3412.1).set (s3412.2:Int).toNat x3420).length c3413) rfl (by simp only [List.length_set])
 replace F:=F.bool (k:=68) (u:=.slice p3413 ((s3412.1).set (s3412.2:Int).toNat x3420).length c3413) rfl (by simp only [List.length_set])
 refine nl (rl (bk [0,0,0,999] F H rfl ⟨rfl,(aggn agg24 ((bcells_length _).trans hl3418)),trivial⟩ fun a F=>?_))
 obtain ⟨x3426,ex3426,hm⟩:=ob hm
 obtain ⟨css3427,H⟩:=H.oxOpen 1 rfl
 obtain ⟨cs3427,hcs3427,hcl3427,H⟩:=H.oxEl 1 rfl (idxO_some ex3426).2
 have G:=F;obtain ⟨rfl,hl3428⟩:=H.rcBN 0 rfl;have F:=G;clear G
 replace H:=H.dp 0 rfl
 refine sv F rfl (y_idxS F elem49 rfl rfl rfl hp3416 ex3426) fun a F=>?_
 replace H:=H.oxShut 1 rfl
 refine s_owSetA wkP F rfl rfl agg24 rfl rfl rfl rfl H 1 rfl hp3416 ex3426 (zz:=x3415) (fun gg=>⟨rfl,hl3418⟩) (bcells_flat _) ((bcells_length _).trans hl3418) fun w H=>?_
 replace H:St w0 w (HP.blk b3419 (bcells x3415) 24::HP.ow (rBytesN 32) 24 p3413 c3413 (((s3412.1).set (s3412.2:Int).toNat x3420).set (IntKind.i64.wrap (s3412.2 - 1):Int).toNat x3415)::HP.row b3319 (o3319+(s2947.2:Int).toNat * 32) (bcells x3323)::HP.row b3319 (o3319+(s2947.2:Int).toNat * 32) (bcells x3318)::HP.sl (rBytesN 32) p1 c1 x0_::l):=(by have h:=H;first | exact h | (simp only [List.length_set] at h ⊢;exact h))
 replace F:=F.bool (k:=3) (u:=.slice p3413 (((s3412.1).set (s3412.2:Int).toNat x3420).set (IntKind.i64.wrap (s3412.2 - 1):Int).toNat x3415).length c3413) rfl (by simp only [List.length_set])
 replace F:=F.bool (k:=62) (u:=.slice p3413 (((s3412.1).set (s3412.2:Int).toNat x3420).set (IntKind.i64.wrap (s3412.2 - 1):Int).toNat x3415).length c3413) rfl (by simp only [List.length_set])
 replace F:=F.bool (k:=66) (u:=.slice p3413 (((s3412.1).set (s3412.2:Int).toNat x3420).set (IntKind.i64.wrap (s3412.2 - 1):Int).toNat x3415).length c3413) rfl (by simp only [List.length_set])
 replace F:=F.bool (k:=68) (u:=.slice p3413 (((s3412.1).set (s3412.2:Int).toNat x3420).set (IntKind.i64.wrap (s3412.2 - 1):Int).toNat x3415).length c3413) rfl (by simp only [List.length_set])
 replace F:=F.bool (k:=74) (u:=.slice p3413 (((s3412.1).set (s3412.2:Int).toNat x3420).set (IntKind.i64.wrap (s3412.2 - 1):Int).toNat x3415).length c3413) rfl (by simp only [List.length_set])
 refine lz (bn (ct (rl (bb [0,0,0] F H rfl fun a F=>?_))))
 refine lz (ct ?_);cases hm
 exact ⟨_,rfl,⟨p3413,c3413,F.sl rfl,(H.pm 5 [1,2,3,4] rfl:)⟩⟩
 refine ex (cx (cx ?_));cases hm;refine ⟨_,rfl,?_⟩;rintro rfl
 refine ch (ct ?_)
 exact ⟨p3413,c3413,F.sl rfl,H⟩
 refine bn ?_
 cases hm
 refine ct ?_
 exact ⟨p3379,c3379,F.sl rfl,(H.pm 4 [0,3] rfl:)⟩
 replace hm:=ifF hg3313 hm
 refine qr H (by kernel_rfl) (by kernel_rfl) ?_
 refine qbk (List.replicate 5 0) F rfl ⟨⟨_,Tryz.underlying49⟩,trivial⟩ fun a F=>?_
 replace F:=F.bF 36 hg3313 rfl
 refine qb (List.replicate 10 0) F rfl fun a F=>?_
 refine q_nil fun w H=>?_
 refine ct (cF F rfl (sk (ct (sb [0,0,0] F H rfl fun a F=>?_))))
 obtain ⟨x3429,ex3429,hm⟩:=ob hm
 obtain ⟨b3430,o3430,hp3430,cs3431,H⟩:=H.slE 1 rfl ex3429
 have G:=F;obtain ⟨rfl,hl3432⟩:=H.rcBN 1 rfl;have F:=G;clear G
 replace H:=H.dp 1 rfl
 refine sv F rfl (y_idxS F elem49 rfl rfl rfl hp3430 ex3429) fun a F=>bk [999] F H rfl ⟨rfl,(aggn agg24 ((bcells_length _).trans hl3432)),trivial⟩ fun a F=>?_
 refine s_build1 wkP F rfl rfl rfl agg24 elem49 rfl rfl ((bcells_length _).trans hl3432) (by decide) H fun b3433 w a H F=>?_
 replace H:=H.blkOw1 (R:=(rBytesN 32)) (x:=x3429) (fun gg=>⟨rfl,hl3432⟩)
 replace H:=H.frz 0 rfl
 obtain ⟨x3435,ex3435,hm⟩:=ob hm
 refine s_app wkP F rfl rfl rfl rfl rfl rfl elem49 rfl ex3435 H 2 0 rfl rfl fun p3434 c3434 w a H F=>?_
 refine bb [0] F H rfl fun a F=>?_
 replace H:=H.nf 4 rfl
 refine nl (sr (bk [0,0,0,0] F H rfl ⟨⟨_,Tryz.underlying49⟩,trivial⟩ fun a F=>?_))
 refine nl (xm2 4 [0,4] [1,3] F H hm rfl rfl (fun r3485 (p3486:Option Addr) (c3486:Nat) z=>(3,.slice p3486 (r3485).length c3486)::z) (fun r3485 p3486 c3486 z=>HP.ow (rBytesN 32) 24 p3486 c3486 r3485::z) (fun r3485 hm=>?_) (fun r3485 a w hm p3486 c3486 F H=>?_))
 refine bl (xl2 4 [0,4,5] [1,3] F H hm rfl rfl (fun (s3519:(List (List UInt8))×Int) (p3520:Option Addr) (c3520:Nat) z=>(3,.slice p3520 (s3519.1).length c3520)::(6,.int .i64 (s3519.2))::z) (fun s3519 p3520 c3520 z=>HP.ow (rBytesN 32) 24 p3520 c3520 s3519.1::z) ⟨p3434,c3434,F.sl rfl,(H.pm 4 [2,1,3] rfl:)⟩ (fun s3519 a w o p3520 c3520 F H hm=>sq (sb [0,0,0] F H rfl fun a F=>?_)))
 refine nl (cPm F rfl hm (fun hg3521 hm=>?_) (fun hg3521 hm=>?_))
 refine sk (ct (sq (bl (sb [0,0] F H rfl fun a F=>?_))))
 obtain ⟨x3522,ex3522,hm⟩:=ob hm
 obtain ⟨b3523,hp3523⟩:=H.owP 0 rfl (idxO_some ex3522).2
 obtain ⟨css3524,H⟩:=H.oxOpen 0 rfl
 obtain ⟨cs3524,hcs3524,hcl3524,H⟩:=H.oxEl 0 rfl (idxO_some ex3522).2
 have G:=F;obtain ⟨rfl,hl3525⟩:=H.rcBN 0 rfl;have F:=G;clear G
 replace H:=H.dp 0 rfl
 refine sv F rfl (y_idxS F elem49 rfl rfl rfl hp3523 ex3522) fun a F=>sv F rfl (y_loadA F agg24 rfl rfl (H.oxRow 0 rfl hp3523 hcs3524 hcl3524) ((bcells_length _).trans hl3525)) fun a F=>s_allocA wkP F rfl rfl rfl agz24 rfl H fun b3526 w a H F=>s_storeA wkP F rfl rfl agg24 rfl rfl rfl H 0 rfl ((bcells_length _).trans hl3525) ((bcells_length _).trans (List.length_replicate (n:=32))) (bcells_flat _) fun w H=>?_
 replace H:=H.nf 4 rfl
 refine nl ?_
 replace H:=H.oxShut 1 rfl
 refine sb (List.replicate 5 0) F H rfl fun a F=>?_
 obtain ⟨x3527,ex3527,hm⟩:=ob hm
 obtain ⟨css3528,H⟩:=H.oxOpen 1 rfl
 obtain ⟨cs3528,hcs3528,hcl3528,H⟩:=H.oxEl 1 rfl (idxO_some ex3527).2
 have G:=F;obtain ⟨rfl,hl3529⟩:=H.rcBN 0 rfl;have F:=G;clear G
 replace H:=H.dp 0 rfl
 refine sv F rfl (y_idxS F elem49 rfl rfl rfl hp3523 ex3527) fun a F=>sv F rfl (y_loadA F agg24 rfl rfl (H.oxRow 1 rfl hp3523 hcs3528 hcl3528) ((bcells_length _).trans hl3529)) fun a F=>?_
 obtain ⟨x3530,ex3530,hm⟩:=ob hm
 obtain ⟨cs3531,hcs3531,hcl3531,H⟩:=H.oxEl 1 rfl (idxO_some ex3530).2
 have G:=F;obtain ⟨rfl,hl3532⟩:=H.rcBN 0 rfl;have F:=G;clear G
 replace H:=H.dp 0 rfl
 refine sv F rfl (y_idxS F elem49 rfl rfl rfl hp3523 ex3530) fun a F=>?_
 replace H:=H.oxShut 1 rfl
 refine s_owSetA wkP F rfl rfl agg24 rfl rfl rfl rfl H 1 rfl hp3523 ex3530 (zz:=x3527) (fun gg=>⟨rfl,hl3529⟩) (bcells_flat _) ((bcells_length _).trans hl3529) fun w H=>?_
 replace H:St w0 w (HP.blk b3526 (bcells x3522) 24::HP.ow (rBytesN 32) 24 p3520 c3520 ((s3519.1).set (s3519.2:Int).toNat x3527)::HP.row b3430 (o3430+(s2947.2:Int).toNat * 32) (bcells x3429)::HP.sl (rBytesN 32) p1 c1 x0_::l):=(by have h:=H;first | exact h | (simp only [List.length_set] at h ⊢;exact h))
 replace F:=F.bool (k:=3) (u:=.slice p3520 ((s3519.1).set (s3519.2:Int).toNat x3527).length c3520) rfl (by simp only [List.length_set])
 replace F:=F.bool (k:=62) (u:=.slice p3520 ((s3519.1).set (s3519.2:Int).toNat x3527).length c3520) rfl (by simp only [List.length_set])
 replace F:=F.bool (k:=66) (u:=.slice p3520 ((s3519.1).set (s3519.2:Int).toNat x3527).length c3520) rfl (by simp only [List.length_set])
 replace F:=F.bool (k:=68) (u:=.slice p3520 ((s3519.1).set (s3519.2:Int).toNat x3527).length c3520) rfl (by simp only [List.length_set])
 refine nl (rl (bk [0,0,0,999] F H rfl ⟨rfl,(aggn agg24 ((bcells_length _).trans hl3525)),trivial⟩ fun a F=>?_))
 obtain ⟨x3533,ex3533,hm⟩:=ob hm
 obtain ⟨css3534,H⟩:=H.oxOpen 1 rfl
 obtain ⟨cs3534,hcs3534,hcl3534,H⟩:=H.oxEl 1 rfl (idxO_some ex3533).2
 have G:=F;obtain ⟨rfl,hl3535⟩:=H.rcBN 0 rfl;have F:=G;clear G
 replace H:=H.dp 0 rfl
 refine sv F rfl (y_idxS F elem49 rfl rfl rfl hp3523 ex3533) fun a F=>?_
 replace H:=H.oxShut 1 rfl
 refine s_owSetA wkP F rfl rfl agg24 rfl rfl rfl rfl H 1 rfl hp3523 ex3533 (zz:=x3522) (fun gg=>⟨rfl,hl3525⟩) (bcells_flat _) ((bcells_length _).trans hl3525) fun w H=>?_
 replace H:St w0 w (HP.blk b3526 (bcells x3522) 24::HP.ow (rBytesN 32) 24 p3520 c3520 (((s3519.1).set (s3519.2:Int).toNat x3527).set (IntKind.i64.wrap (s3519.2 - 1):Int).toNat x3522)::HP.row b3430 (o3430+(s2947.2:Int).toNat * 32) (bcells x3429)::HP.sl (rBytesN 32) p1 c1 x0_::l):=(by have h:=H;first | exact h | (simp only [List.length_set] at h ⊢;exact h))
 replace F:=F.bool (k:=3) (u:=.slice p3520 (((s3519.1).set (s3519.2:Int).toNat x3527).set (IntKind.i64.wrap (s3519.2 - 1):Int).toNat x3522).length c3520) rfl (by simp only [List.length_set])
 replace F:=F.bool (k:=62) (u:=.slice p3520 (((s3519.1).set (s3519.2:Int).toNat x3527).set (IntKind.i64.wrap (s3519.2 - 1):Int).toNat x3522).length c3520) rfl (by simp only [List.length_set])
 replace F:=F.bool (k:=66) (u:=.slice p3520 (((s3519.1).set (s3519.2:Int).toNat x3527).set (IntKind.i64.wrap (s3519.2 - 1):Int).toNat x3522).length c3520) rfl (by simp only [List.length_set])
 replace F:=F.bool (k:=68) (u:=.slice p3520 (((s3519.1).set (s3519.2:Int).toNat x3527).set (IntKind.i64.wrap (s3519.2 - 1):Int).toNat x3522).length c3520) rfl (by simp only [List.length_set])
 replace F:=F.bool (k:=74) (u:=.slice p3520 (((s3519.1).set (s3519.2:Int).toNat x3527).set (IntKind.i64.wrap (s3519.2 - 1):Int).toNat x3522).length c3520) rfl (by simp only [List.length_set])
 refine lz (bn (ct (rl (bb [0,0,0] F H rfl fun a F=>?_))))
 refine lz (ct ?_);cases hm
 exact ⟨_,rfl,⟨p3520,c3520,F.sl rfl,(H.pm 4 [1,2,3] rfl:)⟩⟩
 refine ex (cx (cx ?_));cases hm;refine ⟨_,rfl,?_⟩;rintro rfl
 refine ch (ct ?_)
 exact ⟨p3520,c3520,F.sl rfl,H⟩
 refine bn ?_
 cases hm
 refine ct ?_
 exact ⟨p3486,c3486,F.sl rfl,(H.pm 3 [0,2] rfl:)⟩
 refine ct (rl (bb [0,0,0] F H rfl fun a F=>?_))
 refine lz (ct ?_);cases hm
 exact ⟨_,rfl,⟨p3243,c3243,F.sl rfl,H⟩⟩
 refine ex (cx (cx ?_));cases hm;refine ⟨_,rfl,?_⟩;rintro rfl
 refine ch (ct ?_)
 exact ⟨p2948,c2948,F.sl rfl,(H.pm 2 [0] rfl:)⟩
 refine ct (sb [0,0] F H rfl fun a F=>nl (wr ?_))
 replace H:=H.frz 0 rfl
 cases hm
 refine x_ret1 F rfl rfl ?_
 exact ⟨_,rfl,p1770,c1770,rfl,H⟩
theorem w_m_triremeref06_size {x0_:T_api_Pair} {cs1:List Value} {w0 w:World} {l:List HP}  {r:Int} (hm:m_triremeref06_size x0_=some r) (H:St w0 w (HP.rc R_api_Pair cs1 x0_::l)) :
  Calls Tryz.prog 155 [.agg cs1.toArray].toArray w (fun e w'=>∃ v,e=.returned v∧v=.int .i64 (r)∧St w0 w' (l)):=by
 unfold m_triremeref06_size at hm
 refine x_enter Tryz.func155 rfl rfl rfl ?_
 intro a F
 refine sr (s_boxA wkP F rfl rfl rfl rfl rfl H fun b2 w a H F=>bb [0] F H rfl fun a F=>?_)
 replace H:=H.nf 2 rfl
 refine nl (sr (bk [0] F H rfl ⟨fld129_0,trivial⟩ fun a F=>?_))
 have G:=F;replace H:=rc_api_Pair (H.pk 1 rfl);obtain ⟨p3,c4,p5,c6,rfl,J⟩:=H;have H:=J;have F:=G;clear G J
 refine bk [2000,0,0,1,2001,0,0,0] F H rfl ⟨rfl,plain25,⟨_,Tryz.underlying25⟩,fld129_1,rfl,plain25,⟨_,Tryz.underlying25⟩,trivial⟩ fun a F=>nl (wr ?_)
 cases hm
 refine x_ret1 F rfl rfl ?_
 exact ⟨_,rfl,rfl,(H.pm 3 [] rfl:)⟩
theorem w_m_triremeref06_Mark {x0_:List UInt8} {x1_:Int} {p1:Option Addr} {c1:Nat} {w0 w:World} {l:List HP}  {r:Bool} (hm:m_triremeref06_Mark x0_ x1_=some r) (H:St w0 w (HP.sl rByte p1 c1 x0_::l)) :
  Calls Tryz.prog 156 [.slice p1 (x0_).length c1,.int .i64 (x1_)].toArray w (fun e w'=>∃ v,e=.returned v∧v=.bool (r)∧St w0 w' (l)):=by
 unfold m_triremeref06_Mark at hm
 refine x_enter Tryz.func156 rfl rfl rfl ?_
 intro a F
 refine sb [0] F H rfl fun a F=>nl (sq (sb [0,0,0] F H rfl fun a F=>?_))
 rcases spP 10 F rfl hm with ⟨hg2,hm,F⟩ | ⟨hg2,hm,F⟩
 refine bb [0,0,0] F H rfl fun a F=>nl (cT F rfl (sb [0] F H rfl fun a F=>nl (wr (tr ?_))))
 cases hm
 refine x_ret1 F rfl rfl ?_
 exact ⟨_,rfl,rfl,(H.pm 1 [] rfl:)⟩
 refine bb [0,0,0] F H rfl fun a F=>?_
 refine nl (cPm F rfl hm (fun hg3 hm=>?_) (fun hg3 hm=>?_))
 refine sb [0] F H rfl fun a F=>nl (wr (tr ?_))
 cases hm
 refine x_ret1 F rfl rfl ?_
 exact ⟨_,rfl,rfl,(H.pm 1 [] rfl:)⟩
 refine sk (ct (sb [0] F H rfl fun a F=>nl (sq (sb [0] F H rfl fun a F=>?_))))
 refine nl (xm0 1 [1] [] F H hm rfl rfl (fun r20 z=>(5,.int .u64 (r20))::z) (fun r20 z=>z) (fun r20 hm=>?_) (fun r20 a w hm F H=>?_))
 refine bl (xl0 1 [0,1] [0] F H hm rfl rfl (fun (s31:Int×Int) z=>(5,.int .u64 (s31.1))::(6,.int .i64 (s31.2))::z) (fun s31 z=>z) ⟨F.sl rfl,H⟩ (fun s31 a w o F H hm=>sq (sr (bk [0,0,0,0] F H rfl ⟨⟨_,Tryz.underlying25⟩,trivial⟩ fun a F=>?_))))
 refine nl (cPm F rfl hm (fun hg32 hm=>?_) (fun hg32 hm=>?_))
 refine sk (ct (sq (bl (rl (bb [0,0,0] F H rfl fun a F=>?_)))))
 obtain ⟨x33,ex33,hm⟩:=ob hm
 obtain ⟨b34,o34,hp34,cs35,H⟩:=H.slE 0 rfl ex33
 obtain rfl:=H.rcB 1 rfl
 replace H:=H.dp 1 rfl
 refine sv F rfl (y_idxS F elem25 rfl rfl rfl hp34 ex33) fun a F=>bk [0,2,0,0] F H rfl ⟨rfl,plain5,Tryz.underlying5,Tryz.underlying22,trivial⟩ fun a F=>?_
 obtain ⟨x36,ex36,hm⟩:=ob hm
 refine sv F rfl (i_rem F rfl rfl rfl ex36) fun a F=>bb [0] F H rfl fun a F=>lz (bn (ct (rl (bb [0,0,0] F H rfl fun a F=>?_))))
 refine lz (ct ?_);cases hm
 exact ⟨_,rfl,⟨F.sl rfl,(H.pm 2 [1] rfl:)⟩⟩
 refine ex (cx (cx ?_));cases hm;refine ⟨_,rfl,?_⟩;rintro rfl
 refine ch (ct ?_)
 exact ⟨F.sl rfl,(H.pm 1 [] rfl:)⟩
 refine ct (sq (sb [0] F H rfl fun a F=>?_))
 refine nl (xm0 0 [] [] F H hm rfl rfl (fun r44 z=>(5,.int .u64 (r44))::z) (fun r44 z=>z) (fun r44 hm=>?_) (fun r44 a w hm F H=>?_))
 refine bl (xl0 0 [1] [] F H hm rfl rfl (fun (s49:Int×Int) z=>(5,.int .u64 (s49.1))::(7,.int .i64 (s49.2))::z) (fun s49 z=>z) ⟨F.sl rfl,H⟩ (fun s49 a w o F H hm=>sq (sb [0,0,0] F H rfl fun a F=>?_)))
 refine nl (cPm F rfl hm (fun hg50 hm=>?_) (fun hg50 hm=>?_))
 refine sk (ct (sq (bl (rl (bb [0] F H rfl fun a F=>?_)))))
 obtain ⟨x51,ex51,hm⟩:=ob hm
 refine sv F rfl (i_quo F rfl rfl rfl ex51) fun a F=>bb [0] F H rfl fun a F=>lz (bn (ct (rl (bb [0,0,0] F H rfl fun a F=>?_))))
 refine lz (ct ?_);cases hm
 exact ⟨_,rfl,⟨F.sl rfl,H⟩⟩
 refine ex (cx (cx ?_));cases hm;refine ⟨_,rfl,?_⟩;rintro rfl
 refine ch (ct ?_)
 exact ⟨F.sl rfl,H⟩
 refine ct (sb [0] F H rfl fun a F=>?_)
 obtain ⟨x52,ex52,hm⟩:=ob hm
 refine sv F rfl (i_rem F rfl rfl rfl ex52) fun a F=>bb [0,0] F H rfl fun a F=>nl (wr ?_)
 cases hm
 refine x_ret1 F rfl rfl ?_
 exact ⟨_,rfl,rfl,H⟩
theorem ent155:En Tryz.prog 155:=enters Tryz.func155 (by kernel_rfl) rfl
theorem ent156:En Tryz.prog 156:=enters Tryz.func156 (by kernel_rfl) rfl
theorem w_m_triremeref06_Leaves {x0_:List T_api_Pair} {p1:Option Addr} {c1:Nat} {w0 w:World} {l:List HP}  {r:(List Int)} (hm:m_triremeref06_Leaves x0_=some r) (H:St w0 w (HP.sl R_api_Pair p1 c1 x0_::l)) :
  Calls Tryz.prog 125 [.slice p1 (x0_).length c1].toArray w (fun e w'=>∃ v,e=.returned v∧∃ (p2:Option Addr) (c2:Nat),v=.slice p2 (r).length c2∧St w0 w' (HP.sl (rInt .i64) p2 c2 r::l)):=by
 unfold m_triremeref06_Leaves at hm
 refine x_enter Tryz.func125 rfl rfl rfl ?_
 intro a F
 refine sb [0] F H rfl fun a F=>nl (sr (s_build0O (R:=(rInt .i64)) wkP F rfl rfl rfl elem220 rfl H fun b3 w a H F=>bb [0] F H rfl fun a F=>?_))
 replace H:=H.nf 2 rfl
 refine nl (sq (sb [0] F H rfl fun a F=>?_))
 refine nl (xm2 2 [] [] F H hm rfl rfl (fun r287 (p288:Option Addr) (c288:Nat) z=>(3,.slice p288 (r287).length c288)::z) (fun r287 p288 c288 z=>HP.ow (rInt .i64) 3 p288 c288 r287::z) (fun r287 hm=>?_) (fun r287 a w hm p288 c288 F H=>?_))
 refine bl (xl2 2 [0] [1] F H hm rfl rfl (fun (s477:(List Int)×Int) (p478:Option Addr) (c478:Nat) z=>(3,.slice p478 (s477.1).length c478)::(4,.int .i64 (s477.2))::z) (fun s477 p478 c478 z=>HP.ow (rInt .i64) 3 p478 c478 s477.1::z) ⟨(some ⟨b3,0,none⟩),0,F.sl rfl,H⟩ (fun s477 a w o p478 c478 F H hm=>sq (sr (bk [0,0,0,0] F H rfl ⟨⟨_,Tryz.underlying61⟩,trivial⟩ fun a F=>?_))))
 refine nl (cPm F rfl hm (fun hg479 hm=>?_) (fun hg479 hm=>?_))
 refine sk (ct (bl (sb [0,0] F H rfl fun a F=>?_)))
 obtain ⟨x480,ex480,hm⟩:=ob hm
 obtain ⟨b481,o481,hp481,cs482,H⟩:=H.slE 1 rfl ex480
 refine sv F rfl (y_idxS F elem61 rfl rfl rfl hp481 ex480) fun a F=>bk [999] F H rfl ⟨rfl,(aggn agg129 (H.rcLen 1 rfl)),trivial⟩ fun a F=>?_
 obtain ⟨x483,ex483,hm⟩:=ob hm
 refine sd F rfl ent155 (w_m_triremeref06_size ex483 (H.pm 4 [1,0,1,2,3] rfl:):) ?_;rintro _ w a ⟨rfl,H⟩ F
 refine bb [0,0] F H rfl fun a F=>?_
 replace H:=H.nf 4 rfl
 refine nl (sq (xm0 4 [0,3,4,5] [0,2,3] F H hm rfl rfl (fun r526 z=>z) (fun r526 z=>z) (fun r526 hm=>?_) (fun r526 a w hm F H=>?_)))
 refine bl (xl0 4 [0,3,4,5,6] [0,2,3] F H hm rfl rfl (fun (s554:Unit) z=>z) (fun s554 z=>z) ⟨F.sl rfl,(H.pm 4 [0,2,3] rfl:)⟩ (fun s554 a w o F H hm=>sq (sr (bk (List.replicate 7 0) F H rfl ⟨⟨_,Tryz.underlying61⟩,trivial⟩ fun a F=>?_))))
 rcases spP 23 F rfl hm with ⟨hg555,hm,F⟩ | ⟨hg555,hm,F⟩
 refine bb (List.replicate 5 0) F H rfl fun a F=>g_onP F rfl rfl rfl rfl ?_
 obtain ⟨x556,ex556,hm⟩:=ob hm
 obtain ⟨b557,o557,hp557,cs558,H⟩:=H.slE 2 rfl ex556
 refine sv F rfl (y_idxS F elem61 rfl rfl rfl hp557 ex556) fun a F=>bk [0] F H rfl ⟨fld129_0,trivial⟩ fun a F=>g_onP F rfl rfl rfl rfl ?_
 have G:=F;replace H:=rc_api_Pair (H.pk 1 rfl);obtain ⟨p559,c560,p561,c562,rfl,J⟩:=H;have H:=J;have F:=G;clear G J
 refine bk [2000] F H rfl ⟨rfl,plain25,trivial⟩ fun a F=>g_onP F rfl rfl rfl rfl ?_
 obtain ⟨x563,ex563,hm⟩:=ob hm
 refine sd F rfl ent156 (w_m_triremeref06_Mark ex563 (H.pm 6 [0,0,1,2,3,4,5] rfl:):) ?_;rintro _ w a ⟨rfl,H⟩ F
 refine bb [0,0,0] F H rfl fun a F=>?_
 by_cases hg564:(!x563)=true
 replace hm:=ifT hg564 hm
 replace F:=F.vT 35 hg564 rfl
 refine bb (List.replicate 5 0) F H rfl fun a F=>g_onP F rfl rfl rfl rfl ?_
 obtain ⟨x565,ex565,hm⟩:=ob hm
 obtain ⟨cs566,H⟩:=H.slF 5 rfl hp557 ex565
 refine sv F rfl (y_idxS F elem61 rfl rfl rfl hp557 ex565) fun a F=>bk [999] F H rfl ⟨rfl,(aggn agg129 (H.rcLen 1 rfl)),trivial⟩ fun a F=>g_onP F rfl rfl rfl rfl ?_
 obtain ⟨x567,ex567,hm⟩:=ob hm
 refine sd F rfl ent155 (w_m_triremeref06_size ex567 (H.pm 8 [1,0,1,2,3,4,5,6,7] rfl:):) ?_;rintro _ w a ⟨rfl,H⟩ F
 refine bb [0,0,0] F H rfl fun a F=>?_
 replace H:=H.nf 8 rfl
 refine nl (cPm F rfl hm (fun hg568 hm=>?_) (fun hg568 hm=>?_))
 refine sk (ct (bl ?_))
 cases hm
 refine ex (cx (cx ?_));cases hm;refine ⟨_,rfl,?_⟩;rintro rfl
 refine ch (ct ?_)
 exact ⟨F.sl rfl,(H.pm 8 [5,6,7] rfl:)⟩
 replace hm:=ifF hg564 hm
 replace F:=F.vF 35 hg564 rfl
 refine bb (List.replicate 11 0) F H rfl fun a F=>?_
 replace H:=H.nf 6 rfl
 refine nl (cF F rfl ?_)
 refine ex (cx (cx ?_));cases hm;refine ⟨_,rfl,?_⟩;rintro rfl
 refine ch (ct ?_)
 exact ⟨F.sl rfl,(H.pm 6 [3,4,5] rfl:)⟩
 refine bb (List.replicate 23 0) F H rfl fun a F=>nl (cF F rfl ?_)
 refine ex (cx (cx ?_));cases hm;refine ⟨_,rfl,?_⟩;rintro rfl
 refine ch (ct ?_)
 exact ⟨F.sl rfl,H⟩
 refine ct (sb [0,0] F H rfl fun a F=>s_buildC wkP F rfl rfl rfl elem220 zero3 rfl rfl rfl rfl (by simp [Value.cells]) (by decide) H fun b569 w a H F=>?_)
 replace H:=H.blkOw1 (R:=(rInt .i64)) (x:=1) (fun gg=>rfl)
 replace H:=H.frz 0 rfl
 obtain ⟨x571,ex571,hm⟩:=ob hm
 refine s_app wkP F rfl rfl rfl rfl rfl rfl elem220 rfl ex571 H 2 0 rfl rfl fun p570 c570 w a H F=>?_
 refine bb [0] F H rfl fun a F=>?_
 replace H:=H.nf 4 rfl
 refine nl (rl (bb [0,0,0,0] F H rfl fun a F=>?_))
 refine lz (bn (ct ?_));cases hm
 exact ⟨_,rfl,⟨p570,c570,F.sl rfl,(H.pm 4 [2,3] rfl:)⟩⟩
 refine ex (cx (cx ?_));cases hm;refine ⟨_,rfl,?_⟩;rintro rfl
 refine ch (ct ?_)
 exact ⟨p478,c478,F.sl rfl,(H.pm 2 [0] rfl:)⟩
 refine ct (sq (sr (bk [0,0,0] F H rfl ⟨⟨_,Tryz.underlying220⟩,trivial⟩ fun a F=>?_)))
 refine nl (cPm F rfl hm (fun hg572 hm=>?_) (fun hg572 hm=>?_))
 refine sr (s_buildC wkP F rfl rfl rfl elem220 zero3 rfl rfl rfl rfl (by simp [Value.cells]) (by decide) H fun b573 w a H F=>?_)
 replace H:=H.blkOw1 (R:=(rInt .i64)) (x:=0) (fun gg=>rfl)
 refine bb [0] F H rfl fun a F=>?_
 replace H:=H.nf 2 rfl
 refine nl (wr (tr ?_))
 replace H:=H.frz 0 rfl
 cases hm
 refine x_ret1 F rfl rfl ?_
 exact ⟨_,rfl,(some ⟨b573,0,none⟩),([0]).length,rfl,(H.pm 2 [0] rfl:)⟩
 refine sk (ct (sb [0,0] F H rfl fun a F=>nl (wr ?_)))
 replace H:=H.frz 0 rfl
 cases hm
 refine x_ret1 F rfl rfl ?_
 exact ⟨_,rfl,p288,c288,rfl,H⟩
theorem w_m_triremeref06_Rising {x0_:List T_api_Pair} {p1:Option Addr} {c1:Nat} {w0 w:World} {l:List HP}  {r:Bool} (hm:m_triremeref06_Rising x0_=some r) (H:St w0 w (HP.sl R_api_Pair p1 c1 x0_::l)) :
  Calls Tryz.prog 124 [.slice p1 (x0_).length c1].toArray w (fun e w'=>∃ v,e=.returned v∧v=.bool (r)∧St w0 w' (l)):=by
 unfold m_triremeref06_Rising at hm
 refine x_enter Tryz.func124 rfl rfl rfl ?_
 intro a F
 refine sb [0] F H rfl fun a F=>nl (sq (sb [0] F H rfl fun a F=>?_))
 refine nl (xr0 1 [] [] F H hm rfl rfl (fun r6 z=>z) (fun r6 z=>z) (fun o6 hm hm6=>?_) (fun r6 a w hm F H=>?_))
 refine bl (xl0 1 [0,3] [0] F H hm rfl rfl (fun (s9:Unit) z=>z) (fun s9 z=>z) ⟨F.sl rfl,H⟩ (fun s9 a w o F H hm=>sq (sr (bk [0,0,0,0] F H rfl ⟨⟨_,Tryz.underlying61⟩,trivial⟩ fun a F=>?_))))
 refine nl (cPm F rfl hm (fun hg10 hm=>?_) (fun hg10 hm=>?_))
 refine sk (ct (sq (bl ?_)))
 cases hm
 refine ex (cx (cx ?_));cases hm;refine ⟨_,rfl,?_⟩;rintro rfl
 refine ch (ct ?_)
 exact ⟨_,rfl,F.cut _ trivial,(H.pm 1 [] rfl:)⟩
 refine ct (sb [0] F H rfl fun a F=>nl (wr ?_))
 cases hm
 refine x_ret1 F rfl rfl ?_
 exact ⟨_,rfl,rfl,H⟩
theorem ent124:En Tryz.prog 124:=enters Tryz.func124 (by kernel_rfl) rfl
theorem w_m_triremeref07_Right {x0_:T_api_Node} {cs1:List Value} {w0 w:World} {l:List HP}  {r:Bool} (hm:m_triremeref07_Right x0_=some r) (H:St w0 w (HP.rc R_api_Node cs1 x0_::l)) :
  Calls Tryz.prog 182 [.agg cs1.toArray].toArray w (fun e w'=>∃ v,e=.returned v∧v=.bool (r)∧St w0 w' (l)):=by
 unfold m_triremeref07_Right at hm
 refine x_enter Tryz.func182 rfl rfl rfl ?_
 intro a F
 refine sr (s_boxA wkP F rfl rfl rfl rfl rfl H fun b2 w a H F=>bb [0] F H rfl fun a F=>?_)
 replace H:=H.nf 2 rfl
 refine nl (sq (sr (bk [0] F H rfl ⟨fld227_0,trivial⟩ fun a F=>?_)))
 have G:=F;replace H:=rc_api_Node (H.pk 1 rfl);obtain ⟨p3,c4,p5,c6,rfl,J⟩:=H;have H:=J;have F:=G;clear G J
 refine bk [2000,0,0] F H rfl ⟨rfl,plain3,trivial⟩ fun a F=>?_
 rcases spP 7 F rfl hm with ⟨hg7,hm,F⟩ | ⟨hg7,hm,F⟩
 refine bb [0,0,0,0] F H rfl fun a F=>nl (cT F rfl ?_)
 cases hm
 refine bk [0,2000,0,0] F H rfl ⟨fld227_0,rfl,plain3,trivial⟩ fun a F=>?_
 refine nl (cPm F rfl hm (fun hg8 hm=>?_) (fun hg8 hm=>?_))
 cases hm
 refine sk (ct (sq (sr (bk [0,2000,0] F H rfl ⟨fld227_0,rfl,plain3,trivial⟩ fun a F=>?_))))
 refine nl (cPm F rfl hm (fun hg9 hm=>?_) (fun hg9 hm=>?_))
 refine sr (bk [2,2002,0,0,0] F H rfl ⟨fld227_2,rfl,plain217,⟨_,Tryz.underlying217⟩,trivial⟩ fun a F=>?_)
 rcases spP 19 F rfl hm with ⟨hg10,hm,F⟩ | ⟨hg10,hm,F⟩
 refine bk [1,2001,0,0,0,0] F H rfl ⟨fld227_1,rfl,plain61,⟨_,Tryz.underlying61⟩,trivial⟩ fun a F=>?_
 rcases spP 25 F rfl hm with ⟨hg11,hm,F⟩ | ⟨hg11,hm,F⟩
 refine bk [1,2001] F H rfl ⟨fld227_1,rfl,plain61,trivial⟩ fun a F=>g_onP F rfl rfl rfl rfl ?_
 obtain ⟨x12,ex12,hm⟩:=ob hm
 refine sd F rfl ent124 (w_m_triremeref06_Rising ex12 (H.pm 3 [0,0,1,2] rfl:):) ?_;rintro _ w a ⟨rfl,H⟩ F
 refine bb [0,0] F H rfl fun a F=>?_
 replace H:=H.nf 3 rfl
 refine nl (wr (tr ?_))
 cases hm
 refine x_ret1 F rfl rfl ?_
 exact ⟨_,rfl,rfl,(H.pm 3 [] rfl:)⟩
 refine bb (List.replicate 5 0) F H rfl fun a F=>nl (wr (tr ?_))
 cases hm
 refine x_ret1 F rfl rfl ?_
 exact ⟨_,rfl,rfl,(H.pm 3 [] rfl:)⟩
 refine bb (List.replicate 11 0) F H rfl fun a F=>nl (wr (tr ?_))
 cases hm
 refine x_ret1 F rfl rfl ?_
 exact ⟨_,rfl,rfl,(H.pm 3 [] rfl:)⟩
 refine sk (ct (sq ?_))
 cases hm
theorem ent182:En Tryz.prog 182:=enters Tryz.func182 (by kernel_rfl) rfl
theorem w_m_triremeref07_Write {x0_:T_api_Node} {cs1:List Value} {w0 w:World} {l:List HP}  {r:(List UInt8)×Int} (hm:m_triremeref07_Write x0_=some r) (H:St w0 w (HP.rc R_api_Node cs1 x0_::l)) :
  Calls Tryz.prog 157 [.agg cs1.toArray].toArray w (fun e w'=>∃ v,e=.returned v∧∃ (p2:Option Addr) (c2:Nat),v=.tuple [.slice p2 (r.1).length c2,.int .i64 (r.2)].toArray∧St w0 w' (HP.sl rByte p2 c2 r.1::l)):=by
 unfold m_triremeref07_Write at hm
 refine x_enter Tryz.func157 rfl rfl rfl ?_
 intro a F
 refine sr (s_boxA wkP F rfl rfl rfl rfl rfl H fun b3 w a H F=>bb [0,0] F H rfl fun a F=>?_)
 replace H:=H.nf 2 rfl
 refine nl (sq (sr (bk [999] F H rfl ⟨rfl,(aggn agg227 (H.rcLen 1 rfl)),trivial⟩ fun a F=>?_)))
 obtain ⟨x4,ex4,hm⟩:=ob hm
 refine sd F rfl ent182 (w_m_triremeref07_Right ex4 (H.pm 2 [1,0,1] rfl:):) ?_;rintro _ w a ⟨rfl,H⟩ F
 refine bb [0] F H rfl fun a F=>?_
 replace H:=H.nf 2 rfl
 refine nl (cB F rfl (fun hg5=>?_) (fun hg5=>?_))
 replace hm:=ifT hg5 hm
 cases hm
 replace hm:=ifF (nT hg5) hm
 refine sk (ct (sr (bk [0] F H rfl ⟨fld227_0,trivial⟩ fun a F=>?_)))
 have G:=F;replace H:=rc_api_Node (H.pk 1 rfl);obtain ⟨p6,c7,p8,c9,rfl,J⟩:=H;have H:=J;have F:=G;clear G J
 refine bk [2000,1,1,2001,0,2,2002,0,0,1] F H rfl ⟨rfl,plain3,Tryz.underlying3,Tryz.underlying5,fld227_1,rfl,plain61,⟨_,Tryz.underlying61⟩,fld227_2,rfl,plain217,⟨_,Tryz.underlying217⟩,Tryz.underlying3,Tryz.underlying5,trivial⟩ fun a F=>?_
 obtain ⟨x11,ex11,hm⟩:=ob hm
 obtain ⟨x12,ex12,hm⟩:=ob hm
 obtain ⟨x13,ex13,hm⟩:=ob hm
 refine s_buildC wkP F rfl rfl rfl elem25 zero5 rfl rfl rfl rfl (by simp [Value.cells]) (by decide) H fun b10 w a H F=>?_
 replace H:St w0 w (HP.ow rByte 5 (some ⟨b10,0,none⟩) (([x11,x12,x13]).length) ([x11,x12,x13])::HP.sl R_api_Pair p6 c7 x0_.2.1::HP.sl R_api_Kid p8 c9 x0_.2.2::HP.blk b3 ([.int .i64 (x0_.1),.slice p6 (x0_.2.1).length c7,.slice p8 (x0_.2.2).length c9]) 227::l):=H.blkOw (R:=rByte) 0 rfl (fun gg=>⟨[[.int .u8 (84)],[.int .u8 (IntKind.u8.wrap (x0_.1))],[.int .u8 (IntKind.u8.wrap (IntKind.i64.wrap (((x0_.2.1).length:Int)+((x0_.2.2).length:Int))))]],rfl,(congrArg (fun z=>[Value.int .u8 z]) (u8O_some ex11).symm),(congrArg (fun z=>[Value.int .u8 z]) (u8O_some ex12).symm),(congrArg (fun z=>[Value.int .u8 z]) (u8O_some ex13).symm),trivial⟩) (by simp)
 refine bb [0] F H rfl fun a F=>nl (sq (sb [0] F H rfl fun a F=>?_))
 refine nl (xr2 4 [1] [1,2,3] F H hm rfl rfl (fun r90 (p91:Option Addr) (c91:Nat) z=>(4,.slice p91 (r90).length c91)::z) (fun r90 p91 c91 z=>HP.ow rByte 5 p91 c91 r90::z) (fun o90 hm hm90=>?_) (fun r90 a w hm p91 c91 F H=>?_))
 refine bl (xl2 4 [1] [1,2,3] F H hm rfl rfl (fun (s142:(List UInt8)×Int) (p143:Option Addr) (c143:Nat) z=>(4,.slice p143 (s142.1).length c143)::(5,.int .i64 (s142.2))::z) (fun s142 p143 c143 z=>HP.ow rByte 5 p143 c143 s142.1::z) ⟨(some ⟨b10,0,none⟩),([x11,x12,x13]).length,F.sl rfl,H⟩ (fun s142 a w o p143 c143 F H hm=>sq (sr (bk [0,1,3001,0,0] F H rfl ⟨fld227_1,rfl,plain61,⟨_,Tryz.underlying61⟩,trivial⟩ fun a F=>?_))))
 refine nl (cPm F rfl hm (fun hg144 hm=>?_) (fun hg144 hm=>?_))
 refine sk (ct (sq (bl (sr (bk [1,3001,0] F H rfl ⟨fld227_1,rfl,plain61,trivial⟩ fun a F=>?_)))))
 obtain ⟨x145,ex145,hm⟩:=ob hm
 obtain ⟨b146,o146,hp146,cs147,H⟩:=H.slE 1 rfl ex145
 refine sv F rfl (y_idxS F elem61 rfl rfl rfl hp146 ex145) fun a F=>bk [0] F H rfl ⟨fld129_0,trivial⟩ fun a F=>?_
 have G:=F;replace H:=rc_api_Pair (H.pk 1 rfl);obtain ⟨p148,c149,p150,c151,rfl,J⟩:=H;have H:=J;have F:=G;clear G J
 refine bk [2000] F H rfl ⟨rfl,plain25,trivial⟩ fun a F=>?_
 obtain ⟨x152,ex152,hm⟩:=ob hm
 refine sd F rfl ent25 (w_rText ex152 (H.pm 7 [0,0,1,2,3,4,5,6] rfl:):) ?_;rintro _ w a ⟨p153,c153,rfl,H⟩ F
 refine bb (List.replicate 5 0) F H rfl fun a F=>?_
 replace H:=H.nf 8 rfl
 refine nl (sr (bk [1,7001,0] F H rfl ⟨fld227_1,rfl,plain61,trivial⟩ fun a F=>?_))
 obtain ⟨x154,ex154,hm⟩:=ob hm
 obtain ⟨cs155,H⟩:=H.slF 5 rfl hp146 ex154
 refine sv F rfl (y_idxS F elem61 rfl rfl rfl hp146 ex154) fun a F=>bk [1] F H rfl ⟨fld129_1,trivial⟩ fun a F=>?_
 have G:=F;replace H:=rc_api_Pair (H.pk 1 rfl);obtain ⟨p156,c157,p158,c159,rfl,J⟩:=H;have H:=J;have F:=G;clear G J
 refine bk [2001] F H rfl ⟨rfl,plain25,trivial⟩ fun a F=>?_
 obtain ⟨x160,ex160,hm⟩:=ob hm
 refine sd F rfl ent25 (w_rText ex160 (H.pm 11 [1,0,1,2,3,4,5,6,7,8,9,10] rfl:):) ?_;rintro _ w a ⟨p161,c161,rfl,H⟩ F
 refine bb (List.replicate 5 0) F H rfl fun a F=>?_
 replace H:=H.nf 12 rfl
 refine nl (sq (sb [0,0,0] F H rfl fun a F=>?_))
 rcases spN 58 F rfl hm with ⟨hg162,hm,F⟩ | ⟨hg162,hm,F⟩
 refine bb [0,0,0] F H rfl fun a F=>?_
 refine nl (cNm F rfl hm (fun hg163 hm=>?_) (fun hg163 hm=>?_))
 cases hm
 refine sk (ct (rl (bb [0,0] F H rfl fun a F=>?_)))
 replace H:=H.frz 4 rfl
 obtain ⟨x165,ex165,hm⟩:=ob hm
 refine s_app wkP F rfl rfl rfl rfl rfl rfl elem25 rfl ex165 H 8 0 rfl rfl fun p164 c164 w a H F=>?_
 refine bb [0] F H rfl fun a F=>?_
 replace H:=H.frz 1 rfl
 obtain ⟨x167,ex167,hm⟩:=ob hm
 refine s_app wkP F rfl rfl rfl rfl rfl rfl elem25 rfl ex167 H 8 0 rfl rfl fun p166 c166 w a H F=>?_
 refine bb [0] F H rfl fun a F=>?_
 replace H:=H.nf 12 rfl
 refine lz (bn (ct (rl (bb [0,0,0] F H rfl fun a F=>?_))))
 refine lz (ct ?_);cases hm
 exact ⟨_,rfl,⟨p166,c166,F.sl rfl,(H.pm 12 [8,9,10,11] rfl:)⟩⟩
 refine bb [0,0,0] F H rfl fun a F=>nl (cT F rfl ?_)
 cases hm
 refine ex (cx (cx ?_));cases hm;refine ⟨_,rfl,?_⟩;rintro rfl
 refine ch (ct ?_)
 exact ⟨_,rfl,p143,c143,F.sl rfl,H⟩
 refine ct (sq (sb [0] F H rfl fun a F=>?_))
 refine nl (xr0 4 [4] [0,1,2,3] F H hm rfl rfl (fun r172 z=>z) (fun r172 z=>z) (fun o172 hm hm172=>?_) (fun r172 a w hm F H=>?_))
 refine bl (xl0 4 [1,4,10] [0,1,2,3] F H hm rfl rfl (fun (s175:Unit) z=>z) (fun s175 z=>z) ⟨F.sl rfl,H⟩ (fun s175 a w o F H hm=>sq (sr (bk [0,2,3002,0,0] F H rfl ⟨fld227_2,rfl,plain217,⟨_,Tryz.underlying217⟩,trivial⟩ fun a F=>?_))))
 refine nl (cPm F rfl hm (fun hg176 hm=>?_) (fun hg176 hm=>?_))
 refine sk (ct (sq (bl ?_)))
 cases hm
 refine ex (cx (cx ?_));cases hm;refine ⟨_,rfl,?_⟩;rintro rfl
 refine ch (ct ?_)
 exact ⟨_,rfl,F.sl rfl,H⟩
 refine ct (sq (sr (bk [0,0,0] F H rfl ⟨⟨_,Tryz.underlying25⟩,trivial⟩ fun a F=>?_)))
 refine nl (cPm F rfl hm (fun hg177 hm=>?_) (fun hg177 hm=>?_))
 cases hm
 refine sk (ct (sb [0,0,0] F H rfl fun a F=>nl (wr ?_)))
 replace H:=H.frz 0 rfl
 cases hm
 refine x_ret2 F rfl rfl rfl ?_
 exact ⟨_,rfl,p91,c91,rfl,(H.pm 4 [0] rfl:)⟩
theorem ent157:En Tryz.prog 157:=enters Tryz.func157 (by kernel_rfl) rfl
theorem ent71:En Tryz.prog 71:=enters Tryz.func71 (by kernel_rfl) rfl
theorem fld116_0:FieldT Tryz.prog 116 0 0:=by unfold FieldT;rw [Tryz.underlying116];kernel_rfl
theorem plain49:Plain Tryz.prog 49:=by unfold Plain;rw [Tryz.underlying49];rfl
theorem zero49:Zero1 Tryz.prog 49 (.slice none 0 0):=⟨by kernel_rfl,rfl⟩
theorem fld116_1:FieldT Tryz.prog 116 1 1:=by unfold FieldT;rw [Tryz.underlying116];kernel_rfl
theorem plain50:Plain Tryz.prog 50:=by unfold Plain;rw [Tryz.underlying50];rfl
theorem elem50:ElemT Tryz.prog 50 25 1 24 (.slice none 0 0):=⟨Tryz.underlying50,by kernel_rfl,by kernel_rfl,by decide⟩
theorem zero50:Zero1 Tryz.prog 50 (.slice none 0 0):=⟨by kernel_rfl,rfl⟩
theorem w_rbPut {b:T_triremeref08_Blocks_o} {n:T_api_Node} {bo0:Nat} {cs1:List Value} {w0 w:World} {l:List HP}  {r:(List UInt8)×Int×T_triremeref08_Blocks_o} (hm:rbPut b n=some r) (H:St w0 w (O_triremeref08_Blocks bo0 b::HP.rc R_api_Node cs1 n::l)) :
  Calls Tryz.prog 126 [.pointer (some ⟨bo0,0,none⟩),.agg cs1.toArray].toArray w (fun e w'=>∃ v,e=.returned v∧v=.tuple [.agg (bcells r.1).toArray,.int .i64 (r.2.1)].toArray∧((r.1).length=32)∧St w0 w' (O_triremeref08_Blocks bo0 r.2.2::l)):=by
 unfold rbPut at hm
 refine x_enter Tryz.func126 rfl rfl rfl ?_
 intro a F
 refine sr (s_boxA wkP F rfl rfl rfl rfl rfl H fun b3 w a H F=>s_allocA wkP F rfl rfl rfl agz24 rfl H fun b4 w a H F=>bb [0] F H rfl fun a F=>?_)
 replace H:=H.nf 4 rfl
 refine nl (sr (bk [1999] F H rfl ⟨rfl,(aggn agg227 (H.rcLen 3 rfl)),trivial⟩ fun a F=>?_))
 obtain ⟨x5,ex5,hm⟩:=ob hm
 refine sd F rfl ent157 (w_m_triremeref07_Write ex5 (H.pm 4 [3,0,1,2,3] rfl:):) ?_;rintro _ w a ⟨p6,c6,rfl,H⟩ F
 refine bb (List.replicate 5 0) F H rfl fun a F=>?_
 replace H:=H.nf 5 rfl
 refine nl (sq (sb [0,0] F H rfl fun a F=>?_))
 refine nl (cNm F rfl hm (fun hg7 hm=>?_) (fun hg7 hm=>?_))
 refine sr (sv F rfl (y_build F rfl rfl (cs:=bcells ((List.replicate 32 0):List UInt8)) (by kernel_rfl)) fun a F=>bb [0] F H rfl fun a F=>s_storeA wkP F rfl rfl agg24 rfl rfl rfl H 1 rfl ((bcells_length _).trans rfl) ((bcells_length _).trans (List.length_replicate (n:=32))) (bcells_flat _) fun w H=>bb [0] F H rfl fun a F=>?_)
 replace H:=H.nf 5 rfl
 refine nl (wr (tr ?_))
 cases hm
 refine x_resC2 F rfl (⟨_,rfl,agg24.run_load (H.blk 1 rfl).row ((bcells_length _).trans rfl)⟩) rfl ?_
 exact ⟨_,rfl,rfl,rfl,(H.pm 5 [3] rfl:)⟩
 refine sk (ct (sb [0] F H rfl fun a F=>?_))
 obtain ⟨x8,ex8,hm⟩:=ob hm
 refine sd F rfl ent71 (w_rSum ex8 (H.pm 5 [0,0,1,2,3,4] rfl:):) ?_;rintro _ w a ⟨rfl,hl9,H⟩ F
 refine s_allocA wkP F rfl rfl rfl agz24 rfl H fun b10 w a H F=>s_storeA wkP F rfl rfl agg24 rfl rfl rfl H 0 rfl ((bcells_length _).trans hl9) ((bcells_length _).trans (List.length_replicate (n:=32))) (bcells_flat _) fun w H=>?_
 replace H:=H.nf 6 rfl
 refine nl (sq ?_)
 obtain ⟨p11,c12,p13,c14,H⟩:=O_triremeref08_Blocks_o (H.pk 4 rfl)
 refine mix_regionK [6,7,10] [10] (scL [0,1,2,3,4,1005,2006,2007,8,9,3010]) [0] H rfl rfl (by kernel_rfl) (by kernel_rfl) fun w H=>?_
 refine mbk [0,0,0,0] F H rfl ⟨fld116_0,trivial⟩ fun a F=>?_
 refine m_pure F rfl rfl rfl rfl (fun u hu=>y_load1 F plain49 rfl rfl (row_at (v:=.slice p11 (b.1).length c12) ((hu.choose_spec.blk 0 rfl).row) rfl)) fun a F=>?_
 refine mbk [3999] F H rfl ⟨rfl,(aggn agg24 ((bcells_length _).trans hl9)),trivial⟩ fun a F=>m_heavy rfl rfl ?_
 refine s_build1 wkP F rfl rfl rfl agg24 elem49 rfl rfl ((bcells_length _).trans hl9) (by decide) H fun b15 w a H F=>?_
 replace H:=H.blkOw1 (R:=(rBytesN 32)) (x:=x8) (fun gg=>⟨rfl,hl9⟩)
 refine lz ?_;refine ct ⟨⟨_,(H.pm 9 [1,0,2,3,4,5,6,7,8] rfl:)⟩,?_⟩
 refine m_heavy rfl rfl ?_
 replace H:=H.frz 0 rfl
 obtain ⟨x17,ex17,hm⟩:=ob hm
 refine s_app wkP F rfl rfl rfl rfl rfl rfl elem49 rfl ex17 H 2 0 rfl rfl fun p16 c16 w a H F=>?_
 refine lz ?_;refine ct ⟨⟨_,(H.pm 9 [1,0,2,3,4,5,6,7,8] rfl:)⟩,?_⟩
 refine mbk [0,0] F H rfl ⟨fld116_0,trivial⟩ fun a F=>m_last rfl rfl (s_st1 wkP F rfl rfl zero49 rfl rfl rfl rfl rfl H 1 rfl rfl fun w H=>?_)
 refine lz ?_;refine ct ?_
 refine m_nil (ct (sr (bk [0,0,0,1,1001,0] F H rfl ⟨fld116_1,rfl,plain50,trivial⟩ fun a F=>s_buildC wkP F rfl rfl rfl elem50 zero25 rfl rfl rfl rfl (by simp [Value.cells]) (by decide) H fun b18 w a H F=>?_)))
 replace H:=H.blkOw1 (R:=(rSl rByte)) (x:=x5.1) (fun gg=>⟨_,_,rfl,(gg 6 _ rfl).choose_spec⟩)
 replace H:=H.frz 0 rfl
 obtain ⟨x20,ex20,hm⟩:=ob hm
 refine s_app wkP F rfl rfl rfl rfl rfl rfl elem50 rfl ex20 H 4 0 rfl rfl fun p19 c19 w a H F=>?_
 refine bk [0,1] F H rfl ⟨fld116_1,trivial⟩ fun a F=>s_st1 wkP F rfl rfl zero50 rfl rfl rfl rfl rfl H 2 rfl rfl fun w H=>?_
 replace H:=H.nf 10 rfl
 refine nl (sr (bk [5999] F H rfl ⟨rfl,(aggn agg24 ((bcells_length _).trans hl9)),trivial⟩ fun a F=>s_storeA wkP F rfl rfl agg24 rfl rfl rfl H 7 rfl ((bcells_length _).trans hl9) ((bcells_length _).trans (List.length_replicate (n:=32))) (bcells_flat _) fun w H=>bb [0] F H rfl fun a F=>?_))
 replace H:=H.nf 10 rfl
 refine nl (wr ?_)
 replace H:=O_triremeref08_Blocks_s (H.pm 10 [2,3,4,0,1,5,6,7,8,9] rfl:)
 cases hm
 refine x_resC2 F rfl (⟨_,rfl,agg24.run_load (H.blk 5 rfl).row ((bcells_length _).trans hl9)⟩) rfl ?_
 exact ⟨_,rfl,rfl,hl9,(H.pm 8 [0] rfl:)⟩
theorem agz116:AggT Tryz.prog 116 2 ([.slice none (([]:List (List UInt8))).length 0,.slice none (([]:List (List UInt8))).length 0]):=⟨by rw [Tryz.underlying116];rfl,by kernel_rfl,by kernel_rfl⟩
theorem agg116:AggT Tryz.prog 116 2 [.slice none 0 0,.slice none 0 0]:=⟨by rw [Tryz.underlying116];rfl,by kernel_rfl,by kernel_rfl⟩
theorem ent125:En Tryz.prog 125:=enters Tryz.func125 (by kernel_rfl) rfl
theorem fld223_0:FieldT Tryz.prog 223 0 0:=by unfold FieldT;rw [Tryz.underlying223];kernel_rfl
theorem ent126:En Tryz.prog 126:=enters Tryz.func126 (by kernel_rfl) rfl
theorem w_rBuild {pairs:List T_api_Pair} {p1:Option Addr} {c1:Nat} {w0 w:World} {l:List HP}  {r:(List UInt8)×T_triremeref08_Blocks×Int} (hm:rBuild pairs=some r) (H:St w0 w (HP.sl R_api_Pair p1 c1 pairs::l)) :
  Calls Tryz.prog 94 [.slice p1 (pairs).length c1].toArray w (fun e w'=>∃ v,e=.returned v∧∃ (cs3:List Value),v=.tuple [.agg (bcells r.1).toArray,.agg cs3.toArray,.int .i64 (r.2.2)].toArray∧((r.1).length=32)∧St w0 w' (HP.rc R_triremeref08_Blocks cs3 r.2.1::l)):=by
 unfold rBuild at hm
 refine x_enter Tryz.func94 rfl rfl rfl ?_
 intro a F
 refine sr (s_allocA wkP F rfl rfl rfl agz24 rfl H fun b4 w a H F=>?_)
 replace H:=H.owNil (rBytesN 32) 24
 replace H:=H.owNil (rSl rByte) 25
 refine s_allocA wkP F rfl rfl rfl agz116 rfl H fun b5 w a H F=>bb [0] F H rfl fun a F=>?_
 replace H:=H.nf 5 rfl
 refine nl (sq (sb [0] F H rfl fun a F=>?_))
 obtain ⟨x6,ex6,hm⟩:=ob hm
 refine sd F rfl ent124 (w_m_triremeref06_Rising ex6 (H.pm 5 [4,0,1,2,3,4] rfl:):) ?_;rintro _ w a ⟨rfl,H⟩ F
 refine bb [0] F H rfl fun a F=>?_
 replace H:=H.nf 5 rfl
 refine nl (cB F rfl (fun hg7=>?_) (fun hg7=>?_))
 replace hm:=ifT hg7 hm
 cases hm
 replace hm:=ifF (nT hg7) hm
 refine sk (ct (sr ?_))
 replace H:=H.owNil (rBytesN 32) 24
 replace H:=H.owNil (rSl rByte) 25
 refine sv F rfl (y_build F rfl rfl (cs:=[.slice none (([]:List (List UInt8))).length 0,.slice none (([]:List (List UInt8))).length 0]) (by kernel_rfl)) fun a F=>s_build0O (R:=R_api_Kid) wkP F rfl rfl rfl elem217 rfl H fun b8 w a H F=>?_
 replace H:=H.owNil (rBytesN 32) 24
 replace H:=H.owNil (rSl rByte) 25
 refine s_allocA wkP F rfl rfl rfl agz116 rfl H fun b9 w a H F=>s_storeA wkP F rfl rfl agg116 rfl rfl rfl H 0 rfl rfl rfl (fl rfl) fun w H=>bb [0] F H rfl fun a F=>?_
 replace H:=H.nf 11 rfl
 refine nb [0] F H rfl fun a F=>?_
 obtain ⟨x10,ex10,hm⟩:=ob hm
 refine sd F rfl ent125 (w_m_triremeref06_Leaves ex10 (H.pm 11 [10,0,1,2,3,4,5,6,7,8,9,10] rfl:):) ?_;rintro _ w a ⟨p11,c11,rfl,H⟩ F
 refine bb [0,0] F H rfl fun a F=>?_
 replace H:=H.nf 12 rfl
 refine nl (sq (sb [0] F H rfl fun a F=>nl ?_))
 refine xr6 12 [2,3,5] [2,3,7,8,9,10] F H hm rfl rfl (fun r283 (p284:Option Addr) (c284:Nat) (p285:Option Addr) (c285:Nat) (p286:Option Addr) (c286:Nat) z=>(6,.slice p286 (r283.2).length c286)::z) (fun r283 p284 c284 p285 c285 p286 c286 z=>HP.blk b9 ([.slice p284 (r283.1.1).length c284,.slice p285 (r283.1.2).length c285]) 116::HP.ow (rBytesN 32) 24 p284 c284 r283.1.1::HP.ow (rSl rByte) 25 p285 c285 r283.1.2::HP.ow R_api_Kid 223 p286 c286 r283.2::z) (fun o283 hm hm283=>?_) (fun r283 a w hm p284 c284 p285 c285 p286 c286 F H=>?_)
 refine bl ?_
 refine xl6 12 [0,2,3,5,7] [0,2,3,7,8,9,10,11] F H hm rfl rfl (fun (s467:((List (List UInt8))×(List (List UInt8)))×(List T_api_Kid)×Int×Int) (p468:Option Addr) (c468:Nat) (p469:Option Addr) (c469:Nat) (p470:Option Addr) (c470:Nat) z=>(6,.slice p470 (s467.2.1).length c470)::(8,.int .i64 (s467.2.2.1))::(9,.int .i64 (s467.2.2.2))::z) (fun s467 p468 c468 p469 c469 p470 c470 z=>HP.blk b9 ([.slice p468 (s467.1.1).length c468,.slice p469 (s467.1.2).length c469]) 116::HP.ow (rBytesN 32) 24 p468 c468 s467.1.1::HP.ow (rSl rByte) 25 p469 c469 s467.1.2::HP.ow R_api_Kid 223 p470 c470 s467.2.1::z) ⟨none,0,none,0,(some ⟨b8,0,none⟩),0,F.sl rfl,(H.pm 12 [1,6,5,4,0,2,3,7,8,9,10,11] rfl:)⟩ (fun s467 a w o p468 c468 p469 c469 p470 c470 F H hm=>?_)
 refine sq (sr (bk [0,0,0,0] F H rfl ⟨⟨_,Tryz.underlying220⟩,trivial⟩ fun a F=>?_))
 refine nl (cPm F rfl hm (fun hg471 hm=>?_) (fun hg471 hm=>?_))
 refine sk (ct (sq ?_))
 refine xr6 12 [0,2,3,5,7,9] [4,5,6,7,8,9,10,11] F H hm rfl rfl (fun r513 (p514:Option Addr) (c514:Nat) (p515:Option Addr) (c515:Nat) (p516:Option Addr) (c516:Nat) z=>(6,.slice p516 (r513.2.1).length c516)::(8,.int .i64 (r513.2.2))::z) (fun r513 p514 c514 p515 c515 p516 c516 z=>HP.blk b9 ([.slice p514 (r513.1.1).length c514,.slice p515 (r513.1.2).length c515]) 116::HP.ow (rBytesN 32) 24 p514 c514 r513.1.1::HP.ow (rSl rByte) 25 p515 c515 r513.1.2::HP.ow R_api_Kid 223 p516 c516 r513.2.1::z) (fun o513 hm hm513=>?_) (fun r513 a w hm p514 c514 p515 c515 p516 c516 F H=>?_)
 refine bl (sr ?_)
 replace H:=H.owNil rByte 5
 refine sv F rfl (y_build F rfl rfl (cs:=[Value.slice none (([]:List UInt8)).length 0]++(bcells (List.replicate 32 0))) (by kernel_rfl)) fun a F=>?_
 replace H:=H.owNil rByte 5
 refine s_allocA wkP F rfl rfl rfl agz223 rfl H fun b517 w a H F=>?_
 refine s_storeA wkP F rfl rfl agg223 rfl rfl rfl H 0 rfl (by simp only [List.length_append,List.length_cons,List.length_nil,icells_length,bcells_length,(List.length_replicate (n:=32))]) (by simp only [List.length_append,List.length_cons,List.length_nil,icells_length,bcells_length,(List.length_replicate (n:=32))]) (by intro v hv;simp only [List.mem_append,List.mem_cons,List.not_mem_nil,or_false] at hv;first | (rcases hv with h | h<;>first | (subst h;rfl) | exact bcells_flat _ _ h | exact icells_flat _ _ _ h | (rcases h with h | h<;>first | (subst h;rfl) | exact bcells_flat _ _ h | exact icells_flat _ _ _ h | (rcases h with h | h<;>first | (subst h;rfl) | exact bcells_flat _ _ h | (rcases h with h | h<;>first | (subst h;rfl) | (rcases h with h | h<;>(subst h;rfl)))))) | (subst hv;rfl)) fun w H=>?_
 replace H:=H.nf 15 rfl
 refine nl (sq (sb [0,0] F H rfl fun a F=>?_))
 obtain ⟨x518,ex518,hm⟩:=ob hm
 obtain ⟨b519,o519,hp519,cs520,H⟩:=H.slE 7 rfl ex518
 obtain rfl:=H.rcI 1 rfl
 replace H:=H.dp 1 rfl
 refine sv F rfl (y_idxS F elem220 rfl rfl rfl hp519 ex518) fun a F=>bk [0,0] F H rfl ⟨rfl,plain3,trivial⟩ fun a F=>nl ?_
 obtain ⟨r529,er529,hm529⟩:=ob hm;clear hm;revert er529;intro hm
 refine x_mid (fun aa ww=>∃ (p530:Option Addr) (c530:Nat),Fr ⟨154,[]⟩ aa [(0,.slice p1 (pairs).length c1),(2,.pointer (some ⟨b4,0,none⟩)),(3,.pointer (some ⟨b5,0,none⟩)),(5,.pointer (some ⟨b9,0,none⟩)),(6,.slice p470 (s467.2.1).length c470),(7,.slice p11 (x10).length c11),(8,.int .i64 (s467.2.2.1)),(9,.int .i64 (s467.2.2.2)),(10,.pointer (some ⟨b517,0,none⟩))]∧(((List.replicate 32 0)).length=32)∧St w0 ww (HP.row b519 (o519+(s467.2.2.2:Int).toNat * 1) ([.int .i64 (x518)])::HP.blk b517 ([Value.slice p530 (r529).length c530]++(bcells (List.replicate 32 0))) 223::HP.ow rByte 5 none 0 ([]:List UInt8)::HP.blk b9 ([.slice p468 (s467.1.1).length c468,.slice p469 (s467.1.2).length c469]) 116::HP.ow (rBytesN 32) 24 p468 c468 s467.1.1::HP.ow (rSl rByte) 25 p469 c469 s467.1.2::HP.ow R_api_Kid 223 p470 c470 s467.2.1::HP.sl (rInt .i64) p11 c11 x10::HP.ow (rSl rByte) 25 none 0 ([]:List (List UInt8))::HP.ow (rBytesN 32) 24 none 0 ([]:List (List UInt8))::HP.blk b5 ([.slice none (([]:List (List UInt8))).length 0,.slice none (([]:List (List UInt8))).length 0]) 116::HP.ow (rSl rByte) 25 none 0 ([]:List (List UInt8))::HP.ow (rBytesN 32) 24 none 0 ([]:List (List UInt8))::HP.blk b4 (bcells (List.replicate 32 0)) 24::HP.sl R_api_Pair p1 c1 pairs::HP.sl rByte p530 c530 r529::l)) ?_ ?_
 refine cPm F rfl hm (fun hg532 hm=>?_) (fun hg532 hm=>?_)
 refine rl (bb [0,0] F H rfl fun a F=>?_)
 obtain ⟨x533,ex533,hm⟩:=ob hm
 obtain ⟨b534,o534,hp534,cs535,H⟩:=H.slE 15 rfl ex533
 refine sv F rfl (y_idxS F elem61 rfl rfl rfl hp534 ex533) fun a F=>bk [0] F H rfl ⟨fld129_0,trivial⟩ fun a F=>?_
 have G:=F;replace H:=rc_api_Pair (H.pk 1 rfl);obtain ⟨p536,c537,p538,c539,rfl,J⟩:=H;have H:=J;have F:=G;clear G J
 refine bk [2000,0] F H rfl ⟨rfl,plain25,fld223_0,trivial⟩ fun a F=>s_st1 wkP F rfl rfl zero25 rfl rfl rfl rfl rfl H 4 rfl rfl fun w H=>?_
 replace H:=H.nf 19 rfl
 refine lz ?_
 cases hm
 refine ct ?_
 exact ⟨p536,c537,F.sl rfl,(List.length_replicate (n:=32)),(H.pm 19 [3,4,5,7,8,9,10,11,12,13,14,15,16,17,18,0] rfl:)⟩
 refine sk ?_
 cases hm
 refine ct ?_
 replace H:=H.frz 3 rfl
 exact ⟨none,0,F.sl rfl,(List.length_replicate (n:=32)),(H.pm 16 [1,2,3,4,5,6,7,8,9,10,11,12,13,14,15,0] rfl:)⟩
 clear F H hm
 rintro a w ⟨p530,c530,F,hl531,H⟩;have hm:=hm529;clear hm529
 refine ct (sb (List.replicate 5 0) F H rfl fun a F=>?_)
 obtain ⟨x540,ex540,hm⟩:=ob hm
 obtain ⟨b541,o541,hp541,cs542,H⟩:=H.slE 7 rfl ex540
 obtain rfl:=H.rcI 1 rfl
 replace H:=H.dp 1 rfl
 refine sv F rfl (y_idxS F elem220 rfl rfl rfl hp541 ex540) fun a F=>bk [0,0] F H rfl ⟨rfl,plain3,trivial⟩ fun a F=>?_
 obtain ⟨x544,ex544,hm⟩:=ob hm
 have hc543:=H.slCap 15 rfl
 replace H:=H.slSubN 2 rfl 15 rfl ex544
 refine sv F rfl (y_slLH F elem61 rfl rfl rfl rfl ex544 hc543) fun a F=>?_
 replace H:=H.owNil R_api_Kid 223
 refine sv F rfl (y_build F rfl rfl (cs:=[.int .i64 (0),.slice (shp p1 c1 (s467.2.2.1:Int).toNat 2) (x544).length (c1 - (s467.2.2.1:Int).toNat),.slice none (([]:List T_api_Kid)).length 0]) (by kernel_rfl)) fun a F=>?_
 replace H:=O_triremeref08_Blocks_s (H.pm 19 [6,7,8,0,1,2,3,4,5,9,10,11,12,13,14,15,16,17,18] rfl:)
 replace H:=H.frz 1 rfl
 replace H:=mk_api_Node H 0 2 rfl 0 rfl
 obtain ⟨x545,ex545,hm⟩:=ob hm
 refine sd F rfl ent126 (w_rbPut ex545 (H.pm 18 [2,0,0,1,3,4,5,6,7,8,9,10,11,12,13,14,15,16,17] rfl:):) ?_;rintro _ w a ⟨rfl,hl546,H⟩ F
 refine bb [0,0,0] F H rfl fun a F=>s_allocA wkP F rfl rfl rfl agz24 rfl H fun b547 w a H F=>s_storeA wkP F rfl rfl agg24 rfl rfl rfl H 0 rfl ((bcells_length _).trans hl546) ((bcells_length _).trans (List.length_replicate (n:=32))) (bcells_flat _) fun w H=>bb [0] F H rfl fun a F=>?_
 replace H:=H.nf 19 rfl
 refine nl (sq (sb [0,0] F H rfl fun a F=>?_))
 refine nl (cNm F rfl hm (fun hg548 hm=>?_) (fun hg548 hm=>?_))
 cases hm
 refine sk (ct (sr (bk [999,1] F H rfl ⟨rfl,(aggn agg24 ((bcells_length _).trans hl546)),fld223_1,trivial⟩ fun a F=>?_)))
 refine s_storeFE wkP F rfl rfl agg24 rfl rfl rfl H 7 rfl (A:=[.slice p530 (r529).length c530]) (X:=bcells (List.replicate 32 0)) rfl (by simp only [List.length_append,List.length_cons,List.length_nil,icells_length,bcells_length]) ((bcells_length _).trans hl531) ((bcells_length _).trans hl546) (bcells_flat _) fun w H=>?_
 replace H:=H.nf 19 rfl
 refine nl (sr (bk [0,7999] F H rfl ⟨rfl,(aggn agg223 (by simp only [List.length_append,List.length_cons,List.length_nil,icells_length,bcells_length,hl546])),trivial⟩ fun a F=>?_))
 refine s_build1 wkP F rfl rfl rfl agg223 elem217 rfl rfl (by simp only [List.length_append,List.length_cons,List.length_nil,icells_length,bcells_length,hl546]) (by decide) H fun b549 w a H F=>?_
 replace H:=H.blkOw1 (R:=R_api_Kid) (x:=(r529,x545.1)) (fun gg=>⟨_,_,rfl,⟨_,_,rfl,(gg 19 _ rfl).choose_spec⟩,⟨rfl,hl546⟩⟩)
 replace H:=H.frz 0 rfl
 obtain ⟨x551,ex551,hm⟩:=ob hm
 refine s_app wkP F rfl rfl rfl rfl rfl rfl elem217 rfl ex551 H 10 0 rfl rfl fun p550 c550 w a H F=>?_
 refine bb [0] F H rfl fun a F=>?_
 replace H:=H.nf 20 rfl
 refine nl (rl (bb [0,0,0] F H rfl fun a F=>?_))
 obtain ⟨x552,ex552,hm⟩:=ob hm
 obtain ⟨cs553,H⟩:=H.slF 11 rfl hp541 ex552
 obtain rfl:=H.rcI 1 rfl
 replace H:=H.dp 1 rfl
 refine sv F rfl (y_idxS F elem220 rfl rfl rfl hp541 ex552) fun a F=>bk [0,0,0] F H rfl ⟨rfl,plain3,trivial⟩ fun a F=>lz (bn ?_)
 obtain ⟨p554,c555,p556,c557,H⟩:=O_triremeref08_Blocks_o (H.pk 3 rfl)
 cases hm
 refine ct ?_
 exact ⟨_,rfl,p554,c555,p556,c557,p550,c550,F.sl rfl,(H.pm 23 [0,1,2,13,14,15,16,17,18,19,20,21] rfl:)⟩
 refine ct (rl (bb [0,0,0] F H rfl fun a F=>?_))
 refine lz (ct ?_);cases hm
 exact ⟨_,rfl,⟨p514,c514,p515,c515,p516,c516,F.sl rfl,H⟩⟩
 refine ex (cx (cx ?_));cases hm;refine ⟨_,rfl,?_⟩;rintro rfl
 refine ch (ct ?_)
 exact ⟨_,rfl,p468,c468,p469,c469,p470,c470,F.sl rfl,(H.pm 12 [0,1,2,3,5,6,7,8,9,10] rfl:)⟩
 refine ct (sq (sb [0] F H rfl fun a F=>?_))
 refine nl (xr0 10 [2,3,5,6] [0,1,2,3,4,5,6,7,8,9] F H hm rfl rfl (fun r562 z=>z) (fun r562 z=>z) (fun o562 hm hm562=>?_) (fun r562 a w hm F H=>?_))
 refine bl (xl0 10 [2,3,5,6,13] [0,1,2,3,4,5,6,7,8,9] F H hm rfl rfl (fun (s565:Unit) z=>z) (fun s565 z=>z) ⟨F.sl rfl,H⟩ (fun s565 a w o F H hm=>sq (sr (bk [0,0,0] F H rfl ⟨⟨_,Tryz.underlying217⟩,trivial⟩ fun a F=>?_))))
 refine nl (cPm F rfl hm (fun hg566 hm=>?_) (fun hg566 hm=>?_))
 refine sk (ct (sq (bl (sq ?_))))
 cases hm
 refine ex (cx (cx ?_));cases hm;refine ⟨_,rfl,?_⟩;rintro rfl
 refine ch (ct ?_)
 exact ⟨_,rfl,F.sl rfl,H⟩
 refine ct (sq ?_)
 obtain ⟨x567,ex567,hm⟩:=ob hm
 obtain ⟨b568,hp568⟩:=H.owP 3 rfl (idxO_some ex567).2
 obtain ⟨css569,H⟩:=H.oxOpen 3 rfl
 obtain ⟨cs569,hcs569,hcl569,H⟩:=H.oxEl 3 rfl (idxO_some ex567).2
 have G:=F;replace H:=rc_api_Kid (H.pk 0 rfl);obtain ⟨p570,c571,hl572,rfl,J⟩:=H;have H:=J;have F:=G;clear G J
 refine mix_regionK [5,6] [] (scL [0,1,2,1003,4,2005,2006,7]) [1] H rfl rfl (by kernel_rfl) (by kernel_rfl) fun w H=>?_
 refine mb [0] F H rfl fun a F=>?_
 refine m_pure F rfl rfl rfl rfl (fun u hu=>y_idxS F elem217 rfl rfl rfl hp568 ex567) fun a F=>?_
 refine mbk [1] F H rfl ⟨fld223_1,trivial⟩ fun a F=>?_
 refine m_read F rfl rfl rfl rfl (y_loadA F agg24 rfl rfl (row_midE (A:=[.slice p570 (x567.1).length c571]) (X:=bcells x567.2) (H.oxRow 4 rfl hp568 hcs569 hcl569) (by simp only [List.length_append,List.length_cons,List.length_nil,icells_length,bcells_length])) ((bcells_length _).trans hl572)) fun a F=>?_
 refine m_pure F rfl rfl rfl rfl (fun u hu=>y_loadA F agg116 rfl rfl ((hu.choose_spec.blk 0 rfl).row) rfl) fun a F=>?_
 refine m_heavy rfl rfl (s_storeA wkP F rfl rfl agg24 rfl rfl rfl H 10 rfl ((bcells_length _).trans hl572) ((bcells_length _).trans (List.length_replicate (n:=32))) (bcells_flat _) fun w H=>?_)
 refine lz ?_;refine ct ⟨⟨_,(H.pm 11 [1,0,2,3,4,5,6,7,8,9,10] rfl:)⟩,?_⟩
 refine m_heavy rfl rfl (s_storeA wkP F rfl rfl agg116 rfl rfl rfl H 7 rfl rfl rfl (fl rfl) fun w H=>?_)
 refine lz ?_;refine ct ⟨⟨_,(H.pm 11 [1,0,2,3,4,5,6,7,8,9,10] rfl:)⟩,?_⟩
 refine mb [0] F H rfl fun a F=>m_nil ?_
 replace H:=H.oxShut 4 rfl
 refine ct (wr ?_)
 replace H:=H.frz 2 rfl
 replace H:=H.frz 3 rfl
 replace H:=mk_triremeref08_Blocks H 1 rfl 0 rfl
 cases hm
 refine x_resC3 F rfl (⟨_,rfl,agg24.run_load (H.blk 11 rfl).row ((bcells_length _).trans hl572)⟩) (⟨_,rfl,agg116.run_load (H.blk 8 rfl).row rfl⟩) rfl ?_
 exact ⟨_,rfl,[.slice p284 (r283.1.1).length c284,.slice p285 (r283.1.2).length c285],rfl,hl572,(H.pm 12 [0] rfl:)⟩
theorem ent74:En Tryz.prog 74:=enters Tryz.func74 (by kernel_rfl) rfl
theorem w_rSameBg {bag:(List UInt8)→Option (List UInt8)} {b:T_triremeref08_Blocks} {but:(List UInt8)→Option (List UInt8)} {q1:Option Nat} {cs2:List Value} {q3:Option Nat} {w0 w:World} {l:List HP}  {r:Bool} (hm:rSameBg bag b but=some r) (H:St w0 w (HP.fm q1 hv false (rSl rByte) (fun l=>l.length=32) bag::HP.rc R_triremeref08_Blocks cs2 b::HP.fm q3 hv false (rSl rByte) (fun l=>l.length=32) but::l)) :
  Calls Tryz.prog 41 [.map q1,.agg cs2.toArray,.map q3].toArray w (fun e w'=>∃ v,e=.returned v∧v=.bool (r)∧St w0 w' (l)):=by
 unfold rSameBg at hm
 refine x_enter Tryz.func41 rfl rfl rfl ?_
 intro a F
 refine sr (s_boxA wkP F rfl rfl rfl rfl rfl H fun b4 w a H F=>bb [0] F H rfl fun a F=>?_)
 replace H:=H.nf 4 rfl
 refine nl (sr (s_build0O (R:=(rBytesN 32)) wkP F rfl rfl rfl elem49 rfl H fun b5 w a H F=>bb [0] F H rfl fun a F=>?_))
 replace H:=H.nf 5 rfl
 refine nl (sq (sb [0] F H rfl fun a F=>?_))
 refine nl (xr3 5 [0] [2,4] F H hm rfl rfl (fun r178 (cs179:List Value) (p180:Option Addr) (c180:Nat) z=>(7,.slice p180 (r178.2).length c180)::z) (fun r178 cs179 p180 c180 z=>HP.blk b4 (cs179) 116::HP.rc R_triremeref08_Blocks cs179 r178.1::HP.ow (rBytesN 32) 24 p180 c180 r178.2::z) (fun o178 hm hm178=>?_) (fun r178 a w hm cs179 p180 c180 F H=>?_))
 refine bl ?_
 refine xl3 5 [0,2,4] [2,4] F H hm rfl rfl (fun (s295:T_triremeref08_Blocks×(List (List UInt8))×Int) (cs296:List Value) (p297:Option Addr) (c297:Nat) z=>(7,.slice p297 (s295.2.1).length c297)::(8,.int .i64 (s295.2.2))::z) (fun s295 cs296 p297 c297 z=>HP.blk b4 (cs296) 116::HP.rc R_triremeref08_Blocks cs296 s295.1::HP.ow (rBytesN 32) 24 p297 c297 s295.2.1::z) ⟨cs2,(some ⟨b5,0,none⟩),0,F.sl rfl,(H.pm 5 [1,3,0,2,4] rfl:)⟩ (fun s295 a w o cs296 p297 c297 F H hm=>?_)
 refine sq (sr (bk [0,0] F H rfl ⟨fld116_0,trivial⟩ fun a F=>?_))
 have G:=F;replace H:=rc_triremeref08_Blocks (H.pk 1 rfl);obtain ⟨p298,c299,p300,c301,rfl,J⟩:=H;have H:=J;have F:=G;clear G J
 refine bk [2000,0,0] F H rfl ⟨rfl,plain49,⟨_,Tryz.underlying49⟩,trivial⟩ fun a F=>?_
 refine nl (cPm F rfl hm (fun hg302 hm=>?_) (fun hg302 hm=>?_))
 refine sk (ct (sq (xr2 6 [0,2,4,8] [0,1,2,4,5] F H hm rfl rfl (fun r327 (p328:Option Addr) (c328:Nat) z=>(7,.slice p328 (r327).length c328)::z) (fun r327 p328 c328 z=>HP.ow (rBytesN 32) 24 p328 c328 r327::z) (fun o327 hm hm327=>?_) (fun r327 a w hm p328 c328 F H=>?_))))
 refine bl (sr (bk [0,0,2000,0] F H rfl ⟨fld116_0,rfl,plain49,trivial⟩ fun a F=>?_))
 obtain ⟨x329,ex329,hm⟩:=ob hm
 obtain ⟨b330,o330,hp330,cs331,H⟩:=H.slE 0 rfl ex329
 have G:=F;obtain ⟨rfl,hl332⟩:=H.rcBN 1 rfl;have F:=G;clear G
 replace H:=H.dp 1 rfl
 refine sv F rfl (y_idxS F elem49 rfl rfl rfl hp330 ex329) fun a F=>bk [999] F H rfl ⟨rfl,(aggn agg24 ((bcells_length _).trans hl332)),trivial⟩ fun a F=>?_
 obtain ⟨es333,H⟩:=H.fmOpen 6 rfl
 obtain ⟨cs333,hcs333,H⟩:=H.fmGet 0 rfl x329 (zc:=[Value.slice none 0 0]) (z0:=[]) (fun _=>rSl_nil _ _)
 have G:=F;obtain ⟨p334,c334,rfl,H⟩:=H.rcSl 0 rfl;have F:=G;clear G
 replace H:=H.dp 1 rfl
 refine sv F rfl (y_fmGet2 (agg:=false) (zc:=[Value.slice none 0 0]) F Tryz.underlying46 (keyH key24) (fun w=>zero25.run w) rfl H 1 rfl rfl (k:=x329) rfl hl332 hcs333) fun a F=>bb (List.replicate 5 0) F H rfl fun a F=>nl (sq (sb [0] F H rfl fun a F=>?_))
 refine nl (cB F rfl (fun hg335=>?_) (fun hg335=>?_))
 replace hm:=ifT hg335 hm
 refine ex (cx (ch ?_))
 cases hm
 refine ct ?_
 exact ⟨_,rfl,p297,c297,F.sl rfl,(H.pm 9 [6,3,4,5,7,8] rfl:)⟩
 replace hm:=ifF (nT hg335) hm
 refine sk (ct (sr (bk [0,0,5000,0] F H rfl ⟨fld116_0,rfl,plain49,trivial⟩ fun a F=>?_)))
 obtain ⟨x336,ex336,hm⟩:=ob hm
 obtain ⟨cs337,H⟩:=H.slF 3 rfl hp330 ex336
 have G:=F;obtain ⟨rfl,hl338⟩:=H.rcBN 1 rfl;have F:=G;clear G
 replace H:=H.dp 1 rfl
 refine sv F rfl (y_idxS F elem49 rfl rfl rfl hp330 ex336) fun a F=>bk [999] F H rfl ⟨rfl,(aggn agg24 ((bcells_length _).trans hl338)),trivial⟩ fun a F=>?_
 obtain ⟨es339,H⟩:=H.fmOpen 8 rfl
 obtain ⟨cs339,hcs339,H⟩:=H.fmGet 0 rfl x336 (zc:=[Value.slice none 0 0]) (z0:=[]) (fun _=>rSl_nil _ _)
 have G:=F;obtain ⟨p340,c340,rfl,H⟩:=H.rcSl 0 rfl;have F:=G;clear G
 replace H:=H.dp 1 rfl
 refine sv F rfl (y_fmGet2 (agg:=false) (zc:=[Value.slice none 0 0]) F Tryz.underlying46 (keyH key24) (fun w=>zero25.run w) rfl H 1 rfl rfl (k:=x336) rfl hl338 hcs339) fun a F=>bb (List.replicate 5 0) F H rfl fun a F=>nl (sq (sq ?_))
 by_cases hg341:(!((bag x336).isSome))=true
 replace hm:=ifT hg341 hm
 refine qr H (by kernel_rfl) (by kernel_rfl) ?_
 refine qb [0,0,0] F rfl fun a F=>?_
 replace F:=F.vT 44 hg341 rfl
 refine qb (List.replicate 10 0) F rfl fun a F=>?_
 refine q_nil fun w H=>?_
 refine ct (cT F rfl ?_)
 cases hm
 replace hm:=ifF hg341 hm
 obtain ⟨x342,ex342,hm⟩:=ob hm
 obtain ⟨b343,o343,hp343,cs344,H⟩:=H.slE 7 rfl ex342
 have G:=F;obtain ⟨p345,c345,rfl,H⟩:=H.rcSl 1 rfl;have F:=G;clear G
 replace H:=H.dp 2 rfl
 refine qr H (by kernel_rfl) (by kernel_rfl) ?_
 refine qb [0,0,0] F rfl fun a F=>?_
 replace F:=F.vF 44 hg341 rfl
 refine qb [0] F rfl fun a F=>?_
 refine qg_on F rfl rfl rfl rfl ?_
 refine qv F rfl (fun u hu=>y_b2s F Tryz.underlying25 Tryz.underlying9 Tryz.underlying5 rfl rfl (hu) 2 rfl) fun a F=>qbk [1,10001,0] F rfl ⟨fld116_1,rfl,plain50,trivial⟩ fun a F=>?_
 refine qg_on F rfl rfl rfl rfl ?_
 refine qv F rfl (fun u hu=>y_idxS F elem50 rfl rfl rfl hp343 ex342) fun a F=>qbk [1000] F rfl ⟨rfl,plain25,trivial⟩ fun a F=>?_
 refine qg_on F rfl rfl rfl rfl ?_
 refine qv F rfl (fun u hu=>y_b2s F Tryz.underlying25 Tryz.underlying9 Tryz.underlying5 rfl rfl (hu) 0 rfl) fun a F=>?_
 refine qg_on F rfl rfl rfl rfl ?_
 refine qv F rfl (fun u hu=>y_neT (l:=((bag x336).getD [])) (m:=x342) F rfl rfl rfl) fun a F=>qb [0] F rfl fun a F=>?_
 refine q_nil fun w H=>?_
 refine ct (cNm F rfl hm (fun hg346 hm=>?_) (fun hg346 hm=>?_))
 cases hm
 refine sk (ct (rl (bk [0,0,10000,0] F H rfl ⟨fld116_0,rfl,plain49,trivial⟩ fun a F=>?_)))
 obtain ⟨x347,ex347,hm⟩:=ob hm
 obtain ⟨cs348,H⟩:=H.slF 8 rfl hp330 ex347
 have G:=F;obtain ⟨rfl,hl349⟩:=H.rcBN 1 rfl;have F:=G;clear G
 replace H:=H.dp 1 rfl
 refine sv F rfl (y_idxS F elem49 rfl rfl rfl hp330 ex347) fun a F=>bk [999] F H rfl ⟨rfl,(aggn agg24 ((bcells_length _).trans hl349)),trivial⟩ fun a F=>?_
 refine s_build1 wkP F rfl rfl rfl agg24 elem49 rfl rfl ((bcells_length _).trans hl349) (by decide) H fun b350 w a H F=>?_
 replace H:=H.blkOw1 (R:=(rBytesN 32)) (x:=x347) (fun gg=>⟨rfl,hl349⟩)
 replace H:=H.frz 0 rfl
 obtain ⟨x352,ex352,hm⟩:=ob hm
 refine s_app wkP F rfl rfl rfl rfl rfl rfl elem49 rfl ex352 H 13 0 rfl rfl fun p351 c351 w a H F=>?_
 refine bb [0] F H rfl fun a F=>?_
 replace H:=H.nf 16 rfl
 refine lz (bn ?_)
 cases hm
 refine ct ?_
 exact ⟨_,rfl,p351,c351,F.sl rfl,(H.pm 16 [13,10,11,12,14,15] rfl:)⟩
 refine ct (rl (bb [0,0,0] F H rfl fun a F=>?_))
 refine lz (ct ?_);cases hm
 replace H:=mk_triremeref08_Blocks H 1 rfl 2 rfl
 exact ⟨_,rfl,⟨[.slice p298 (s295.1.1).length c299,.slice p300 (s295.1.2).length c301],p328,c328,F.sl rfl,(H.pm 7 [4,0,1,5,6] rfl:)⟩⟩
 refine ex (cx (cx ?_));cases hm;refine ⟨_,rfl,?_⟩;rintro rfl
 refine ch (ct ?_)
 replace H:=mk_triremeref08_Blocks H 0 rfl 1 rfl
 exact ⟨_,rfl,[.slice p298 (s295.1.1).length c299,.slice p300 (s295.1.2).length c301],p297,c297,F.sl rfl,(H.pm 7 [3,0,4,5,6] rfl:)⟩
 refine ct (sb [0] F H rfl fun a F=>?_)
 replace H:=H.frz 2 rfl
 obtain ⟨x353,ex353,hm⟩:=ob hm
 refine sd F rfl ent74 (w_m_triremeref05_Sorted ex353 (H.pm 5 [0,0,1,2,3,4] rfl:):) ?_;rintro _ w a ⟨p354,c354,rfl,H⟩ F
 refine bk [0,0] F H rfl ⟨⟨_,Tryz.underlying49⟩,trivial⟩ fun a F=>sv F rfl (y_fmLen F rfl Tryz.underlying46 H 4 rfl rfl) fun a F=>bb [0,0] F H rfl fun a F=>?_
 replace H:=H.nf 6 rfl
 refine nl (wr ?_)
 cases hm
 refine x_ret1 F rfl rfl ?_
 exact ⟨_,rfl,rfl,(H.pm 6 [] rfl:)⟩
theorem w_m_triremeref11_put {x0_:List T_api_Pair} {x1_:T_api_Pair} {p1:Option Addr} {c1:Nat} {cs2:List Value} {w0 w:World} {l:List HP}  {r:(List T_api_Pair)} (hm:m_triremeref11_put x0_ x1_=some r) (H:St w0 w (HP.sl R_api_Pair p1 c1 x0_::HP.rc R_api_Pair cs2 x1_::l)) :
  Calls Tryz.prog 128 [.slice p1 (x0_).length c1,.agg cs2.toArray].toArray w (fun e w'=>∃ v,e=.returned v∧∃ (p3:Option Addr) (c3:Nat),v=.slice p3 (r).length c3∧St w0 w' (HP.sl R_api_Pair p3 c3 r::l)):=by
 unfold m_triremeref11_put at hm
 refine x_enter Tryz.func128 rfl rfl rfl ?_
 intro a F
 refine sr (s_boxA wkP F rfl rfl rfl rfl rfl H fun b4 w a H F=>bb [0] F H rfl fun a F=>?_)
 replace H:=H.nf 3 rfl
 refine nl (sq (xm2 3 [] [0,2] F H hm rfl rfl (fun r22 (p23:Option Addr) (c23:Nat) z=>(5,.slice p23 (r22).length c23)::z) (fun r22 p23 c23 z=>HP.ow R_api_Pair 129 p23 c23 r22::z) (fun r22 hm=>?_) (fun r22 a w hm p23 c23 F H=>?_)))
 refine mix_region [0,2,4,5] [] (.step 0 1 (.step 0 3 (.fork 0 (.fork 2 (.step 2 4 (.step 2 5 (.step 0 6 .done))) 4 (.step 2 2 (.step 2 5 (.step 0 6 .done)))) 4 (.step 2 0 (.step 2 2 (.step 2 5 (.step 0 6 .done))))))) (fun u=>∃ ls,St w0 u (HP.blk b4 (cs2) 129::HP.rc R_api_Pair cs2 x1_::ls)) (by kernel_rfl) (by kernel_rfl) ⟨_,(H.drew.pm 3 [0,2,1,2] rfl:)⟩ ?_
 replace H:=H.drew
 generalize w.drew=w at H ⊢
 refine mb [0] F H rfl fun a F=>?_
 refine m_pure F rfl rfl rfl rfl (fun u hu=>y_loadA F agg129 rfl rfl ((hu.choose_spec.blk 0 rfl).row) (hu.choose_spec.rcLen 1 rfl)) fun a F=>?_
 refine m_fork rfl rfl rfl rfl ?_ ?_
 refine m_heavy rfl rfl (s_build0O (R:=R_api_Pair) wkP F rfl rfl rfl elem61 rfl H fun b24 w a H F=>?_)
 refine lz ?_;refine ct ⟨⟨_,(H.pm 4 [1,3,0,2,3] rfl:)⟩,?_⟩
 refine m_fork rfl rfl rfl rfl ?_ ?_
 refine m_heavy rfl rfl ?_
 obtain ⟨x26,ex26,hm⟩:=ob hm
 refine s_app wkP F rfl rfl rfl rfl rfl rfl elem61 rfl ex26 H 0 2 rfl rfl fun p25 c25 w a H F=>?_
 refine lz ?_;refine ct ⟨⟨_,(H.pm 4 [1,3,0,2,3] rfl:)⟩,?_⟩
 refine m_heavy rfl rfl ?_
 refine s_build1 wkP F rfl rfl rfl agg129 elem61 rfl rfl (H.rcLen 3 rfl) (by decide) H fun b27 w a H F=>?_
 replace H:=H.blkOw1 (R:=R_api_Pair) (x:=x1_) (fun gg=>(gg 4 _ rfl).choose_spec)
 refine lz ?_;refine ct ⟨⟨_,(H.pm 5 [2,4,0,1,3,4] rfl:)⟩,?_⟩
 refine m_heavy rfl rfl ?_
 replace H:=H.frz 0 rfl
 obtain ⟨x29,ex29,hm⟩:=ob hm
 refine s_app wkP F rfl rfl rfl rfl rfl rfl elem61 rfl ex29 H 1 0 rfl rfl fun p28 c28 w a H F=>?_
 refine lz ?_;refine ct ⟨⟨_,(H.pm 5 [2,4,0,1,3,4] rfl:)⟩,?_⟩
 refine mb [0] F H rfl fun a F=>m_nil ?_
 cases hm
 refine ct ?_
 exact ⟨p28,c28,F.sl rfl,(H.pm 5 [1,2,4] rfl:)⟩
 refine m_heavy rfl rfl ?_
 refine s_build1 wkP F rfl rfl rfl agg129 elem61 rfl rfl (H.rcLen 3 rfl) (by decide) H fun b30 w a H F=>?_
 replace H:=H.blkOw1 (R:=R_api_Pair) (x:=x1_) (fun gg=>(gg 4 _ rfl).choose_spec)
 refine lz ?_;refine ct ⟨⟨_,(H.pm 5 [2,4,0,1,3,4] rfl:)⟩,?_⟩
 refine m_heavy rfl rfl ?_
 obtain ⟨x32,ex32,hm⟩:=ob hm
 refine s_app wkP F rfl rfl rfl rfl rfl rfl elem61 rfl ex32 H 1 3 rfl rfl fun p31 c31 w a H F=>?_
 refine lz ?_;refine ct ⟨⟨_,(H.pm 5 [2,4,0,1,3,4] rfl:)⟩,?_⟩
 refine m_heavy rfl rfl ?_
 replace H:=H.frz 0 rfl
 obtain ⟨x34,ex34,hm⟩:=ob hm
 refine s_app wkP F rfl rfl rfl rfl rfl rfl elem61 rfl ex34 H 1 0 rfl rfl fun p33 c33 w a H F=>?_
 refine lz ?_;refine ct ⟨⟨_,(H.pm 5 [2,4,0,1,3,4] rfl:)⟩,?_⟩
 refine mb [0] F H rfl fun a F=>m_nil ?_
 cases hm
 refine ct ?_
 exact ⟨p33,c33,F.sl rfl,(H.pm 5 [1,2,4] rfl:)⟩
 refine m_heavy rfl rfl ?_
 refine s_build1 wkP F rfl rfl rfl agg129 elem61 rfl rfl (H.rcLen 2 rfl) (by decide) H fun b35 w a H F=>?_
 replace H:=H.blkOw1 (R:=R_api_Pair) (x:=x1_) (fun gg=>(gg 3 _ rfl).choose_spec)
 refine lz ?_;refine ct ⟨⟨_,(H.pm 4 [1,3,0,2,3] rfl:)⟩,?_⟩
 refine m_heavy rfl rfl (s_build0O (R:=R_api_Pair) wkP F rfl rfl rfl elem61 rfl H fun b36 w a H F=>?_)
 refine lz ?_;refine ct ⟨⟨_,(H.pm 5 [2,4,0,1,3,4] rfl:)⟩,?_⟩
 refine m_heavy rfl rfl ?_
 obtain ⟨x38,ex38,hm⟩:=ob hm
 refine s_app wkP F rfl rfl rfl rfl rfl rfl elem61 rfl ex38 H 0 3 rfl rfl fun p37 c37 w a H F=>?_
 refine lz ?_;refine ct ⟨⟨_,(H.pm 5 [2,4,0,1,3,4] rfl:)⟩,?_⟩
 refine m_heavy rfl rfl ?_
 replace H:=H.frz 1 rfl
 obtain ⟨x40,ex40,hm⟩:=ob hm
 refine s_app wkP F rfl rfl rfl rfl rfl rfl elem61 rfl ex40 H 1 0 rfl rfl fun p39 c39 w a H F=>?_
 refine lz ?_;refine ct ⟨⟨_,(H.pm 5 [2,4,0,1,3,4] rfl:)⟩,?_⟩
 refine mb [0] F H rfl fun a F=>m_nil ?_
 cases hm
 refine ct ?_
 exact ⟨p39,c39,F.sl rfl,(H.pm 5 [1,2,4] rfl:)⟩
 refine ct (sq (sr (bk [0,0,0,0] F H rfl ⟨⟨_,Tryz.underlying61⟩,trivial⟩ fun a F=>?_)))
 refine nl (xm0 3 [5] [0,1,2] F H hm rfl rfl (fun r87 z=>z) (fun r87 z=>z) (fun r87 hm=>?_) (fun r87 a w hm F H=>?_))
 refine bl (xl0 3 [5,6] [0,1,2] F H hm rfl rfl (fun (s118:Unit) z=>z) (fun s118 z=>z) ⟨F.sl rfl,H⟩ (fun s118 a w o F H hm=>sq (sq ?_)))
 by_cases hg119:0<(IntKind.i64.wrap (((r22).length:Int) - 1))
 replace hm:=ifT hg119 hm
 obtain ⟨x120,ex120,hm⟩:=ob hm
 obtain ⟨b121,hp121⟩:=H.owP 0 rfl (idxO_some ex120).2
 obtain ⟨css122,H⟩:=H.oxOpen 0 rfl
 obtain ⟨cs122,hcs122,hcl122,H⟩:=H.oxEl 0 rfl (idxO_some ex120).2
 have G:=F;replace H:=rc_api_Pair (H.pk 0 rfl);obtain ⟨p123,c124,p125,c126,rfl,J⟩:=H;have H:=J;have F:=G;clear G J
 obtain ⟨x127,ex127,hm⟩:=ob hm
 obtain ⟨cs128,hcs128,hcl128,H⟩:=H.oxEl 2 rfl (idxO_some ex127).2
 have G:=F;replace H:=rc_api_Pair (H.pk 0 rfl);obtain ⟨p129,c130,p131,c132,rfl,J⟩:=H;have H:=J;have F:=G;clear G J
 refine qr H (by kernel_rfl) (by kernel_rfl) ?_
 refine qb [0,0,0] F rfl fun a F=>?_
 replace F:=F.bT 19 hg119 rfl
 refine qb [0,0] F rfl fun a F=>?_
 refine qg_on F rfl rfl rfl rfl ?_
 refine qv F rfl (fun u hu=>y_idxS F elem61 rfl rfl rfl hp121 ex120) fun a F=>qbk [0] F rfl ⟨fld129_0,trivial⟩ fun a F=>?_
 refine qg_on F rfl rfl rfl rfl ?_
 refine qv F rfl (fun u hu=>y_load1 F plain25 rfl rfl (row_at (v:=.slice p123 (x120.1).length c124) (hu.oxRow 4 rfl hp121 hcs122 hcl122) rfl)) fun a F=>?_
 refine qg_on F rfl rfl rfl rfl ?_
 refine qv F rfl (fun u hu=>y_b2s F Tryz.underlying25 Tryz.underlying9 Tryz.underlying5 rfl rfl (hu) 2 rfl) fun a F=>qb [0,0,0] F rfl fun a F=>?_
 refine qg_on F rfl rfl rfl rfl ?_
 refine qv F rfl (fun u hu=>y_idxS F elem61 rfl rfl rfl hp121 ex127) fun a F=>qbk [0] F rfl ⟨fld129_0,trivial⟩ fun a F=>?_
 refine qg_on F rfl rfl rfl rfl ?_
 refine qv F rfl (fun u hu=>y_load1 F plain25 rfl rfl (row_at (v:=.slice p129 (x127.1).length c130) (hu.oxRow 4 rfl hp121 hcs128 hcl128) rfl)) fun a F=>?_
 refine qg_on F rfl rfl rfl rfl ?_
 refine qv F rfl (fun u hu=>y_b2s F Tryz.underlying25 Tryz.underlying9 Tryz.underlying5 rfl rfl (hu) 0 rfl) fun a F=>?_
 refine qg_on F rfl rfl rfl rfl ?_
 refine qv F rfl (fun u hu=>y_lssT (l:=x120.1) (m:=x127.1) F rfl rfl rfl) fun a F=>qb [0] F rfl fun a F=>?_
 refine q_nil fun w H=>?_
 replace H:=H.oxShut 4 rfl
 refine ct (cB F rfl (fun hg133=>?_) (fun hg133=>?_))
 replace hm:=ifT hg133 hm
 refine sk (ct (sq (bl ?_)))
 cases hm
 replace hm:=ifF (nT hg133) hm
 refine ex (cx (cx ?_));cases hm;refine ⟨_,rfl,?_⟩;rintro rfl
 refine ch (ct ?_)
 exact ⟨F.sl rfl,(H.pm 7 [4,5,6] rfl:)⟩
 replace hm:=ifF hg119 hm
 refine qr H (by kernel_rfl) (by kernel_rfl) ?_
 refine qb [0,0,0] F rfl fun a F=>?_
 replace F:=F.bF 19 hg119 rfl
 refine qb (List.replicate 15 0) F rfl fun a F=>?_
 refine q_nil fun w H=>?_
 refine ct (cF F rfl ?_)
 refine ex (cx (cx ?_));cases hm;refine ⟨_,rfl,?_⟩;rintro rfl
 refine ch (ct ?_)
 exact ⟨F.sl rfl,H⟩
 refine ct (sb [0,0] F H rfl fun a F=>nl (wr ?_))
 replace H:=H.frz 0 rfl
 cases hm
 refine x_ret1 F rfl rfl ?_
 exact ⟨_,rfl,p23,c23,rfl,(H.pm 3 [0] rfl:)⟩
theorem elem105:ElemT Tryz.prog 105 197 3 48 (.agg [.string ByteArray.empty,.bool false,.slice none 0 0].toArray):=⟨Tryz.underlying105,by kernel_rfl,by kernel_rfl,by decide⟩
theorem agg197:AggT Tryz.prog 197 3 [.string ByteArray.empty,.bool false,.slice none 0 0]:=⟨by rw [Tryz.underlying197];rfl,by kernel_rfl,by kernel_rfl⟩
theorem agz197:AggT Tryz.prog 197 3 ([.string (txb ([])),.bool false,.slice none (([]:List UInt8)).length 0]):=⟨by rw [Tryz.underlying197];rfl,by kernel_rfl,by kernel_rfl⟩
theorem fld197_1:FieldT Tryz.prog 197 1 1:=by unfold FieldT;rw [Tryz.underlying197];kernel_rfl
theorem fld197_0:FieldT Tryz.prog 197 0 0:=by unfold FieldT;rw [Tryz.underlying197];kernel_rfl
theorem ent128:En Tryz.prog 128:=enters Tryz.func128 (by kernel_rfl) rfl
theorem w_m_triremeref11_Pairs {x0_:List T_triremeref11_Node} {p1:Option Addr} {c1:Nat} {w0 w:World} {l:List HP}  {r:(List T_api_Pair)} (hm:m_triremeref11_Pairs x0_=some r) (H:St w0 w (HP.sl R_triremeref11_Node p1 c1 x0_::l)) :
  Calls Tryz.prog 99 [.slice p1 (x0_).length c1].toArray w (fun e w'=>∃ v,e=.returned v∧∃ (p2:Option Addr) (c2:Nat),v=.slice p2 (r).length c2∧St w0 w' (HP.sl R_api_Pair p2 c2 r::l)):=by
 unfold m_triremeref11_Pairs at hm
 refine x_enter Tryz.func99 rfl rfl rfl ?_
 intro a F
 refine sb [0] F H rfl fun a F=>nl (sr (s_build0O (R:=R_api_Pair) wkP F rfl rfl rfl elem61 rfl H fun b3 w a H F=>bb [0] F H rfl fun a F=>?_))
 replace H:=H.nf 2 rfl
 refine nl (sq (sb [0] F H rfl fun a F=>?_))
 refine nl (xm2 2 [] [] F H hm rfl rfl (fun r95 (p96:Option Addr) (c96:Nat) z=>(3,.slice p96 (r95).length c96)::z) (fun r95 p96 c96 z=>HP.sl R_api_Pair p96 c96 r95::z) (fun r95 hm=>?_) (fun r95 a w hm p96 c96 F H=>?_))
 refine bl ?_
 replace H:=H.frz 0 rfl
 refine xl2 2 [0] [1] F H hm rfl rfl (fun (s157:(List T_api_Pair)×Int) (p158:Option Addr) (c158:Nat) z=>(3,.slice p158 (s157.1).length c158)::(4,.int .i64 (s157.2))::z) (fun s157 p158 c158 z=>HP.sl R_api_Pair p158 c158 s157.1::z) ⟨(some ⟨b3,0,none⟩),0,F.sl rfl,H⟩ (fun s157 a w o p158 c158 F H hm=>?_)
 refine sq (sr (bk [0,0,0,0] F H rfl ⟨⟨_,Tryz.underlying105⟩,trivial⟩ fun a F=>?_))
 refine nl (cPm F rfl hm (fun hg159 hm=>?_) (fun hg159 hm=>?_))
 refine sk (ct (sq (xm2 2 [0,4] [1] F H hm rfl rfl (fun r173 (p174:Option Addr) (c174:Nat) z=>(3,.slice p174 (r173).length c174)::z) (fun r173 p174 c174 z=>HP.sl R_api_Pair p174 c174 r173::z) (fun r173 hm=>?_) (fun r173 a w hm p174 c174 F H=>?_))))
 refine bl (sb [0,0] F H rfl fun a F=>?_)
 obtain ⟨x175,ex175,hm⟩:=ob hm
 obtain ⟨b176,o176,hp176,cs177,H⟩:=H.slE 1 rfl ex175
 refine sv F rfl (y_idxS F elem105 rfl rfl rfl hp176 ex175) fun a F=>bk [999] F H rfl ⟨rfl,(aggn agg197 (H.rcLen 1 rfl)),trivial⟩ fun a F=>?_
 replace H:=H.owNil rByte 5
 refine s_allocA wkP F rfl rfl rfl agz197 rfl H fun b178 w a H F=>s_storeA wkP F rfl rfl agg197 rfl rfl rfl H 0 rfl (H.rcLen 3 rfl) rfl (H.rcFlat 3 rfl) fun w H=>?_
 replace H:=H.nf 6 rfl
 refine nl (sq (sr (bk [1] F H rfl ⟨fld197_1,trivial⟩ fun a F=>?_)))
 have G:=F;replace H:=rc_triremeref11_Node (H.pk 3 rfl);obtain ⟨p179,c180,rfl,J⟩:=H;have H:=J;have F:=G;clear G J
 refine bk [1001] F H rfl ⟨rfl,plain4,trivial⟩ fun a F=>?_
 refine nl (cB F rfl (fun hg181=>?_) (fun hg181=>?_))
 replace hm:=ifT hg181 hm
 refine sr (bk [0,0,1000] F H rfl ⟨fld197_0,rfl,plain9,trivial⟩ fun a F=>?_)
 obtain ⟨x182,ex182,hm⟩:=ob hm
 refine sv F rfl (y_addO F rfl rfl rfl ex182) fun a F=>?_
 refine s_cvT (e:=5) (xs:=x182) wkP F rfl rfl rfl Tryz.underlying9 Tryz.underlying25 Tryz.underlying5 rfl rfl H fun b183 c183 w a H F=>?_
 obtain ⟨x185,ex185,hm⟩:=ob hm
 refine s_buildC wkP F rfl rfl rfl elem25 zero5 rfl rfl rfl rfl (by simp [Value.cells]) (by decide) H fun b184 w a H F=>?_
 replace H:=H.blkOw1 (R:=rByte) (x:=x185) (fun gg=>(congrArg (fun z=>[Value.int .u8 z]) (u8O_some ex185).symm))
 refine s_convSl wkP F rfl rfl rfl Tryz.underlying25 Tryz.underlying5 rfl rfl H 0 rfl fun w a H F=>?_
 refine sv F rfl (y_build F rfl rfl (cs:=[.slice (some ⟨b183,0,none⟩) (x182).length c183,.slice (some ⟨b184,0,none⟩) ([x185]).length (([x185]).length)]) (by kernel_rfl)) fun a F=>?_
 replace H:=H.cvFrz 1 rfl
 replace H:=mk_api_Pair H 0 rfl 1 rfl
 obtain ⟨x186,ex186,hm⟩:=ob hm
 refine sd F rfl ent128 (w_m_triremeref11_put ex186 (H.pm 9 [7,0,0,1,2,3,4,5,6,7,8] rfl:):) ?_;rintro _ w a ⟨p187,c187,rfl,H⟩ F
 refine bb [0] F H rfl fun a F=>?_
 replace H:=H.nf 10 rfl
 refine nl (ex (cx (ch ?_)))
 cases hm
 refine ct ?_
 exact ⟨p187,c187,F.sl rfl,(H.pm 10 [0,9] rfl:)⟩
 replace hm:=ifF (nT hg181) hm
 refine sk (ct ?_)
 cases hm
 refine ct (rl (bb [0,0,0] F H rfl fun a F=>?_))
 refine lz (ct ?_);cases hm
 exact ⟨_,rfl,⟨p174,c174,F.sl rfl,H⟩⟩
 refine ex (cx (cx ?_));cases hm;refine ⟨_,rfl,?_⟩;rintro rfl
 refine ch (ct ?_)
 exact ⟨p158,c158,F.sl rfl,(H.pm 2 [0] rfl:)⟩
 refine ct (sb [0,0] F H rfl fun a F=>nl (wr ?_))
 cases hm
 refine x_ret1 F rfl rfl ?_
 exact ⟨_,rfl,p96,c96,rfl,H⟩
theorem agz108:AggT Tryz.prog 108 2 ([.slice none (([]:List T_triremeref11_Node)).length 0,.slice none (([]:List T_triremeref12_Snap)).length 0]):=⟨by rw [Tryz.underlying108];rfl,by kernel_rfl,by kernel_rfl⟩
theorem agg108:AggT Tryz.prog 108 2 [.slice none 0 0,.slice none 0 0]:=⟨by rw [Tryz.underlying108];rfl,by kernel_rfl,by kernel_rfl⟩
theorem w_m_triremeref12_New   {w0 w:World} {l:List HP}  {r:T_triremeref12_State} (hm:m_triremeref12_New =some r) (H:St w0 w (l)) :
  Calls Tryz.prog 73 [].toArray w (fun e w'=>∃ v,e=.returned v∧∃ (cs1:List Value),v=.agg cs1.toArray∧St w0 w' (HP.rc R_triremeref12_State cs1 r::l)):=by
 unfold m_triremeref12_New at hm
 refine x_enter Tryz.func73 rfl rfl rfl ?_
 intro a F
 refine sr ?_
 replace H:=H.owNil R_triremeref11_Node 197
 replace H:=H.owNil R_triremeref12_Snap 195
 refine s_allocA wkP F rfl rfl rfl agz108 rfl H fun b2 w a H F=>?_
 replace H:=H.nf 3 rfl
 refine nl (sr ?_)
 replace H:=H.owNil rByte 5
 refine sv F rfl (y_build F rfl rfl (cs:=[.string (txb ([47])),.bool true,.slice none (([]:List UInt8)).length 0]) (by kernel_rfl)) fun a F=>?_
 replace H:=H.frz 0 rfl
 refine s_build1 wkP F rfl rfl rfl agg197 elem105 rfl rfl rfl (by decide) H fun b3 w a H F=>?_
 replace H:=H.blkOw1 (R:=R_triremeref11_Node) (x:=([47],true,([]:List UInt8))) (fun gg=>⟨_,_,rfl,rfl,⟨_,_,rfl,rfl,⟨_,_,rfl,(gg 1 _ rfl).choose_spec⟩⟩⟩)
 replace H:=H.owNil R_triremeref12_Snap 195
 refine sv F rfl (y_build F rfl rfl (cs:=[.slice (some ⟨b3,0,none⟩) ([([47],true,([]:List UInt8))]).length (([([47],true,([]:List UInt8))]).length),.slice none (([]:List T_triremeref12_Snap)).length 0]) (by kernel_rfl)) fun a F=>s_storeA wkP F rfl rfl agg108 rfl rfl rfl H 3 rfl rfl rfl (fl rfl) fun w H=>?_
 replace H:=H.nf 6 rfl
 refine nl (wr ?_)
 replace H:=H.frz 1 rfl
 replace H:=H.frz 1 rfl
 replace H:=mk_triremeref12_State H 1 rfl 0 rfl
 cases hm
 refine x_resC1 F rfl (⟨_,rfl,agg108.run_load (H.blk 4 rfl).row rfl⟩) ?_
 exact ⟨_,rfl,[.slice (some ⟨b3,0,none⟩) ([([47],true,([]:List UInt8))]).length (([([47],true,([]:List UInt8))]).length),.slice none (([]:List T_triremeref12_Snap)).length 0],rfl,(H.pm 7 [0] rfl:)⟩
theorem fld108_0:FieldT Tryz.prog 108 0 0:=by unfold FieldT;rw [Tryz.underlying108];kernel_rfl
theorem plain105:Plain Tryz.prog 105:=by unfold Plain;rw [Tryz.underlying105];rfl
theorem ent99:En Tryz.prog 99:=enters Tryz.func99 (by kernel_rfl) rfl
theorem fld108_1:FieldT Tryz.prog 108 1 1:=by unfold FieldT;rw [Tryz.underlying108];kernel_rfl
theorem plain106:Plain Tryz.prog 106:=by unfold Plain;rw [Tryz.underlying106];rfl
theorem w_m_triremeref12_Write {x0_:T_triremeref12_State} {cs1:List Value} {w0 w:World} {l:List HP}  {r:T_api_State} (hm:m_triremeref12_Write x0_=some r) (H:St w0 w (HP.rc R_triremeref12_State cs1 x0_::l)) :
  Calls Tryz.prog 72 [.agg cs1.toArray].toArray w (fun e w'=>∃ v,e=.returned v∧∃ (cs2:List Value),v=.agg cs2.toArray∧St w0 w' (HP.rc R_api_State cs2 r::l)):=by
 unfold m_triremeref12_Write at hm
 refine x_enter Tryz.func72 rfl rfl rfl ?_
 intro a F
 refine sr (s_boxA wkP F rfl rfl rfl rfl rfl H fun b3 w a H F=>?_)
 replace H:=H.owNil R_api_Pair 129
 replace H:=H.owNil R_api_Snap 131
 refine s_allocA wkP F rfl rfl rfl agz64 rfl H fun b4 w a H F=>?_
 replace H:=H.nf 5 rfl
 refine nl (sr (bk [0] F H rfl ⟨fld108_0,trivial⟩ fun a F=>?_))
 have G:=F;replace H:=rc_triremeref12_State (H.pk 4 rfl);obtain ⟨p5,c6,p7,c8,rfl,J⟩:=H;have H:=J;have F:=G;clear G J
 refine bk [5000] F H rfl ⟨rfl,plain105,trivial⟩ fun a F=>?_
 obtain ⟨x9,ex9,hm⟩:=ob hm
 refine sd F rfl ent99 (w_m_triremeref11_Pairs ex9 (H.pm 6 [0,0,1,2,3,4,5] rfl:):) ?_;rintro _ w a ⟨p10,c10,rfl,H⟩ F
 replace H:=H.owNil R_api_Snap 131
 refine sv F rfl (y_build F rfl rfl (cs:=[.slice p10 (x9).length c10,.slice none (([]:List T_api_Snap)).length 0]) (by kernel_rfl)) fun a F=>?_
 replace H:=H.owNil R_api_Pair 129
 replace H:=H.owNil R_api_Snap 131
 refine s_allocA wkP F rfl rfl rfl agz64 rfl H fun b11 w a H F=>s_storeA wkP F rfl rfl agg64 rfl rfl rfl H 0 rfl rfl rfl (fl rfl) fun w H=>?_
 replace H:=H.nf 11 rfl
 refine nl (sq (sb [0] F H rfl fun a F=>nl ?_))
 replace H:=O_api_State_s (x1:=([]:List T_api_Snap)) (H.pm 11 [0,4,3,1,2,4,5,6,7,8,9,10] rfl:)
 replace H:=H.frz 8 rfl
 replace H:=O_api_State_s (x0:=([]:List T_api_Pair)) (x1:=([]:List T_api_Snap)) (H.pm 10 [7,0,8,0,1,2,3,4,5,6,9] rfl:)
 refine xm0 9 [2,3] [0,2,3,4,6,7,8] F H hm rfl rfl (fun r16 z=>z) (fun r16 z=>z) (fun r16 hm=>?_) (fun r16 a w hm F H=>?_)
 refine bl (xl0 9 [1,2,3,4] [0,2,3,4,6,7,8] F H hm rfl rfl (fun (s19:Unit) z=>z) (fun s19 z=>z) ⟨F.sl rfl,(H.pm 9 [0,2,3,4,6,7,8] rfl:)⟩ (fun s19 a w o F H hm=>sq (sr (bk [0,1,6001,0,0] F H rfl ⟨fld108_1,rfl,plain106,⟨_,Tryz.underlying106⟩,trivial⟩ fun a F=>?_))))
 replace H:=H.nf 7 rfl
 refine nl (cPm F rfl hm (fun hg20 hm=>?_) (fun hg20 hm=>?_))
 refine sk (ct (sq (bl ?_)))
 cases hm
 refine ex (cx (cx ?_));cases hm;refine ⟨_,rfl,?_⟩;rintro rfl
 refine ch (ct ?_)
 exact ⟨F.sl rfl,H⟩
 refine ct (sr ?_)
 obtain ⟨p21,c22,p23,c24,H⟩:=O_api_State_o (H.pk 1 rfl)
 refine bk [999] F H rfl ⟨rfl,(aggn agg64 rfl),trivial⟩ fun a F=>?_
 obtain ⟨p25,c26,p27,c28,H⟩:=O_api_State_o (H.pk 3 rfl)
 refine s_storeA wkP F rfl rfl agg64 rfl rfl rfl H 0 rfl rfl rfl (fl rfl) fun w H=>?_
 replace H:=H.nf 11 rfl
 refine nl (wr ?_)
 replace H:=H.frz 5 rfl
 replace H:=mk_api_State H 5 rfl 0 rfl
 cases hm
 refine x_resC1 F rfl (⟨_,rfl,agg64.run_load (H.blk 2 rfl).row rfl⟩) ?_
 exact ⟨_,rfl,[.slice p21 ((x9,([]:List T_api_Snap)).1).length c22,.slice p23 ((x9,([]:List T_api_Snap)).2).length c24],rfl,(H.pm 12 [0] rfl:)⟩
theorem agz113:AggT Tryz.prog 113 26 ([.slice none (([]:List T_triremeref11_Node)).length 0,.slice none (([]:List T_triremeref12_Snap)).length 0,.int .i64 (0),.int .u64 (0),.int .i64 (0),.int .i64 (0),.slice none (([]:List UInt8)).length 0,.slice none (([]:List (List UInt8))).length 0,.int .i64 (0),.int .u64 (0),.int .i64 (0),.int .i64 (0),.slice none (([]:List UInt8)).length 0,.slice none (([]:List (List UInt8))).length 0,.int .i64 (0),.int .u64 (0),.int .i64 (0),.int .i64 (0),.slice none (([]:List UInt8)).length 0,.slice none (([]:List (List UInt8))).length 0,.int .i64 (0),.int .u64 (0),.int .i64 (0),.int .i64 (0),.slice none (([]:List UInt8)).length 0,.slice none (([]:List (List UInt8))).length 0]):=⟨by rw [Tryz.underlying113];rfl,by kernel_rfl,by kernel_rfl⟩
theorem ent73:En Tryz.prog 73:=enters Tryz.func73 (by kernel_rfl) rfl
theorem agg113:AggT Tryz.prog 113 26 [.slice none 0 0,.slice none 0 0,.int .i64 0,.int .u64 0,.int .i64 0,.int .i64 0,.slice none 0 0,.slice none 0 0,.int .i64 0,.int .u64 0,.int .i64 0,.int .i64 0,.slice none 0 0,.slice none 0 0,.int .i64 0,.int .u64 0,.int .i64 0,.int .i64 0,.slice none 0 0,.slice none 0 0,.int .i64 0,.int .u64 0,.int .i64 0,.int .i64 0,.slice none 0 0,.slice none 0 0]:=⟨by rw [Tryz.underlying113];rfl,by kernel_rfl,by kernel_rfl⟩
theorem w_rNewW   {w0 w:World} {l:List HP}  {r:T_triremeref13_Whole} (hm:rNewW =some r) (H:St w0 w (l)) :
  Calls Tryz.prog 40 [].toArray w (fun e w'=>∃ v,e=.returned v∧∃ (cs1:List Value),v=.agg cs1.toArray∧St w0 w' (HP.rc R_triremeref13_Whole cs1 r::l)):=by
 unfold rNewW at hm
 refine x_enter Tryz.func40 rfl rfl rfl ?_
 intro a F
 refine sr ?_
 replace H:=H.owNil R_triremeref11_Node 197
 replace H:=H.owNil R_triremeref12_Snap 195
 replace H:=H.owNil rByte 5
 replace H:=H.owNil rStr 9
 replace H:=H.owNil rByte 5
 replace H:=H.owNil rStr 9
 replace H:=H.owNil rByte 5
 replace H:=H.owNil rStr 9
 replace H:=H.owNil rByte 5
 replace H:=H.owNil rStr 9
 refine s_allocA wkP F rfl rfl rfl agz113 rfl H fun b2 w a H F=>?_
 replace H:=H.nf 11 rfl
 refine nl (sr ?_)
 obtain ⟨x3,ex3,hm⟩:=ob hm
 refine sd F rfl ent73 (w_m_triremeref12_New ex3 H:) ?_;rintro _ w a ⟨cs4,rfl,H⟩ F
 have G:=F;replace H:=rc_triremeref12_State (H.pk 0 rfl);obtain ⟨p5,c6,p7,c8,rfl,J⟩:=H;have H:=J;have F:=G;clear G J
 replace H:=H.owNil rByte 5
 replace H:=H.owNil rStr 9
 replace H:=H.owNil rByte 5
 replace H:=H.owNil rStr 9
 replace H:=H.owNil rByte 5
 replace H:=H.owNil rStr 9
 replace H:=H.owNil rByte 5
 replace H:=H.owNil rStr 9
 refine sv F rfl (y_build F rfl rfl (cs:=[.slice p5 (x3.1).length c6,.slice p7 (x3.2).length c8,.int .i64 (0),.int .u64 (0),.int .i64 (0),.int .i64 (0),.slice none (([]:List UInt8)).length 0,.slice none (([]:List (List UInt8))).length 0,.int .i64 (0),.int .u64 (0),.int .i64 (0),.int .i64 (0),.slice none (([]:List UInt8)).length 0,.slice none (([]:List (List UInt8))).length 0,.int .i64 (0),.int .u64 (0),.int .i64 (0),.int .i64 (0),.slice none (([]:List UInt8)).length 0,.slice none (([]:List (List UInt8))).length 0,.int .i64 (0),.int .u64 (0),.int .i64 (0),.int .i64 (0),.slice none (([]:List UInt8)).length 0,.slice none (([]:List (List UInt8))).length 0]) (by kernel_rfl)) fun a F=>s_storeA wkP F rfl rfl agg113 rfl rfl rfl H 10 rfl rfl rfl (fl rfl) fun w H=>?_
 replace H:=H.nf 21 rfl
 refine nl (wr ?_)
 replace H:=H.frz 7 rfl
 replace H:=H.frz 7 rfl
 replace H:=H.frz 7 rfl
 replace H:=H.frz 7 rfl
 replace H:=H.frz 7 rfl
 replace H:=H.frz 7 rfl
 replace H:=H.frz 7 rfl
 replace H:=H.frz 7 rfl
 replace H:=H.mkRc (R:=R_triremeref13_Whole) (cs:=[.slice p5 (x3.1).length c6,.slice p7 (x3.2).length c8,.int .i64 (0),.int .u64 (0),.int .i64 (0),.int .i64 (0),.slice none (([]:List UInt8)).length 0,.slice none (([]:List (List UInt8))).length 0,.int .i64 (0),.int .u64 (0),.int .i64 (0),.int .i64 (0),.slice none (([]:List UInt8)).length 0,.slice none (([]:List (List UInt8))).length 0,.int .i64 (0),.int .u64 (0),.int .i64 (0),.int .i64 (0),.slice none (([]:List UInt8)).length 0,.slice none (([]:List (List UInt8))).length 0,.int .i64 (0),.int .u64 (0),.int .i64 (0),.int .i64 (0),.slice none (([]:List UInt8)).length 0,.slice none (([]:List (List UInt8))).length 0]) (x:=((x3.1,x3.2),((0,0,(0,0,([]:List UInt8),([]:List (List UInt8)))),(0,0,(0,0,([]:List UInt8),([]:List (List UInt8)))),(0,0,(0,0,([]:List UInt8),([]:List (List UInt8)))),(0,0,(0,0,([]:List UInt8),([]:List (List UInt8))))))) (fun gg=>⟨[Value.slice p5 (x3.1).length c6,.slice p7 (x3.2).length c8],_,rfl,⟨[Value.slice p5 (x3.1).length c6],_,rfl,⟨_,_,rfl,(gg 8 _ rfl).choose_spec⟩,⟨_,_,rfl,(gg 9 _ rfl).choose_spec⟩⟩,⟨[Value.int .i64 (0),.int .u64 (0),.int .i64 (0),.int .i64 (0),.slice none (([]:List UInt8)).length 0,.slice none (([]:List (List UInt8))).length 0],_,rfl,⟨[Value.int .i64 (0)],_,rfl,rfl,⟨[Value.int .u64 (0)],_,rfl,rfl,⟨[Value.int .i64 (0)],_,rfl,rfl,⟨[Value.int .i64 (0)],_,rfl,rfl,⟨[Value.slice none (([]:List UInt8)).length 0],_,rfl,⟨_,_,rfl,(gg 7 _ rfl).choose_spec⟩,⟨_,_,rfl,(gg 6 _ rfl).choose_spec⟩⟩⟩⟩⟩⟩,⟨[Value.int .i64 (0),.int .u64 (0),.int .i64 (0),.int .i64 (0),.slice none (([]:List UInt8)).length 0,.slice none (([]:List (List UInt8))).length 0],_,rfl,⟨[Value.int .i64 (0)],_,rfl,rfl,⟨[Value.int .u64 (0)],_,rfl,rfl,⟨[Value.int .i64 (0)],_,rfl,rfl,⟨[Value.int .i64 (0)],_,rfl,rfl,⟨[Value.slice none (([]:List UInt8)).length 0],_,rfl,⟨_,_,rfl,(gg 5 _ rfl).choose_spec⟩,⟨_,_,rfl,(gg 4 _ rfl).choose_spec⟩⟩⟩⟩⟩⟩,⟨[Value.int .i64 (0),.int .u64 (0),.int .i64 (0),.int .i64 (0),.slice none (([]:List UInt8)).length 0,.slice none (([]:List (List UInt8))).length 0],_,rfl,⟨[Value.int .i64 (0)],_,rfl,rfl,⟨[Value.int .u64 (0)],_,rfl,rfl,⟨[Value.int .i64 (0)],_,rfl,rfl,⟨[Value.int .i64 (0)],_,rfl,rfl,⟨[Value.slice none (([]:List UInt8)).length 0],_,rfl,⟨_,_,rfl,(gg 3 _ rfl).choose_spec⟩,⟨_,_,rfl,(gg 2 _ rfl).choose_spec⟩⟩⟩⟩⟩⟩,⟨[Value.int .i64 (0)],_,rfl,rfl,⟨[Value.int .u64 (0)],_,rfl,rfl,⟨[Value.int .i64 (0)],_,rfl,rfl,⟨[Value.int .i64 (0)],_,rfl,rfl,⟨[Value.slice none (([]:List UInt8)).length 0],_,rfl,⟨_,_,rfl,(gg 1 _ rfl).choose_spec⟩,⟨_,_,rfl,(gg 0 _ rfl).choose_spec⟩⟩⟩⟩⟩⟩⟩⟩⟩⟩)
 cases hm
 refine x_resC1 F rfl (⟨_,rfl,agg113.run_load (H.blk 11 rfl).row rfl⟩) ?_
 exact ⟨_,rfl,[.slice p5 (x3.1).length c6,.slice p7 (x3.2).length c8,.int .i64 (0),.int .u64 (0),.int .i64 (0),.int .i64 (0),.slice none (([]:List UInt8)).length 0,.slice none (([]:List (List UInt8))).length 0,.int .i64 (0),.int .u64 (0),.int .i64 (0),.int .i64 (0),.slice none (([]:List UInt8)).length 0,.slice none (([]:List (List UInt8))).length 0,.int .i64 (0),.int .u64 (0),.int .i64 (0),.int .i64 (0),.slice none (([]:List UInt8)).length 0,.slice none (([]:List (List UInt8))).length 0,.int .i64 (0),.int .u64 (0),.int .i64 (0),.int .i64 (0),.slice none (([]:List UInt8)).length 0,.slice none (([]:List (List UInt8))).length 0],rfl,(H.pm 22 [0] rfl:)⟩
theorem fld113_0:FieldT Tryz.prog 113 0 0:=by unfold FieldT;rw [Tryz.underlying113];kernel_rfl
theorem ent72:En Tryz.prog 72:=enters Tryz.func72 (by kernel_rfl) rfl
theorem fld113_1:FieldT Tryz.prog 113 1 2:=by unfold FieldT;rw [Tryz.underlying113];kernel_rfl
theorem arr111:ArrT Tryz.prog 111 110 4 6:=⟨Tryz.underlying111,by kernel_rfl⟩
theorem w_rWriteW {w_:T_triremeref13_Whole} {cs1:List Value} {w0 w:World} {l:List HP}  {r:T_api_Whole} (hm:rWriteW w_=some r) (H:St w0 w (HP.rc R_triremeref13_Whole cs1 w_::l)) :
  Calls Tryz.prog 39 [.agg cs1.toArray].toArray w (fun e w'=>∃ v,e=.returned v∧∃ (cs2:List Value),v=.agg cs2.toArray∧St w0 w' (HP.rc R_api_Whole cs2 r::l)):=by
 unfold rWriteW at hm
 refine x_enter Tryz.func39 rfl rfl rfl ?_
 intro a F
 have G:=F;replace H:=rc_triremeref13_Whole (H.pk 0 rfl);obtain ⟨u3,v4,rfl,J⟩:=H;have H:=J;have F:=G;clear G J
 have G:=F;replace H:=rc_triremeref12_State (H.pk 0 rfl);obtain ⟨p5,c6,p7,c8,rfl,J⟩:=H;have H:=J;have F:=G;clear G J
 have G:=F;replace H:=rc_t111 (H.pk 2 rfl);obtain ⟨u9,u10,u11,v12,rfl,J⟩:=H;have H:=J;have F:=G;clear G J
 have G:=F;replace H:=rc_api_Seat (H.pk 0 rfl);obtain ⟨v13,rfl,J⟩:=H;have H:=J;have F:=G;clear G J
 have G:=F;replace H:=rc_api_Answer (H.pk 0 rfl);obtain ⟨p14,c15,p16,c17,rfl,J⟩:=H;have H:=J;have F:=G;clear G J
 have G:=F;replace H:=rc_api_Seat (H.pk 2 rfl);obtain ⟨v18,rfl,J⟩:=H;have H:=J;have F:=G;clear G J
 have G:=F;replace H:=rc_api_Answer (H.pk 0 rfl);obtain ⟨p19,c20,p21,c22,rfl,J⟩:=H;have H:=J;have F:=G;clear G J
 have G:=F;replace H:=rc_api_Seat (H.pk 4 rfl);obtain ⟨v23,rfl,J⟩:=H;have H:=J;have F:=G;clear G J
 have G:=F;replace H:=rc_api_Answer (H.pk 0 rfl);obtain ⟨p24,c25,p26,c27,rfl,J⟩:=H;have H:=J;have F:=G;clear G J
 have G:=F;replace H:=rc_api_Seat (H.pk 6 rfl);obtain ⟨v28,rfl,J⟩:=H;have H:=J;have F:=G;clear G J
 have G:=F;replace H:=rc_api_Answer (H.pk 0 rfl);obtain ⟨p29,c30,p31,c32,rfl,J⟩:=H;have H:=J;have F:=G;clear G J
 refine sr (s_boxA wkP F rfl rfl rfl rfl rfl H fun b33 w a H F=>?_)
 replace H:=H.owNil R_api_Pair 129
 replace H:=H.owNil R_api_Snap 131
 replace H:=H.owNil R_api_Seat 110
 refine s_allocA wkP F rfl rfl rfl agz67 rfl H fun b34 w a H F=>?_
 replace H:=H.nf 15 rfl
 refine nl (sr (bk [0] F H rfl ⟨fld113_0,trivial⟩ fun a F=>sv F rfl (y_loadA F agg108 rfl rfl (row_mid (A:=([]:List Value)) (X:=[.slice p5 (w_.1.1).length c6,.slice p7 (w_.1.2).length c8]) (C:=[.int .i64 (w_.2.1.1),.int .u64 (w_.2.1.2.1),.int .i64 (w_.2.1.2.2.1),.int .i64 (w_.2.1.2.2.2.1),.slice p14 (w_.2.1.2.2.2.2.1).length c15,.slice p16 (w_.2.1.2.2.2.2.2).length c17,.int .i64 (w_.2.2.1.1),.int .u64 (w_.2.2.1.2.1),.int .i64 (w_.2.2.1.2.2.1),.int .i64 (w_.2.2.1.2.2.2.1),.slice p19 (w_.2.2.1.2.2.2.2.1).length c20,.slice p21 (w_.2.2.1.2.2.2.2.2).length c22,.int .i64 (w_.2.2.2.1.1),.int .u64 (w_.2.2.2.1.2.1),.int .i64 (w_.2.2.2.1.2.2.1),.int .i64 (w_.2.2.2.1.2.2.2.1),.slice p24 (w_.2.2.2.1.2.2.2.2.1).length c25,.slice p26 (w_.2.2.2.1.2.2.2.2.2).length c27,.int .i64 (w_.2.2.2.2.1),.int .u64 (w_.2.2.2.2.2.1),.int .i64 (w_.2.2.2.2.2.2.1),.int .i64 (w_.2.2.2.2.2.2.2.1),.slice p29 (w_.2.2.2.2.2.2.2.2.1).length c30,.slice p31 (w_.2.2.2.2.2.2.2.2.2).length c32]) (w:=_) ((H.blk 4 rfl).row) rfl) rfl) fun a F=>?_))
 replace H:=mk_triremeref12_State H 13 rfl 14 rfl
 obtain ⟨x35,ex35,hm⟩:=ob hm
 refine sd F rfl ent72 (w_m_triremeref12_Write ex35 (H.pm 16 [0,0,1,2,3,4,5,6,7,8,9,10,11,12,13,14,15] rfl:):) ?_;rintro _ w a ⟨cs36,rfl,H⟩ F
 have G:=F;replace H:=rc_api_State (H.pk 0 rfl);obtain ⟨p37,c38,p39,c40,rfl,J⟩:=H;have H:=J;have F:=G;clear G J
 replace H:=H.owNil R_api_Seat 110
 refine sv F rfl (y_build F rfl rfl (cs:=[.slice p37 (x35.1).length c38,.slice p39 (x35.2).length c40,.slice none (([]:List T_api_Seat)).length 0]) (by kernel_rfl)) fun a F=>?_
 replace H:=H.owNil R_api_Pair 129
 replace H:=H.owNil R_api_Snap 131
 replace H:=H.owNil R_api_Seat 110
 refine s_allocA wkP F rfl rfl rfl agz67 rfl H fun b41 w a H F=>s_storeA wkP F rfl rfl agg67 rfl rfl rfl H 0 rfl rfl rfl (fl rfl) fun w H=>?_
 replace H:=H.nf 23 rfl
 refine nl (sq (sb [0] F H rfl fun a F=>nl (bl (x_unroll 5 ?_))))
 refine x_un (n:=4) ?_
 refine sq (sb [0,0] F H rfl fun a F=>?_)
 replace F:=F.bool (k:=11) (u:=.bool true) rfl (by kernel_rfl)
 refine nl (cT F rfl (sk (ct (sq (bl (sr (bk [0,2] F H rfl ⟨fld113_1,trivial⟩ fun a F=>sv F rfl (y_idxAG F arr111 rfl rfl rfl (by decide)) fun a F=>?_)))))))
 replace F:=F.bool (k:=16) (u:=.pointer (some ⟨b33,0+2+0,none⟩)) rfl (by kernel_rfl)
 refine bk [1,12003,0] F H rfl ⟨fld110_1,rfl,plain22,trivial⟩ fun a F=>?_
 refine nl (cPm F rfl hm (fun hg42 hm=>?_) (fun hg42 hm=>?_))
 cases hm
 refine sk (bn (ct (rl (bb [0,0] F H rfl fun a F=>?_))))
 replace F:=F.bool (k:=13) (u:=.int .i64 (1)) rfl (by kernel_rfl)
 refine bb [0] F H rfl fun a F=>lz (ct (x_un (n:=3) (sq (sb [0,0] F H rfl fun a F=>?_))))
 replace F:=F.bool (k:=11) (u:=.bool true) rfl (by kernel_rfl)
 refine nl (cT F rfl (sk (ct (sq (bl (sr (bk [0,2] F H rfl ⟨fld113_1,trivial⟩ fun a F=>sv F rfl (y_idxAG F arr111 rfl rfl rfl (by decide)) fun a F=>?_)))))))
 replace F:=F.bool (k:=16) (u:=.pointer (some ⟨b33,0+2+6,none⟩)) rfl (by kernel_rfl)
 refine bk [1,12009,0] F H rfl ⟨fld110_1,rfl,plain22,trivial⟩ fun a F=>?_
 refine nl (cPm F rfl hm (fun hg43 hm=>?_) (fun hg43 hm=>?_))
 cases hm
 refine sk (bn (ct (rl (bb [0,0] F H rfl fun a F=>?_))))
 replace F:=F.bool (k:=13) (u:=.int .i64 (2)) rfl (by kernel_rfl)
 refine bb [0] F H rfl fun a F=>lz (ct (x_un (n:=2) (sq (sb [0,0] F H rfl fun a F=>?_))))
 replace F:=F.bool (k:=11) (u:=.bool true) rfl (by kernel_rfl)
 refine nl (cT F rfl (sk (ct (sq (bl (sr (bk [0,2] F H rfl ⟨fld113_1,trivial⟩ fun a F=>sv F rfl (y_idxAG F arr111 rfl rfl rfl (by decide)) fun a F=>?_)))))))
 replace F:=F.bool (k:=16) (u:=.pointer (some ⟨b33,0+2+12,none⟩)) rfl (by kernel_rfl)
 refine bk [1,12015,0] F H rfl ⟨fld110_1,rfl,plain22,trivial⟩ fun a F=>?_
 refine nl (cPm F rfl hm (fun hg44 hm=>?_) (fun hg44 hm=>?_))
 cases hm
 refine sk (bn (ct (rl (bb [0,0] F H rfl fun a F=>?_))))
 replace F:=F.bool (k:=13) (u:=.int .i64 (3)) rfl (by kernel_rfl)
 refine bb [0] F H rfl fun a F=>lz (ct (x_un (n:=1) (sq (sb [0,0] F H rfl fun a F=>?_))))
 replace F:=F.bool (k:=11) (u:=.bool true) rfl (by kernel_rfl)
 refine nl (cT F rfl (sk (ct (sq (bl (sr (bk [0,2] F H rfl ⟨fld113_1,trivial⟩ fun a F=>sv F rfl (y_idxAG F arr111 rfl rfl rfl (by decide)) fun a F=>?_)))))))
 replace F:=F.bool (k:=16) (u:=.pointer (some ⟨b33,0+2+18,none⟩)) rfl (by kernel_rfl)
 refine bk [1,12021,0] F H rfl ⟨fld110_1,rfl,plain22,trivial⟩ fun a F=>?_
 refine nl (cPm F rfl hm (fun hg45 hm=>?_) (fun hg45 hm=>?_))
 cases hm
 refine sk (bn (ct (rl (bb [0,0] F H rfl fun a F=>?_))))
 replace F:=F.bool (k:=13) (u:=.int .i64 (4)) rfl (by kernel_rfl)
 refine bb [0] F H rfl fun a F=>lz (ct (x_un (n:=0) (sq (sb [0,0] F H rfl fun a F=>?_))))
 replace F:=F.bool (k:=11) (u:=.bool false) rfl (by kernel_rfl)
 refine nl (cF F rfl ?_)
 refine ex (cx (cx (ch (ct (sr (bk [999] F H rfl ⟨rfl,(aggn agg67 rfl),trivial⟩ fun a F=>?_))))))
 refine s_storeA wkP F rfl rfl agg67 rfl rfl rfl H 8 rfl rfl rfl (fl rfl) fun w H=>?_
 replace H:=H.nf 23 rfl
 refine nl (wr ?_)
 replace H:=H.frz 4 rfl
 replace H:=H.mkRc (R:=R_api_Whole) (cs:=[.slice p37 (x35.1).length c38,.slice p39 (x35.2).length c40,.slice none (([]:List T_api_Seat)).length 0]) (x:=((x35.1,x35.2),([]:List T_api_Seat))) (fun gg=>⟨[Value.slice p37 (x35.1).length c38,.slice p39 (x35.2).length c40],_,rfl,⟨[Value.slice p37 (x35.1).length c38],_,rfl,⟨_,_,rfl,(gg 5 _ rfl).choose_spec⟩,⟨_,_,rfl,(gg 6 _ rfl).choose_spec⟩⟩,⟨_,_,rfl,(gg 0 _ rfl).choose_spec⟩⟩)
 cases hm
 refine x_resC1 F rfl (⟨_,rfl,agg67.run_load (H.blk 9 rfl).row rfl⟩) ?_
 exact ⟨_,rfl,[.slice p37 (x35.1).length c38,.slice p39 (x35.2).length c40,.slice none (([]:List T_api_Seat)).length 0],rfl,(H.pm 24 [0] rfl:)⟩
theorem ent94:En Tryz.prog 94:=enters Tryz.func94 (by kernel_rfl) rfl
theorem fld52_0:FieldT Tryz.prog 52 0 0:=by unfold FieldT;rw [Tryz.underlying52];kernel_rfl
theorem fld52_1:FieldT Tryz.prog 52 1 1:=by unfold FieldT;rw [Tryz.underlying52];kernel_rfl
theorem w_mdTree {m_:T_triremeref14_Made_o} {pairs:List T_api_Pair} {bo0:Nat} {p1:Option Addr} {c1:Nat} {w0 w:World} {l:List HP}  {r:(List UInt8)×T_triremeref14_Made_o} (hm:mdTree m_ pairs=some r) (H:St w0 w (O_triremeref14_Made bo0 m_::HP.sl R_api_Pair p1 c1 pairs::l)) :
  Calls Tryz.prog 69 [.pointer (some ⟨bo0,0,none⟩),.slice p1 (pairs).length c1].toArray w (fun e w'=>∃ v,e=.returned v∧v=.agg (bcells r.1).toArray∧((r.1).length=32)∧St w0 w' (O_triremeref14_Made bo0 r.2::l)):=by
 unfold mdTree at hm
 refine x_enter Tryz.func69 rfl rfl rfl ?_
 intro a F
 refine sr (s_allocA wkP F rfl rfl rfl agz24 rfl H fun b3 w a H F=>?_)
 replace H:=H.nf 3 rfl
 refine nb [0] F H rfl fun a F=>?_
 obtain ⟨x4,ex4,hm⟩:=ob hm
 refine sd F rfl ent94 (w_rBuild ex4 (H.pm 3 [2,0,1,2] rfl:):) ?_;rintro _ w a ⟨cs6,rfl,hl5,H⟩ F
 refine bb [0,0,0,0] F H rfl fun a F=>s_allocA wkP F rfl rfl rfl agz24 rfl H fun b7 w a H F=>?_
 replace H:=H.owNil (rBytesN 32) 24
 replace H:=H.owNil (rSl rByte) 25
 refine s_allocA wkP F rfl rfl rfl agz116 rfl H fun b8 w a H F=>s_storeA wkP F rfl rfl agg24 rfl rfl rfl H 3 rfl ((bcells_length _).trans hl5) ((bcells_length _).trans (List.length_replicate (n:=32))) (bcells_flat _) fun w H=>s_storeA wkP F rfl rfl agg116 rfl rfl rfl H 0 rfl (H.rcLen 4 rfl) rfl (H.rcFlat 4 rfl) fun w H=>bb [0] F H rfl fun a F=>?_
 replace H:=H.nf 8 rfl
 refine nl (sq ?_)
 obtain ⟨p9,c10,p11,c12,H⟩:=O_triremeref14_Made_o (H.pk 6 rfl)
 have G:=F;replace H:=rc_triremeref08_Blocks (H.pk 7 rfl);obtain ⟨p13,c14,p15,c16,rfl,J⟩:=H;have H:=J;have F:=G;clear G J
 refine mix_regionK [7,10] [10] (scL [0,1,2,3,1004,5,1006,2007,8,9,3010]) [] H rfl rfl (by kernel_rfl) (by kernel_rfl) fun w H=>?_
 refine mbk [0,0,0,0,2000,0,5000] F H rfl ⟨fld52_0,rfl,plain49,fld116_0,rfl,plain49,trivial⟩ fun a F=>m_heavy rfl rfl ?_
 obtain ⟨x18,ex18,hm⟩:=ob hm
 refine s_app wkP F rfl rfl rfl rfl rfl rfl elem49 rfl ex18 H 3 0 rfl rfl fun p17 c17 w a H F=>?_
 refine lz ?_;refine ct ⟨⟨_,H⟩,?_⟩
 refine mbk [0,0] F H rfl ⟨fld52_0,trivial⟩ fun a F=>m_last rfl rfl (s_st1 wkP F rfl rfl zero49 rfl rfl rfl rfl rfl H 2 rfl rfl fun w H=>?_)
 refine lz ?_;refine ct ?_
 refine m_nil (ct (sq (mix_regionK [7,10] [10] (scL [0,1,2,3,1004,5,1006,2007,8,9,3010]) [] H rfl rfl (by kernel_rfl) (by kernel_rfl) fun w H=>mbk [0,0,0,1,2001,1,5001] F H rfl ⟨fld52_1,rfl,plain50,fld116_1,rfl,plain50,trivial⟩ fun a F=>m_heavy rfl rfl ?_)))
 obtain ⟨x20,ex20,hm⟩:=ob hm
 refine s_app wkP F rfl rfl rfl rfl rfl rfl elem50 rfl ex20 H 4 1 rfl rfl fun p19 c19 w a H F=>?_
 refine lz ?_;refine ct ⟨⟨_,H⟩,?_⟩
 refine mbk [0,1] F H rfl ⟨fld52_1,trivial⟩ fun a F=>m_last rfl rfl (s_st1 wkP F rfl rfl zero50 rfl rfl rfl rfl rfl H 2 rfl rfl fun w H=>?_)
 refine lz ?_;refine ct ?_
 refine m_nil (ct (sr (bk [8999] F H rfl ⟨rfl,(aggn agg24 ((bcells_length _).trans hl5)),trivial⟩ fun a F=>s_storeA wkP F rfl rfl agg24 rfl rfl rfl H 9 rfl ((bcells_length _).trans hl5) ((bcells_length _).trans (List.length_replicate (n:=32))) (bcells_flat _) fun w H=>?_)))
 replace H:=H.nf 11 rfl
 refine nl (wr ?_)
 replace H:=O_triremeref14_Made_s (H.pm 11 [2,3,4,0,1,5,6,7,8,9,10] rfl:)
 cases hm
 refine x_resC1 F rfl (⟨_,rfl,agg24.run_load (H.blk 7 rfl).row ((bcells_length _).trans hl5)⟩) ?_
 exact ⟨_,rfl,rfl,hl5,(H.pm 9 [0] rfl:)⟩
theorem ent69:En Tryz.prog 69:=enters Tryz.func69 (by kernel_rfl) rfl
theorem ent8:En Tryz.prog 8:=enters Tryz.func8 (by kernel_rfl) rfl
theorem w_mdWhole {m_:T_triremeref14_Made_o} {r_:T_api_Record} {w_:T_api_Whole} {bo0:Nat} {cs1:List Value} {cs2:List Value} {w0 w:World} {l:List HP}  {r:(List UInt8)×T_triremeref14_Made_o} (hm:mdWhole m_ r_ w_=some r) (H:St w0 w (O_triremeref14_Made bo0 m_::HP.rc R_api_Record cs1 r_::HP.rc R_api_Whole cs2 w_::l)) :
  Calls Tryz.prog 38 [.pointer (some ⟨bo0,0,none⟩),.agg cs1.toArray,.agg cs2.toArray].toArray w (fun e w'=>∃ v,e=.returned v∧v=.agg (bcells r.1).toArray∧((r.1).length=32)∧St w0 w' (O_triremeref14_Made bo0 r.2::l)):=by
 unfold mdWhole at hm
 refine x_enter Tryz.func38 rfl rfl rfl ?_
 intro a F
 refine sr (s_boxA wkP F rfl rfl rfl rfl rfl H fun b4 w a H F=>s_boxA wkP F rfl rfl rfl rfl rfl H fun b5 w a H F=>s_allocA wkP F rfl rfl rfl agz24 rfl H fun b6 w a H F=>?_)
 replace H:=H.nf 6 rfl
 refine nl (sr (s_build0O (R:=R_api_Pair) wkP F rfl rfl rfl elem61 rfl H fun b7 w a H F=>s_build0O (R:=R_api_Pair) wkP F rfl rfl rfl elem61 rfl H fun b8 w a H F=>bb [0,0] F H rfl fun a F=>?_))
 replace H:=H.nf 8 rfl
 refine nl (sq (sb [0] F H rfl fun a F=>?_))
 refine nl (xm1 8 [0,4,5,6,7,8] [0,1,2,4,5,6] F H hm rfl rfl (fun r34 (cs35:List Value) z=>z) (fun r34 cs35 z=>HP.blk b5 (cs35) 67::HP.rc R_api_Whole cs35 r34::z) (fun r34 hm=>?_) (fun r34 a w hm cs35 F H=>?_))
 refine bl (xl0 8 [0,4,5,6,7,8,9] [0,1,2,3,4,5,6,7] F H hm rfl rfl (fun (s52:Unit) z=>z) (fun s52 z=>z) ⟨F.sl rfl,H⟩ (fun s52 a w o F H hm=>sq (sr (bk [0,0,1] F H rfl ⟨fld67_0,fld64_1,trivial⟩ fun a F=>?_))))
 have G:=F;replace H:=rc_api_Whole (H.pk 7 rfl);obtain ⟨u53,p54,c55,rfl,J⟩:=H;have H:=J;have F:=G;clear G J
 have G:=F;replace H:=rc_api_State (H.pk 0 rfl);obtain ⟨p56,c57,p58,c59,rfl,J⟩:=H;have H:=J;have F:=G;clear G J
 refine bk [6001,0,0] F H rfl ⟨rfl,plain62,⟨_,Tryz.underlying62⟩,trivial⟩ fun a F=>?_
 refine nl (cPm F rfl hm (fun hg60 hm=>?_) (fun hg60 hm=>?_))
 refine sk (ct (sq (bl ?_)))
 cases hm
 refine ex (cx (cx ?_));cases hm;refine ⟨_,rfl,?_⟩;rintro rfl
 refine ch (ct ?_)
 replace H:=H.mkRc (R:=R_api_Whole) (cs:=[.slice p56 (w_.1.1).length c57,.slice p58 (w_.1.2).length c59,.slice p54 (w_.2).length c55]) (x:=((w_.1.1,w_.1.2),w_.2)) (fun gg=>⟨[Value.slice p56 (w_.1.1).length c57,.slice p58 (w_.1.2).length c59],_,rfl,⟨[Value.slice p56 (w_.1.1).length c57],_,rfl,⟨_,_,rfl,(gg 0 _ rfl).choose_spec⟩,⟨_,_,rfl,(gg 1 _ rfl).choose_spec⟩⟩,⟨_,_,rfl,(gg 2 _ rfl).choose_spec⟩⟩)
 exact ⟨[.slice p56 (w_.1.1).length c57,.slice p58 (w_.1.2).length c59,.slice p54 (w_.2).length c55],F.sl rfl,(H.pm 11 [7,0,4,5,6,8,9,10] rfl:)⟩
 refine ct (sq (sb [0] F H rfl fun a F=>?_))
 refine nl (xm1 8 [0,4,5,6,7,8] [2,3,4,5,6,7] F H hm rfl rfl (fun r74 (cs75:List Value) z=>z) (fun r74 cs75 z=>HP.blk b5 (cs75) 67::HP.rc R_api_Whole cs75 r74::z) (fun r74 hm=>?_) (fun r74 a w hm cs75 F H=>?_))
 refine bl (xl0 8 [0,4,5,6,7,8,11] [0,1,2,3,4,5,6,7] F H hm rfl rfl (fun (s84:Unit) z=>z) (fun s84 z=>z) ⟨F.sl rfl,H⟩ (fun s84 a w o F H hm=>sq (sr (bk [0,2] F H rfl ⟨fld67_1,trivial⟩ fun a F=>?_))))
 have G:=F;replace H:=rc_api_Whole (H.pk 1 rfl);obtain ⟨u85,p86,c87,rfl,J⟩:=H;have H:=J;have F:=G;clear G J
 refine sv F rfl (y_load1 F plain65 rfl rfl ((row_midE (A:=u85) (X:=[.slice p86 (r34.2).length c87]) ((H.blk 2 rfl).row) (by simp only [List.length_append,List.length_cons,List.length_nil,icells_length,bcells_length,H.rcLen 0 rfl]<;>rfl)) 0 _ rfl)) fun a F=>?_
 refine bk [0,0] F H rfl ⟨⟨_,Tryz.underlying65⟩,trivial⟩ fun a F=>?_
 refine nl (cPm F rfl hm (fun hg88 hm=>?_) (fun hg88 hm=>?_))
 refine sk (ct (sq (bl ?_)))
 cases hm
 refine ex (cx (cx ?_));cases hm;refine ⟨_,rfl,?_⟩;rintro rfl
 refine ch (ct ?_)
 replace H:=H.mkRc (R:=R_api_Whole) (cs:=u85++([Value.slice p86 (r34.2).length c87])) (x:=(r34.1,r34.2)) (fun gg=>⟨u85,_,rfl,(gg 0 _ rfl).choose_spec,⟨_,_,rfl,(gg 1 _ rfl).choose_spec⟩⟩)
 exact ⟨u85++([Value.slice p86 (r34.2).length c87]),F.sl rfl,(H.pm 10 [3,0,4,5,6,7,8,9] rfl:)⟩
 refine ct (sr (bk [5999] F H rfl ⟨rfl,(aggn agg31 (H.rcLen 7 rfl)),trivial⟩ fun a F=>?_))
 replace H:=H.owNil rByte 5
 refine s_allocA wkP F rfl rfl rfl agz31 rfl H fun b89 w a H F=>s_storeA wkP F rfl rfl agg31 rfl rfl rfl H 0 rfl (H.rcLen 9 rfl) (by simp only [List.length_append,List.length_cons,List.length_nil,icells_length,bcells_length,(List.length_replicate (n:=32)),(List.length_replicate (n:=32)),(List.length_replicate (n:=32)),(List.length_replicate (n:=32))]) (H.rcFlat 9 rfl) fun w H=>?_
 replace H:=H.nf 10 rfl
 refine nl (sr (bk [0,0,0] F H rfl ⟨fld67_0,fld64_0,trivial⟩ fun a F=>?_))
 have G:=F;replace H:=rc_api_Whole (H.pk 3 rfl);obtain ⟨u90,p91,c92,rfl,J⟩:=H;have H:=J;have F:=G;clear G J
 have G:=F;replace H:=rc_api_State (H.pk 0 rfl);obtain ⟨p93,c94,p95,c96,rfl,J⟩:=H;have H:=J;have F:=G;clear G J
 refine bk [5000] F H rfl ⟨rfl,plain61,trivial⟩ fun a F=>?_
 obtain ⟨x97,ex97,hm⟩:=ob hm
 refine sd F rfl ent69 (w_mdTree ex97 (H.pm 12 [10,0,0,1,2,3,4,5,6,7,8,9,11] rfl:):) ?_;rintro _ w a ⟨rfl,hl98,H⟩ F
 refine bk [34] F H rfl ⟨fld31_3,trivial⟩ fun a F=>?_
 have G:=F;replace H:=rc_api_Record (H.pk 11 rfl);obtain ⟨v99,hl100,hl101,hl102,hl103,rfl,J⟩:=H;have H:=J;have F:=G;clear G J
 refine s_storeF wkP F rfl rfl agg24 rfl rfl rfl H 5 rfl (A:=[Value.int .u64 (r_.1),Value.int .u64 (r_.2.1)]++(bcells r_.2.2.1)) (X:=bcells r_.2.2.2.1) (C:=bcells r_.2.2.2.2.1++(bcells r_.2.2.2.2.2.1++(v99))) (by simp only [List.append_assoc,List.cons_append,List.nil_append]) (by simp only [List.length_append,List.length_cons,List.length_nil,icells_length,bcells_length,hl100]) ((bcells_length _).trans hl101) ((bcells_length _).trans hl98) (bcells_flat _) fun w H=>?_
 replace H:St w0 w (HP.rc R_api_Call v99 r_.2.2.2.2.2.2::O_triremeref14_Made bo0 x97.2::HP.sl R_api_Pair p93 c94 r74.1.1::HP.sl R_api_Snap p95 c96 r74.1.2::HP.sl R_api_Seat p91 c92 r74.2::HP.blk b89 ([Value.int .u64 (r_.1),Value.int .u64 (r_.2.1)]++(bcells r_.2.2.1++(bcells x97.1++(bcells r_.2.2.2.2.1++(bcells r_.2.2.2.2.2.1++(v99)))))) 31::HP.ow rByte 5 none 0 ([]:List UInt8)::HP.blk b5 ([.slice p93 (r74.1.1).length c94,.slice p95 (r74.1.2).length c96,.slice p91 (r74.2).length c92]) 67::HP.ow R_api_Pair 129 (some ⟨b8,0,none⟩) 0 ([]:List T_api_Pair)::HP.ow R_api_Pair 129 (some ⟨b7,0,none⟩) 0 ([]:List T_api_Pair)::HP.blk b6 (bcells (List.replicate 32 0)) 24::HP.blk b4 ([Value.int .u64 (r_.1),Value.int .u64 (r_.2.1)]++(bcells r_.2.2.1++(bcells r_.2.2.2.1++(bcells r_.2.2.2.2.1++(bcells r_.2.2.2.2.2.1++(v99)))))) 31::l):=H.blkEq 5 rfl ([Value.int .u64 (r_.1),Value.int .u64 (r_.2.1)]++(bcells r_.2.2.1++(bcells x97.1++(bcells r_.2.2.2.2.1++(bcells r_.2.2.2.2.2.1++(v99)))))) (by simp only [List.append_assoc,List.cons_append,List.nil_append])
 refine nb [0,0] F H rfl fun a F=>?_
 replace H:=H.frz 9 rfl
 obtain ⟨x104,ex104,hm⟩:=ob hm
 refine sd F rfl ent69 (w_mdTree ex104 (H.pm 12 [2,0,0,1,3,4,5,6,7,8,9,10,11] rfl:):) ?_;rintro _ w a ⟨rfl,hl105,H⟩ F
 refine bk [66] F H rfl ⟨fld31_4,trivial⟩ fun a F=>?_
 refine s_storeF wkP F rfl rfl agg24 rfl rfl rfl H 6 rfl (A:=[Value.int .u64 (r_.1),Value.int .u64 (r_.2.1)]++(bcells r_.2.2.1++(bcells x97.1))) (X:=bcells r_.2.2.2.2.1) (C:=bcells r_.2.2.2.2.2.1++(v99)) (by simp only [List.append_assoc,List.cons_append,List.nil_append]) (by simp only [List.length_append,List.length_cons,List.length_nil,icells_length,bcells_length,hl100,hl98]) ((bcells_length _).trans hl102) ((bcells_length _).trans hl105) (bcells_flat _) fun w H=>?_
 replace H:St w0 w (O_triremeref14_Made bo0 x104.2::HP.sl R_api_Pair (some ⟨b7,0,none⟩) 0 ([]:List T_api_Pair)::HP.rc R_api_Call v99 r_.2.2.2.2.2.2::HP.sl R_api_Pair p93 c94 r74.1.1::HP.sl R_api_Snap p95 c96 r74.1.2::HP.sl R_api_Seat p91 c92 r74.2::HP.blk b89 ([Value.int .u64 (r_.1),Value.int .u64 (r_.2.1)]++(bcells r_.2.2.1++(bcells x97.1++(bcells x104.1++(bcells r_.2.2.2.2.2.1++(v99)))))) 31::HP.ow rByte 5 none 0 ([]:List UInt8)::HP.blk b5 ([.slice p93 (r74.1.1).length c94,.slice p95 (r74.1.2).length c96,.slice p91 (r74.2).length c92]) 67::HP.ow R_api_Pair 129 (some ⟨b8,0,none⟩) 0 ([]:List T_api_Pair)::HP.blk b6 (bcells (List.replicate 32 0)) 24::HP.blk b4 ([Value.int .u64 (r_.1),Value.int .u64 (r_.2.1)]++(bcells r_.2.2.1++(bcells r_.2.2.2.1++(bcells r_.2.2.2.2.1++(bcells r_.2.2.2.2.2.1++(v99)))))) 31::l):=H.blkEq 6 rfl ([Value.int .u64 (r_.1),Value.int .u64 (r_.2.1)]++(bcells r_.2.2.1++(bcells x97.1++(bcells x104.1++(bcells r_.2.2.2.2.2.1++(v99)))))) (by simp only [List.append_assoc,List.cons_append,List.nil_append])
 refine nb [0,0] F H rfl fun a F=>?_
 replace H:=H.frz 9 rfl
 obtain ⟨x106,ex106,hm⟩:=ob hm
 refine sd F rfl ent69 (w_mdTree ex106 (H.pm 12 [1,0,0,2,3,4,5,6,7,8,9,10,11] rfl:):) ?_;rintro _ w a ⟨rfl,hl107,H⟩ F
 refine bk [98] F H rfl ⟨fld31_5,trivial⟩ fun a F=>?_
 refine s_storeF wkP F rfl rfl agg24 rfl rfl rfl H 7 rfl (A:=[Value.int .u64 (r_.1),Value.int .u64 (r_.2.1)]++(bcells r_.2.2.1++(bcells x97.1++(bcells x104.1)))) (X:=bcells r_.2.2.2.2.2.1) (C:=v99) (by simp only [List.append_assoc,List.cons_append,List.nil_append]) (by simp only [List.length_append,List.length_cons,List.length_nil,icells_length,bcells_length,hl100,hl98,hl105]) ((bcells_length _).trans hl103) ((bcells_length _).trans hl107) (bcells_flat _) fun w H=>?_
 replace H:St w0 w (O_triremeref14_Made bo0 x106.2::HP.sl R_api_Pair (some ⟨b8,0,none⟩) 0 ([]:List T_api_Pair)::HP.sl R_api_Pair (some ⟨b7,0,none⟩) 0 ([]:List T_api_Pair)::HP.rc R_api_Call v99 r_.2.2.2.2.2.2::HP.sl R_api_Pair p93 c94 r74.1.1::HP.sl R_api_Snap p95 c96 r74.1.2::HP.sl R_api_Seat p91 c92 r74.2::HP.blk b89 ([Value.int .u64 (r_.1),Value.int .u64 (r_.2.1)]++(bcells r_.2.2.1++(bcells x97.1++(bcells x104.1++(bcells x106.1++(v99)))))) 31::HP.ow rByte 5 none 0 ([]:List UInt8)::HP.blk b5 ([.slice p93 (r74.1.1).length c94,.slice p95 (r74.1.2).length c96,.slice p91 (r74.2).length c92]) 67::HP.blk b6 (bcells (List.replicate 32 0)) 24::HP.blk b4 ([Value.int .u64 (r_.1),Value.int .u64 (r_.2.1)]++(bcells r_.2.2.1++(bcells r_.2.2.2.1++(bcells r_.2.2.2.2.1++(bcells r_.2.2.2.2.2.1++(v99)))))) 31::l):=H.blkEq 7 rfl ([Value.int .u64 (r_.1),Value.int .u64 (r_.2.1)]++(bcells r_.2.2.1++(bcells x97.1++(bcells x104.1++(bcells x106.1++(v99)))))) (by simp only [List.append_assoc,List.cons_append,List.nil_append])
 refine nl (sr (bk [7999] F H rfl ⟨rfl,(aggn agg31 (by simp only [List.length_append,List.length_cons,List.length_nil,icells_length,bcells_length,hl100,hl98,hl105,hl107,H.rcLen 3 rfl]<;>rfl)),trivial⟩ fun a F=>?_))
 replace H:=H.mkRc (R:=R_api_Record) (cs:=[Value.int .u64 (r_.1),Value.int .u64 (r_.2.1)]++(bcells r_.2.2.1++(bcells x97.1++(bcells x104.1++(bcells x106.1++(v99)))))) (x:=(r_.1,r_.2.1,r_.2.2.1,x97.1,x104.1,x106.1,r_.2.2.2.2.2.2)) (fun gg=>⟨[Value.int .u64 (r_.1)],_,rfl,rfl,⟨[Value.int .u64 (r_.2.1)],_,rfl,rfl,⟨bcells r_.2.2.1,_,rfl,⟨rfl,hl100⟩,⟨bcells x97.1,_,rfl,⟨rfl,hl98⟩,⟨bcells x104.1,_,rfl,⟨rfl,hl105⟩,⟨bcells x106.1,_,rfl,⟨rfl,hl107⟩,(gg 3 _ rfl).choose_spec⟩⟩⟩⟩⟩⟩)
 obtain ⟨x108,ex108,hm⟩:=ob hm
 refine sd F rfl ent8 (w_m_triremeref14_Write ex108 (H.pm 13 [0,0,1,2,3,4,5,6,7,8,9,10,11,12] rfl:):) ?_;rintro _ w a ⟨p109,c109,rfl,H⟩ F
 refine bb (List.replicate 5 0) F H rfl fun a F=>?_
 replace H:=H.nf 14 rfl
 refine nb [0] F H rfl fun a F=>?_
 obtain ⟨x110,ex110,hm⟩:=ob hm
 refine sd F rfl ent71 (w_rSum ex110 (H.pm 14 [0,0,1,2,3,4,5,6,7,8,9,10,11,12,13] rfl:):) ?_;rintro _ w a ⟨rfl,hl111,H⟩ F
 refine s_allocA wkP F rfl rfl rfl agz24 rfl H fun b112 w a H F=>s_storeA wkP F rfl rfl agg24 rfl rfl rfl H 0 rfl ((bcells_length _).trans hl111) ((bcells_length _).trans (List.length_replicate (n:=32))) (bcells_flat _) fun w H=>?_
 replace H:=H.nf 15 rfl
 refine nl (sq ?_)
 obtain ⟨p113,c114,p115,c116,H⟩:=O_triremeref14_Made_o (H.pk 3 rfl)
 refine mix_regionK [6,7,10] [10] (scL [0,1,2,3,4,1005,2006,2007,8,9,3010]) [0] H rfl rfl (by kernel_rfl) (by kernel_rfl) fun w H=>?_
 refine mbk [0,0,0,0] F H rfl ⟨fld52_0,trivial⟩ fun a F=>?_
 refine m_pure F rfl rfl rfl rfl (fun u hu=>y_load1 F plain49 rfl rfl (row_at (v:=.slice p113 (x106.2.1).length c114) ((hu.choose_spec.blk 0 rfl).row) rfl)) fun a F=>?_
 refine mbk [3999] F H rfl ⟨rfl,(aggn agg24 ((bcells_length _).trans hl111)),trivial⟩ fun a F=>m_heavy rfl rfl ?_
 refine s_build1 wkP F rfl rfl rfl agg24 elem49 rfl rfl ((bcells_length _).trans hl111) (by decide) H fun b117 w a H F=>?_
 replace H:=H.blkOw1 (R:=(rBytesN 32)) (x:=x110) (fun gg=>⟨rfl,hl111⟩)
 refine lz ?_;refine ct ⟨⟨_,(H.pm 18 [1,0,2,3,4,5,6,7,8,9,10,11,12,13,14,15,16,17] rfl:)⟩,?_⟩
 refine m_heavy rfl rfl ?_
 replace H:=H.frz 0 rfl
 obtain ⟨x119,ex119,hm⟩:=ob hm
 refine s_app wkP F rfl rfl rfl rfl rfl rfl elem49 rfl ex119 H 2 0 rfl rfl fun p118 c118 w a H F=>?_
 refine lz ?_;refine ct ⟨⟨_,(H.pm 18 [1,0,2,3,4,5,6,7,8,9,10,11,12,13,14,15,16,17] rfl:)⟩,?_⟩
 refine mbk [0,0] F H rfl ⟨fld52_0,trivial⟩ fun a F=>m_last rfl rfl (s_st1 wkP F rfl rfl zero49 rfl rfl rfl rfl rfl H 1 rfl rfl fun w H=>?_)
 refine lz ?_;refine ct ?_
 refine m_nil (ct (sr (bk [0,0,0,1,1001,0] F H rfl ⟨fld52_1,rfl,plain50,trivial⟩ fun a F=>s_buildC wkP F rfl rfl rfl elem50 zero25 rfl rfl rfl rfl (by simp [Value.cells]) (by decide) H fun b120 w a H F=>?_)))
 replace H:=H.blkOw1 (R:=(rSl rByte)) (x:=x108.1) (fun gg=>⟨_,_,rfl,(gg 6 _ rfl).choose_spec⟩)
 replace H:=H.frz 0 rfl
 obtain ⟨x122,ex122,hm⟩:=ob hm
 refine s_app wkP F rfl rfl rfl rfl rfl rfl elem50 rfl ex122 H 4 0 rfl rfl fun p121 c121 w a H F=>?_
 refine bk [0,1] F H rfl ⟨fld52_1,trivial⟩ fun a F=>s_st1 wkP F rfl rfl zero50 rfl rfl rfl rfl rfl H 2 rfl rfl fun w H=>?_
 replace H:=H.nf 19 rfl
 refine nl (sr (bk [5999] F H rfl ⟨rfl,(aggn agg24 ((bcells_length _).trans hl111)),trivial⟩ fun a F=>s_storeA wkP F rfl rfl agg24 rfl rfl rfl H 17 rfl ((bcells_length _).trans hl111) ((bcells_length _).trans (List.length_replicate (n:=32))) (bcells_flat _) fun w H=>?_))
 replace H:=H.nf 19 rfl
 refine nl (wr ?_)
 replace H:=O_triremeref14_Made_s (H.pm 19 [2,3,4,0,1,5,6,7,8,9,10,11,12,13,14,15,16,17,18] rfl:)
 cases hm
 refine x_resC1 F rfl (⟨_,rfl,agg24.run_load (H.blk 15 rfl).row ((bcells_length _).trans hl111)⟩) ?_
 exact ⟨_,rfl,rfl,hl111,(H.pm 17 [0] rfl:)⟩
theorem agz52:AggT Tryz.prog 52 2 ([.slice none (([]:List (List UInt8))).length 0,.slice none (([]:List (List UInt8))).length 0]):=⟨by rw [Tryz.underlying52];rfl,by kernel_rfl,by kernel_rfl⟩
theorem agg52:AggT Tryz.prog 52 2 [.slice none 0 0,.slice none 0 0]:=⟨by rw [Tryz.underlying52];rfl,by kernel_rfl,by kernel_rfl⟩
theorem ent40:En Tryz.prog 40:=enters Tryz.func40 (by kernel_rfl) rfl
theorem ent39:En Tryz.prog 39:=enters Tryz.func39 (by kernel_rfl) rfl
theorem ent38:En Tryz.prog 38:=enters Tryz.func38 (by kernel_rfl) rfl
theorem w_rBegin   {w0 w:World} {l:List HP}  {r:(List UInt8)×T_triremeref14_Made} (hm:rBegin =some r) (H:St w0 w (l)) :
  Calls Tryz.prog 13 [].toArray w (fun e w'=>∃ v,e=.returned v∧∃ (cs2:List Value),v=.tuple [.agg (bcells r.1).toArray,.agg cs2.toArray].toArray∧((r.1).length=32)∧St w0 w' (HP.rc R_triremeref14_Made cs2 r.2::l)):=by
 unfold rBegin at hm
 refine x_enter Tryz.func13 rfl rfl rfl ?_
 intro a F
 refine sr (s_allocA wkP F rfl rfl rfl agz24 rfl H fun b3 w a H F=>?_)
 replace H:=H.owNil (rBytesN 32) 24
 replace H:=H.owNil (rSl rByte) 25
 refine s_allocA wkP F rfl rfl rfl agz52 rfl H fun b4 w a H F=>?_
 replace H:=H.nf 4 rfl
 refine nl (sr ?_)
 replace H:=H.owNil (rBytesN 32) 24
 replace H:=H.owNil (rSl rByte) 25
 refine sv F rfl (y_build F rfl rfl (cs:=[.slice none (([]:List (List UInt8))).length 0,.slice none (([]:List (List UInt8))).length 0]) (by kernel_rfl)) fun a F=>?_
 replace H:=H.owNil (rBytesN 32) 24
 replace H:=H.owNil (rSl rByte) 25
 refine s_allocA wkP F rfl rfl rfl agz52 rfl H fun b5 w a H F=>s_storeA wkP F rfl rfl agg52 rfl rfl rfl H 0 rfl rfl rfl (fl rfl) fun w H=>?_
 replace H:=H.nf 9 rfl
 refine nl (sr ?_)
 replace H:=H.owNil rByte 5
 refine sv F rfl (y_build F rfl rfl (cs:=[Value.int .u64 (0),Value.int .u64 (0)]++(bcells (List.replicate 32 0)++(bcells (List.replicate 32 0)++(bcells (List.replicate 32 0)++(bcells (List.replicate 32 0)++([Value.int .i64 (0),Value.int .u64 (0),Value.int .i64 (0),Value.string (txb ([])),Value.string (txb ([])),Value.int .i64 (0),Value.int .i64 (0),Value.slice none (([]:List UInt8)).length 0])))))) (by kernel_rfl)) fun a F=>?_
 obtain ⟨x6,ex6,hm⟩:=ob hm
 refine sd F rfl ent40 (w_rNewW ex6 H:) ?_;rintro _ w a ⟨cs7,rfl,H⟩ F
 obtain ⟨x8,ex8,hm⟩:=ob hm
 refine sd F rfl ent39 (w_rWriteW ex8 (H.pm 11 [0,0,1,2,3,4,5,6,7,8,9,10] rfl:):) ?_;rintro _ w a ⟨cs9,rfl,H⟩ F
 replace H:=O_triremeref14_Made_s (x0:=([]:List (List UInt8))) (x1:=([]:List (List UInt8))) (H.pm 12 [3,7,6,0,1,2,4,5,8,9,10,11] rfl:)
 replace H:=H.frz 3 rfl
 replace H:=H.mkRc (R:=R_api_Record) (cs:=[Value.int .u64 (0),Value.int .u64 (0)]++(bcells (List.replicate 32 0)++(bcells (List.replicate 32 0)++(bcells (List.replicate 32 0)++(bcells (List.replicate 32 0)++([Value.int .i64 (0),Value.int .u64 (0),Value.int .i64 (0),Value.string (txb ([])),Value.string (txb ([])),Value.int .i64 (0),Value.int .i64 (0),Value.slice none (([]:List UInt8)).length 0])))))) (x:=(0,0,(List.replicate 32 0),(List.replicate 32 0),(List.replicate 32 0),(List.replicate 32 0),(0,0,(0,[],[],0,0,([]:List UInt8))))) (fun gg=>⟨[Value.int .u64 (0)],_,rfl,rfl,⟨[Value.int .u64 (0)],_,rfl,rfl,⟨bcells (List.replicate 32 0),_,rfl,⟨rfl,(List.length_replicate (n:=32))⟩,⟨bcells (List.replicate 32 0),_,rfl,⟨rfl,(List.length_replicate (n:=32))⟩,⟨bcells (List.replicate 32 0),_,rfl,⟨rfl,(List.length_replicate (n:=32))⟩,⟨bcells (List.replicate 32 0),_,rfl,⟨rfl,(List.length_replicate (n:=32))⟩,⟨[Value.int .i64 (0)],_,rfl,rfl,⟨[Value.int .u64 (0)],_,rfl,rfl,⟨[Value.int .i64 (0)],_,rfl,rfl,⟨[Value.string (txb ([]))],_,rfl,rfl,⟨[Value.string (txb ([]))],_,rfl,rfl,⟨[Value.int .i64 (0)],_,rfl,rfl,⟨[Value.int .i64 (0)],_,rfl,rfl,⟨_,_,rfl,(gg 0 _ rfl).choose_spec⟩⟩⟩⟩⟩⟩⟩⟩⟩⟩⟩⟩⟩⟩)
 obtain ⟨x10,ex10,hm⟩:=ob hm
 refine sd F rfl ent38 (w_mdWhole ex10 (H.pm 11 [2,0,3,0,1,3,4,5,6,7,8,9,10] rfl:):) ?_;rintro _ w a ⟨rfl,hl11,H⟩ F
 refine s_allocA wkP F rfl rfl rfl agz24 rfl H fun b12 w a H F=>s_storeA wkP F rfl rfl agg24 rfl rfl rfl H 0 rfl ((bcells_length _).trans hl11) ((bcells_length _).trans (List.length_replicate (n:=32))) (bcells_flat _) fun w H=>?_
 replace H:=H.nf 12 rfl
 refine nl (sq ?_)
 obtain ⟨p13,c14,p15,c16,H⟩:=O_triremeref14_Made_o (H.pk 1 rfl)
 refine mix_regionK [2,3] [3] (scL [1000,1,2002,3003]) [0] H rfl rfl (by kernel_rfl) (by kernel_rfl) fun w H=>?_
 refine mbk [3999] F H rfl ⟨rfl,(aggn agg24 ((bcells_length _).trans hl11)),trivial⟩ fun a F=>?_
 refine m_pure F rfl rfl rfl rfl (fun u hu=>y_loadA F agg52 rfl rfl ((hu.choose_spec.blk 0 rfl).row) rfl) fun a F=>?_
 refine m_heavy rfl rfl (s_storeA wkP F rfl rfl agg24 rfl rfl rfl H 13 rfl ((bcells_length _).trans hl11) ((bcells_length _).trans (List.length_replicate (n:=32))) (bcells_flat _) fun w H=>?_)
 refine lz ?_;refine ct ⟨⟨_,H⟩,?_⟩
 refine m_last rfl rfl (s_storeA wkP F rfl rfl agg52 rfl rfl rfl H 10 rfl rfl rfl (fl rfl) fun w H=>?_)
 refine lz ?_;refine ct ?_
 refine m_nil (ct (wr ?_))
 replace H:=H.frz 1 rfl
 replace H:=H.frz 2 rfl
 replace H:=mk_triremeref14_Made H 1 rfl 0 rfl
 cases hm
 refine x_resC2 F rfl (⟨_,rfl,agg24.run_load (H.blk 14 rfl).row ((bcells_length _).trans hl11)⟩) (⟨_,rfl,agg52.run_load (H.blk 11 rfl).row rfl⟩) ?_
 exact ⟨_,rfl,[.slice p13 (x10.2.1).length c14,.slice p15 (x10.2.2).length c16],rfl,hl11,(H.pm 15 [0] rfl:)⟩
theorem ent41:En Tryz.prog 41:=enters Tryz.func41 (by kernel_rfl) rfl
theorem w_rSameBag {bag:(List UInt8)→Option (List UInt8)} {m_:T_triremeref14_Made} {but:(List UInt8)→Option (List UInt8)} {q1:Option Nat} {cs2:List Value} {q3:Option Nat} {w0 w:World} {l:List HP}  {r:Bool} (hm:rSameBag bag m_ but=some r) (H:St w0 w (HP.fm q1 hv false (rSl rByte) (fun l=>l.length=32) bag::HP.rc R_triremeref14_Made cs2 m_::HP.fm q3 hv false (rSl rByte) (fun l=>l.length=32) but::l)) :
  Calls Tryz.prog 14 [.map q1,.agg cs2.toArray,.map q3].toArray w (fun e w'=>∃ v,e=.returned v∧v=.bool (r)∧St w0 w' (l)):=by
 unfold rSameBag at hm
 refine x_enter Tryz.func14 rfl rfl rfl ?_
 intro a F
 refine sr (s_boxA wkP F rfl rfl rfl rfl rfl H fun b4 w a H F=>bb [0] F H rfl fun a F=>?_)
 replace H:=H.nf 4 rfl
 refine nl (sr (bk [0,0] F H rfl ⟨fld52_0,trivial⟩ fun a F=>?_))
 have G:=F;replace H:=rc_triremeref14_Made (H.pk 2 rfl);obtain ⟨p5,c6,p7,c8,rfl,J⟩:=H;have H:=J;have F:=G;clear G J
 refine bk [2000,1,2001] F H rfl ⟨rfl,plain49,fld52_1,rfl,plain50,trivial⟩ fun a F=>sv F rfl (y_build F rfl rfl (cs:=[.slice p5 (m_.1).length c6,.slice p7 (m_.2).length c8]) (by kernel_rfl)) fun a F=>bb [0] F H rfl fun a F=>?_
 replace H:=mk_triremeref08_Blocks H 0 rfl 1 rfl
 obtain ⟨x9,ex9,hm⟩:=ob hm
 refine sd F rfl ent41 (w_rSameBg ex9 (H.pm 6 [4,0,5,0,1,2,3,4,5] rfl:):) ?_;rintro _ w a ⟨rfl,H⟩ F
 refine bb [0] F H rfl fun a F=>?_
 replace H:=H.nf 6 rfl
 refine nl (wr ?_)
 cases hm
 refine x_ret1 F rfl rfl ?_
 exact ⟨_,rfl,rfl,(H.pm 6 [] rfl:)⟩
end Go.Proofs.YtapllcabobickaaGreatDoor
