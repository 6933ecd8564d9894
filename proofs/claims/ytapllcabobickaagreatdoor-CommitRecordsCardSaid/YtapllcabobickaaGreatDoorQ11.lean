/- Texts ComA. -/
import Derived.Test.YtapllcabobickaaGreatDoorQ10
set_option linter.unusedSimpArgs false
set_option linter.unusedVariables false
namespace Go.Proofs.YtapllcabobickaaGreatDoor
open Go.RowKit Go.Tri
set_option maxRecDepth 100000
set_option maxHeartbeats 4000000
theorem fld31_0:FieldT Tryz.prog 31 0 0:=by unfold FieldT;rw [Tryz.underlying31];kernel_rfl
theorem fld31_6:FieldT Tryz.prog 31 6 130:=by unfold FieldT;rw [Tryz.underlying31];kernel_rfl
theorem agg29:AggT Tryz.prog 29 8 [.int .i64 0,.int .u64 0,.int .i64 0,.string ByteArray.empty,.string ByteArray.empty,.int .i64 0,.int .i64 0,.slice none 0 0]:=⟨by rw [Tryz.underlying29];rfl,by kernel_rfl,by kernel_rfl⟩
theorem agz29:AggT Tryz.prog 29 8 ([.int .i64 (0),.int .u64 (0),.int .i64 (0),.string (txb ([])),.string (txb ([])),.int .i64 (0),.int .i64 (0),.slice none (([]:List UInt8)).length 0]):=⟨by rw [Tryz.underlying29];rfl,by kernel_rfl,by kernel_rfl⟩
theorem fld31_1:FieldT Tryz.prog 31 1 1:=by unfold FieldT;rw [Tryz.underlying31];kernel_rfl
theorem fld31_2:FieldT Tryz.prog 31 2 2:=by unfold FieldT;rw [Tryz.underlying31];kernel_rfl
theorem w_cRight {r_:T_api_Record} {cs1:List Value} {w0 w:World} {l:List HP}  {r:(List UInt8)×Bool} (hm:cRight r_=some r) (H:St w0 w (HP.rc R_api_Record cs1 r_::l)) :
  Calls Tryz.prog 17 [.agg cs1.toArray].toArray w (fun e w'=>∃ v,e=.returned v∧∃ (p2:Option Addr) (c2:Nat),v=.tuple [.slice p2 (r.1).length c2,.bool (r.2)].toArray∧St w0 w' (HP.sl rByte p2 c2 r.1::l)):=by
 unfold cRight at hm
 refine x_enter Tryz.func17 rfl rfl rfl ?_
 intro a F
 refine sr (s_boxA wkP F rfl rfl rfl rfl rfl H fun b3 w a H F=>bb [0,0] F H rfl fun a F=>?_)
 replace H:=H.nf 2 rfl
 refine nl (sq (sr (bk [0] F H rfl ⟨fld31_0,trivial⟩ fun a F=>?_)))
 have G:=F;replace H:=rc_api_Record (H.pk 1 rfl);obtain ⟨v4,hl5,hl6,hl7,hl8,rfl,J⟩:=H;have H:=J;have F:=G;clear G J
 refine bk [1000,0] F H rfl ⟨rfl,plain22,trivial⟩ fun a F=>?_
 refine nl (cPm F rfl hm (fun hg9 hm=>?_) (fun hg9 hm=>?_))
 refine sq ?_
 obtain ⟨r15,er15,hm15⟩:=ob hm;clear hm;revert er15;intro hm
 refine x_mid (fun aa ww=>∃ (cs20:List Value) (b21:Nat) (cs22:List Value) (b23:Nat) (cs24:List Value),Fr ⟨96,[]⟩ aa [(1,.pointer (some ⟨b3,0,none⟩)),(4,.pointer (some ⟨b21,0,none⟩)),(5,.pointer (some ⟨b23,0,none⟩))]∧((r_.2.2.1).length=32)∧((r_.2.2.2.1).length=32)∧((r_.2.2.2.2.1).length=32)∧((r_.2.2.2.2.2.1).length=32)∧St w0 ww (HP.blk b3 ([Value.int .u64 (r_.1),Value.int .u64 (r_.2.1)]++(bcells r_.2.2.1++(bcells r_.2.2.2.1++(bcells r_.2.2.2.2.1++(bcells r_.2.2.2.2.2.1++(cs20)))))) 31::HP.rc R_api_Call cs20 r15.1::HP.blk b21 (cs22) 27::HP.rc R_api_Op cs22 r15.2.1::HP.blk b23 ([Value.int .i64 (r_.2.2.2.2.2.2.1),Value.int .u64 (r_.2.2.2.2.2.2.2.1)]++(cs24)) 29::HP.rc R_api_Op cs24 r15.2.2::l)) ?_ ?_
 have G:=F;replace H:=rc_api_Call (H.pk 0 rfl);obtain ⟨v25,rfl,J⟩:=H;have H:=J;have F:=G;clear G J
 refine mix_region [5,6,7,8] [8] (.step 0 0 (.step 0 1 (.step 0 2 (.step 0 3 (.step 0 4 (.fork 5 (.step 2 6 (.step 2 7 (.step 3 8 .done))) 6 (.step 2 5 (.step 2 7 (.step 3 8 .done))))))))) (fun u=>∃ ls,St w0 u (HP.rc R_api_Op v25 r_.2.2.2.2.2.2.2.2::HP.blk b3 ([Value.int .u64 (r_.1),Value.int .u64 (r_.2.1)]++(bcells r_.2.2.1++(bcells r_.2.2.2.1++(bcells r_.2.2.2.2.1++(bcells r_.2.2.2.2.2.1++([Value.int .i64 (r_.2.2.2.2.2.2.1),Value.int .u64 (r_.2.2.2.2.2.2.2.1)]++(v25))))))) 31::ls)) (by kernel_rfl) (by kernel_rfl) ⟨_,(H.drew.pm 2 [0,1,0] rfl:)⟩ ?_
 replace H:=H.drew
 generalize w.drew=w at H ⊢
 refine mbk [130,2] F H rfl ⟨fld31_6,fld29_2,trivial⟩ fun a F=>?_
 refine m_pure F rfl rfl rfl rfl (fun u hu=>y_loadA F agg27 rfl rfl (row_midAE (n:=132) (A:=[Value.int .u64 (r_.1),Value.int .u64 (r_.2.1)]++(bcells r_.2.2.1++(bcells r_.2.2.2.1++(bcells r_.2.2.2.2.1++(bcells r_.2.2.2.2.2.1++([Value.int .i64 (r_.2.2.2.2.2.2.1),Value.int .u64 (r_.2.2.2.2.2.2.2.1)])))))) (X:=v25) (w:=_) ((hu.choose_spec.blk 1 rfl).row) (by simp only [List.append_assoc,List.cons_append,List.nil_append]) (by simp only [List.length_append,List.length_cons,List.length_nil,icells_length,bcells_length,hl5,hl6,hl7,hl8])) (hu.choose_spec.rcLen 0 rfl)) fun a F=>?_
 refine mbk [130] F H rfl ⟨fld31_6,trivial⟩ fun a F=>?_
 refine m_pure F rfl rfl rfl rfl (fun u hu=>y_loadA F agg29 rfl rfl (row_midAE (n:=130) (A:=[Value.int .u64 (r_.1),Value.int .u64 (r_.2.1)]++(bcells r_.2.2.1++(bcells r_.2.2.2.1++(bcells r_.2.2.2.2.1++(bcells r_.2.2.2.2.2.1))))) (X:=[Value.int .i64 (r_.2.2.2.2.2.2.1),Value.int .u64 (r_.2.2.2.2.2.2.2.1)]++(v25)) (w:=_) ((hu.choose_spec.blk 1 rfl).row) (by simp only [List.append_assoc,List.cons_append,List.nil_append]) (by simp only [List.length_append,List.length_cons,List.length_nil,icells_length,bcells_length,hl5,hl6,hl7,hl8])) (by simp only [List.length_append,List.length_cons,List.length_nil,icells_length,bcells_length,H.rcLen 0 rfl]<;>rfl)) fun a F=>?_
 refine m_fork rfl rfl rfl rfl ?_ ?_
 refine m_heavy rfl rfl ?_
 replace H:=H.owNil rByte 5
 refine s_allocA wkP F rfl rfl rfl agz27 rfl H fun b26 w a H F=>?_
 refine lz ?_;refine ct ⟨⟨_,(H.pm 4 [2,3,0,1,2] rfl:)⟩,?_⟩
 refine m_heavy rfl rfl ?_
 replace H:=H.owNil rByte 5
 refine s_allocA wkP F rfl rfl rfl agz29 rfl H fun b27 w a H F=>?_
 refine lz ?_;refine ct ⟨⟨_,(H.pm 6 [4,5,0,1,2,3,4] rfl:)⟩,?_⟩
 refine m_heavy rfl rfl (s_storeA wkP F rfl rfl agg27 rfl rfl rfl H 2 rfl (H.rcLen 4 rfl) rfl (H.rcFlat 4 rfl) fun w H=>?_)
 refine lz ?_;refine ct ⟨⟨_,(H.pm 6 [4,5,0,1,2,3,4] rfl:)⟩,?_⟩
 refine m_last rfl rfl ?_
 refine s_storeA wkP F rfl rfl agg29 rfl rfl rfl H 0 rfl (by simp only [List.length_append,List.length_cons,List.length_nil,icells_length,bcells_length,H.rcLen 4 rfl]<;>rfl) rfl (flA (fl rfl) (H.rcFlat 4 rfl)) fun w H=>?_
 refine lz ?_;refine ct ?_
 refine m_nil ?_
 cases hm
 refine ct ?_
 replace H:=H.mkRc (R:=R_api_Call) (cs:=[Value.int .i64 (r_.2.2.2.2.2.2.1),Value.int .u64 (r_.2.2.2.2.2.2.2.1)]++(v25)) (x:=(r_.2.2.2.2.2.2.1,r_.2.2.2.2.2.2.2.1,r_.2.2.2.2.2.2.2.2)) (fun gg=>⟨[Value.int .i64 (r_.2.2.2.2.2.2.1)],_,rfl,rfl,⟨[Value.int .u64 (r_.2.2.2.2.2.2.2.1)],_,rfl,rfl,(gg 4 _ rfl).choose_spec⟩⟩)
 exact ⟨[Value.int .i64 (r_.2.2.2.2.2.2.1),Value.int .u64 (r_.2.2.2.2.2.2.2.1)]++(v25),b26,v25,b27,v25,F.sl rfl,hl5,hl6,hl7,hl8,(H.pm 7 [6,0,3,5,1,5] rfl:)⟩
 refine m_heavy rfl rfl ?_
 replace H:=H.owNil rByte 5
 refine s_allocA wkP F rfl rfl rfl agz29 rfl H fun b28 w a H F=>?_
 refine lz ?_;refine ct ⟨⟨_,(H.pm 4 [2,3,0,1,2] rfl:)⟩,?_⟩
 refine m_heavy rfl rfl ?_
 replace H:=H.owNil rByte 5
 refine s_allocA wkP F rfl rfl rfl agz27 rfl H fun b29 w a H F=>?_
 refine lz ?_;refine ct ⟨⟨_,(H.pm 6 [4,5,0,1,2,3,4] rfl:)⟩,?_⟩
 refine m_heavy rfl rfl (s_storeA wkP F rfl rfl agg27 rfl rfl rfl H 0 rfl (H.rcLen 4 rfl) rfl (H.rcFlat 4 rfl) fun w H=>?_)
 refine lz ?_;refine ct ⟨⟨_,(H.pm 6 [4,5,0,1,2,3,4] rfl:)⟩,?_⟩
 refine m_last rfl rfl ?_
 refine s_storeA wkP F rfl rfl agg29 rfl rfl rfl H 2 rfl (by simp only [List.length_append,List.length_cons,List.length_nil,icells_length,bcells_length,H.rcLen 4 rfl]<;>rfl) rfl (flA (fl rfl) (H.rcFlat 4 rfl)) fun w H=>?_
 refine lz ?_;refine ct ?_
 refine m_nil ?_
 cases hm
 refine ct ?_
 replace H:=H.mkRc (R:=R_api_Call) (cs:=[Value.int .i64 (r_.2.2.2.2.2.2.1),Value.int .u64 (r_.2.2.2.2.2.2.2.1)]++(v25)) (x:=(r_.2.2.2.2.2.2.1,r_.2.2.2.2.2.2.2.1,r_.2.2.2.2.2.2.2.2)) (fun gg=>⟨[Value.int .i64 (r_.2.2.2.2.2.2.1)],_,rfl,rfl,⟨[Value.int .u64 (r_.2.2.2.2.2.2.2.1)],_,rfl,rfl,(gg 4 _ rfl).choose_spec⟩⟩)
 exact ⟨[Value.int .i64 (r_.2.2.2.2.2.2.1),Value.int .u64 (r_.2.2.2.2.2.2.2.1)]++(v25),b29,v25,b28,v25,F.sl rfl,hl5,hl6,hl7,hl8,(H.pm 7 [6,0,1,5,3,5] rfl:)⟩
 clear F H hm
 rintro a w ⟨cs20,b21,cs22,b23,cs24,F,hl16,hl17,hl18,hl19,H⟩;have hm:=hm15;clear hm15
 refine ct (sr (bk [0] F H rfl ⟨fld27_0,trivial⟩ fun a F=>?_))
 have G:=F;replace H:=rc_api_Op (H.pk 3 rfl);obtain ⟨p30,c31,rfl,J⟩:=H;have H:=J;have F:=G;clear G J
 refine bk [3000,0,0] F H rfl ⟨rfl,plain3,trivial⟩ fun a F=>?_
 rcases spP 20 F rfl hm with ⟨hg32,hm,F⟩ | ⟨hg32,hm,F⟩
 refine bk [1,3001] F H rfl ⟨fld27_1,rfl,plain9,trivial⟩ fun a F=>g_onP F rfl rfl rfl rfl (sv F rfl (y_eqT (l:=r15.2.1.2.1) (m:=[]) F rfl rfl rfl) fun a F=>bb [0,0] F H rfl fun a F=>?_)
 rcases spP 25 F rfl hm with ⟨hg33,hm,F⟩ | ⟨hg33,hm,F⟩
 refine bk [2,3002] F H rfl ⟨fld27_2,rfl,plain9,trivial⟩ fun a F=>g_onP F rfl rfl rfl rfl (sv F rfl (y_eqT (l:=r15.2.1.2.2.1) (m:=[]) F rfl rfl rfl) fun a F=>bb [0,0] F H rfl fun a F=>?_)
 rcases spP 30 F rfl hm with ⟨hg34,hm,F⟩ | ⟨hg34,hm,F⟩
 refine bk [3,3003,0,0,0] F H rfl ⟨fld27_3,rfl,plain3,trivial⟩ fun a F=>?_
 rcases spP 35 F rfl hm with ⟨hg35,hm,F⟩ | ⟨hg35,hm,F⟩
 refine bk [4,3004,0,0,0] F H rfl ⟨fld27_4,rfl,plain3,trivial⟩ fun a F=>?_
 rcases spP 40 F rfl hm with ⟨hg36,hm,F⟩ | ⟨hg36,hm,F⟩
 refine bk [5,3005,0,0,0,0] F H rfl ⟨fld27_5,rfl,plain25,⟨_,Tryz.underlying25⟩,trivial⟩ fun a F=>nl (sq ?_)
 by_cases hg37:((r15.2.1.2.2.2.2.2).length:Int)=0
 replace hm:=ifT hg37 hm
 by_cases hg38:r_.2.1=0
 replace hm:=ifT hg38 hm
 by_cases hg39:r_.2.2.1=((List.replicate 32 0):List UInt8)
 replace hm:=ifT hg39 hm
 by_cases hg40:r_.2.2.2.2.2.2.1=0
 replace hm:=ifT hg40 hm
 refine qr H (by kernel_rfl) (by kernel_rfl) ?_
 refine qb [0,0] F rfl fun a F=>?_
 replace F:=F.bT 47 hg37 rfl
 refine qbk [1,1001,0,0,0] F rfl ⟨fld31_1,rfl,plain22,trivial⟩ fun a F=>?_
 replace F:=F.bT 52 hg38 rfl
 refine qbk [2] F rfl ⟨fld31_2,trivial⟩ fun a F=>?_
 refine qg_on F rfl rfl rfl rfl ?_
 refine qv F rfl (fun u hu=>y_loadA F agg24 rfl rfl (row_mid (A:=[.int .u64 (r_.1),.int .u64 (r_.2.1)]) (X:=bcells r_.2.2.1) (C:=bcells r_.2.2.2.1++(bcells r_.2.2.2.2.1++(bcells r_.2.2.2.2.2.1++(cs20)))) (w:=_) ((hu.blk 1 rfl).row) (by simp only [List.length_append,List.length_cons,List.length_nil,icells_length,bcells_length])) ((bcells_length _).trans hl16)) fun a F=>?_
 refine qg_on F rfl rfl rfl rfl ?_
 refine qv F rfl (fun u hu=>y_build F rfl rfl (cs:=bcells ((List.replicate 32 0):List UInt8)) (by kernel_rfl)) fun a F=>?_
 refine qg_on F rfl rfl rfl rfl ?_
 refine qv F rfl (fun u hu=>y_eqlA F key24 rfl rfl rfl hl16 rfl) fun a F=>qb [0,0] F rfl fun a F=>?_
 replace F:=F.bT 58 hg39 rfl
 refine qbk [0,4000,0,0,0] F rfl ⟨fld29_0,rfl,plain3,trivial⟩ fun a F=>?_
 replace F:=F.bT 63 hg40 rfl
 refine qbk [1,4001,0,0,0,0] F rfl ⟨fld29_1,rfl,plain22,trivial⟩ fun a F=>?_
 refine q_nil fun w H=>?_
 refine ct (wr (tr ?_))
 replace H:=H.slNil rByte
 cases hm
 refine x_ret2 F rfl rfl rfl ?_
 exact ⟨_,rfl,none,0,rfl,(H.pm 7 [0] rfl:)⟩
 replace hm:=ifF hg40 hm
 refine qr H (by kernel_rfl) (by kernel_rfl) ?_
 refine qb [0,0] F rfl fun a F=>?_
 replace F:=F.bT 47 hg37 rfl
 refine qbk [1,1001,0,0,0] F rfl ⟨fld31_1,rfl,plain22,trivial⟩ fun a F=>?_
 replace F:=F.bT 52 hg38 rfl
 refine qbk [2] F rfl ⟨fld31_2,trivial⟩ fun a F=>?_
 refine qg_on F rfl rfl rfl rfl ?_
 refine qv F rfl (fun u hu=>y_loadA F agg24 rfl rfl (row_mid (A:=[.int .u64 (r_.1),.int .u64 (r_.2.1)]) (X:=bcells r_.2.2.1) (C:=bcells r_.2.2.2.1++(bcells r_.2.2.2.2.1++(bcells r_.2.2.2.2.2.1++(cs20)))) (w:=_) ((hu.blk 1 rfl).row) (by simp only [List.length_append,List.length_cons,List.length_nil,icells_length,bcells_length])) ((bcells_length _).trans hl16)) fun a F=>?_
 refine qg_on F rfl rfl rfl rfl ?_
 refine qv F rfl (fun u hu=>y_build F rfl rfl (cs:=bcells ((List.replicate 32 0):List UInt8)) (by kernel_rfl)) fun a F=>?_
 refine qg_on F rfl rfl rfl rfl ?_
 refine qv F rfl (fun u hu=>y_eqlA F key24 rfl rfl rfl hl16 rfl) fun a F=>qb [0,0] F rfl fun a F=>?_
 replace F:=F.bT 58 hg39 rfl
 refine qbk [0,4000,0,0,0] F rfl ⟨fld29_0,rfl,plain3,trivial⟩ fun a F=>?_
 replace F:=F.bF 63 hg40 rfl
 refine qb (List.replicate 6 0) F rfl fun a F=>?_
 refine q_nil fun w H=>?_
 refine ct (wr (tr ?_))
 replace H:=H.slNil rByte
 cases hm
 refine x_ret2 F rfl rfl rfl ?_
 exact ⟨_,rfl,none,0,rfl,(H.pm 7 [0] rfl:)⟩
 replace hm:=ifF hg39 hm
 refine qr H (by kernel_rfl) (by kernel_rfl) ?_
 refine qb [0,0] F rfl fun a F=>?_
 replace F:=F.bT 47 hg37 rfl
 refine qbk [1,1001,0,0,0] F rfl ⟨fld31_1,rfl,plain22,trivial⟩ fun a F=>?_
 replace F:=F.bT 52 hg38 rfl
 refine qbk [2] F rfl ⟨fld31_2,trivial⟩ fun a F=>?_
 refine qg_on F rfl rfl rfl rfl ?_
 refine qv F rfl (fun u hu=>y_loadA F agg24 rfl rfl (row_mid (A:=[.int .u64 (r_.1),.int .u64 (r_.2.1)]) (X:=bcells r_.2.2.1) (C:=bcells r_.2.2.2.1++(bcells r_.2.2.2.2.1++(bcells r_.2.2.2.2.2.1++(cs20)))) (w:=_) ((hu.blk 1 rfl).row) (by simp only [List.length_append,List.length_cons,List.length_nil,icells_length,bcells_length])) ((bcells_length _).trans hl16)) fun a F=>?_
 refine qg_on F rfl rfl rfl rfl ?_
 refine qv F rfl (fun u hu=>y_build F rfl rfl (cs:=bcells ((List.replicate 32 0):List UInt8)) (by kernel_rfl)) fun a F=>?_
 refine qg_on F rfl rfl rfl rfl ?_
 refine qv F rfl (fun u hu=>y_eqlA F key24 rfl rfl rfl hl16 rfl) fun a F=>qb [0,0] F rfl fun a F=>?_
 replace F:=F.bF 58 hg39 rfl
 refine qb (List.replicate 11 0) F rfl fun a F=>?_
 refine q_nil fun w H=>?_
 refine ct (wr (tr ?_))
 replace H:=H.slNil rByte
 cases hm
 refine x_ret2 F rfl rfl rfl ?_
 exact ⟨_,rfl,none,0,rfl,(H.pm 7 [0] rfl:)⟩
 replace hm:=ifF hg38 hm
 refine qr H (by kernel_rfl) (by kernel_rfl) ?_
 refine qb [0,0] F rfl fun a F=>?_
 replace F:=F.bT 47 hg37 rfl
 refine qbk [1,1001,0,0,0] F rfl ⟨fld31_1,rfl,plain22,trivial⟩ fun a F=>?_
 replace F:=F.bF 52 hg38 rfl
 refine qb (List.replicate 17 0) F rfl fun a F=>?_
 refine q_nil fun w H=>?_
 refine ct (wr (tr ?_))
 replace H:=H.slNil rByte
 cases hm
 refine x_ret2 F rfl rfl rfl ?_
 exact ⟨_,rfl,none,0,rfl,(H.pm 7 [0] rfl:)⟩
 replace hm:=ifF hg37 hm
 refine qr H (by kernel_rfl) (by kernel_rfl) ?_
 refine qb [0,0] F rfl fun a F=>?_
 replace F:=F.bF 47 hg37 rfl
 refine qb (List.replicate 22 0) F rfl fun a F=>?_
 refine q_nil fun w H=>?_
 refine ct (wr (tr ?_))
 replace H:=H.slNil rByte
 cases hm
 refine x_ret2 F rfl rfl rfl ?_
 exact ⟨_,rfl,none,0,rfl,(H.pm 7 [0] rfl:)⟩
 refine bb (List.replicate 6 0) F H rfl fun a F=>nl (sq (qr H (by kernel_rfl) (by kernel_rfl) (qb (List.replicate 24 0) F rfl fun a F=>?_)))
 refine q_nil fun w H=>?_
 refine ct (wr (tr ?_))
 replace H:=H.slNil rByte
 cases hm
 refine x_ret2 F rfl rfl rfl ?_
 exact ⟨_,rfl,none,0,rfl,(H.pm 7 [0] rfl:)⟩
 refine bb (List.replicate 11 0) F H rfl fun a F=>nl (sq (qr H (by kernel_rfl) (by kernel_rfl) (qb (List.replicate 24 0) F rfl fun a F=>?_)))
 refine q_nil fun w H=>?_
 refine ct (wr (tr ?_))
 replace H:=H.slNil rByte
 cases hm
 refine x_ret2 F rfl rfl rfl ?_
 exact ⟨_,rfl,none,0,rfl,(H.pm 7 [0] rfl:)⟩
 refine bb (List.replicate 16 0) F H rfl fun a F=>nl (sq (qr H (by kernel_rfl) (by kernel_rfl) (qb (List.replicate 24 0) F rfl fun a F=>?_)))
 refine q_nil fun w H=>?_
 refine ct (wr (tr ?_))
 replace H:=H.slNil rByte
 cases hm
 refine x_ret2 F rfl rfl rfl ?_
 exact ⟨_,rfl,none,0,rfl,(H.pm 7 [0] rfl:)⟩
 refine bb (List.replicate 21 0) F H rfl fun a F=>nl (sq (qr H (by kernel_rfl) (by kernel_rfl) (qb (List.replicate 24 0) F rfl fun a F=>?_)))
 refine q_nil fun w H=>?_
 refine ct (wr (tr ?_))
 replace H:=H.slNil rByte
 cases hm
 refine x_ret2 F rfl rfl rfl ?_
 exact ⟨_,rfl,none,0,rfl,(H.pm 7 [0] rfl:)⟩
 refine bb (List.replicate 26 0) F H rfl fun a F=>nl (sq (qr H (by kernel_rfl) (by kernel_rfl) (qb (List.replicate 24 0) F rfl fun a F=>?_)))
 refine q_nil fun w H=>?_
 refine ct (wr (tr ?_))
 replace H:=H.slNil rByte
 cases hm
 refine x_ret2 F rfl rfl rfl ?_
 exact ⟨_,rfl,none,0,rfl,(H.pm 7 [0] rfl:)⟩
 refine sk (ct (sr (bk [130,2] F H rfl ⟨fld31_6,fld29_2,trivial⟩ fun a F=>?_)))
 have G:=F;replace H:=rc_api_Call (H.pk 0 rfl);obtain ⟨v41,rfl,J⟩:=H;have H:=J;have F:=G;clear G J
 refine sv F rfl (y_loadA F agg27 rfl rfl (row_midAE (n:=132) (A:=[Value.int .u64 (r_.1),Value.int .u64 (r_.2.1)]++(bcells r_.2.2.1++(bcells r_.2.2.2.1++(bcells r_.2.2.2.2.1++(bcells r_.2.2.2.2.2.1++([Value.int .i64 (r_.2.2.2.2.2.2.1),Value.int .u64 (r_.2.2.2.2.2.2.2.1)])))))) (X:=v41) (w:=_) ((H.blk 1 rfl).row) (by simp only [List.append_assoc,List.cons_append,List.nil_append]) (by simp only [List.length_append,List.length_cons,List.length_nil,icells_length,bcells_length,hl5,hl6,hl7,hl8])) (H.rcLen 0 rfl)) fun a F=>?_
 obtain ⟨x42,ex42,hm⟩:=ob hm
 refine sd F rfl ent42 (w_oWrite ex42 (H.pm 2 [0,0,1] rfl:):) ?_;rintro _ w a ⟨p43,c43,rfl,H⟩ F
 refine bb (List.replicate 5 0) F H rfl fun a F=>?_
 replace H:=H.nf 3 rfl
 refine nl (sq ?_)
 by_cases hg44:x42.2=0
 replace hm:=ifT hg44 hm
 by_cases hg45:0≤r_.2.2.2.2.2.2.1
 replace hm:=ifT hg45 hm
 by_cases hg46:r_.2.2.2.2.2.2.1<4
 replace hm:=ifT hg46 hm
 refine qr H (by kernel_rfl) (by kernel_rfl) ?_
 refine qb [0,0,0,0] F rfl fun a F=>?_
 replace F:=F.bT 78 hg44 rfl
 refine qbk [130,0] F rfl ⟨fld31_6,fld29_0,trivial⟩ fun a F=>?_
 refine qg_on F rfl rfl rfl rfl ?_
 refine qv F rfl (fun u hu=>y_load1 F plain3 rfl rfl ((row_midA (n:=130) (A:=[Value.int .u64 (r_.1),Value.int .u64 (r_.2.1)]++(bcells r_.2.2.1++(bcells r_.2.2.2.1++(bcells r_.2.2.2.2.1++(bcells r_.2.2.2.2.2.1))))) (X:=[.int .i64 (r_.2.2.2.2.2.2.1)]) (C:=[Value.int .u64 (r_.2.2.2.2.2.2.2.1)]++(v41)) ((hu.blk 2 rfl).row) (by simp only [List.append_assoc,List.cons_append,List.nil_append]) (by simp only [List.length_append,List.length_cons,List.length_nil,icells_length,bcells_length,hl5,hl6,hl7,hl8])) 0 _ rfl)) fun a F=>qb [0,0,0] F rfl fun a F=>?_
 replace F:=F.bT 84 hg45 rfl
 refine qbk [130,0] F rfl ⟨fld31_6,fld29_0,trivial⟩ fun a F=>?_
 refine qg_on F rfl rfl rfl rfl ?_
 refine qv F rfl (fun u hu=>y_load1 F plain3 rfl rfl ((row_midA (n:=130) (A:=[Value.int .u64 (r_.1),Value.int .u64 (r_.2.1)]++(bcells r_.2.2.1++(bcells r_.2.2.2.1++(bcells r_.2.2.2.2.1++(bcells r_.2.2.2.2.2.1))))) (X:=[.int .i64 (r_.2.2.2.2.2.2.1)]) (C:=[Value.int .u64 (r_.2.2.2.2.2.2.2.1)]++(v41)) ((hu.blk 2 rfl).row) (by simp only [List.append_assoc,List.cons_append,List.nil_append]) (by simp only [List.length_append,List.length_cons,List.length_nil,icells_length,bcells_length,hl5,hl6,hl7,hl8])) 0 _ rfl)) fun a F=>qb [0,0,0] F rfl fun a F=>?_
 replace F:=F.bT 90 hg46 rfl
 refine qbk [130,1] F rfl ⟨fld31_6,fld29_1,trivial⟩ fun a F=>?_
 refine qg_on F rfl rfl rfl rfl ?_
 refine qv F rfl (fun u hu=>y_load1 F plain22 rfl rfl ((row_midA (n:=131) (A:=[Value.int .u64 (r_.1),Value.int .u64 (r_.2.1)]++(bcells r_.2.2.1++(bcells r_.2.2.2.1++(bcells r_.2.2.2.2.1++(bcells r_.2.2.2.2.2.1++([Value.int .i64 (r_.2.2.2.2.2.2.1)])))))) (X:=[.int .u64 (r_.2.2.2.2.2.2.2.1)]) (C:=v41) ((hu.blk 2 rfl).row) (by simp only [List.append_assoc,List.cons_append,List.nil_append]) (by simp only [List.length_append,List.length_cons,List.length_nil,icells_length,bcells_length,hl5,hl6,hl7,hl8])) 0 _ rfl)) fun a F=>qb [0,0,0,0] F rfl fun a F=>?_
 refine q_nil fun w H=>?_
 refine ct (wr ?_)
 cases hm
 refine x_ret2 F rfl rfl rfl ?_
 exact ⟨_,rfl,p43,c43,rfl,(H.pm 3 [0] rfl:)⟩
 replace hm:=ifF hg46 hm
 refine qr H (by kernel_rfl) (by kernel_rfl) ?_
 refine qb [0,0,0,0] F rfl fun a F=>?_
 replace F:=F.bT 78 hg44 rfl
 refine qbk [130,0] F rfl ⟨fld31_6,fld29_0,trivial⟩ fun a F=>?_
 refine qg_on F rfl rfl rfl rfl ?_
 refine qv F rfl (fun u hu=>y_load1 F plain3 rfl rfl ((row_midA (n:=130) (A:=[Value.int .u64 (r_.1),Value.int .u64 (r_.2.1)]++(bcells r_.2.2.1++(bcells r_.2.2.2.1++(bcells r_.2.2.2.2.1++(bcells r_.2.2.2.2.2.1))))) (X:=[.int .i64 (r_.2.2.2.2.2.2.1)]) (C:=[Value.int .u64 (r_.2.2.2.2.2.2.2.1)]++(v41)) ((hu.blk 2 rfl).row) (by simp only [List.append_assoc,List.cons_append,List.nil_append]) (by simp only [List.length_append,List.length_cons,List.length_nil,icells_length,bcells_length,hl5,hl6,hl7,hl8])) 0 _ rfl)) fun a F=>qb [0,0,0] F rfl fun a F=>?_
 replace F:=F.bT 84 hg45 rfl
 refine qbk [130,0] F rfl ⟨fld31_6,fld29_0,trivial⟩ fun a F=>?_
 refine qg_on F rfl rfl rfl rfl ?_
 refine qv F rfl (fun u hu=>y_load1 F plain3 rfl rfl ((row_midA (n:=130) (A:=[Value.int .u64 (r_.1),Value.int .u64 (r_.2.1)]++(bcells r_.2.2.1++(bcells r_.2.2.2.1++(bcells r_.2.2.2.2.1++(bcells r_.2.2.2.2.2.1))))) (X:=[.int .i64 (r_.2.2.2.2.2.2.1)]) (C:=[Value.int .u64 (r_.2.2.2.2.2.2.2.1)]++(v41)) ((hu.blk 2 rfl).row) (by simp only [List.append_assoc,List.cons_append,List.nil_append]) (by simp only [List.length_append,List.length_cons,List.length_nil,icells_length,bcells_length,hl5,hl6,hl7,hl8])) 0 _ rfl)) fun a F=>qb [0,0,0] F rfl fun a F=>?_
 replace F:=F.bF 90 hg46 rfl
 refine qb (List.replicate 7 0) F rfl fun a F=>?_
 refine q_nil fun w H=>?_
 refine ct (wr ?_)
 cases hm
 refine x_ret2 F rfl rfl rfl ?_
 exact ⟨_,rfl,p43,c43,rfl,(H.pm 3 [0] rfl:)⟩
 replace hm:=ifF hg45 hm
 refine qr H (by kernel_rfl) (by kernel_rfl) ?_
 refine qb [0,0,0,0] F rfl fun a F=>?_
 replace F:=F.bT 78 hg44 rfl
 refine qbk [130,0] F rfl ⟨fld31_6,fld29_0,trivial⟩ fun a F=>?_
 refine qg_on F rfl rfl rfl rfl ?_
 refine qv F rfl (fun u hu=>y_load1 F plain3 rfl rfl ((row_midA (n:=130) (A:=[Value.int .u64 (r_.1),Value.int .u64 (r_.2.1)]++(bcells r_.2.2.1++(bcells r_.2.2.2.1++(bcells r_.2.2.2.2.1++(bcells r_.2.2.2.2.2.1))))) (X:=[.int .i64 (r_.2.2.2.2.2.2.1)]) (C:=[Value.int .u64 (r_.2.2.2.2.2.2.2.1)]++(v41)) ((hu.blk 2 rfl).row) (by simp only [List.append_assoc,List.cons_append,List.nil_append]) (by simp only [List.length_append,List.length_cons,List.length_nil,icells_length,bcells_length,hl5,hl6,hl7,hl8])) 0 _ rfl)) fun a F=>qb [0,0,0] F rfl fun a F=>?_
 replace F:=F.bF 84 hg45 rfl
 refine qb (List.replicate 13 0) F rfl fun a F=>?_
 refine q_nil fun w H=>?_
 refine ct (wr ?_)
 cases hm
 refine x_ret2 F rfl rfl rfl ?_
 exact ⟨_,rfl,p43,c43,rfl,(H.pm 3 [0] rfl:)⟩
 replace hm:=ifF hg44 hm
 refine qr H (by kernel_rfl) (by kernel_rfl) ?_
 refine qb [0,0,0,0] F rfl fun a F=>?_
 replace F:=F.bF 78 hg44 rfl
 refine qb (List.replicate 19 0) F rfl fun a F=>?_
 refine q_nil fun w H=>?_
 refine ct (wr ?_)
 cases hm
 refine x_ret2 F rfl rfl rfl ?_
 exact ⟨_,rfl,p43,c43,rfl,(H.pm 3 [0] rfl:)⟩
theorem agg31:AggT Tryz.prog 31 138 [.int .u64 0,.int .u64 0,.int .u8 0,.int .u8 0,.int .u8 0,.int .u8 0,.int .u8 0,.int .u8 0,.int .u8 0,.int .u8 0,.int .u8 0,.int .u8 0,.int .u8 0,.int .u8 0,.int .u8 0,.int .u8 0,.int .u8 0,.int .u8 0,.int .u8 0,.int .u8 0,.int .u8 0,.int .u8 0,.int .u8 0,.int .u8 0,.int .u8 0,.int .u8 0,.int .u8 0,.int .u8 0,.int .u8 0,.int .u8 0,.int .u8 0,.int .u8 0,.int .u8 0,.int .u8 0,.int .u8 0,.int .u8 0,.int .u8 0,.int .u8 0,.int .u8 0,.int .u8 0,.int .u8 0,.int .u8 0,.int .u8 0,.int .u8 0,.int .u8 0,.int .u8 0,.int .u8 0,.int .u8 0,.int .u8 0,.int .u8 0,.int .u8 0,.int .u8 0,.int .u8 0,.int .u8 0,.int .u8 0,.int .u8 0,.int .u8 0,.int .u8 0,.int .u8 0,.int .u8 0,.int .u8 0,.int .u8 0,.int .u8 0,.int .u8 0,.int .u8 0,.int .u8 0,.int .u8 0,.int .u8 0,.int .u8 0,.int .u8 0,.int .u8 0,.int .u8 0,.int .u8 0,.int .u8 0,.int .u8 0,.int .u8 0,.int .u8 0,.int .u8 0,.int .u8 0,.int .u8 0,.int .u8 0,.int .u8 0,.int .u8 0,.int .u8 0,.int .u8 0,.int .u8 0,.int .u8 0,.int .u8 0,.int .u8 0,.int .u8 0,.int .u8 0,.int .u8 0,.int .u8 0,.int .u8 0,.int .u8 0,.int .u8 0,.int .u8 0,.int .u8 0,.int .u8 0,.int .u8 0,.int .u8 0,.int .u8 0,.int .u8 0,.int .u8 0,.int .u8 0,.int .u8 0,.int .u8 0,.int .u8 0,.int .u8 0,.int .u8 0,.int .u8 0,.int .u8 0,.int .u8 0,.int .u8 0,.int .u8 0,.int .u8 0,.int .u8 0,.int .u8 0,.int .u8 0,.int .u8 0,.int .u8 0,.int .u8 0,.int .u8 0,.int .u8 0,.int .u8 0,.int .u8 0,.int .u8 0,.int .u8 0,.int .u8 0,.int .u8 0,.int .i64 0,.int .u64 0,.int .i64 0,.string ByteArray.empty,.string ByteArray.empty,.int .i64 0,.int .i64 0,.slice none 0 0]:=⟨by rw [Tryz.underlying31];rfl,by kernel_rfl,by kernel_rfl⟩
theorem ent17:En Tryz.prog 17:=enters Tryz.func17 (by kernel_rfl) rfl
theorem fld31_3:FieldT Tryz.prog 31 3 34:=by unfold FieldT;rw [Tryz.underlying31];kernel_rfl
theorem fld31_4:FieldT Tryz.prog 31 4 66:=by unfold FieldT;rw [Tryz.underlying31];kernel_rfl
theorem fld31_5:FieldT Tryz.prog 31 5 98:=by unfold FieldT;rw [Tryz.underlying31];kernel_rfl
theorem build_77_0_1_2_3:∀ (s0:List UInt8) (h0:s0.length=32) (s1:List UInt8) (h1:s1.length=32) (s2:List UInt8) (h2:s2.length=32) (s3:List UInt8) (h3:s3.length=32),Tryz.prog.built 77 [(0,.agg (bcells s0).toArray),(1,.agg (bcells s1).toArray),(2,.agg (bcells s2).toArray),(3,.agg (bcells s3).toArray)]=some ((bcells s0++(bcells s1++(bcells s2++(bcells s3))):List Value)).toArray:=fun s0 h0 s1 h1 s2 h2 s3 h3=>match s0,h0,s1,h1,s2,h2,s3,h3 with | [a0_0,a0_1,a0_2,a0_3,a0_4,a0_5,a0_6,a0_7,a0_8,a0_9,a0_10,a0_11,a0_12,a0_13,a0_14,a0_15,a0_16,a0_17,a0_18,a0_19,a0_20,a0_21,a0_22,a0_23,a0_24,a0_25,a0_26,a0_27,a0_28,a0_29,a0_30,a0_31],_,[a1_0,a1_1,a1_2,a1_3,a1_4,a1_5,a1_6,a1_7,a1_8,a1_9,a1_10,a1_11,a1_12,a1_13,a1_14,a1_15,a1_16,a1_17,a1_18,a1_19,a1_20,a1_21,a1_22,a1_23,a1_24,a1_25,a1_26,a1_27,a1_28,a1_29,a1_30,a1_31],_,[a2_0,a2_1,a2_2,a2_3,a2_4,a2_5,a2_6,a2_7,a2_8,a2_9,a2_10,a2_11,a2_12,a2_13,a2_14,a2_15,a2_16,a2_17,a2_18,a2_19,a2_20,a2_21,a2_22,a2_23,a2_24,a2_25,a2_26,a2_27,a2_28,a2_29,a2_30,a2_31],_,[a3_0,a3_1,a3_2,a3_3,a3_4,a3_5,a3_6,a3_7,a3_8,a3_9,a3_10,a3_11,a3_12,a3_13,a3_14,a3_15,a3_16,a3_17,a3_18,a3_19,a3_20,a3_21,a3_22,a3_23,a3_24,a3_25,a3_26,a3_27,a3_28,a3_29,a3_30,a3_31],_=>by kernel_rfl
theorem arr77:ArrT Tryz.prog 77 24 4 32:=⟨Tryz.underlying77,by kernel_rfl⟩
theorem w_cWrite {r_:T_api_Record} {cs1:List Value} {w0 w:World} {l:List HP}  {r:(List UInt8)×Int} (hm:cWrite r_=some r) (H:St w0 w (HP.rc R_api_Record cs1 r_::l)) :
  Calls Tryz.prog 7 [.agg cs1.toArray].toArray w (fun e w'=>∃ v,e=.returned v∧∃ (p2:Option Addr) (c2:Nat),v=.tuple [.slice p2 (r.1).length c2,.int .i64 (r.2)].toArray∧St w0 w' (HP.ow rByte 5 p2 c2 r.1::l)):=by
 unfold cWrite at hm
 refine x_enter Tryz.func7 rfl rfl rfl ?_
 intro a F
 refine sr (s_boxA wkP F rfl rfl rfl rfl rfl H fun b3 w a H F=>bb [0,0] F H rfl fun a F=>?_)
 replace H:=H.nf 2 rfl
 refine nl (sr (bk [999] F H rfl ⟨rfl,(aggn agg31 (H.rcLen 1 rfl)),trivial⟩ fun a F=>?_))
 obtain ⟨x4,ex4,hm⟩:=ob hm
 refine sd F rfl ent17 (w_cRight ex4 (H.pm 2 [1,0,1] rfl:):) ?_;rintro _ w a ⟨p5,c5,rfl,H⟩ F
 refine bb (List.replicate 5 0) F H rfl fun a F=>?_
 replace H:=H.nf 3 rfl
 refine nl (sq (sb [0,0] F H rfl fun a F=>?_))
 refine nl (cB F rfl (fun hg6=>?_) (fun hg6=>?_))
 replace hm:=ifT hg6 hm
 refine sb [0,0] F H rfl fun a F=>nl (wr (tr ?_))
 replace H:=H.owNil rByte 5
 cases hm
 refine x_ret2 F rfl rfl rfl ?_
 exact ⟨_,rfl,none,0,rfl,(H.pm 4 [0] rfl:)⟩
 replace hm:=ifF (nT hg6) hm
 refine sk (ct (sr ?_))
 replace H:=H.owNil rByte 5
 refine sv F rfl (y_build F rfl rfl (cs:=[.slice none (([]:List UInt8)).length 0]) (by kernel_rfl)) fun a F=>s_boxA wkP F rfl rfl rfl rfl rfl H fun b7 w a H F=>bb [0] F H rfl fun a F=>?_
 replace H:=H.nf 5 rfl
 refine nb [0] F H rfl fun a F=>?_
 obtain ⟨x9,ex9,hm⟩:=ob hm
 refine s_buildC wkP F rfl rfl rfl elem25 zero5 rfl rfl rfl rfl (by simp [Value.cells]) (by decide) H fun b8 w a H F=>?_
 replace H:=H.blkOw1 (R:=rByte) (x:=x9) (fun gg=>(congrArg (fun z=>[Value.int .u8 z]) (u8O_some ex9).symm))
 replace H:=O_pack_Pen_s (x0:=([]:List UInt8)) (H.pm 6 [1,2,0,3,4,5] rfl:)
 replace H:=H.frz 1 rfl
 obtain ⟨x10,ex10,hm⟩:=ob hm
 refine sd F rfl ent18 (w_penRaw ex10 (H.pm 5 [1,0,0,2,3,4] rfl:):) ?_;rintro _ w a ⟨rfl,H⟩ F
 replace H:=H.nf 5 rfl
 refine nl (sr (bk [0,0] F H rfl ⟨fld31_0,trivial⟩ fun a F=>?_))
 have G:=F;replace H:=rc_api_Record (H.pk 4 rfl);obtain ⟨v11,hl12,hl13,hl14,hl15,rfl,J⟩:=H;have H:=J;have F:=G;clear G J
 refine bk [4000] F H rfl ⟨rfl,plain22,trivial⟩ fun a F=>?_
 obtain ⟨x16,ex16,hm⟩:=ob hm
 refine sd F rfl ent19 (w_penUint ex16 (H.pm 5 [1,0,2,3,4] rfl:):) ?_;rintro _ w a ⟨rfl,H⟩ F
 replace H:=H.nf 5 rfl
 refine nl (sr (bk [0,1,4001] F H rfl ⟨fld31_1,rfl,plain22,trivial⟩ fun a F=>?_))
 obtain ⟨x17,ex17,hm⟩:=ob hm
 refine sd F rfl ent19 (w_penUint ex17 H:) ?_;rintro _ w a ⟨rfl,H⟩ F
 replace H:=H.nf 5 rfl
 refine nl (sq (sr (bk [2] F H rfl ⟨fld31_2,trivial⟩ fun a F=>?_)))
 refine sv F rfl (y_loadA F agg24 rfl rfl (row_mid (A:=[.int .u64 (r_.1),.int .u64 (r_.2.1)]) (X:=bcells r_.2.2.1) (C:=bcells r_.2.2.2.1++(bcells r_.2.2.2.2.1++(bcells r_.2.2.2.2.2.1++(v11)))) (w:=_) ((H.blk 4 rfl).row) (by simp only [List.length_append,List.length_cons,List.length_nil,icells_length,bcells_length]<;>rfl)) ((bcells_length _).trans hl12)) fun a F=>?_
 refine bk [34] F H rfl ⟨fld31_3,trivial⟩ fun a F=>?_
 refine sv F rfl (y_loadA F agg24 rfl rfl (row_midA (n:=34) (A:=[Value.int .u64 (r_.1),Value.int .u64 (r_.2.1)]++(bcells r_.2.2.1)) (X:=bcells r_.2.2.2.1) (C:=bcells r_.2.2.2.2.1++(bcells r_.2.2.2.2.2.1++(v11))) (w:=_) ((H.blk 4 rfl).row) (by simp only [List.append_assoc,List.cons_append,List.nil_append]) (by simp only [List.length_append,List.length_cons,List.length_nil,icells_length,bcells_length,hl12]<;>rfl)) ((bcells_length _).trans hl13)) fun a F=>?_
 refine bk [66] F H rfl ⟨fld31_4,trivial⟩ fun a F=>?_
 refine sv F rfl (y_loadA F agg24 rfl rfl (row_midA (n:=66) (A:=[Value.int .u64 (r_.1),Value.int .u64 (r_.2.1)]++(bcells r_.2.2.1++(bcells r_.2.2.2.1))) (X:=bcells r_.2.2.2.2.1) (C:=bcells r_.2.2.2.2.2.1++(v11)) (w:=_) ((H.blk 4 rfl).row) (by simp only [List.append_assoc,List.cons_append,List.nil_append]) (by simp only [List.length_append,List.length_cons,List.length_nil,icells_length,bcells_length,hl12,hl13]<;>rfl)) ((bcells_length _).trans hl14)) fun a F=>?_
 refine bk [98] F H rfl ⟨fld31_5,trivial⟩ fun a F=>?_
 refine sv F rfl (y_loadA F agg24 rfl rfl (row_midA (n:=98) (A:=[Value.int .u64 (r_.1),Value.int .u64 (r_.2.1)]++(bcells r_.2.2.1++(bcells r_.2.2.2.1++(bcells r_.2.2.2.2.1)))) (X:=bcells r_.2.2.2.2.2.1) (C:=v11) (w:=_) ((H.blk 4 rfl).row) (by simp only [List.append_assoc,List.cons_append,List.nil_append]) (by simp only [List.length_append,List.length_cons,List.length_nil,icells_length,bcells_length,hl12,hl13,hl14]<;>rfl)) ((bcells_length _).trans hl15)) fun a F=>?_
 refine sv F rfl (y_build F rfl rfl (cs:=bcells r_.2.2.1++(bcells r_.2.2.2.1++(bcells r_.2.2.2.2.1++(bcells r_.2.2.2.2.2.1)))) (build_77_0_1_2_3 r_.2.2.1 hl12 r_.2.2.2.1 hl13 r_.2.2.2.2.1 hl14 r_.2.2.2.2.2.1 hl15)) fun a F=>bb [0] F H rfl fun a F=>nl (bl (x_unroll 5 ?_))
 refine x_un (n:=4) ?_
 refine sb [0] F H rfl fun a F=>?_
 replace F:=F.bool (k:=39) (u:=.bool true) rfl (by kernel_rfl)
 refine nl (sq (cT F rfl (sk (ct (sq (bl (sr (sv F rfl (y_idxG (A:=([]:List Value)) (X:=bcells r_.2.2.1) (C:=bcells r_.2.2.2.1++(bcells r_.2.2.2.2.1++(bcells r_.2.2.2.2.2.1))) F arr77 agg24 rfl rfl rfl rfl (by decide) rfl ((bcells_length _).trans hl12)) fun a F=>s_allocA wkP F rfl rfl rfl agz24 rfl H fun b18 w a H F=>s_storeA wkP F rfl rfl agg24 rfl rfl rfl H 0 rfl ((bcells_length _).trans hl12) ((bcells_length _).trans (List.length_replicate (n:=32))) (bcells_flat _) fun w H=>?_))))))))
 replace H:=H.nf 6 rfl
 refine nl (rl (bb [0] F H rfl fun a F=>?_))
 replace H:=H.blkFrz 0 rfl
 replace H:St w0 w (HP.sl rByte (shp (some ⟨b18,0,none⟩) 32 0 1) (32 - 0) r_.2.2.1::HP.row b18 (0) (bcells r_.2.2.1)::O_pack_Pen b7 x17.2::HP.rc R_api_Call v11 r_.2.2.2.2.2.2::HP.sl rByte (some ⟨b8,0,none⟩) (([x9]).length) ([x9])::HP.sl rByte p5 c5 x4.1::HP.blk b3 ([Value.int .u64 (r_.1),Value.int .u64 (r_.2.1)]++(bcells r_.2.2.1++(bcells r_.2.2.2.1++(bcells r_.2.2.2.2.1++(bcells r_.2.2.2.2.2.1++(v11)))))) 31::l):=H.rowSl 0 rfl (pre:=([]:List Value)) (post:=([]:List Value)) (k:=0) (by simp) rfl hl12 (by decide)
 refine sv F rfl (y_slAW F arr24 rfl rfl hl12) fun a F=>?_
 obtain ⟨x19,ex19,hm⟩:=ob hm
 refine sd F rfl ent18 (w_penRaw ex19 (H.pm 7 [2,0,0,1,3,4,5,6] rfl:):) ?_;rintro _ w a ⟨rfl,H⟩ F
 replace H:=H.nf 7 rfl
 refine lz (bn (ct (rl (bb [0] F H rfl fun a F=>?_))))
 replace F:=F.bool (k:=44) (u:=.int .i64 (1)) rfl (by kernel_rfl)
 refine bb [0] F H rfl fun a F=>lz (ct (x_un (n:=3) (sb [0] F H rfl fun a F=>?_)))
 replace F:=F.bool (k:=39) (u:=.bool true) rfl (by kernel_rfl)
 refine nl (sq (cT F rfl ?_))
 refine sk (ct (sq (bl (sr (sv F rfl (y_idxG (A:=bcells r_.2.2.1) (X:=bcells r_.2.2.2.1) (C:=bcells r_.2.2.2.2.1++(bcells r_.2.2.2.2.2.1)) F arr77 agg24 rfl rfl rfl rfl (by decide) (by simp only [List.length_append,List.length_cons,List.length_nil,icells_length,bcells_length,hl12]<;>rfl) ((bcells_length _).trans hl13)) fun a F=>?_)))))
 refine s_allocA wkP F rfl rfl rfl agz24 rfl H fun b20 w a H F=>s_storeA wkP F rfl rfl agg24 rfl rfl rfl H 0 rfl ((bcells_length _).trans hl13) ((bcells_length _).trans (List.length_replicate (n:=32))) (bcells_flat _) fun w H=>?_
 replace H:=H.nf 8 rfl
 refine nl (rl (bb [0] F H rfl fun a F=>?_))
 replace H:=H.blkFrz 0 rfl
 replace H:St w0 w (HP.sl rByte (shp (some ⟨b20,0,none⟩) 32 0 1) (32 - 0) r_.2.2.2.1::HP.row b20 (0) (bcells r_.2.2.2.1)::O_pack_Pen b7 x19::HP.sl rByte (shp (some ⟨b18,0,none⟩) 32 0 1) (32 - 0) r_.2.2.1::HP.row b18 (0) (bcells r_.2.2.1)::HP.rc R_api_Call v11 r_.2.2.2.2.2.2::HP.sl rByte (some ⟨b8,0,none⟩) (([x9]).length) ([x9])::HP.sl rByte p5 c5 x4.1::HP.blk b3 ([Value.int .u64 (r_.1),Value.int .u64 (r_.2.1)]++(bcells r_.2.2.1++(bcells r_.2.2.2.1++(bcells r_.2.2.2.2.1++(bcells r_.2.2.2.2.2.1++(v11)))))) 31::l):=H.rowSl 0 rfl (pre:=([]:List Value)) (post:=([]:List Value)) (k:=0) (by simp) rfl hl13 (by decide)
 refine sv F rfl (y_slAW F arr24 rfl rfl hl13) fun a F=>?_
 obtain ⟨x21,ex21,hm⟩:=ob hm
 refine sd F rfl ent18 (w_penRaw ex21 (H.pm 9 [2,0,0,1,3,4,5,6,7,8] rfl:):) ?_;rintro _ w a ⟨rfl,H⟩ F
 replace H:=H.nf 9 rfl
 refine lz (bn (ct (rl (bb [0] F H rfl fun a F=>?_))))
 replace F:=F.bool (k:=44) (u:=.int .i64 (2)) rfl (by kernel_rfl)
 refine bb [0] F H rfl fun a F=>lz (ct (x_un (n:=2) (sb [0] F H rfl fun a F=>?_)))
 replace F:=F.bool (k:=39) (u:=.bool true) rfl (by kernel_rfl)
 refine nl (sq (cT F rfl (sk (ct (sq (bl (sr ?_)))))))
 refine sv F rfl (y_idxG (A:=bcells r_.2.2.1++(bcells r_.2.2.2.1)) (X:=bcells r_.2.2.2.2.1) (C:=bcells r_.2.2.2.2.2.1) F arr77 agg24 rfl rfl (by simp only [List.append_assoc,List.cons_append,List.nil_append]) rfl (by decide) (by simp only [List.length_append,List.length_cons,List.length_nil,icells_length,bcells_length,hl12,hl13]<;>rfl) ((bcells_length _).trans hl14)) fun a F=>?_
 refine s_allocA wkP F rfl rfl rfl agz24 rfl H fun b22 w a H F=>s_storeA wkP F rfl rfl agg24 rfl rfl rfl H 0 rfl ((bcells_length _).trans hl14) ((bcells_length _).trans (List.length_replicate (n:=32))) (bcells_flat _) fun w H=>?_
 replace H:=H.nf 10 rfl
 refine nl (rl (bb [0] F H rfl fun a F=>?_))
 replace H:=H.blkFrz 0 rfl
 replace H:St w0 w (HP.sl rByte (shp (some ⟨b22,0,none⟩) 32 0 1) (32 - 0) r_.2.2.2.2.1::HP.row b22 (0) (bcells r_.2.2.2.2.1)::O_pack_Pen b7 x21::HP.sl rByte (shp (some ⟨b20,0,none⟩) 32 0 1) (32 - 0) r_.2.2.2.1::HP.row b20 (0) (bcells r_.2.2.2.1)::HP.sl rByte (shp (some ⟨b18,0,none⟩) 32 0 1) (32 - 0) r_.2.2.1::HP.row b18 (0) (bcells r_.2.2.1)::HP.rc R_api_Call v11 r_.2.2.2.2.2.2::HP.sl rByte (some ⟨b8,0,none⟩) (([x9]).length) ([x9])::HP.sl rByte p5 c5 x4.1::HP.blk b3 ([Value.int .u64 (r_.1),Value.int .u64 (r_.2.1)]++(bcells r_.2.2.1++(bcells r_.2.2.2.1++(bcells r_.2.2.2.2.1++(bcells r_.2.2.2.2.2.1++(v11)))))) 31::l):=H.rowSl 0 rfl (pre:=([]:List Value)) (post:=([]:List Value)) (k:=0) (by simp) rfl hl14 (by decide)
 refine sv F rfl (y_slAW F arr24 rfl rfl hl14) fun a F=>?_
 obtain ⟨x23,ex23,hm⟩:=ob hm
 refine sd F rfl ent18 (w_penRaw ex23 (H.pm 11 [2,0,0,1,3,4,5,6,7,8,9,10] rfl:):) ?_;rintro _ w a ⟨rfl,H⟩ F
 replace H:=H.nf 11 rfl
 refine lz (bn (ct (rl (bb [0] F H rfl fun a F=>?_))))
 replace F:=F.bool (k:=44) (u:=.int .i64 (3)) rfl (by kernel_rfl)
 refine bb [0] F H rfl fun a F=>lz (ct (x_un (n:=1) (sb [0] F H rfl fun a F=>?_)))
 replace F:=F.bool (k:=39) (u:=.bool true) rfl (by kernel_rfl)
 refine nl (sq (cT F rfl (sk (ct (sq (bl (sr ?_)))))))
 refine sv F rfl (y_idxGE (A:=bcells r_.2.2.1++(bcells r_.2.2.2.1++(bcells r_.2.2.2.2.1))) (X:=bcells r_.2.2.2.2.2.1) F arr77 agg24 rfl rfl (by simp only [List.append_assoc,List.cons_append,List.nil_append]) rfl (by decide) (by simp only [List.length_append,List.length_cons,List.length_nil,icells_length,bcells_length,hl12,hl13,hl14]<;>rfl) ((bcells_length _).trans hl15)) fun a F=>?_
 refine s_allocA wkP F rfl rfl rfl agz24 rfl H fun b24 w a H F=>s_storeA wkP F rfl rfl agg24 rfl rfl rfl H 0 rfl ((bcells_length _).trans hl15) ((bcells_length _).trans (List.length_replicate (n:=32))) (bcells_flat _) fun w H=>?_
 replace H:=H.nf 12 rfl
 refine nl (rl (bb [0] F H rfl fun a F=>?_))
 replace H:=H.blkFrz 0 rfl
 replace H:St w0 w (HP.sl rByte (shp (some ⟨b24,0,none⟩) 32 0 1) (32 - 0) r_.2.2.2.2.2.1::HP.row b24 (0) (bcells r_.2.2.2.2.2.1)::O_pack_Pen b7 x23::HP.sl rByte (shp (some ⟨b22,0,none⟩) 32 0 1) (32 - 0) r_.2.2.2.2.1::HP.row b22 (0) (bcells r_.2.2.2.2.1)::HP.sl rByte (shp (some ⟨b20,0,none⟩) 32 0 1) (32 - 0) r_.2.2.2.1::HP.row b20 (0) (bcells r_.2.2.2.1)::HP.sl rByte (shp (some ⟨b18,0,none⟩) 32 0 1) (32 - 0) r_.2.2.1::HP.row b18 (0) (bcells r_.2.2.1)::HP.rc R_api_Call v11 r_.2.2.2.2.2.2::HP.sl rByte (some ⟨b8,0,none⟩) (([x9]).length) ([x9])::HP.sl rByte p5 c5 x4.1::HP.blk b3 ([Value.int .u64 (r_.1),Value.int .u64 (r_.2.1)]++(bcells r_.2.2.1++(bcells r_.2.2.2.1++(bcells r_.2.2.2.2.1++(bcells r_.2.2.2.2.2.1++(v11)))))) 31::l):=H.rowSl 0 rfl (pre:=([]:List Value)) (post:=([]:List Value)) (k:=0) (by simp) rfl hl15 (by decide)
 refine sv F rfl (y_slAW F arr24 rfl rfl hl15) fun a F=>?_
 obtain ⟨x25,ex25,hm⟩:=ob hm
 refine sd F rfl ent18 (w_penRaw ex25 (H.pm 13 [2,0,0,1,3,4,5,6,7,8,9,10,11,12] rfl:):) ?_;rintro _ w a ⟨rfl,H⟩ F
 replace H:=H.nf 13 rfl
 refine lz (bn (ct (rl (bb [0] F H rfl fun a F=>?_))))
 replace F:=F.bool (k:=44) (u:=.int .i64 (4)) rfl (by kernel_rfl)
 refine bb [0] F H rfl fun a F=>lz (ct (x_un (n:=0) (sb [0] F H rfl fun a F=>?_)))
 replace F:=F.bool (k:=39) (u:=.bool false) rfl (by kernel_rfl)
 refine nl (sq (cF F rfl ?_))
 refine ex (cx (cx (ch (ct (sr (bk [0,130,0] F H rfl ⟨fld31_6,fld29_0,trivial⟩ fun a F=>?_))))))
 have G:=F;replace H:=rc_api_Call (H.pk 9 rfl);obtain ⟨v26,rfl,J⟩:=H;have H:=J;have F:=G;clear G J
 refine sv F rfl (y_load1 F plain3 rfl rfl ((row_midA (n:=130) (A:=[Value.int .u64 (r_.1),Value.int .u64 (r_.2.1)]++(bcells r_.2.2.1++(bcells r_.2.2.2.1++(bcells r_.2.2.2.2.1++(bcells r_.2.2.2.2.2.1))))) (X:=[.int .i64 (r_.2.2.2.2.2.2.1)]) (C:=[Value.int .u64 (r_.2.2.2.2.2.2.2.1)]++(v26)) ((H.blk 12 rfl).row) (by simp only [List.append_assoc,List.cons_append,List.nil_append]) (by simp only [List.length_append,List.length_cons,List.length_nil,icells_length,bcells_length,hl12,hl13,hl14,hl15]<;>rfl)) 0 _ rfl)) fun a F=>?_
 refine bk [2] F H rfl ⟨Tryz.underlying3,Tryz.underlying22,trivial⟩ fun a F=>?_
 obtain ⟨x27,ex27,hm⟩:=ob hm
 refine sd F rfl ent19 (w_penUint ex27 (H.pm 13 [1,0,2,3,4,5,6,7,8,9,10,11,12] rfl:):) ?_;rintro _ w a ⟨rfl,H⟩ F
 replace H:=H.nf 13 rfl
 refine nl (sr (bk [0,130,1] F H rfl ⟨fld31_6,fld29_1,trivial⟩ fun a F=>?_))
 refine sv F rfl (y_load1 F plain22 rfl rfl ((row_midA (n:=131) (A:=[Value.int .u64 (r_.1),Value.int .u64 (r_.2.1)]++(bcells r_.2.2.1++(bcells r_.2.2.2.1++(bcells r_.2.2.2.2.1++(bcells r_.2.2.2.2.2.1++([Value.int .i64 (r_.2.2.2.2.2.2.1)])))))) (X:=[.int .u64 (r_.2.2.2.2.2.2.2.1)]) (C:=v26) ((H.blk 12 rfl).row) (by simp only [List.append_assoc,List.cons_append,List.nil_append]) (by simp only [List.length_append,List.length_cons,List.length_nil,icells_length,bcells_length,hl12,hl13,hl14,hl15]<;>rfl)) 0 _ rfl)) fun a F=>?_
 obtain ⟨x28,ex28,hm⟩:=ob hm
 refine sd F rfl ent19 (w_penUint ex28 H:) ?_;rintro _ w a ⟨rfl,H⟩ F
 replace H:=H.nf 13 rfl
 refine nb [0,0] F H rfl fun a F=>?_
 obtain ⟨x29,ex29,hm⟩:=ob hm
 refine sd F rfl ent20 (w_penText ex29 (H.pm 13 [0,11,1,2,3,4,5,6,7,8,9,10,11,12] rfl:):) ?_;rintro _ w a ⟨rfl,H⟩ F
 replace H:=H.nf 13 rfl
 refine nb [0] F H rfl fun a F=>?_
 obtain ⟨x30,ex30,hm⟩:=ob hm
 refine sd F rfl ent21 (w_penData ex30 H:) ?_;rintro _ w a ⟨p31,c31,rfl,H⟩ F
 refine bb [0,0] F H rfl fun a F=>?_
 replace H:=H.nf 14 rfl
 refine nl (wr ?_)
 cases hm
 refine x_ret2 F rfl rfl rfl ?_
 exact ⟨_,rfl,p31,c31,rfl,(H.pm 14 [0] rfl:)⟩
theorem agz31:AggT Tryz.prog 31 138 ([Value.int .u64 (0),Value.int .u64 (0)]++(bcells (List.replicate 32 0)++(bcells (List.replicate 32 0)++(bcells (List.replicate 32 0)++(bcells (List.replicate 32 0)++([Value.int .i64 (0),Value.int .u64 (0),Value.int .i64 (0),Value.string (txb ([])),Value.string (txb ([])),Value.int .i64 (0),Value.int .i64 (0),Value.slice none (([]:List UInt8)).length 0])))))):=⟨by rw [Tryz.underlying31];rfl,by kernel_rfl,by kernel_rfl⟩
theorem elem89:ElemT Tryz.prog 89 88 1 8 (.pointer none):=⟨Tryz.underlying89,by kernel_rfl,by kernel_rfl,by decide⟩
theorem zero88:Zero1 Tryz.prog 88 (.pointer none):=⟨by kernel_rfl,rfl⟩
theorem plain88:Plain Tryz.prog 88:=by unfold Plain;rw [Tryz.underlying88];rfl
theorem ent30:En Tryz.prog 30:=enters Tryz.func30 (by kernel_rfl) rfl
theorem ent7:En Tryz.prog 7:=enters Tryz.func7 (by kernel_rfl) rfl
theorem w_cRead {block:List UInt8} {p1:Option Addr} {c1:Nat} {w0 w:World} {l:List HP}  {r:T_api_Record×Int} (hm:cRead block=some r) (H:St w0 w (HP.sl rByte p1 c1 block::l)) :
  Calls Tryz.prog 9 [.slice p1 (block).length c1].toArray w (fun e w'=>∃ v,e=.returned v∧∃ (cs2:List Value),v=.tuple [.agg cs2.toArray,.int .i64 (r.2)].toArray∧St w0 w' (HP.rc R_api_Record cs2 r.1::l)):=by
 unfold cRead at hm
 refine x_enter Tryz.func9 rfl rfl rfl ?_
 intro a F
 refine sr ?_
 replace H:=H.owNil rByte 5
 refine s_allocA wkP F rfl rfl rfl agz31 rfl H fun b3 w a H F=>bb [0] F H rfl fun a F=>?_
 replace H:=H.nf 3 rfl
 refine nb [0] F H rfl fun a F=>?_
 obtain ⟨x4,ex4,hm⟩:=ob hm
 refine sd F rfl ent26 (w_newEye ex4 (H.pm 3 [2,0,1,2] rfl:):) ?_;rintro _ w a ⟨b5,rfl,H⟩ F
 refine bb [0] F H rfl fun a F=>?_
 replace H:=H.nf 4 rfl
 refine nb [0] F H rfl fun a F=>?_
 obtain ⟨x6,ex6,hm⟩:=ob hm
 refine sd F rfl ent27 (w_eyeUint ex6 H:) ?_;rintro _ w a ⟨rfl,H⟩ F
 replace H:=H.nf 4 rfl
 refine nb [0] F H rfl fun a F=>?_
 obtain ⟨x7,ex7,hm⟩:=ob hm
 refine sd F rfl ent27 (w_eyeUint ex7 H:) ?_;rintro _ w a ⟨rfl,H⟩ F
 refine bk [0,0,0,0] F H rfl ⟨fld31_0,trivial⟩ fun a F=>s_st1 wkP F rfl rfl zero22 rfl rfl rfl rfl rfl H 1 rfl rfl fun w H=>?_
 replace H:=H.nf 4 rfl
 refine nb [0] F H rfl fun a F=>?_
 obtain ⟨x8,ex8,hm⟩:=ob hm
 refine sd F rfl ent27 (w_eyeUint ex8 H:) ?_;rintro _ w a ⟨rfl,H⟩ F
 refine bk [0,0,0,1] F H rfl ⟨fld31_1,trivial⟩ fun a F=>s_st1 wkP F rfl rfl zero22 rfl rfl rfl rfl rfl H 1 rfl rfl fun w H=>?_
 replace H:=H.nf 4 rfl
 refine nl (sq (sr (bk [2,34,66,98] F H rfl ⟨fld31_2,fld31_3,fld31_4,fld31_5,trivial⟩ fun a F=>s_buildC wkP F rfl rfl rfl elem89 zero88 rfl rfl rfl rfl (by simp [Value.cells]) (by decide) H fun b9 w a H F=>bk [0] F H rfl ⟨⟨_,Tryz.underlying89⟩,trivial⟩ fun a F=>?_)))
 replace F:=F.bool (k:=36) (u:=.int .i64 (4)) rfl (by kernel_rfl)
 refine bb [0] F H rfl fun a F=>?_
 replace H:=H.nf 5 rfl
 refine nl (bl (x_unroll 5 ?_))
 refine x_un (n:=4) ?_
 refine sb [0] F H rfl fun a F=>?_
 replace F:=F.bool (k:=38) (u:=.bool true) rfl (by kernel_rfl)
 refine nl (sq (cT F rfl (sk (ct (sq (bl (sr (sv F rfl (y_idxS (xs:=([.pointer (some ⟨b3,0+2,none⟩),.pointer (some ⟨b3,0+34,none⟩),.pointer (some ⟨b3,0+66,none⟩),.pointer (some ⟨b3,0+98,none⟩)]:List Value)) F elem89 rfl rfl rfl rfl (rfl:idxO ([.pointer (some ⟨b3,0+2,none⟩),.pointer (some ⟨b3,0+34,none⟩),.pointer (some ⟨b3,0+66,none⟩),.pointer (some ⟨b3,0+98,none⟩)]:List Value) 0=some (Value.pointer (some ⟨b3,0+2,none⟩)))) fun a F=>?_))))))))
 replace F:=F.bool (k:=39) (u:=.pointer (some ⟨b9,0,none⟩)) rfl (by kernel_rfl)
 refine bk [0,0] F H rfl ⟨rfl,plain88,trivial⟩ fun a F=>nb [0] F H rfl fun a F=>?_
 obtain ⟨x10,ex10,hm⟩:=ob hm
 refine sd F rfl ent28 (w_eyeRaw ex10 (H.pm 5 [1,0,2,3,4] rfl:):) ?_;rintro _ w a ⟨p11,c11,rfl,H⟩ F
 refine bb (List.replicate 5 0) F H rfl fun a F=>?_
 replace H:=H.nf 6 rfl
 refine nl (rl (bb [0,0] F H rfl fun a F=>sv F rfl (y_slAW (α:=UInt8) (xs:=(List.replicate 32 0)) F arr24 rfl rfl (List.length_replicate (n:=32))) fun a F=>bb [0] F H rfl fun a F=>?_))
 replace H:=H.frz 0 rfl
 have hA12:((List.replicate 32 0):List UInt8).length=32:=(List.length_replicate (n:=32))
 have hl12:(putAt (List.replicate 32 0) 0 ((x10.1).take 32):List UInt8).length=32:=(putAt_len _ _ _ (by rw [List.length_take];omega)).trans hA12
 refine s_cpyF (n:=32) wkP F rfl rfl rfl elem25 rfl rfl hA12 (shp_ne (by decide)) rfl H 3 0 (A:=[.int .u64 (x7.1),.int .u64 (x8.1)]) (C:=bcells (List.replicate 32 0)++(bcells (List.replicate 32 0)++(bcells (List.replicate 32 0)++([Value.int .i64 (0),Value.int .u64 (0),Value.int .i64 (0),Value.string (txb ([])),Value.string (txb ([])),Value.int .i64 (0),Value.int .i64 (0),Value.slice none (([]:List UInt8)).length 0])))) rfl rfl (by simp only [List.length_append,List.length_cons,List.length_nil,icells_length,bcells_length]<;>rfl) hA12 fun w a H F=>?_
 replace H:=H.nf 6 rfl
 refine lz (bn (ct (rl (bb [0] F H rfl fun a F=>?_))))
 replace F:=F.bool (k:=51) (u:=.int .i64 (1)) rfl (by kernel_rfl)
 refine bb [0] F H rfl fun a F=>lz (ct (x_un (n:=3) (sb [0] F H rfl fun a F=>?_)))
 replace F:=F.bool (k:=38) (u:=.bool true) rfl (by kernel_rfl)
 refine nl (sq (cT F rfl (sk (ct (sq (bl (sr (sv F rfl (y_idxS (xs:=([.pointer (some ⟨b3,0+2,none⟩),.pointer (some ⟨b3,0+34,none⟩),.pointer (some ⟨b3,0+66,none⟩),.pointer (some ⟨b3,0+98,none⟩)]:List Value)) F elem89 rfl rfl rfl rfl (rfl:idxO ([.pointer (some ⟨b3,0+2,none⟩),.pointer (some ⟨b3,0+34,none⟩),.pointer (some ⟨b3,0+66,none⟩),.pointer (some ⟨b3,0+98,none⟩)]:List Value) 1=some (Value.pointer (some ⟨b3,0+34,none⟩)))) fun a F=>?_))))))))
 replace F:=F.bool (k:=39) (u:=.pointer (some ⟨b9,1,none⟩)) rfl (by kernel_rfl)
 refine bk [2001,0] F H rfl ⟨rfl,plain88,trivial⟩ fun a F=>nb [0] F H rfl fun a F=>?_
 obtain ⟨x13,ex13,hm⟩:=ob hm
 refine sd F rfl ent28 (w_eyeRaw ex13 (H.pm 6 [1,0,2,3,4,5] rfl:):) ?_;rintro _ w a ⟨p14,c14,rfl,H⟩ F
 refine bb (List.replicate 5 0) F H rfl fun a F=>?_
 replace H:=H.nf 7 rfl
 refine nl (rl (bb [0,0] F H rfl fun a F=>sv F rfl (y_slAW (α:=UInt8) (xs:=(List.replicate 32 0)) F arr24 rfl rfl (List.length_replicate (n:=32))) fun a F=>bb [0] F H rfl fun a F=>?_))
 replace H:=H.frz 0 rfl
 have hA15:((List.replicate 32 0):List UInt8).length=32:=(List.length_replicate (n:=32))
 have hl15:(putAt (List.replicate 32 0) 0 ((x13.1).take 32):List UInt8).length=32:=(putAt_len _ _ _ (by rw [List.length_take];omega)).trans hA15
 replace H:=H.blkEq 4 rfl ([Value.int .u64 (x7.1),Value.int .u64 (x8.1)]++(bcells (putAt (List.replicate 32 0) 0 ((x10.1).take 32)))++(bcells (List.replicate 32 0)++bcells (List.replicate 32 0)++(bcells (List.replicate 32 0)++([Value.int .i64 (0),Value.int .u64 (0),Value.int .i64 (0),Value.string (txb ([])),Value.string (txb ([])),Value.int .i64 (0),Value.int .i64 (0),Value.slice none (([]:List UInt8)).length 0])))) (by simp only [List.append_assoc,List.cons_append,List.nil_append])
 refine s_cpyF (n:=32) wkP F rfl rfl rfl elem25 rfl rfl hA15 (shp_ne (by decide)) rfl H 4 0 (A:=[Value.int .u64 (x7.1),Value.int .u64 (x8.1)]++(bcells (putAt (List.replicate 32 0) 0 ((x10.1).take 32)))) (C:=bcells (List.replicate 32 0)++(bcells (List.replicate 32 0)++([Value.int .i64 (0),Value.int .u64 (0),Value.int .i64 (0),Value.string (txb ([])),Value.string (txb ([])),Value.int .i64 (0),Value.int .i64 (0),Value.slice none (([]:List UInt8)).length 0]))) rfl rfl (by simp only [List.length_append,List.length_cons,List.length_nil,icells_length,bcells_length,hl12]<;>rfl) hA15 fun w a H F=>?_
 replace H:St w0 w (HP.sl rByte p14 c14 x13.1::O_pack_Eye b5 x13.2.2::HP.sl rByte p11 c11 x10.1::HP.blk b9 ([.pointer (some ⟨b3,0+2,none⟩),.pointer (some ⟨b3,0+34,none⟩),.pointer (some ⟨b3,0+66,none⟩),.pointer (some ⟨b3,0+98,none⟩)]) 88::HP.blk b3 ([Value.int .u64 (x7.1),Value.int .u64 (x8.1)]++(bcells (putAt (List.replicate 32 0) 0 ((x10.1).take 32))++(bcells (putAt (List.replicate 32 0) 0 ((x13.1).take 32))++(bcells (List.replicate 32 0)++(bcells (List.replicate 32 0)++([Value.int .i64 (0),Value.int .u64 (0),Value.int .i64 (0),Value.string (txb ([])),Value.string (txb ([])),Value.int .i64 (0),Value.int .i64 (0),Value.slice none (([]:List UInt8)).length 0])))))) 31::HP.ow rByte 5 none 0 ([]:List UInt8)::HP.sl rByte p1 c1 block::l):=H.blkEq 4 rfl ([Value.int .u64 (x7.1),Value.int .u64 (x8.1)]++(bcells (putAt (List.replicate 32 0) 0 ((x10.1).take 32))++(bcells (putAt (List.replicate 32 0) 0 ((x13.1).take 32))++(bcells (List.replicate 32 0)++(bcells (List.replicate 32 0)++([Value.int .i64 (0),Value.int .u64 (0),Value.int .i64 (0),Value.string (txb ([])),Value.string (txb ([])),Value.int .i64 (0),Value.int .i64 (0),Value.slice none (([]:List UInt8)).length 0])))))) (by simp only [List.append_assoc,List.cons_append,List.nil_append])
 refine lz (bn (ct (rl (bb [0] F H rfl fun a F=>?_))))
 replace F:=F.bool (k:=51) (u:=.int .i64 (2)) rfl (by kernel_rfl)
 refine bb [0] F H rfl fun a F=>lz (ct (x_un (n:=2) (sb [0] F H rfl fun a F=>?_)))
 replace F:=F.bool (k:=38) (u:=.bool true) rfl (by kernel_rfl)
 refine nl (sq (cT F rfl (sk (ct (sq (bl (sr (sv F rfl (y_idxS (xs:=([.pointer (some ⟨b3,0+2,none⟩),.pointer (some ⟨b3,0+34,none⟩),.pointer (some ⟨b3,0+66,none⟩),.pointer (some ⟨b3,0+98,none⟩)]:List Value)) F elem89 rfl rfl rfl rfl (rfl:idxO ([.pointer (some ⟨b3,0+2,none⟩),.pointer (some ⟨b3,0+34,none⟩),.pointer (some ⟨b3,0+66,none⟩),.pointer (some ⟨b3,0+98,none⟩)]:List Value) 2=some (Value.pointer (some ⟨b3,0+66,none⟩)))) fun a F=>?_))))))))
 replace F:=F.bool (k:=39) (u:=.pointer (some ⟨b9,2,none⟩)) rfl (by kernel_rfl)
 refine bk [3002,0] F H rfl ⟨rfl,plain88,trivial⟩ fun a F=>nb [0] F H rfl fun a F=>?_
 obtain ⟨x16,ex16,hm⟩:=ob hm
 refine sd F rfl ent28 (w_eyeRaw ex16 (H.pm 7 [1,0,2,3,4,5,6] rfl:):) ?_;rintro _ w a ⟨p17,c17,rfl,H⟩ F
 refine bb (List.replicate 5 0) F H rfl fun a F=>?_
 replace H:=H.nf 8 rfl
 refine nl (rl (bb [0,0] F H rfl fun a F=>sv F rfl (y_slAW (α:=UInt8) (xs:=(List.replicate 32 0)) F arr24 rfl rfl (List.length_replicate (n:=32))) fun a F=>bb [0] F H rfl fun a F=>?_))
 replace H:=H.frz 0 rfl
 have hA18:((List.replicate 32 0):List UInt8).length=32:=(List.length_replicate (n:=32))
 have hl18:(putAt (List.replicate 32 0) 0 ((x16.1).take 32):List UInt8).length=32:=(putAt_len _ _ _ (by rw [List.length_take];omega)).trans hA18
 replace H:=H.blkEq 5 rfl ([Value.int .u64 (x7.1),Value.int .u64 (x8.1)]++(bcells (putAt (List.replicate 32 0) 0 ((x10.1).take 32))++(bcells (putAt (List.replicate 32 0) 0 ((x13.1).take 32))))++(bcells (List.replicate 32 0)++bcells (List.replicate 32 0)++([Value.int .i64 (0),Value.int .u64 (0),Value.int .i64 (0),Value.string (txb ([])),Value.string (txb ([])),Value.int .i64 (0),Value.int .i64 (0),Value.slice none (([]:List UInt8)).length 0]))) (by simp only [List.append_assoc,List.cons_append,List.nil_append])
 refine s_cpyF (n:=32) wkP F rfl rfl rfl elem25 rfl rfl hA18 (shp_ne (by decide)) rfl H 5 0 (A:=[Value.int .u64 (x7.1),Value.int .u64 (x8.1)]++(bcells (putAt (List.replicate 32 0) 0 ((x10.1).take 32))++(bcells (putAt (List.replicate 32 0) 0 ((x13.1).take 32))))) (C:=bcells (List.replicate 32 0)++([Value.int .i64 (0),Value.int .u64 (0),Value.int .i64 (0),Value.string (txb ([])),Value.string (txb ([])),Value.int .i64 (0),Value.int .i64 (0),Value.slice none (([]:List UInt8)).length 0])) rfl rfl (by simp only [List.length_append,List.length_cons,List.length_nil,icells_length,bcells_length,hl12,hl15]<;>rfl) hA18 fun w a H F=>?_
 replace H:St w0 w (HP.sl rByte p17 c17 x16.1::O_pack_Eye b5 x16.2.2::HP.sl rByte p14 c14 x13.1::HP.sl rByte p11 c11 x10.1::HP.blk b9 ([.pointer (some ⟨b3,0+2,none⟩),.pointer (some ⟨b3,0+34,none⟩),.pointer (some ⟨b3,0+66,none⟩),.pointer (some ⟨b3,0+98,none⟩)]) 88::HP.blk b3 ([Value.int .u64 (x7.1),Value.int .u64 (x8.1)]++(bcells (putAt (List.replicate 32 0) 0 ((x10.1).take 32))++(bcells (putAt (List.replicate 32 0) 0 ((x13.1).take 32))++(bcells (putAt (List.replicate 32 0) 0 ((x16.1).take 32))++(bcells (List.replicate 32 0)++([Value.int .i64 (0),Value.int .u64 (0),Value.int .i64 (0),Value.string (txb ([])),Value.string (txb ([])),Value.int .i64 (0),Value.int .i64 (0),Value.slice none (([]:List UInt8)).length 0])))))) 31::HP.ow rByte 5 none 0 ([]:List UInt8)::HP.sl rByte p1 c1 block::l):=H.blkEq 5 rfl ([Value.int .u64 (x7.1),Value.int .u64 (x8.1)]++(bcells (putAt (List.replicate 32 0) 0 ((x10.1).take 32))++(bcells (putAt (List.replicate 32 0) 0 ((x13.1).take 32))++(bcells (putAt (List.replicate 32 0) 0 ((x16.1).take 32))++(bcells (List.replicate 32 0)++([Value.int .i64 (0),Value.int .u64 (0),Value.int .i64 (0),Value.string (txb ([])),Value.string (txb ([])),Value.int .i64 (0),Value.int .i64 (0),Value.slice none (([]:List UInt8)).length 0])))))) (by simp only [List.append_assoc,List.cons_append,List.nil_append])
 refine lz (bn (ct (rl (bb [0] F H rfl fun a F=>?_))))
 replace F:=F.bool (k:=51) (u:=.int .i64 (3)) rfl (by kernel_rfl)
 refine bb [0] F H rfl fun a F=>lz (ct (x_un (n:=1) (sb [0] F H rfl fun a F=>?_)))
 replace F:=F.bool (k:=38) (u:=.bool true) rfl (by kernel_rfl)
 refine nl (sq (cT F rfl (sk (ct (sq (bl (sr (sv F rfl (y_idxS (xs:=([.pointer (some ⟨b3,0+2,none⟩),.pointer (some ⟨b3,0+34,none⟩),.pointer (some ⟨b3,0+66,none⟩),.pointer (some ⟨b3,0+98,none⟩)]:List Value)) F elem89 rfl rfl rfl rfl (rfl:idxO ([.pointer (some ⟨b3,0+2,none⟩),.pointer (some ⟨b3,0+34,none⟩),.pointer (some ⟨b3,0+66,none⟩),.pointer (some ⟨b3,0+98,none⟩)]:List Value) 3=some (Value.pointer (some ⟨b3,0+98,none⟩)))) fun a F=>?_))))))))
 replace F:=F.bool (k:=39) (u:=.pointer (some ⟨b9,3,none⟩)) rfl (by kernel_rfl)
 refine bk [4003,0] F H rfl ⟨rfl,plain88,trivial⟩ fun a F=>nb [0] F H rfl fun a F=>?_
 obtain ⟨x19,ex19,hm⟩:=ob hm
 refine sd F rfl ent28 (w_eyeRaw ex19 (H.pm 8 [1,0,2,3,4,5,6,7] rfl:):) ?_;rintro _ w a ⟨p20,c20,rfl,H⟩ F
 refine bb (List.replicate 5 0) F H rfl fun a F=>?_
 replace H:=H.nf 9 rfl
 refine nl (rl (bb [0,0] F H rfl fun a F=>sv F rfl (y_slAW (α:=UInt8) (xs:=(List.replicate 32 0)) F arr24 rfl rfl (List.length_replicate (n:=32))) fun a F=>bb [0] F H rfl fun a F=>?_))
 replace H:=H.frz 0 rfl
 have hA21:((List.replicate 32 0):List UInt8).length=32:=(List.length_replicate (n:=32))
 have hl21:(putAt (List.replicate 32 0) 0 ((x19.1).take 32):List UInt8).length=32:=(putAt_len _ _ _ (by rw [List.length_take];omega)).trans hA21
 replace H:=H.blkEq 6 rfl ([Value.int .u64 (x7.1),Value.int .u64 (x8.1)]++(bcells (putAt (List.replicate 32 0) 0 ((x10.1).take 32))++(bcells (putAt (List.replicate 32 0) 0 ((x13.1).take 32))++(bcells (putAt (List.replicate 32 0) 0 ((x16.1).take 32)))))++(bcells (List.replicate 32 0)++[.int .i64 (0),.int .u64 (0),.int .i64 (0),.string (txb ([])),.string (txb ([])),.int .i64 (0),.int .i64 (0),.slice none (([]:List UInt8)).length 0])) (by simp only [List.append_assoc,List.cons_append,List.nil_append])
 refine s_cpyF (n:=32) wkP F rfl rfl rfl elem25 rfl rfl hA21 (shp_ne (by decide)) rfl H 6 0 (A:=[Value.int .u64 (x7.1),Value.int .u64 (x8.1)]++(bcells (putAt (List.replicate 32 0) 0 ((x10.1).take 32))++(bcells (putAt (List.replicate 32 0) 0 ((x13.1).take 32))++(bcells (putAt (List.replicate 32 0) 0 ((x16.1).take 32)))))) (C:=[.int .i64 (0),.int .u64 (0),.int .i64 (0),.string (txb ([])),.string (txb ([])),.int .i64 (0),.int .i64 (0),.slice none (([]:List UInt8)).length 0]) rfl rfl (by simp only [List.length_append,List.length_cons,List.length_nil,icells_length,bcells_length,hl12,hl15,hl18]<;>rfl) hA21 fun w a H F=>?_
 replace H:St w0 w (HP.sl rByte p20 c20 x19.1::O_pack_Eye b5 x19.2.2::HP.sl rByte p17 c17 x16.1::HP.sl rByte p14 c14 x13.1::HP.sl rByte p11 c11 x10.1::HP.blk b9 ([.pointer (some ⟨b3,0+2,none⟩),.pointer (some ⟨b3,0+34,none⟩),.pointer (some ⟨b3,0+66,none⟩),.pointer (some ⟨b3,0+98,none⟩)]) 88::HP.blk b3 ([Value.int .u64 (x7.1),Value.int .u64 (x8.1)]++(bcells (putAt (List.replicate 32 0) 0 ((x10.1).take 32))++(bcells (putAt (List.replicate 32 0) 0 ((x13.1).take 32))++(bcells (putAt (List.replicate 32 0) 0 ((x16.1).take 32))++(bcells (putAt (List.replicate 32 0) 0 ((x19.1).take 32))++([Value.int .i64 (0),Value.int .u64 (0),Value.int .i64 (0),Value.string (txb ([])),Value.string (txb ([])),Value.int .i64 (0),Value.int .i64 (0),Value.slice none (([]:List UInt8)).length 0])))))) 31::HP.ow rByte 5 none 0 ([]:List UInt8)::HP.sl rByte p1 c1 block::l):=H.blkEq 6 rfl ([Value.int .u64 (x7.1),Value.int .u64 (x8.1)]++(bcells (putAt (List.replicate 32 0) 0 ((x10.1).take 32))++(bcells (putAt (List.replicate 32 0) 0 ((x13.1).take 32))++(bcells (putAt (List.replicate 32 0) 0 ((x16.1).take 32))++(bcells (putAt (List.replicate 32 0) 0 ((x19.1).take 32))++([Value.int .i64 (0),Value.int .u64 (0),Value.int .i64 (0),Value.string (txb ([])),Value.string (txb ([])),Value.int .i64 (0),Value.int .i64 (0),Value.slice none (([]:List UInt8)).length 0])))))) (by simp only [List.append_assoc,List.cons_append,List.nil_append])
 refine lz (bn (ct (rl (bb [0] F H rfl fun a F=>?_))))
 replace F:=F.bool (k:=51) (u:=.int .i64 (4)) rfl (by kernel_rfl)
 refine bb [0] F H rfl fun a F=>lz (ct (x_un (n:=0) (sb [0] F H rfl fun a F=>?_)))
 replace F:=F.bool (k:=38) (u:=.bool false) rfl (by kernel_rfl)
 refine nl (sq (cF F rfl ?_))
 refine ex (cx (cx (ch (ct (sb [0] F H rfl fun a F=>?_)))))
 obtain ⟨x22,ex22,hm⟩:=ob hm
 refine sd F rfl ent27 (w_eyeUint ex22 (H.pm 9 [1,0,2,3,4,5,6,7,8] rfl:):) ?_;rintro _ w a ⟨rfl,H⟩ F
 refine bb (List.replicate 5 0) F H rfl fun a F=>?_
 replace H:=H.nf 9 rfl
 refine nl (sr (bk [0,0,130,0] F H rfl ⟨Tryz.underlying22,Tryz.underlying3,fld31_6,fld29_0,trivial⟩ fun a F=>?_))
 refine s_stC wkP F rfl rfl zero3 rfl rfl rfl rfl rfl H 6 rfl (A:=[Value.int .u64 (x7.1),Value.int .u64 (x8.1)]++(bcells (putAt (List.replicate 32 0) 0 ((x10.1).take 32))++(bcells (putAt (List.replicate 32 0) 0 ((x13.1).take 32))++(bcells (putAt (List.replicate 32 0) 0 ((x16.1).take 32))++(bcells (putAt (List.replicate 32 0) 0 ((x19.1).take 32))))))) (C:=[.int .u64 (0),.int .i64 (0),.string (txb ([])),.string (txb ([])),.int .i64 (0),.int .i64 (0),.slice none (([]:List UInt8)).length 0]) (x0:=.int .i64 (0)) (by simp only [List.append_assoc,List.cons_append,List.nil_append,List.append_nil]) (by simp only [List.length_append,List.length_cons,List.length_nil,icells_length,bcells_length,hl12,hl15,hl18,hl21]<;>rfl) fun w H=>?_
 replace H:St w0 w (O_pack_Eye b5 x22.2.2::HP.sl rByte p20 c20 x19.1::HP.sl rByte p17 c17 x16.1::HP.sl rByte p14 c14 x13.1::HP.sl rByte p11 c11 x10.1::HP.blk b9 ([.pointer (some ⟨b3,0+2,none⟩),.pointer (some ⟨b3,0+34,none⟩),.pointer (some ⟨b3,0+66,none⟩),.pointer (some ⟨b3,0+98,none⟩)]) 88::HP.blk b3 ([Value.int .u64 (x7.1),Value.int .u64 (x8.1)]++(bcells (putAt (List.replicate 32 0) 0 ((x10.1).take 32))++(bcells (putAt (List.replicate 32 0) 0 ((x13.1).take 32))++(bcells (putAt (List.replicate 32 0) 0 ((x16.1).take 32))++(bcells (putAt (List.replicate 32 0) 0 ((x19.1).take 32))++([Value.int .i64 (IntKind.i64.wrap (x22.1)),Value.int .u64 (0),Value.int .i64 (0),Value.string (txb ([])),Value.string (txb ([])),Value.int .i64 (0),Value.int .i64 (0),Value.slice none (([]:List UInt8)).length 0])))))) 31::HP.ow rByte 5 none 0 ([]:List UInt8)::HP.sl rByte p1 c1 block::l):=H.blkEq 6 rfl ([Value.int .u64 (x7.1),Value.int .u64 (x8.1)]++(bcells (putAt (List.replicate 32 0) 0 ((x10.1).take 32))++(bcells (putAt (List.replicate 32 0) 0 ((x13.1).take 32))++(bcells (putAt (List.replicate 32 0) 0 ((x16.1).take 32))++(bcells (putAt (List.replicate 32 0) 0 ((x19.1).take 32))++([Value.int .i64 (IntKind.i64.wrap (x22.1)),Value.int .u64 (0),Value.int .i64 (0),Value.string (txb ([])),Value.string (txb ([])),Value.int .i64 (0),Value.int .i64 (0),Value.slice none (([]:List UInt8)).length 0])))))) (by simp only [List.append_assoc,List.cons_append,List.nil_append,List.append_nil])
 refine nb [0] F H rfl fun a F=>?_
 obtain ⟨x23,ex23,hm⟩:=ob hm
 refine sd F rfl ent27 (w_eyeUint ex23 H:) ?_;rintro _ w a ⟨rfl,H⟩ F
 refine bk [0,0,0,130,1] F H rfl ⟨fld31_6,fld29_1,trivial⟩ fun a F=>?_
 refine s_stC wkP F rfl rfl zero22 rfl rfl rfl rfl rfl H 6 rfl (A:=[Value.int .u64 (x7.1),Value.int .u64 (x8.1)]++(bcells (putAt (List.replicate 32 0) 0 ((x10.1).take 32))++(bcells (putAt (List.replicate 32 0) 0 ((x13.1).take 32))++(bcells (putAt (List.replicate 32 0) 0 ((x16.1).take 32))++(bcells (putAt (List.replicate 32 0) 0 ((x19.1).take 32))++([Value.int .i64 (IntKind.i64.wrap (x22.1))])))))) (C:=[.int .i64 (0),.string (txb ([])),.string (txb ([])),.int .i64 (0),.int .i64 (0),.slice none (([]:List UInt8)).length 0]) (x0:=.int .u64 (0)) (by simp only [List.append_assoc,List.cons_append,List.nil_append,List.append_nil]) (by simp only [List.length_append,List.length_cons,List.length_nil,icells_length,bcells_length,hl12,hl15,hl18,hl21]<;>rfl) fun w H=>?_
 replace H:St w0 w (O_pack_Eye b5 x23.2.2::HP.sl rByte p20 c20 x19.1::HP.sl rByte p17 c17 x16.1::HP.sl rByte p14 c14 x13.1::HP.sl rByte p11 c11 x10.1::HP.blk b9 ([.pointer (some ⟨b3,0+2,none⟩),.pointer (some ⟨b3,0+34,none⟩),.pointer (some ⟨b3,0+66,none⟩),.pointer (some ⟨b3,0+98,none⟩)]) 88::HP.blk b3 ([Value.int .u64 (x7.1),Value.int .u64 (x8.1)]++(bcells (putAt (List.replicate 32 0) 0 ((x10.1).take 32))++(bcells (putAt (List.replicate 32 0) 0 ((x13.1).take 32))++(bcells (putAt (List.replicate 32 0) 0 ((x16.1).take 32))++(bcells (putAt (List.replicate 32 0) 0 ((x19.1).take 32))++([Value.int .i64 (IntKind.i64.wrap (x22.1)),Value.int .u64 (x23.1),Value.int .i64 (0),Value.string (txb ([])),Value.string (txb ([])),Value.int .i64 (0),Value.int .i64 (0),Value.slice none (([]:List UInt8)).length 0])))))) 31::HP.ow rByte 5 none 0 ([]:List UInt8)::HP.sl rByte p1 c1 block::l):=H.blkEq 6 rfl ([Value.int .u64 (x7.1),Value.int .u64 (x8.1)]++(bcells (putAt (List.replicate 32 0) 0 ((x10.1).take 32))++(bcells (putAt (List.replicate 32 0) 0 ((x13.1).take 32))++(bcells (putAt (List.replicate 32 0) 0 ((x16.1).take 32))++(bcells (putAt (List.replicate 32 0) 0 ((x19.1).take 32))++([Value.int .i64 (IntKind.i64.wrap (x22.1)),Value.int .u64 (x23.1),Value.int .i64 (0),Value.string (txb ([])),Value.string (txb ([])),Value.int .i64 (0),Value.int .i64 (0),Value.slice none (([]:List UInt8)).length 0])))))) (by simp only [List.append_assoc,List.cons_append,List.nil_append,List.append_nil])
 refine nl (sq (sb [0] F H rfl fun a F=>?_))
 obtain ⟨x24,ex24,hm⟩:=ob hm
 refine sd F rfl ent29 (w_eyeText ex24 H:) ?_;rintro _ w a ⟨p25,c25,rfl,H⟩ F
 refine bb (List.replicate 5 0) F H rfl fun a F=>?_
 replace H:=H.nf 10 rfl
 refine nl (sr (bk [0,0,0] F H rfl ⟨⟨_,Tryz.underlying25⟩,trivial⟩ fun a F=>nl ?_))
 obtain ⟨r29,er29,hm29⟩:=ob hm;clear hm;revert er29;intro hm
 refine x_mid (fun aa ww=>∃ (cs34:List Value),Fr ⟨98,[]⟩ aa [(0,.slice p1 (block).length c1),(2,.pointer (some ⟨b3,0,none⟩))]∧((putAt (List.replicate 32 0) 0 ((x10.1).take 32)).length=32)∧((putAt (List.replicate 32 0) 0 ((x13.1).take 32)).length=32)∧((putAt (List.replicate 32 0) 0 ((x16.1).take 32)).length=32)∧((putAt (List.replicate 32 0) 0 ((x19.1).take 32)).length=32)∧St w0 ww (O_pack_Eye b5 x24.2.2::HP.blk b9 ([.pointer (some ⟨b3,0+2,none⟩),.pointer (some ⟨b3,0+34,none⟩),.pointer (some ⟨b3,0+66,none⟩),.pointer (some ⟨b3,0+98,none⟩)]) 88::HP.blk b3 ([Value.int .u64 (x7.1),Value.int .u64 (x8.1)]++(bcells (putAt (List.replicate 32 0) 0 ((x10.1).take 32))++(bcells (putAt (List.replicate 32 0) 0 ((x13.1).take 32))++(bcells (putAt (List.replicate 32 0) 0 ((x16.1).take 32))++(bcells (putAt (List.replicate 32 0) 0 ((x19.1).take 32))++([Value.int .i64 (IntKind.i64.wrap (x22.1)),Value.int .u64 (x23.1)]++(cs34))))))) 31::HP.sl rByte p1 c1 block::HP.rc R_api_Op cs34 r29::l)) ?_ ?_
 refine cPm F rfl hm (fun hg35 hm=>?_) (fun hg35 hm=>?_)
 refine rl (bb [0] F H rfl fun a F=>?_)
 replace H:=H.frz 0 rfl
 obtain ⟨x36,ex36,hm⟩:=ob hm
 refine sd F rfl ent30 (w_oRead ex36 (H.pm 10 [0,0,1,2,3,4,5,6,7,8,9] rfl:):) ?_;rintro _ w a ⟨cs37,rfl,H⟩ F
 refine bk [0,0,0,130,2] F H rfl ⟨fld31_6,fld29_2,trivial⟩ fun a F=>?_
 refine s_storeFE wkP F rfl rfl agg27 rfl rfl rfl H 8 rfl (A:=[Value.int .u64 (x7.1),Value.int .u64 (x8.1)]++(bcells (putAt (List.replicate 32 0) 0 ((x10.1).take 32))++(bcells (putAt (List.replicate 32 0) 0 ((x13.1).take 32))++(bcells (putAt (List.replicate 32 0) 0 ((x16.1).take 32))++(bcells (putAt (List.replicate 32 0) 0 ((x19.1).take 32))++([Value.int .i64 (IntKind.i64.wrap (x22.1)),Value.int .u64 (x23.1)])))))) (X:=[.int .i64 (0),.string (txb ([])),.string (txb ([])),.int .i64 (0),.int .i64 (0),.slice none (([]:List UInt8)).length 0]) (by simp only [List.append_assoc,List.cons_append,List.nil_append]) (by simp only [List.length_append,List.length_cons,List.length_nil,icells_length,bcells_length,hl12,hl15,hl18,hl21]<;>rfl) rfl (H.rcLen 0 rfl) (H.rcFlat 0 rfl) fun w H=>?_
 replace H:St w0 w (HP.rc R_api_Op cs37 x36.1::HP.sl rByte p25 c25 x24.1::O_pack_Eye b5 x24.2.2::HP.sl rByte p20 c20 x19.1::HP.sl rByte p17 c17 x16.1::HP.sl rByte p14 c14 x13.1::HP.sl rByte p11 c11 x10.1::HP.blk b9 ([.pointer (some ⟨b3,0+2,none⟩),.pointer (some ⟨b3,0+34,none⟩),.pointer (some ⟨b3,0+66,none⟩),.pointer (some ⟨b3,0+98,none⟩)]) 88::HP.blk b3 ([Value.int .u64 (x7.1),Value.int .u64 (x8.1)]++(bcells (putAt (List.replicate 32 0) 0 ((x10.1).take 32))++(bcells (putAt (List.replicate 32 0) 0 ((x13.1).take 32))++(bcells (putAt (List.replicate 32 0) 0 ((x16.1).take 32))++(bcells (putAt (List.replicate 32 0) 0 ((x19.1).take 32))++([Value.int .i64 (IntKind.i64.wrap (x22.1)),Value.int .u64 (x23.1)]++(cs37))))))) 31::HP.ow rByte 5 none 0 ([]:List UInt8)::HP.sl rByte p1 c1 block::l):=H.blkEq 8 rfl ([Value.int .u64 (x7.1),Value.int .u64 (x8.1)]++(bcells (putAt (List.replicate 32 0) 0 ((x10.1).take 32))++(bcells (putAt (List.replicate 32 0) 0 ((x13.1).take 32))++(bcells (putAt (List.replicate 32 0) 0 ((x16.1).take 32))++(bcells (putAt (List.replicate 32 0) 0 ((x19.1).take 32))++([Value.int .i64 (IntKind.i64.wrap (x22.1)),Value.int .u64 (x23.1)]++(cs37))))))) (by simp only [List.append_assoc,List.cons_append,List.nil_append])
 refine lz ?_
 cases hm
 refine ct ?_
 exact ⟨cs37,F.sl rfl,hl12,hl15,hl18,hl21,(H.pm 11 [2,7,8,10,0] rfl:)⟩
 refine sk ?_
 cases hm
 refine ct ?_
 replace H:=H.frz 8 rfl
 replace H:=mk_api_Op H 0 ([]) ([]) 0 0 0 rfl
 exact ⟨[.int .i64 (0),.string (txb ([])),.string (txb ([])),.int .i64 (0),.int .i64 (0),.slice none (([]:List UInt8)).length 0],F.sl rfl,hl12,hl15,hl18,hl21,(H.pm 11 [3,8,9,10,0] rfl:)⟩
 clear F H hm
 rintro a w ⟨cs34,F,hl30,hl31,hl32,hl33,H⟩;have hm:=hm29;clear hm29
 refine ct (sq (sr (bk [2999] F H rfl ⟨rfl,(aggn agg31 (by simp only [List.length_append,List.length_cons,List.length_nil,icells_length,bcells_length,hl30,hl31,hl32,hl33,H.rcLen 4 rfl]<;>rfl)),trivial⟩ fun a F=>?_)))
 replace H:=H.mkRc (R:=R_api_Record) (cs:=[Value.int .u64 (x7.1),Value.int .u64 (x8.1)]++(bcells (putAt (List.replicate 32 0) 0 ((x10.1).take 32))++(bcells (putAt (List.replicate 32 0) 0 ((x13.1).take 32))++(bcells (putAt (List.replicate 32 0) 0 ((x16.1).take 32))++(bcells (putAt (List.replicate 32 0) 0 ((x19.1).take 32))++([Value.int .i64 (IntKind.i64.wrap (x22.1)),Value.int .u64 (x23.1)]++(cs34))))))) (x:=(x7.1,x8.1,putAt (List.replicate 32 0) 0 ((x10.1).take 32),putAt (List.replicate 32 0) 0 ((x13.1).take 32),putAt (List.replicate 32 0) 0 ((x16.1).take 32),putAt (List.replicate 32 0) 0 ((x19.1).take 32),(IntKind.i64.wrap (x22.1),x23.1,r29))) (fun gg=>⟨[Value.int .u64 (x7.1)],_,rfl,rfl,⟨[Value.int .u64 (x8.1)],_,rfl,rfl,⟨bcells (putAt (List.replicate 32 0) 0 ((x10.1).take 32)),_,rfl,⟨rfl,hl30⟩,⟨bcells (putAt (List.replicate 32 0) 0 ((x13.1).take 32)),_,rfl,⟨rfl,hl31⟩,⟨bcells (putAt (List.replicate 32 0) 0 ((x16.1).take 32)),_,rfl,⟨rfl,hl32⟩,⟨bcells (putAt (List.replicate 32 0) 0 ((x19.1).take 32)),_,rfl,⟨rfl,hl33⟩,⟨[Value.int .i64 (IntKind.i64.wrap (x22.1))],_,rfl,rfl,⟨[Value.int .u64 (x23.1)],_,rfl,rfl,(gg 4 _ rfl).choose_spec⟩⟩⟩⟩⟩⟩⟩⟩)
 obtain ⟨x38,ex38,hm⟩:=ob hm
 refine sd F rfl ent7 (w_cWrite ex38 (H.pm 6 [0,0,1,2,3,4,5] rfl:):) ?_;rintro _ w a ⟨p39,c39,rfl,H⟩ F
 refine bb (List.replicate 5 0) F H rfl fun a F=>?_
 replace H:=H.nf 7 rfl
 refine nb [0,0,0] F H rfl fun a F=>?_
 rcases spN 90 F rfl hm with ⟨hg40,hm,F⟩ | ⟨hg40,hm,F⟩
 refine bb [0,0] F H rfl fun a F=>g_onP F rfl rfl rfl rfl ?_
 replace H:=H.frz 0 rfl
 obtain ⟨x41,ex41,hm⟩:=ob hm
 refine sd F rfl ent31 (w_equalB ex41 (H.pm 7 [0,5,0,1,2,3,4,5,6] rfl:):) ?_;rintro _ w a ⟨rfl,H⟩ F
 refine bb [0,0] F H rfl fun a F=>?_
 replace H:=H.nf 7 rfl
 refine nl (cB F rfl (fun hg42=>?_) (fun hg42=>?_))
 replace hm:=ifT hg42 hm
 refine sr ?_
 replace H:=H.owNil rByte 5
 refine sv F rfl (y_build F rfl rfl (cs:=[Value.int .u64 (0),Value.int .u64 (0)]++(bcells (List.replicate 32 0)++(bcells (List.replicate 32 0)++(bcells (List.replicate 32 0)++(bcells (List.replicate 32 0)++([Value.int .i64 (0),Value.int .u64 (0),Value.int .i64 (0),Value.string (txb ([])),Value.string (txb ([])),Value.int .i64 (0),Value.int .i64 (0),Value.slice none (([]:List UInt8)).length 0])))))) (by kernel_rfl)) fun a F=>?_
 refine s_storeA wkP F rfl rfl agg31 rfl rfl rfl H 5 rfl (by simp only [List.length_append,List.length_cons,List.length_nil,icells_length,bcells_length,(List.length_replicate (n:=32)),(List.length_replicate (n:=32)),(List.length_replicate (n:=32)),(List.length_replicate (n:=32))]) (by simp only [List.length_append,List.length_cons,List.length_nil,icells_length,bcells_length,hl30,hl31,hl32,hl33,H.rcLen 7 rfl]<;>rfl) (flA (fl rfl) (flA (bcells_flat _) (flA (bcells_flat _) (flA (bcells_flat _) (flA (bcells_flat _) (fl rfl)))))) fun w H=>?_
 refine bb [0] F H rfl fun a F=>?_
 replace H:=H.nf 8 rfl
 refine nl (wr (tr ?_))
 replace H:=H.frz 0 rfl
 replace H:=H.mkRc (R:=R_api_Record) (cs:=[Value.int .u64 (0),Value.int .u64 (0)]++(bcells (List.replicate 32 0)++(bcells (List.replicate 32 0)++(bcells (List.replicate 32 0)++(bcells (List.replicate 32 0)++([Value.int .i64 (0),Value.int .u64 (0),Value.int .i64 (0),Value.string (txb ([])),Value.string (txb ([])),Value.int .i64 (0),Value.int .i64 (0),Value.slice none (([]:List UInt8)).length 0])))))) (x:=(0,0,(List.replicate 32 0),(List.replicate 32 0),(List.replicate 32 0),(List.replicate 32 0),(0,0,(0,[],[],0,0,([]:List UInt8))))) (fun gg=>⟨[Value.int .u64 (0)],_,rfl,rfl,⟨[Value.int .u64 (0)],_,rfl,rfl,⟨bcells (List.replicate 32 0),_,rfl,⟨rfl,(List.length_replicate (n:=32))⟩,⟨bcells (List.replicate 32 0),_,rfl,⟨rfl,(List.length_replicate (n:=32))⟩,⟨bcells (List.replicate 32 0),_,rfl,⟨rfl,(List.length_replicate (n:=32))⟩,⟨bcells (List.replicate 32 0),_,rfl,⟨rfl,(List.length_replicate (n:=32))⟩,⟨[Value.int .i64 (0)],_,rfl,rfl,⟨[Value.int .u64 (0)],_,rfl,rfl,⟨[Value.int .i64 (0)],_,rfl,rfl,⟨[Value.string (txb ([]))],_,rfl,rfl,⟨[Value.string (txb ([]))],_,rfl,rfl,⟨[Value.int .i64 (0)],_,rfl,rfl,⟨[Value.int .i64 (0)],_,rfl,rfl,⟨_,_,rfl,(gg 0 _ rfl).choose_spec⟩⟩⟩⟩⟩⟩⟩⟩⟩⟩⟩⟩⟩⟩)
 cases hm
 refine x_resC2 F rfl (⟨_,rfl,agg31.run_load (H.blk 6 rfl).row (by simp only [List.length_append,List.length_cons,List.length_nil,icells_length,bcells_length,(List.length_replicate (n:=32)),(List.length_replicate (n:=32)),(List.length_replicate (n:=32)),(List.length_replicate (n:=32))])⟩) rfl ?_
 exact ⟨_,rfl,[Value.int .u64 (0),Value.int .u64 (0)]++(bcells (List.replicate 32 0)++(bcells (List.replicate 32 0)++(bcells (List.replicate 32 0)++(bcells (List.replicate 32 0)++([Value.int .i64 (0),Value.int .u64 (0),Value.int .i64 (0),Value.string (txb ([])),Value.string (txb ([])),Value.int .i64 (0),Value.int .i64 (0),Value.slice none (([]:List UInt8)).length 0]))))),rfl,(H.pm 9 [0] rfl:)⟩
 replace hm:=ifF (nT hg42) hm
 refine sk (ct (sr (bk [4999] F H rfl ⟨rfl,(aggn agg31 (by simp only [List.length_append,List.length_cons,List.length_nil,icells_length,bcells_length,hl30,hl31,hl32,hl33,H.rcLen 6 rfl]<;>rfl)),trivial⟩ fun a F=>?_)))
 refine s_storeA wkP F rfl rfl agg31 rfl rfl rfl H 4 rfl (by simp only [List.length_append,List.length_cons,List.length_nil,icells_length,bcells_length,hl30,hl31,hl32,hl33,H.rcLen 6 rfl]<;>rfl) (by simp only [List.length_append,List.length_cons,List.length_nil,icells_length,bcells_length,hl30,hl31,hl32,hl33,H.rcLen 6 rfl]<;>rfl) (flA (fl rfl) (flA (bcells_flat _) (flA (bcells_flat _) (flA (bcells_flat _) (flA (bcells_flat _) (flA (fl rfl) (H.rcFlat 6 rfl))))))) fun w H=>?_
 refine bb [0] F H rfl fun a F=>?_
 replace H:=H.nf 7 rfl
 refine nl (wr ?_)
 replace H:=H.mkRc (R:=R_api_Record) (cs:=[Value.int .u64 (x7.1),Value.int .u64 (x8.1)]++(bcells (putAt (List.replicate 32 0) 0 ((x10.1).take 32))++(bcells (putAt (List.replicate 32 0) 0 ((x13.1).take 32))++(bcells (putAt (List.replicate 32 0) 0 ((x16.1).take 32))++(bcells (putAt (List.replicate 32 0) 0 ((x19.1).take 32))++([Value.int .i64 (IntKind.i64.wrap (x22.1)),Value.int .u64 (x23.1)]++(cs34))))))) (x:=(x7.1,x8.1,putAt (List.replicate 32 0) 0 ((x10.1).take 32),putAt (List.replicate 32 0) 0 ((x13.1).take 32),putAt (List.replicate 32 0) 0 ((x16.1).take 32),putAt (List.replicate 32 0) 0 ((x19.1).take 32),(IntKind.i64.wrap (x22.1),x23.1,r29))) (fun gg=>⟨[Value.int .u64 (x7.1)],_,rfl,rfl,⟨[Value.int .u64 (x8.1)],_,rfl,rfl,⟨bcells (putAt (List.replicate 32 0) 0 ((x10.1).take 32)),_,rfl,⟨rfl,hl30⟩,⟨bcells (putAt (List.replicate 32 0) 0 ((x13.1).take 32)),_,rfl,⟨rfl,hl31⟩,⟨bcells (putAt (List.replicate 32 0) 0 ((x16.1).take 32)),_,rfl,⟨rfl,hl32⟩,⟨bcells (putAt (List.replicate 32 0) 0 ((x19.1).take 32)),_,rfl,⟨rfl,hl33⟩,⟨[Value.int .i64 (IntKind.i64.wrap (x22.1))],_,rfl,rfl,⟨[Value.int .u64 (x23.1)],_,rfl,rfl,(gg 6 _ rfl).choose_spec⟩⟩⟩⟩⟩⟩⟩⟩)
 cases hm
 refine x_resC2 F rfl (⟨_,rfl,agg31.run_load (H.blk 5 rfl).row (by simp only [List.length_append,List.length_cons,List.length_nil,icells_length,bcells_length,hl30,hl31,hl32,hl33,H.rcLen 7 rfl]<;>rfl)⟩) rfl ?_
 exact ⟨_,rfl,[Value.int .u64 (x7.1),Value.int .u64 (x8.1)]++(bcells (putAt (List.replicate 32 0) 0 ((x10.1).take 32))++(bcells (putAt (List.replicate 32 0) 0 ((x13.1).take 32))++(bcells (putAt (List.replicate 32 0) 0 ((x16.1).take 32))++(bcells (putAt (List.replicate 32 0) 0 ((x19.1).take 32))++([Value.int .i64 (IntKind.i64.wrap (x22.1)),Value.int .u64 (x23.1)]++(cs34)))))),rfl,(H.pm 8 [0] rfl:)⟩
 refine bb (List.replicate 5 0) F H rfl fun a F=>nl (cT F rfl (sr ?_))
 replace H:=H.owNil rByte 5
 refine sv F rfl (y_build F rfl rfl (cs:=[Value.int .u64 (0),Value.int .u64 (0)]++(bcells (List.replicate 32 0)++(bcells (List.replicate 32 0)++(bcells (List.replicate 32 0)++(bcells (List.replicate 32 0)++([Value.int .i64 (0),Value.int .u64 (0),Value.int .i64 (0),Value.string (txb ([])),Value.string (txb ([])),Value.int .i64 (0),Value.int .i64 (0),Value.slice none (([]:List UInt8)).length 0])))))) (by kernel_rfl)) fun a F=>?_
 refine s_storeA wkP F rfl rfl agg31 rfl rfl rfl H 5 rfl (by simp only [List.length_append,List.length_cons,List.length_nil,icells_length,bcells_length,(List.length_replicate (n:=32)),(List.length_replicate (n:=32)),(List.length_replicate (n:=32)),(List.length_replicate (n:=32))]) (by simp only [List.length_append,List.length_cons,List.length_nil,icells_length,bcells_length,hl30,hl31,hl32,hl33,H.rcLen 7 rfl]<;>rfl) (flA (fl rfl) (flA (bcells_flat _) (flA (bcells_flat _) (flA (bcells_flat _) (flA (bcells_flat _) (fl rfl)))))) fun w H=>?_
 refine bb [0] F H rfl fun a F=>?_
 replace H:=H.nf 8 rfl
 refine nl (wr (tr ?_))
 replace H:=H.frz 0 rfl
 replace H:=H.mkRc (R:=R_api_Record) (cs:=[Value.int .u64 (0),Value.int .u64 (0)]++(bcells (List.replicate 32 0)++(bcells (List.replicate 32 0)++(bcells (List.replicate 32 0)++(bcells (List.replicate 32 0)++([Value.int .i64 (0),Value.int .u64 (0),Value.int .i64 (0),Value.string (txb ([])),Value.string (txb ([])),Value.int .i64 (0),Value.int .i64 (0),Value.slice none (([]:List UInt8)).length 0])))))) (x:=(0,0,(List.replicate 32 0),(List.replicate 32 0),(List.replicate 32 0),(List.replicate 32 0),(0,0,(0,[],[],0,0,([]:List UInt8))))) (fun gg=>⟨[Value.int .u64 (0)],_,rfl,rfl,⟨[Value.int .u64 (0)],_,rfl,rfl,⟨bcells (List.replicate 32 0),_,rfl,⟨rfl,(List.length_replicate (n:=32))⟩,⟨bcells (List.replicate 32 0),_,rfl,⟨rfl,(List.length_replicate (n:=32))⟩,⟨bcells (List.replicate 32 0),_,rfl,⟨rfl,(List.length_replicate (n:=32))⟩,⟨bcells (List.replicate 32 0),_,rfl,⟨rfl,(List.length_replicate (n:=32))⟩,⟨[Value.int .i64 (0)],_,rfl,rfl,⟨[Value.int .u64 (0)],_,rfl,rfl,⟨[Value.int .i64 (0)],_,rfl,rfl,⟨[Value.string (txb ([]))],_,rfl,rfl,⟨[Value.string (txb ([]))],_,rfl,rfl,⟨[Value.int .i64 (0)],_,rfl,rfl,⟨[Value.int .i64 (0)],_,rfl,rfl,⟨_,_,rfl,(gg 0 _ rfl).choose_spec⟩⟩⟩⟩⟩⟩⟩⟩⟩⟩⟩⟩⟩⟩)
 cases hm
 refine x_resC2 F rfl (⟨_,rfl,agg31.run_load (H.blk 6 rfl).row (by simp only [List.length_append,List.length_cons,List.length_nil,icells_length,bcells_length,(List.length_replicate (n:=32)),(List.length_replicate (n:=32)),(List.length_replicate (n:=32)),(List.length_replicate (n:=32))])⟩) rfl ?_
 exact ⟨_,rfl,[Value.int .u64 (0),Value.int .u64 (0)]++(bcells (List.replicate 32 0)++(bcells (List.replicate 32 0)++(bcells (List.replicate 32 0)++(bcells (List.replicate 32 0)++([Value.int .i64 (0),Value.int .u64 (0),Value.int .i64 (0),Value.string (txb ([])),Value.string (txb ([])),Value.int .i64 (0),Value.int .i64 (0),Value.slice none (([]:List UInt8)).length 0]))))),rfl,(H.pm 9 [0] rfl:)⟩
theorem w_mapCopy {dst:(List UInt8)→Option (List UInt8)} {src:(List UInt8)→Option (List UInt8)} {m1:Nat} {q2:Option Nat} {w0 w:World} {l:List HP}  {r:((List UInt8)→Option (List UInt8))} (hm:mapCopy dst src=some r) (H:St w0 w (HP.mm (some m1) hv false (rSlN w0.heap.size rByte) (fun l=>l.length=32) dst::HP.mm q2 hv false (rSlN w0.heap.size rByte) (fun l=>l.length=32) src::l)) :
  Calls Tryz.prog 87 [.map (some m1),.map q2].toArray w (fun e w'=>∃ v,e=.returned v∧v=.tuple [].toArray∧St w0 w' (HP.mm (some m1) hv false (rSlN w0.heap.size rByte) (fun l=>l.length=32) r::HP.mm q2 hv false (rSlN w0.heap.size rByte) (fun l=>l.length=32) src::l)):=by
 unfold mapCopy at hm
 refine x_enter Tryz.func87 rfl rfl rfl ?_
 intro a F
 refine sb [0] F H rfl fun a F=>?_
 obtain ⟨raw3,cl3,es3,hM3,hE3,H⟩:=H.moOpen 1 rfl
 refine s_rngM wkP F rfl rfl rfl Tryz.underlying46 rfl H 2 rfl rfl fun r3 w a H F=>?_
 replace H:=H.nf 4 rfl
 refine nl (xm0 4 [] [] F H hm rfl rfl (fun r17 z=>z) (fun r17 z=>HP.mm (some m1) hv false (rSlN w0.heap.size rByte) (fun l=>l.length=32) r17::HP.mm q2 hv false (rSlN w0.heap.size rByte) (fun l=>l.length=32) src::z) (fun r17 hm=>?_) (fun r17 a w hm F H=>?_))
 refine bl ?_
 have hmM26:=hm;clear hm
 refine x_loopM es3 hmM26 (fun (s26:((List UInt8)→Option (List UInt8))) vis26 aa ww=>Fr ⟨16,[]⟩ aa [(0,.map (some m1)),(7,.pointer (some ⟨r3,0,none⟩))]∧St w0 ww (HP.obj r3 (mit q2 cl3 (bornsOf raw3 (vis26)))::HP.es (rSlN w0.heap.size rByte) (fun l=>l.length=32) es3 src::HP.mm (some m1) hv false (rSlN w0.heap.size rByte) (fun l=>l.length=32) s26::HP.mo q2 raw3 cl3::l)) ⟨F.sl rfl,H⟩ ?_
 clear F H
 rintro s26 vis26 a w hr26 ⟨F,H⟩
 refine sr (s_nxtM wkP F rfl rfl rfl rfl rfl hM3 hr26.ok H 3 0 rfl rfl rfl (fun hall27 w a H F=>?_) (fun q27 k27 cs27 v27 hq27 hn27 w a H F=>?_))
 have hm:=elimL (hr26.done hE3 hall27 hmM26)
 refine bb [0] F H rfl fun a F=>nl (sq (cF F rfl ?_))
 refine ex (cx (cx ?_))
 replace H:=H.moMm 3 1 hM3 rfl rfl
 refine ch ?_
 cases hm
 refine ct ?_
 exact ⟨F.cut _ trivial,(H.pm 4 [2,3] rfl:)⟩
 obtain ⟨o27,hm,hs27,hx27⟩:=hr26.step hE3 hq27 hn27 hmM26
 refine bb [0] F H rfl fun a F=>nl (sq (cT F rfl (sk (ct (bl (sr ?_))))))
 obtain ⟨hk28,H⟩:=H.esEl 1 rfl hq27
 have G:=F;obtain ⟨p29,c29,rfl,H⟩:=H.rcSlN 0 rfl;have F:=G;clear G
 replace H:=H.dp 1 rfl
 refine sv F rfl (y_entM (agg:=false) (ek:=hv) F rfl rfl hM3 hq27 H 4 1 rfl rfl rfl) fun a F=>bb [0,0] F H rfl fun a F=>s_allocA wkP F rfl rfl rfl agz24 rfl H fun b30 w a H F=>s_storeA wkP F rfl rfl agg24 rfl rfl rfl H 0 rfl ((bcells_length _).trans hk28) ((bcells_length _).trans (List.length_replicate (n:=32))) (bcells_flat _) fun w H=>bb [0] F H rfl fun a F=>?_
 replace H:=H.nf 6 rfl
 refine nl (rl (bk [0,999,0] F H rfl ⟨rfl,(aggn agg24 ((bcells_length _).trans hk28)),trivial⟩ fun a F=>?_))
 refine s_mmSet wkP F rfl rfl Tryz.underlying46 (keyH key24) rfl H 4 rfl rfl (k:=k27) rfl (cs:=[.slice p29 (v27).length c29]) rfl hk28 (v:=v27) (fun gg=>⟨_,_,rfl,(gg 1 _ rfl).choose_spec⟩) fun w H=>?_
 replace H:=H.nf 6 rfl
 refine lz (bn (ct ?_));cases hm
 exact ⟨_,q27,hs27 _ rfl,⟨F.sl rfl,(H.pm 6 [2,3,4,5] rfl:)⟩⟩
 cases hm
 refine x_end0 F rfl ?_
 exact ⟨_,rfl,rfl,H⟩
theorem fld101_0:FieldT Tryz.prog 101 0 0:=by unfold FieldT;rw [Tryz.underlying101];kernel_rfl
theorem ent87:En Tryz.prog 87:=enters Tryz.func87 (by kernel_rfl) rfl
theorem w_mkTree {m_:(List UInt8)→Option (List UInt8)} {pairs:List T_api_Pair} {m1:Nat} {p2:Option Addr} {c2:Nat} {w0 w:World} {l:List HP}  {r:(List UInt8)×((List UInt8)→Option (List UInt8))} (hm:mkTree m_ pairs=some r) (H:St w0 w (HP.row 0 (0) (icells .u32 shaStart)::HP.row 1 (0) (icells .u32 shaRounds)::HP.mm (some m1) hv false (rSlN w0.heap.size rByte) (fun l=>l.length=32) m_::HP.sl R_api_Pair p2 c2 pairs::l)) :
  Calls Tryz.prog 65 [.agg ([.map (some m1)]).toArray,.slice p2 (pairs).length c2].toArray w (fun e w'=>∃ v,e=.returned v∧v=.agg (bcells r.1).toArray∧((r.1).length=32)∧St w0 w' (HP.mm (some m1) hv false (rSlN w0.heap.size rByte) (fun l=>l.length=32) r.2::l)):=by
 unfold mkTree at hm
 refine x_enter Tryz.func65 rfl rfl rfl ?_
 intro a F
 refine sr (s_boxA wkP F rfl rfl rfl rfl rfl H fun b4 w a H F=>s_allocA wkP F rfl rfl rfl agz24 rfl H fun b5 w a H F=>?_)
 replace H:=H.nf 6 rfl
 refine nb [0] F H rfl fun a F=>?_
 obtain ⟨x6,ex6,hm⟩:=ob hm
 refine sd F rfl ent86 (w_trBuild ex6 (H.pm 6 [2,3,5,0,1,2,3,4,5] rfl:):) ?_;rintro _ w a ⟨q8,rfl,hl7,H⟩ F
 refine bb [0,0,0,0] F H rfl fun a F=>s_allocA wkP F rfl rfl rfl agz24 rfl H fun b9 w a H F=>s_storeA wkP F rfl rfl agg24 rfl rfl rfl H 0 rfl ((bcells_length _).trans hl7) ((bcells_length _).trans (List.length_replicate (n:=32))) (bcells_flat _) fun w H=>bb [0,0] F H rfl fun a F=>?_
 replace H:=H.nf 8 rfl
 refine nl (sr (bk [0,3000,0] F H rfl ⟨fld101_0,rfl,plain46,trivial⟩ fun a F=>?_))
 obtain ⟨x10,ex10,hm⟩:=ob hm
 refine sd F rfl ent87 (w_mapCopy ex10 (H.pm 8 [6,1,0,2,3,4,5,7] rfl:):) ?_;rintro _ w a ⟨rfl,H⟩ F
 replace H:=H.nf 8 rfl
 refine nl (sr (bk [2999] F H rfl ⟨rfl,(aggn agg24 ((bcells_length _).trans hl7)),trivial⟩ fun a F=>s_storeA wkP F rfl rfl agg24 rfl rfl rfl H 3 rfl ((bcells_length _).trans hl7) ((bcells_length _).trans (List.length_replicate (n:=32))) (bcells_flat _) fun w H=>?_))
 replace H:=H.nf 8 rfl
 refine nl (wr ?_)
 cases hm
 refine x_resC1 F rfl (⟨_,rfl,agg24.run_load (H.blk 3 rfl).row ((bcells_length _).trans hl7)⟩) ?_
 exact ⟨_,rfl,rfl,hl7,(H.pm 8 [0] rfl:)⟩
theorem agg101:AggT Tryz.prog 101 1 [.map none]:=⟨by rw [Tryz.underlying101];rfl,by kernel_rfl,by kernel_rfl⟩
theorem ent65:En Tryz.prog 65:=enters Tryz.func65 (by kernel_rfl) rfl
theorem w_mkWhole {m_:(List UInt8)→Option (List UInt8)} {r_:T_api_Record} {w_:T_api_Whole} {m1:Nat} {cs2:List Value} {cs3:List Value} {w0 w:World} {l:List HP}  {r:(List UInt8)×((List UInt8)→Option (List UInt8))} (hm:mkWhole m_ r_ w_=some r) (H:St w0 w (HP.row 0 (0) (icells .u32 shaStart)::HP.row 1 (0) (icells .u32 shaRounds)::HP.mm (some m1) hv false (rSlN w0.heap.size rByte) (fun l=>l.length=32) m_::HP.rc R_api_Record cs2 r_::HP.rc R_api_Whole cs3 w_::l)) :
  Calls Tryz.prog 36 [.agg ([.map (some m1)]).toArray,.agg cs2.toArray,.agg cs3.toArray].toArray w (fun e w'=>∃ v,e=.returned v∧v=.agg (bcells r.1).toArray∧((r.1).length=32)∧St w0 w' (HP.mm (some m1) hv false (rSlN w0.heap.size rByte) (fun l=>l.length=32) r.2::l)):=by
 unfold mkWhole at hm
 refine x_enter Tryz.func36 rfl rfl rfl ?_
 intro a F
 refine sr (s_boxA wkP F rfl rfl rfl rfl rfl H fun b5 w a H F=>s_boxA wkP F rfl rfl rfl rfl rfl H fun b6 w a H F=>s_boxA wkP F rfl rfl rfl rfl rfl H fun b7 w a H F=>s_allocA wkP F rfl rfl rfl agz24 rfl H fun b8 w a H F=>?_)
 replace H:=H.nf 9 rfl
 refine nb [0,0] F H rfl fun a F=>nl (sq (sr (bk [0,1] F H rfl ⟨fld67_0,fld64_1,trivial⟩ fun a F=>?_)))
 have G:=F;replace H:=rc_api_Whole (H.pk 8 rfl);obtain ⟨u9,p10,c11,rfl,J⟩:=H;have H:=J;have F:=G;clear G J
 have G:=F;replace H:=rc_api_State (H.pk 0 rfl);obtain ⟨p12,c13,p14,c15,rfl,J⟩:=H;have H:=J;have F:=G;clear G J
 refine bk [4001,0,0] F H rfl ⟨rfl,plain62,⟨_,Tryz.underlying62⟩,trivial⟩ fun a F=>?_
 refine nl (xm0 11 [3,4,5,6,7,8] [0,1,2,3,4,5,6,7,8,9,10] F H hm rfl rfl (fun r32 z=>z) (fun r32 z=>z) (fun r32 hm=>?_) (fun r32 a w hm F H=>?_))
 refine bl (xl0 11 [3,4,5,6,7,8,23,24,25] [0,1,2,3,4,5,6,7,8,9,10] F H hm rfl rfl (fun (s43:Unit) z=>z) (fun s43 z=>z) ⟨F.sl rfl,H⟩ (fun s43 a w o F H hm=>sb [0] F H rfl fun a F=>?_))
 refine nl (sq (cPm F rfl hm (fun hg44 hm=>?_) (fun hg44 hm=>?_)))
 refine sk (ct (sq (bl (sr ?_))))
 obtain ⟨x45,ex45,hm⟩:=ob hm
 obtain ⟨b46,o46,hp46,cs47,H⟩:=H.slE 1 rfl ex45
 refine sv F rfl (y_idxS F elem62 rfl rfl rfl hp46 ex45) fun a F=>bk [999] F H rfl ⟨rfl,(aggn agg131 (H.rcLen 1 rfl)),trivial⟩ fun a F=>?_
 replace H:=H.owNil R_api_Pair 129
 refine s_allocA wkP F rfl rfl rfl agz131 rfl H fun b48 w a H F=>s_storeA wkP F rfl rfl agg131 rfl rfl rfl H 0 rfl (H.rcLen 3 rfl) rfl (H.rcFlat 3 rfl) fun w H=>?_
 replace H:=H.nf 15 rfl
 refine nl ?_
 cases hm
 refine ex (cx (cx ?_));cases hm;refine ⟨_,rfl,?_⟩;rintro rfl
 refine ch (ct ?_)
 exact ⟨F.sl rfl,H⟩
 refine ct (sq (sr (bk [2,4002,0,0] F H rfl ⟨fld67_1,rfl,plain65,⟨_,Tryz.underlying65⟩,trivial⟩ fun a F=>?_)))
 refine nl (xm2 11 [3,4,5,6,7] [0,1,2,3,4,5,6,7,8,9,10] F H hm rfl rfl (fun r176 (p177:Option Addr) (c177:Nat) z=>(8,.slice p177 (r176).length c177)::z) (fun r176 p177 c177 z=>HP.ow R_api_Pair 129 p177 c177 r176::z) (fun r176 hm=>?_) (fun r176 a w hm p177 c177 F H=>?_))
 refine bl ?_
 replace H:=H.owNil R_api_Pair 129
 refine xl2 12 [3,4,5,6,7,53,54] [1,2,3,4,5,6,7,8,9,10,11] F H hm rfl rfl (fun (s262:(List T_api_Pair)×Int) (p263:Option Addr) (c263:Nat) z=>(8,.slice p263 (s262.1).length c263)::(55,.int .i64 (s262.2))::z) (fun s262 p263 c263 z=>HP.ow R_api_Pair 129 p263 c263 s262.1::z) ⟨none,0,F.sl rfl,H⟩ (fun s262 a w o p263 c263 F H hm=>?_)
 refine sb [0] F H rfl fun a F=>?_
 refine nl (sq (cPm F rfl hm (fun hg264 hm=>?_) (fun hg264 hm=>?_)))
 refine sk (ct (sq (bl (sr ?_))))
 obtain ⟨x265,ex265,hm⟩:=ob hm
 obtain ⟨b266,o266,hp266,cs267,H⟩:=H.slE 3 rfl ex265
 refine sv F rfl (y_idxS F elem65 rfl rfl rfl hp266 ex265) fun a F=>bk [999] F H rfl ⟨rfl,(aggn agg110 (H.rcLen 1 rfl)),trivial⟩ fun a F=>?_
 replace H:=H.owNil rByte 5
 replace H:=H.owNil rStr 9
 refine s_allocA wkP F rfl rfl rfl agz110 rfl H fun b268 w a H F=>s_storeA wkP F rfl rfl agg110 rfl rfl rfl H 0 rfl (H.rcLen 4 rfl) rfl (H.rcFlat 4 rfl) fun w H=>?_
 replace H:=H.nf 17 rfl
 refine nl (sr ?_)
 replace H:=H.owNil rByte 5
 refine sv F rfl (y_build F rfl rfl (cs:=[.slice none (([]:List UInt8)).length 0]) (by kernel_rfl)) fun a F=>s_boxA wkP F rfl rfl rfl rfl rfl H fun b269 w a H F=>bb [0] F H rfl fun a F=>?_
 replace H:=H.nf 19 rfl
 refine nl (sr (bk [2] F H rfl ⟨fld110_2,trivial⟩ fun a F=>?_))
 have G:=F;replace H:=rc_api_Seat (H.pk 6 rfl);obtain ⟨v270,rfl,J⟩:=H;have H:=J;have F:=G;clear G J
 refine sv F rfl (y_loadA F agg58 rfl rfl (row_midE (A:=[.int .i64 (x265.1),.int .u64 (x265.2.1)]) (X:=v270) (w:=_) ((H.blk 3 rfl).row) (by simp only [List.length_append,List.length_cons,List.length_nil,icells_length,bcells_length])) (H.rcLen 0 rfl)) fun a F=>?_
 obtain ⟨x271,ex271,hm⟩:=ob hm
 refine sd F rfl ent66 (w_oWriteA ex271 (H.pm 19 [0,0,1,2,3,4,5,6,7,8,9,10,11,12,13,14,15,16,17,18] rfl:):) ?_;rintro _ w a ⟨p272,c272,rfl,H⟩ F
 refine bb (List.replicate 5 0) F H rfl fun a F=>?_
 replace H:=H.nf 20 rfl
 refine nl (sr (bk [0,1,4001] F H rfl ⟨fld110_1,rfl,plain22,trivial⟩ fun a F=>?_))
 replace H:=O_pack_Pen_s (x0:=([]:List UInt8)) (H.pm 20 [2,3,0,1,4,5,6,7,8,9,10,11,12,13,14,15,16,17,18,19] rfl:)
 obtain ⟨x273,ex273,hm⟩:=ob hm
 refine sd F rfl ent19 (w_penUint ex273 H:) ?_;rintro _ w a ⟨rfl,H⟩ F
 replace H:=H.nf 19 rfl
 refine nb [0,0] F H rfl fun a F=>?_
 obtain ⟨x274,ex274,hm⟩:=ob hm
 refine sd F rfl ent18 (w_penRaw ex274 (H.pm 19 [0,1,1,2,3,4,5,6,7,8,9,10,11,12,13,14,15,16,17,18] rfl:):) ?_;rintro _ w a ⟨rfl,H⟩ F
 replace H:=H.nf 19 rfl
 refine nl (xm2 19 [3,4,5,6,7,53,54,55] [2,3,4,5,6,8,9,10,11,12,13,14,15,16,17,18] F H hm rfl rfl (fun r289 (p290:Option Addr) (c290:Nat) z=>(8,.slice p290 (r289.2).length c290)::z) (fun r289 p290 c290 z=>O_pack_Pen_1 b269 r289.1::HP.ow R_api_Pair 129 p290 c290 r289.2::z) (fun r289 hm=>?_) (fun r289 a w hm p290 c290 F H=>?_))
 refine mix_region [4,6,8,9] [] (.step 0 0 (.step 0 1 (.step 0 2 (.step 0 3 (.step 0 5 (.fork 4 (.step 2 6 (.step 0 7 (.step 2 8 (.step 2 9 (.step 0 10 .done))))) 6 (.step 2 4 (.step 0 7 (.step 2 8 (.step 2 9 (.step 0 10 .done))))))))))) (fun u=>∃ ls,St w0 u (HP.blk b268 ([Value.int .i64 (x265.1),Value.int .u64 (x265.2.1)]++(v270)) 110::ls)) (by kernel_rfl) (by kernel_rfl) ⟨_,(H.drew.pm 19 [3,0,1,2,4,5,6,7,8,9,10,11,12,13,14,15,16,17,18] rfl:)⟩ ?_
 replace H:=H.drew
 generalize w.drew=w at H ⊢
 refine mbk [0,0] F H rfl ⟨fld110_0,trivial⟩ fun a F=>?_
 refine m_pure F rfl rfl rfl rfl (fun u hu=>y_load1 F plain3 rfl rfl ((row_mid (A:=([]:List Value)) (X:=[.int .i64 (x265.1)]) (C:=[Value.int .u64 (x265.2.1)]++(v270)) ((hu.choose_spec.blk 0 rfl).row) rfl) 0 _ rfl)) fun a F=>?_
 refine mbk [1,0] F H rfl ⟨Tryz.underlying3,Tryz.underlying5,trivial⟩ fun a F=>?_
 refine m_fork rfl rfl rfl rfl ?_ ?_
 refine m_heavy rfl rfl ?_
 obtain ⟨x292,ex292,hm⟩:=ob hm
 refine s_buildC wkP F rfl rfl rfl elem25 zero5 rfl rfl rfl rfl (by simp [Value.cells]) (by decide) H fun b291 w a H F=>?_
 replace H:=H.blkOw1 (R:=rByte) (x:=x292) (fun gg=>(congrArg (fun z=>[Value.int .u8 z]) (u8O_some ex292).symm))
 refine lz ?_;refine ct ⟨⟨_,(H.pm 20 [4,0,1,2,3,5,6,7,8,9,10,11,12,13,14,15,16,17,18,19] rfl:)⟩,?_⟩
 refine m_heavy rfl rfl ?_
 obtain ⟨x293,ex293,hm⟩:=ob hm
 refine sd F rfl ent21 (w_penData ex293 (H.pm 20 [1,0,2,3,4,5,6,7,8,9,10,11,12,13,14,15,16,17,18,19] rfl:):) ?_;rintro _ w a ⟨p294,c294,rfl,H⟩ F
 refine lz ?_;refine ct ⟨⟨_,(H.pm 21 [5,0,1,2,3,4,6,7,8,9,10,11,12,13,14,15,16,17,18,19,20] rfl:)⟩,?_⟩
 refine m_pure F rfl rfl rfl rfl (fun u hu=>y_build F rfl rfl (cs:=[.slice (some ⟨b291,0,none⟩) ([x292]).length (([x292]).length),.slice p294 (x293.1).length c294]) (by kernel_rfl)) fun a F=>?_
 refine m_heavy rfl rfl ?_
 replace H:=H.frzNB 2 rfl
 replace H:=H.nslSl 0 rfl
 replace H:=H.frzNB 2 rfl
 replace H:=H.nslSl 0 rfl
 refine s_build1 wkP F rfl rfl rfl agg129 elem61 rfl rfl rfl (by decide) H fun b295 w a H F=>?_
 replace H:=H.blkOw1 (R:=R_api_Pair) (x:=([x292],x293.1)) (fun gg=>⟨_,_,rfl,⟨_,_,rfl,(gg 3 _ rfl).choose_spec⟩,⟨_,_,rfl,(gg 1 _ rfl).choose_spec⟩⟩)
 refine lz ?_;refine ct ⟨⟨_,(H.pm 24 [8,0,1,2,3,4,5,6,7,9,10,11,12,13,14,15,16,17,18,19,20,21,22,23] rfl:)⟩,?_⟩
 refine m_heavy rfl rfl ?_
 replace H:=H.frz 0 rfl
 obtain ⟨x297,ex297,hm⟩:=ob hm
 refine s_app wkP F rfl rfl rfl rfl rfl rfl elem61 rfl ex297 H 12 0 rfl rfl fun p296 c296 w a H F=>?_
 refine lz ?_;refine ct ⟨⟨_,(H.pm 24 [8,0,1,2,3,4,5,6,7,9,10,11,12,13,14,15,16,17,18,19,20,21,22,23] rfl:)⟩,?_⟩
 refine mb [0] F H rfl fun a F=>m_nil ?_
 cases hm
 refine ct ?_
 exact ⟨p296,c296,F.sl rfl,(H.pm 24 [5,12,7,8,9,10,11,13,14,15,16,17,18,19,20,21,22,23] rfl:)⟩
 refine m_heavy rfl rfl ?_
 obtain ⟨x298,ex298,hm⟩:=ob hm
 obtain ⟨x299,ex299,hm⟩:=ob hm
 refine sd F rfl ent21 (w_penData ex299 H:) ?_;rintro _ w a ⟨p300,c300,rfl,H⟩ F
 refine lz ?_;refine ct ⟨⟨_,(H.pm 20 [4,0,1,2,3,5,6,7,8,9,10,11,12,13,14,15,16,17,18,19] rfl:)⟩,?_⟩
 refine m_heavy rfl rfl (s_buildC wkP F rfl rfl rfl elem25 zero5 rfl rfl rfl rfl (by simp [Value.cells]) (by decide) H fun b301 w a H F=>?_)
 replace H:=H.blkOw1 (R:=rByte) (x:=x298) (fun gg=>(congrArg (fun z=>[Value.int .u8 z]) (u8O_some ex298).symm))
 refine lz ?_;refine ct ⟨⟨_,(H.pm 21 [5,0,1,2,3,4,6,7,8,9,10,11,12,13,14,15,16,17,18,19,20] rfl:)⟩,?_⟩
 refine m_pure F rfl rfl rfl rfl (fun u hu=>y_build F rfl rfl (cs:=[.slice (some ⟨b301,0,none⟩) ([x298]).length (([x298]).length),.slice p300 (x299.1).length c300]) (by kernel_rfl)) fun a F=>?_
 refine m_heavy rfl rfl ?_
 replace H:=H.frzNB 0 rfl
 replace H:=H.nslSl 0 rfl
 replace H:=H.frzNB 2 rfl
 replace H:=H.nslSl 0 rfl
 refine s_build1 wkP F rfl rfl rfl agg129 elem61 rfl rfl rfl (by decide) H fun b302 w a H F=>?_
 replace H:=H.blkOw1 (R:=R_api_Pair) (x:=([x298],x299.1)) (fun gg=>⟨_,_,rfl,⟨_,_,rfl,(gg 3 _ rfl).choose_spec⟩,⟨_,_,rfl,(gg 1 _ rfl).choose_spec⟩⟩)
 refine lz ?_;refine ct ⟨⟨_,(H.pm 24 [8,0,1,2,3,4,5,6,7,9,10,11,12,13,14,15,16,17,18,19,20,21,22,23] rfl:)⟩,?_⟩
 refine m_heavy rfl rfl ?_
 replace H:=H.frz 0 rfl
 obtain ⟨x304,ex304,hm⟩:=ob hm
 refine s_app wkP F rfl rfl rfl rfl rfl rfl elem61 rfl ex304 H 12 0 rfl rfl fun p303 c303 w a H F=>?_
 refine lz ?_;refine ct ⟨⟨_,(H.pm 24 [8,0,1,2,3,4,5,6,7,9,10,11,12,13,14,15,16,17,18,19,20,21,22,23] rfl:)⟩,?_⟩
 refine mb [0] F H rfl fun a F=>m_nil ?_
 cases hm
 refine ct ?_
 exact ⟨p303,c303,F.sl rfl,(H.pm 24 [5,12,7,8,9,10,11,13,14,15,16,17,18,19,20,21,22,23] rfl:)⟩
 refine bn (ct (rl (bb [0,0] F H rfl fun a F=>?_)))
 refine lz (ct ?_);cases hm
 exact ⟨_,rfl,⟨p290,c290,F.sl rfl,(H.pm 18 [1,7,8,9,10,11,12,13,14,15,16,17] rfl:)⟩⟩
 refine ex (cx (cx ?_));cases hm;refine ⟨_,rfl,?_⟩;rintro rfl
 refine ch (ct ?_)
 exact ⟨p263,c263,F.sl rfl,H⟩
 refine ct (sq (mix_regionK [4,7,10,12,14,16] [16] (scL [1000,1,2,1003,5,6,8,9,2004,11,2007,2010,2012,13,2014,15,3016]) [7] H rfl rfl (by kernel_rfl) (by kernel_rfl) fun w H=>mbk [7999,0,0,5000] F H rfl ⟨rfl,(aggn agg101 rfl),fld67_0,fld64_0,rfl,plain61,trivial⟩ fun a F=>?_))
 refine m_pure F rfl rfl rfl rfl (fun u hu=>y_loadA F agg101 rfl rfl ((hu.choose_spec.blk 0 rfl).row) rfl) fun a F=>?_
 refine mb [0] F H rfl fun a F=>?_
 refine m_pure F rfl rfl rfl rfl (fun u hu=>y_loadA F agg101 rfl rfl ((hu.choose_spec.blk 0 rfl).row) rfl) fun a F=>?_
 refine mb [0] F H rfl fun a F=>m_heavy rfl rfl ?_
 obtain ⟨x305,ex305,hm⟩:=ob hm
 refine sd F rfl ent65 (w_mkTree ex305 (H.pm 12 [8,9,10,1,0,1,2,3,4,5,6,7,8,9,11] rfl:):) ?_;rintro _ w a ⟨rfl,hl306,H⟩ F
 refine lz ?_;refine ct ⟨⟨_,(H.pm 12 [8,0,1,2,3,4,5,6,7,9,10,11] rfl:)⟩,?_⟩
 refine mbk [34] F H rfl ⟨fld31_3,trivial⟩ fun a F=>m_heavy rfl rfl ?_
 replace H:=H.owNil R_api_Pair 129
 replace H:=H.frz 0 rfl
 obtain ⟨x307,ex307,hm⟩:=ob hm
 refine sd F rfl ent65 (w_mkTree ex307 (H.pm 13 [10,11,1,0,0,2,3,4,5,6,7,8,9,10,11,12] rfl:):) ?_;rintro _ w a ⟨rfl,hl308,H⟩ F
 refine lz ?_;refine ct ⟨⟨_,(H.pm 13 [9,0,1,2,3,4,5,6,7,8,10,11,12] rfl:)⟩,?_⟩
 refine m_heavy rfl rfl ?_
 replace H:=H.frz 2 rfl
 obtain ⟨x309,ex309,hm⟩:=ob hm
 refine sd F rfl ent65 (w_mkTree ex309 (H.pm 13 [10,11,1,0,0,2,3,4,5,6,7,8,9,10,11,12] rfl:):) ?_;rintro _ w a ⟨rfl,hl310,H⟩ F
 refine lz ?_;refine ct ⟨⟨_,(H.pm 13 [9,0,1,2,3,4,5,6,7,8,10,11,12] rfl:)⟩,?_⟩
 refine m_heavy rfl rfl ?_
 have G:=F;replace H:=rc_api_Record (H.pk 12 rfl);obtain ⟨v311,hl312,hl313,hl314,hl315,rfl,J⟩:=H;have H:=J;have F:=G;clear G J
 refine s_storeF wkP F rfl rfl agg24 rfl rfl rfl H 9 rfl (A:=[Value.int .u64 (r_.1),Value.int .u64 (r_.2.1)]++(bcells r_.2.2.1)) (X:=bcells r_.2.2.2.1) (C:=bcells r_.2.2.2.2.1++(bcells r_.2.2.2.2.2.1++(v311))) (by simp only [List.append_assoc,List.cons_append,List.nil_append]) (by simp only [List.length_append,List.length_cons,List.length_nil,icells_length,bcells_length,hl312]) ((bcells_length _).trans hl313) ((bcells_length _).trans hl306) (bcells_flat _) fun w H=>?_
 replace H:St w0 w (HP.rc R_api_Call v311 r_.2.2.2.2.2.2::HP.mm (some m1) hv false (rSlN w0.heap.size rByte) (fun l=>l.length=32) x309.2::HP.sl R_api_Pair p177 c177 r176::HP.sl R_api_Pair none 0 ([]:List T_api_Pair)::HP.sl R_api_Pair p12 c13 w_.1.1::HP.sl R_api_Snap p14 c15 w_.1.2::HP.sl R_api_Seat p10 c11 w_.2::HP.blk b8 (bcells (List.replicate 32 0)) 24::HP.blk b7 ([.slice p12 (w_.1.1).length c13,.slice p14 (w_.1.2).length c15,.slice p10 (w_.2).length c11]) 67::HP.blk b6 ([Value.int .u64 (r_.1),Value.int .u64 (r_.2.1)]++(bcells r_.2.2.1++(bcells x305.1++(bcells r_.2.2.2.2.1++(bcells r_.2.2.2.2.2.1++(v311)))))) 31::HP.blk b5 ([.map (some m1)]) 101::HP.row 0 (0) (icells .u32 shaStart)::HP.row 1 (0) (icells .u32 shaRounds)::l):=H.blkEq 9 rfl ([Value.int .u64 (r_.1),Value.int .u64 (r_.2.1)]++(bcells r_.2.2.1++(bcells x305.1++(bcells r_.2.2.2.2.1++(bcells r_.2.2.2.2.2.1++(v311)))))) (by simp only [List.append_assoc,List.cons_append,List.nil_append])
 refine lz ?_;refine ct ⟨⟨_,(H.pm 13 [10,0,1,2,3,4,5,6,7,8,9,11,12] rfl:)⟩,?_⟩
 refine mbk [66] F H rfl ⟨fld31_4,trivial⟩ fun a F=>m_heavy rfl rfl ?_
 refine s_storeF wkP F rfl rfl agg24 rfl rfl rfl H 9 rfl (A:=[Value.int .u64 (r_.1),Value.int .u64 (r_.2.1)]++(bcells r_.2.2.1++(bcells x305.1))) (X:=bcells r_.2.2.2.2.1) (C:=bcells r_.2.2.2.2.2.1++(v311)) (by simp only [List.append_assoc,List.cons_append,List.nil_append]) (by simp only [List.length_append,List.length_cons,List.length_nil,icells_length,bcells_length,hl312,hl306]) ((bcells_length _).trans hl314) ((bcells_length _).trans hl308) (bcells_flat _) fun w H=>?_
 replace H:St w0 w (HP.rc R_api_Call v311 r_.2.2.2.2.2.2::HP.mm (some m1) hv false (rSlN w0.heap.size rByte) (fun l=>l.length=32) x309.2::HP.sl R_api_Pair p177 c177 r176::HP.sl R_api_Pair none 0 ([]:List T_api_Pair)::HP.sl R_api_Pair p12 c13 w_.1.1::HP.sl R_api_Snap p14 c15 w_.1.2::HP.sl R_api_Seat p10 c11 w_.2::HP.blk b8 (bcells (List.replicate 32 0)) 24::HP.blk b7 ([.slice p12 (w_.1.1).length c13,.slice p14 (w_.1.2).length c15,.slice p10 (w_.2).length c11]) 67::HP.blk b6 ([Value.int .u64 (r_.1),Value.int .u64 (r_.2.1)]++(bcells r_.2.2.1++(bcells x305.1++(bcells x307.1++(bcells r_.2.2.2.2.2.1++(v311)))))) 31::HP.blk b5 ([.map (some m1)]) 101::HP.row 0 (0) (icells .u32 shaStart)::HP.row 1 (0) (icells .u32 shaRounds)::l):=H.blkEq 9 rfl ([Value.int .u64 (r_.1),Value.int .u64 (r_.2.1)]++(bcells r_.2.2.1++(bcells x305.1++(bcells x307.1++(bcells r_.2.2.2.2.2.1++(v311)))))) (by simp only [List.append_assoc,List.cons_append,List.nil_append])
 refine lz ?_;refine ct ⟨⟨_,(H.pm 13 [10,0,1,2,3,4,5,6,7,8,9,11,12] rfl:)⟩,?_⟩
 refine mbk [98] F H rfl ⟨fld31_5,trivial⟩ fun a F=>m_last rfl rfl ?_
 refine s_storeF wkP F rfl rfl agg24 rfl rfl rfl H 9 rfl (A:=[Value.int .u64 (r_.1),Value.int .u64 (r_.2.1)]++(bcells r_.2.2.1++(bcells x305.1++(bcells x307.1)))) (X:=bcells r_.2.2.2.2.2.1) (C:=v311) (by simp only [List.append_assoc,List.cons_append,List.nil_append]) (by simp only [List.length_append,List.length_cons,List.length_nil,icells_length,bcells_length,hl312,hl306,hl308]) ((bcells_length _).trans hl315) ((bcells_length _).trans hl310) (bcells_flat _) fun w H=>?_
 replace H:St w0 w (HP.rc R_api_Call v311 r_.2.2.2.2.2.2::HP.mm (some m1) hv false (rSlN w0.heap.size rByte) (fun l=>l.length=32) x309.2::HP.sl R_api_Pair p177 c177 r176::HP.sl R_api_Pair none 0 ([]:List T_api_Pair)::HP.sl R_api_Pair p12 c13 w_.1.1::HP.sl R_api_Snap p14 c15 w_.1.2::HP.sl R_api_Seat p10 c11 w_.2::HP.blk b8 (bcells (List.replicate 32 0)) 24::HP.blk b7 ([.slice p12 (w_.1.1).length c13,.slice p14 (w_.1.2).length c15,.slice p10 (w_.2).length c11]) 67::HP.blk b6 ([Value.int .u64 (r_.1),Value.int .u64 (r_.2.1)]++(bcells r_.2.2.1++(bcells x305.1++(bcells x307.1++(bcells x309.1++(v311)))))) 31::HP.blk b5 ([.map (some m1)]) 101::HP.row 0 (0) (icells .u32 shaStart)::HP.row 1 (0) (icells .u32 shaRounds)::l):=H.blkEq 9 rfl ([Value.int .u64 (r_.1),Value.int .u64 (r_.2.1)]++(bcells r_.2.2.1++(bcells x305.1++(bcells x307.1++(bcells x309.1++(v311)))))) (by simp only [List.append_assoc,List.cons_append,List.nil_append])
 refine lz ?_;refine ct ?_
 refine m_nil ?_
 refine ct (sr (bk [9999] F H rfl ⟨rfl,(aggn agg31 (by simp only [List.length_append,List.length_cons,List.length_nil,icells_length,bcells_length,hl312,hl306,hl308,hl310,H.rcLen 0 rfl]<;>rfl)),trivial⟩ fun a F=>?_))
 replace H:=H.mkRc (R:=R_api_Record) (cs:=[Value.int .u64 (r_.1),Value.int .u64 (r_.2.1)]++(bcells r_.2.2.1++(bcells x305.1++(bcells x307.1++(bcells x309.1++(v311)))))) (x:=(r_.1,r_.2.1,r_.2.2.1,x305.1,x307.1,x309.1,r_.2.2.2.2.2.2)) (fun gg=>⟨[Value.int .u64 (r_.1)],_,rfl,rfl,⟨[Value.int .u64 (r_.2.1)],_,rfl,rfl,⟨bcells r_.2.2.1,_,rfl,⟨rfl,hl312⟩,⟨bcells x305.1,_,rfl,⟨rfl,hl306⟩,⟨bcells x307.1,_,rfl,⟨rfl,hl308⟩,⟨bcells x309.1,_,rfl,⟨rfl,hl310⟩,(gg 0 _ rfl).choose_spec⟩⟩⟩⟩⟩⟩)
 obtain ⟨x316,ex316,hm⟩:=ob hm
 refine sd F rfl ent7 (w_cWrite ex316 (H.pm 14 [0,0,1,2,3,4,5,6,7,8,9,10,11,12,13] rfl:):) ?_;rintro _ w a ⟨p317,c317,rfl,H⟩ F
 refine bb (List.replicate 5 0) F H rfl fun a F=>?_
 replace H:=H.nf 15 rfl
 refine nb [0] F H rfl fun a F=>?_
 replace H:=H.frzNB 0 rfl
 replace H:=H.nslSl 0 rfl
 obtain ⟨x318,ex318,hm⟩:=ob hm
 refine sd F rfl ent67 (w_shaSum ex318 (H.pm 16 [14,15,0,0,1,2,3,4,5,6,7,8,9,10,11,12,13,14,15] rfl:):) ?_;rintro _ w a ⟨rfl,hl319,H⟩ F
 refine s_allocA wkP F rfl rfl rfl agz24 rfl H fun b320 w a H F=>s_storeA wkP F rfl rfl agg24 rfl rfl rfl H 0 rfl ((bcells_length _).trans hl319) ((bcells_length _).trans (List.length_replicate (n:=32))) (bcells_flat _) fun w H=>?_
 replace H:=H.nf 17 rfl
 refine nl (sr (bk [0,14000,999,0] F H rfl ⟨fld101_0,rfl,plain46,rfl,(aggn agg24 ((bcells_length _).trans hl319)),trivial⟩ fun a F=>?_))
 refine s_mmSet wkP F rfl rfl Tryz.underlying46 (keyH key24) rfl H 5 rfl rfl (k:=x318) rfl (cs:=[.slice p317 (x316.1).length c317]) rfl hl319 (v:=x316.1) (fun gg=>⟨_,_,rfl,(gg 2 _ rfl).choose_spec⟩) fun w H=>?_
 replace H:=H.nf 17 rfl
 refine nl (sr (bk [999] F H rfl ⟨rfl,(aggn agg24 ((bcells_length _).trans hl319)),trivial⟩ fun a F=>s_storeA wkP F rfl rfl agg24 rfl rfl rfl H 11 rfl ((bcells_length _).trans hl319) ((bcells_length _).trans (List.length_replicate (n:=32))) (bcells_flat _) fun w H=>?_))
 replace H:=H.nf 17 rfl
 refine nl (wr ?_)
 cases hm
 refine x_resC1 F rfl (⟨_,rfl,agg24.run_load (H.blk 11 rfl).row ((bcells_length _).trans hl319)⟩) ?_
 exact ⟨_,rfl,rfl,hl319,(H.pm 17 [5] rfl:)⟩
theorem agz101:AggT Tryz.prog 101 1 ([.map none]):=⟨by rw [Tryz.underlying101];rfl,by kernel_rfl,by kernel_rfl⟩
theorem ent37:En Tryz.prog 37:=enters Tryz.func37 (by kernel_rfl) rfl
theorem ent36:En Tryz.prog 36:=enters Tryz.func36 (by kernel_rfl) rfl
theorem w_cBegin   {w0 w:World} {l:List HP}  {r:(List UInt8)×((List UInt8)→Option (List UInt8))} (hm:cBegin =some r) (H:St w0 w (HP.row 0 (0) (icells .u32 shaStart)::HP.row 1 (0) (icells .u32 shaRounds)::l)) :
  Calls Tryz.prog 12 [].toArray w (fun e w'=>∃ v,e=.returned v∧∃ (m2:Nat),v=.tuple [.agg (bcells r.1).toArray,.map (some m2)].toArray∧((r.1).length=32)∧St w0 w' (HP.mm (some m2) hv false (rSlN w0.heap.size rByte) (fun l=>l.length=32) r.2::l)):=by
 unfold cBegin at hm
 refine x_enter Tryz.func12 rfl rfl rfl ?_
 intro a F
 refine sr (s_allocA wkP F rfl rfl rfl agz24 rfl H fun b3 w a H F=>bb [0] F H rfl fun a F=>?_)
 replace H:=H.nf 3 rfl
 refine nl (sr (s_mmNew hv false (rSlN w0.heap.size rByte) (fun l=>l.length=32) wkP F rfl rfl rfl rfl H fun m4 w a H F=>sv F rfl (y_build F rfl rfl (cs:=[.map (some m4)]) (by kernel_rfl)) fun a F=>s_allocA wkP F rfl rfl rfl agz101 rfl H fun b5 w a H F=>s_storeA wkP F rfl rfl agg101 rfl rfl rfl H 0 rfl rfl rfl (fl rfl) fun w H=>?_))
 replace H:=H.nf 5 rfl
 refine nl (sq ?_)
 replace H:=H.owNil rByte 5
 refine mix_regionK [2,3,6] [] (scL [0,1,4,5,2002,2003,2006,7]) [1] H rfl rfl (by kernel_rfl) (by kernel_rfl) fun w H=>?_
 refine m_pure F rfl rfl rfl rfl (fun u hu=>y_loadA F agg101 rfl rfl ((hu.choose_spec.blk 0 rfl).row) rfl) fun a F=>?_
 refine m_pure F rfl rfl rfl rfl (fun u hu=>y_build F rfl rfl (cs:=[Value.int .u64 (0),Value.int .u64 (0)]++(bcells (List.replicate 32 0)++(bcells (List.replicate 32 0)++(bcells (List.replicate 32 0)++(bcells (List.replicate 32 0)++([Value.int .i64 (0),Value.int .u64 (0),Value.int .i64 (0),Value.string (txb ([])),Value.string (txb ([])),Value.int .i64 (0),Value.int .i64 (0),Value.slice none (([]:List UInt8)).length 0])))))) (by kernel_rfl)) fun a F=>?_
 refine mbk [0] F H rfl ⟨fld101_0,trivial⟩ fun a F=>?_
 refine m_pure F rfl rfl rfl rfl (fun u hu=>y_load1 F plain46 rfl rfl (row_at (v:=.map (some m4)) ((hu.choose_spec.blk 0 rfl).row) rfl)) fun a F=>?_
 refine m_heavy rfl rfl ?_
 obtain ⟨x6,ex6,hm⟩:=ob hm
 refine sd F rfl ent37 (w_tNew ex6 H:) ?_;rintro _ w a ⟨cs7,rfl,H⟩ F
 refine lz ?_;refine ct ⟨⟨_,(H.pm 7 [2,0,1,3,4,5,6] rfl:)⟩,?_⟩
 refine m_heavy rfl rfl ?_
 replace H:=H.frzNB 1 rfl
 replace H:=H.nslSl 0 rfl
 replace H:=H.mkRc (R:=R_api_Record) (cs:=[Value.int .u64 (0),Value.int .u64 (0)]++(bcells (List.replicate 32 0)++(bcells (List.replicate 32 0)++(bcells (List.replicate 32 0)++(bcells (List.replicate 32 0)++([Value.int .i64 (0),Value.int .u64 (0),Value.int .i64 (0),Value.string (txb ([])),Value.string (txb ([])),Value.int .i64 (0),Value.int .i64 (0),Value.slice none (([]:List UInt8)).length 0])))))) (x:=(0,0,(List.replicate 32 0),(List.replicate 32 0),(List.replicate 32 0),(List.replicate 32 0),(0,0,(0,[],[],0,0,([]:List UInt8))))) (fun gg=>⟨[Value.int .u64 (0)],_,rfl,rfl,⟨[Value.int .u64 (0)],_,rfl,rfl,⟨bcells (List.replicate 32 0),_,rfl,⟨rfl,(List.length_replicate (n:=32))⟩,⟨bcells (List.replicate 32 0),_,rfl,⟨rfl,(List.length_replicate (n:=32))⟩,⟨bcells (List.replicate 32 0),_,rfl,⟨rfl,(List.length_replicate (n:=32))⟩,⟨bcells (List.replicate 32 0),_,rfl,⟨rfl,(List.length_replicate (n:=32))⟩,⟨[Value.int .i64 (0)],_,rfl,rfl,⟨[Value.int .u64 (0)],_,rfl,rfl,⟨[Value.int .i64 (0)],_,rfl,rfl,⟨[Value.string (txb ([]))],_,rfl,rfl,⟨[Value.string (txb ([]))],_,rfl,rfl,⟨[Value.int .i64 (0)],_,rfl,rfl,⟨[Value.int .i64 (0)],_,rfl,rfl,⟨_,_,rfl,(gg 0 _ rfl).choose_spec⟩⟩⟩⟩⟩⟩⟩⟩⟩⟩⟩⟩⟩⟩)
 obtain ⟨x8,ex8,hm⟩:=ob hm
 refine sd F rfl ent36 (w_mkWhole ex8 (H.pm 9 [7,8,5,0,3,0,1,2,3,4,6,7,8] rfl:):) ?_;rintro _ w a ⟨rfl,hl9,H⟩ F
 refine lz ?_;refine ct ⟨⟨_,(H.pm 9 [5,0,1,2,3,4,6,7,8] rfl:)⟩,?_⟩
 refine m_heavy rfl rfl (s_storeA wkP F rfl rfl agg24 rfl rfl rfl H 6 rfl ((bcells_length _).trans hl9) ((bcells_length _).trans (List.length_replicate (n:=32))) (bcells_flat _) fun w H=>?_)
 refine lz ?_;refine ct ⟨⟨_,(H.pm 9 [5,0,1,2,3,4,6,7,8] rfl:)⟩,?_⟩
 refine mb [0] F H rfl fun a F=>m_nil (ct (wr ?_))
 cases hm
 refine x_resC2 F rfl (⟨_,rfl,agg24.run_load (H.blk 6 rfl).row ((bcells_length _).trans hl9)⟩) rfl ?_
 exact ⟨_,rfl,m4,rfl,hl9,(H.pm 9 [0] rfl:)⟩
theorem ent9:En Tryz.prog 9:=enters Tryz.func9 (by kernel_rfl) rfl
theorem w_cRecord {bag:(List UInt8)→Option (List UInt8)} {h:List UInt8} {q1:Option Nat} {w0 w:World} {l:List HP} (hl2:(h).length=32) {r:T_api_Record×Int} (hm:cRecord bag h=some r) (H:St w0 w (HP.row 0 (0) (icells .u32 shaStart)::HP.row 1 (0) (icells .u32 shaRounds)::HP.fm q1 hv false (rSl rByte) (fun l=>l.length=32) bag::l)) :
  Calls Tryz.prog 47 [.map q1,.agg (bcells h).toArray].toArray w (fun e w'=>∃ v,e=.returned v∧∃ (cs3:List Value),v=.tuple [.agg cs3.toArray,.int .i64 (r.2)].toArray∧St w0 w' (HP.rc R_api_Record cs3 r.1::l)):=by
 unfold cRecord at hm
 refine x_enter Tryz.func47 rfl rfl rfl ?_
 intro a F
 refine sr (s_boxA wkP F rfl rfl rfl rfl rfl H fun b4 w a H F=>?_)
 replace H:=H.owNil rByte 5
 refine s_allocA wkP F rfl rfl rfl agz31 rfl H fun b5 w a H F=>bb [0] F H rfl fun a F=>?_
 replace H:=H.nf 6 rfl
 refine nl (sr (bk [0,2999] F H rfl ⟨rfl,(aggn agg24 ((bcells_length _).trans hl2)),trivial⟩ fun a F=>?_))
 obtain ⟨es6,H⟩:=H.fmOpen 5 rfl
 obtain ⟨cs6,hcs6,H⟩:=H.fmGet 0 rfl h (zc:=[Value.slice none 0 0]) (z0:=[]) (fun _=>rSl_nil _ _)
 have G:=F;obtain ⟨p7,c7,rfl,H⟩:=H.rcSl 0 rfl;have F:=G;clear G
 replace H:=H.dp 1 rfl
 refine sv F rfl (y_fmGet2 (agg:=false) (zc:=[Value.slice none 0 0]) F Tryz.underlying46 (keyH key24) (fun w=>zero25.run w) rfl H 1 rfl rfl (k:=h) rfl hl2 hcs6) fun a F=>bb (List.replicate 5 0) F H rfl fun a F=>nl (sq (sq ?_))
 by_cases hg8:(!((bag h).isSome))=true
 replace hm:=ifT hg8 hm
 refine qr H (by kernel_rfl) (by kernel_rfl) ?_
 refine qb [0,0,0] F rfl fun a F=>?_
 replace F:=F.vT 16 hg8 rfl
 refine qb (List.replicate 5 0) F rfl fun a F=>?_
 refine q_nil fun w H=>?_
 refine ct (cT F rfl ?_)
 cases hm
 replace hm:=ifF hg8 hm
 obtain ⟨x9,ex9,hm⟩:=ob hm
 have hl10:(x9).length=32:=by obtain ⟨_,_,_,_,_,hx,_⟩:=calls_ex (w_shaSum ex9 (H.pm 8 [5,6,0,0,1,2,3,4,5,6,7] rfl:));exact hx
 refine qr H (by kernel_rfl) (by kernel_rfl) ?_
 refine qb [0,0,0] F rfl fun a F=>?_
 replace F:=F.vF 16 hg8 rfl
 refine qb [0] F rfl fun a F=>?_
 refine qg_on F rfl rfl rfl rfl ?_
 refine q_call F rfl rfl rfl (fun u hu=>y_call F rfl rfl ent67) (fun u hu=>(w_shaSum ex9 (hu.pm 8 [5,6,0,0,1,2,3,4,5,6,7] rfl:)).mono fun e u2 he=>by obtain ⟨v,rfl,rfl,_,H⟩:=he;exact ⟨rfl,H⟩) fun a F=>?_
 refine qbk [4999] F rfl ⟨rfl,(aggn agg24 ((bcells_length _).trans hl2)),trivial⟩ fun a F=>?_
 refine qg_on F rfl rfl rfl rfl ?_
 refine qv F rfl (fun u hu=>y_neqA F key24 rfl rfl rfl hl10 hl2) fun a F=>qb [0] F rfl fun a F=>?_
 refine q_nil fun w H=>?_
 refine ct (cNm F rfl hm (fun hg11 hm=>?_) (fun hg11 hm=>?_))
 cases hm
 refine sk (ct (sb [0] F H rfl fun a F=>?_))
 obtain ⟨x12,ex12,hm⟩:=ob hm
 refine sd F rfl ent9 (w_cRead ex12 (H.pm 8 [0,0,1,2,3,4,5,6,7] rfl:):) ?_;rintro _ w a ⟨cs13,rfl,H⟩ F
 refine bb [0,0] F H rfl fun a F=>s_storeA wkP F rfl rfl agg31 rfl rfl rfl H 3 rfl (H.rcLen 0 rfl) (by simp only [List.length_append,List.length_cons,List.length_nil,icells_length,bcells_length,(List.length_replicate (n:=32)),(List.length_replicate (n:=32)),(List.length_replicate (n:=32)),(List.length_replicate (n:=32))]) (H.rcFlat 0 rfl) fun w H=>bb [0] F H rfl fun a F=>?_
 replace H:=H.nf 9 rfl
 refine nl (wr ?_)
 cases hm
 refine x_resC2 F rfl (⟨_,rfl,agg31.run_load (H.blk 3 rfl).row (H.rcLen 0 rfl)⟩) rfl ?_
 exact ⟨_,rfl,cs13,rfl,(H.pm 9 [0] rfl:)⟩
theorem fld126_1:FieldT Tryz.prog 126 1 1:=by unfold FieldT;rw [Tryz.underlying126];kernel_rfl
theorem fld126_0:FieldT Tryz.prog 126 0 0:=by unfold FieldT;rw [Tryz.underlying126];kernel_rfl
theorem ent81:En Tryz.prog 81:=enters Tryz.func81 (by kernel_rfl) rfl
theorem w_ldTree {l_:((List UInt8)→Option (List UInt8))×Int} {h:List UInt8} {bo0:Nat} {bo0_0:Option Nat} {w0 w:World} {l:List HP} (hl1:(h).length=32) {r:(List T_api_Pair)×Int} (hm:ldTree l_ h=some r) (H:St w0 w (HP.row 0 (0) (icells .u32 shaStart)::HP.row 1 (0) (icells .u32 shaRounds)::O_commit_loader bo0 bo0_0 l_.2::HP.fm bo0_0 hv false (rSl rByte) (fun l=>l.length=32) l_.1::l)) :
  Calls Tryz.prog 48 [.pointer (some ⟨bo0,0,none⟩),.agg (bcells h).toArray].toArray w (fun e w'=>∃ v,e=.returned v∧∃ (p2:Option Addr) (c2:Nat),v=.slice p2 (r.1).length c2∧St w0 w' (HP.sl (rP2N w0.heap.size) p2 c2 r.1::O_commit_loader bo0 bo0_0 r.2::l)):=by
 unfold ldTree at hm
 refine x_enter Tryz.func48 rfl rfl rfl ?_
 intro a F
 refine sr (s_boxA wkP F rfl rfl rfl rfl rfl H fun b3 w a H F=>bb [0] F H rfl fun a F=>?_)
 replace H:=H.nf 5 rfl
 refine nl (sq (sr (bk [0,0,1] F H rfl ⟨fld126_1,trivial⟩ fun a F=>?_)))
 replace H:=O_commit_loader_o (H.pk 3 rfl)
 refine bk [1,0] F H rfl ⟨rfl,plain34,trivial⟩ fun a F=>?_
 refine nl (cNm F rfl hm (fun hg4 hm=>?_) (fun hg4 hm=>?_))
 cases hm
 refine sk (ct (sq (mix_regionK [5] [] (scL [0,1,2,1003,1004,2005,6,7,8,9,10]) [] H rfl rfl (by kernel_rfl) (by kernel_rfl) fun w H=>mbk [0,0,0,0,1999] F H rfl ⟨fld126_0,rfl,plain46,rfl,(aggn agg24 ((bcells_length _).trans hl1)),trivial⟩ fun a F=>m_heavy rfl rfl ?_)))
 obtain ⟨x5,ex5,hm⟩:=ob hm
 refine sd F rfl ent81 (w_trAll hl1 ex5 (H.pm 5 [2,3,4,0,1,2,3,4] rfl:):) ?_;rintro _ w a ⟨p6,c6,rfl,H⟩ F
 refine lz ?_;refine ct ⟨⟨_,H⟩,?_⟩
 refine mb (List.replicate 5 0) F H rfl fun a F=>m_nil (ct (sr (bk [0,0,0,1] F H rfl ⟨fld126_1,trivial⟩ fun a F=>s_st1 wkP F rfl rfl zero34 rfl rfl rfl rfl rfl H 1 rfl rfl fun w H=>?_)))
 replace H:=H.nf 6 rfl
 refine nb [0,0] F H rfl fun a F=>nl (wr ?_)
 replace H:=H.nslSl 0 rfl
 replace H:=O_commit_loader_s (H.pm 7 [2,0,1,3,4,5,6] rfl:)
 cases hm
 refine x_ret1 F rfl rfl ?_
 exact ⟨_,rfl,p6,c6,rfl,(H.pm 7 [1,0] rfl:)⟩
theorem w_ldAsk {l_:Int} {ok_:Bool} {bo0:Nat} {bo0_0:Option Nat} {w0 w:World} {l:List HP}  {r:Bool×Int} (hm:ldAsk l_ ok_=some r) (H:St w0 w (O_commit_loader_1 bo0 bo0_0 l_::l)) :
  Calls Tryz.prog 51 [.pointer (some ⟨bo0,0,none⟩),.bool (ok_)].toArray w (fun e w'=>∃ v,e=.returned v∧v=.bool (r.1)∧St w0 w' (O_commit_loader_1 bo0 bo0_0 r.2::l)):=by
 unfold ldAsk at hm
 refine x_enter Tryz.func51 rfl rfl rfl ?_
 intro a F
 refine sb [0] F H rfl fun a F=>nl (sq (sr (bk [0,0,1] F H rfl ⟨fld126_1,trivial⟩ fun a F=>?_)))
 replace H:=O_commit_loader_1_o (H.pk 0 rfl)
 refine bk [1,0,0] F H rfl ⟨rfl,plain34,trivial⟩ fun a F=>?_
 rcases spP 10 F rfl hm with ⟨hg1,hm,F⟩ | ⟨hg1,hm,F⟩
 refine bb [0,0,0] F H rfl fun a F=>?_
 refine nl (cB F rfl (fun hg2=>?_) (fun hg2=>?_))
 replace hm:=ifT hg2 hm
 cases hm
 replace hm:=ifF (nT hg2) hm
 refine sk (ct (sr (bk [0,0,1,1,0,0] F H rfl ⟨fld126_1,rfl,plain34,trivial⟩ fun a F=>nl (wr ?_))))
 replace H:=O_commit_loader_1_s H
 cases hm
 refine x_ret1 F rfl rfl ?_
 exact ⟨_,rfl,rfl,H⟩
 refine bb [0,0,0] F H rfl fun a F=>nl (cF F rfl (sk (ct (sr (bk [0,0,1,1,0,0] F H rfl ⟨fld126_1,rfl,plain34,trivial⟩ fun a F=>nl (wr ?_))))))
 replace H:=O_commit_loader_1_s H
 cases hm
 refine x_ret1 F rfl rfl ?_
 exact ⟨_,rfl,rfl,H⟩
theorem ent51:En Tryz.prog 51:=enters Tryz.func51 (by kernel_rfl) rfl
theorem ent82:En Tryz.prog 82:=enters Tryz.func82 (by kernel_rfl) rfl
theorem w_ldSeat {l_:Int} {p_:T_api_Pair} {bo0:Nat} {bo0_0:Option Nat} {cs1:List Value} {w0 w:World} {l:List HP}  {r:T_api_Seat×Int} (hm:ldSeat l_ p_=some r) (H:St w0 w (O_commit_loader_1 bo0 bo0_0 l_::HP.rc R_api_Pair cs1 p_::l)) :
  Calls Tryz.prog 50 [.pointer (some ⟨bo0,0,none⟩),.agg cs1.toArray].toArray w (fun e w'=>∃ v,e=.returned v∧∃ (cs2:List Value),v=.agg cs2.toArray∧St w0 w' (HP.rc R_api_Seat cs2 r.1::O_commit_loader_1 bo0 bo0_0 r.2::l)):=by
 unfold ldSeat at hm
 refine x_enter Tryz.func50 rfl rfl rfl ?_
 intro a F
 refine sr (s_boxA wkP F rfl rfl rfl rfl rfl H fun b3 w a H F=>?_)
 replace H:=H.owNil rByte 5
 replace H:=H.owNil rStr 9
 refine s_allocA wkP F rfl rfl rfl agz110 rfl H fun b4 w a H F=>?_
 replace H:=H.nf 6 rfl
 refine nl (sq (sr (bk [0,0] F H rfl ⟨fld129_0,trivial⟩ fun a F=>?_)))
 have G:=F;replace H:=rc_api_Pair (H.pk 5 rfl);obtain ⟨p5,c6,p7,c8,rfl,J⟩:=H;have H:=J;have F:=G;clear G J
 refine bk [5000,0,0,0] F H rfl ⟨rfl,plain25,⟨_,Tryz.underlying25⟩,trivial⟩ fun a F=>?_
 rcases spP 12 F rfl hm with ⟨hg9,hm,F⟩ | ⟨hg9,hm,F⟩
 refine bk [1,5001,0,0,0] F H rfl ⟨fld129_1,rfl,plain25,⟨_,Tryz.underlying25⟩,trivial⟩ fun a F=>?_
 obtain ⟨x10,ex10,hm⟩:=ob hm
 refine sd F rfl ent51 (w_ldAsk ex10 (H.pm 7 [6,0,1,2,3,4,5] rfl:):) ?_;rintro _ w a ⟨rfl,H⟩ F
 replace H:=H.nf 7 rfl
 refine nl (xm1 7 [4] [1,2,6] F H hm rfl rfl (fun r24 (cs25:List Value) z=>z) (fun r24 cs25 z=>O_commit_loader_1 bo0 bo0_0 r24.1::HP.blk b4 ([Value.int .i64 (r24.2.1),Value.int .u64 (r24.2.2.1)]++(cs25)) 110::HP.rc R_api_Answer cs25 r24.2.2.2::z) (fun r24 hm=>?_) (fun r24 a w hm cs25 F H=>?_))
 refine cB F rfl (fun hg26=>?_) (fun hg26=>?_)
 replace hm:=ifT hg26 hm
 refine sr (bk [0,6000] F H rfl ⟨fld129_0,rfl,plain25,trivial⟩ fun a F=>?_)
 obtain ⟨x27,ex27,hm⟩:=ob hm
 obtain ⟨b28,o28,hp28,cs29,H⟩:=H.slE 1 rfl ex27
 obtain rfl:=H.rcB 1 rfl
 replace H:=H.dp 1 rfl
 refine sv F rfl (y_idxS F elem25 rfl rfl rfl hp28 ex27) fun a F=>bk [0,0,0] F H rfl ⟨rfl,plain5,Tryz.underlying5,Tryz.underlying3,fld110_0,trivial⟩ fun a F=>s_st1 wkP F rfl rfl zero3 rfl rfl rfl rfl rfl H 4 rfl rfl fun w H=>?_
 replace H:=H.nf 8 rfl
 refine nl (sr (bk [1,7001] F H rfl ⟨fld129_1,rfl,plain25,trivial⟩ fun a F=>?_))
 obtain ⟨x30,ex30,hm⟩:=ob hm
 refine sd F rfl ent26 (w_newEye ex30 (H.pm 8 [3,0,1,2,3,4,5,6,7] rfl:):) ?_;rintro _ w a ⟨b31,rfl,H⟩ F
 obtain ⟨x32,ex32,hm⟩:=ob hm
 refine sd F rfl ent27 (w_eyeUint ex32 H:) ?_;rintro _ w a ⟨rfl,H⟩ F
 refine bk [0,0,0,1] F H rfl ⟨fld110_1,trivial⟩ fun a F=>s_st1 wkP F rfl rfl zero22 rfl rfl rfl rfl rfl H 5 rfl rfl fun w H=>?_
 replace H:=H.nf 9 rfl
 refine nl (sr (bk [1,8001] F H rfl ⟨fld129_1,rfl,plain25,trivial⟩ fun a F=>?_))
 obtain ⟨x34,ex34,hm⟩:=ob hm
 have hc33:=H.slCap 4 rfl
 replace H:=H.slSubN 1 rfl 4 rfl ex34
 refine sv F rfl (y_slL F elem25 rfl rfl rfl ex34 hc33) fun a F=>?_
 obtain ⟨x35,ex35,hm⟩:=ob hm
 refine sd F rfl ent82 (w_oReadA ex35 (H.pm 10 [0,0,1,2,3,4,5,6,7,8,9] rfl:):) ?_;rintro _ w a ⟨cs36,rfl,H⟩ F
 refine bb [0,0,0] F H rfl fun a F=>?_
 replace H:=H.owNil rByte 5
 replace H:=H.owNil rStr 9
 refine s_allocA wkP F rfl rfl rfl agz58 rfl H fun b37 w a H F=>s_storeA wkP F rfl rfl agg58 rfl rfl rfl H 0 rfl (H.rcLen 3 rfl) rfl (H.rcFlat 3 rfl) fun w H=>bb [0] F H rfl fun a F=>?_
 replace H:=H.nf 14 rfl
 refine nb [0,0,0] F H rfl fun a F=>?_
 obtain ⟨x38,ex38,hm⟩:=ob hm
 refine sd F rfl ent51 (w_ldAsk ex38 (H.pm 14 [7,0,1,2,3,4,5,6,8,9,10,11,12,13] rfl:):) ?_;rintro _ w a ⟨rfl,H⟩ F
 replace H:=H.nf 14 rfl
 refine nl (rl (bk [1999,2] F H rfl ⟨rfl,(aggn agg58 (H.rcLen 4 rfl)),fld110_2,trivial⟩ fun a F=>?_))
 refine s_storeFE wkP F rfl rfl agg58 rfl rfl rfl H 10 rfl (A:=[.int .i64 (IntKind.i64.wrap (((x27).toNat:Int))),.int .u64 (x32.1)]) (X:=[.int .i64 (0),.int .i64 (0),.slice none (([]:List UInt8)).length 0,.slice none (([]:List (List UInt8))).length 0]) rfl (by simp only [List.length_append,List.length_cons,List.length_nil,icells_length,bcells_length]) rfl (H.rcLen 4 rfl) (H.rcFlat 4 rfl) fun w H=>?_
 replace H:=H.nf 14 rfl
 refine lz ?_
 cases hm
 refine ct ?_
 exact ⟨cs36,F.sl rfl,(H.pm 14 [0,10,4,8,9,13] rfl:)⟩
 replace hm:=ifF (nT hg26) hm
 refine sk ?_
 cases hm
 refine ct ?_
 replace H:=H.frz 5 rfl
 replace H:=H.frz 5 rfl
 replace H:=mk_api_Answer H 0 0 1 rfl 0 rfl
 exact ⟨[.int .i64 (0),.int .i64 (0),.slice none (([]:List UInt8)).length 0,.slice none (([]:List (List UInt8))).length 0],F.sl rfl,(H.pm 8 [3,6,0,4,5,7] rfl:)⟩
 refine ct (sr (bk [1999] F H rfl ⟨rfl,(aggn agg110 (by simp only [List.length_append,List.length_cons,List.length_nil,icells_length,bcells_length,H.rcLen 2 rfl]<;>rfl)),trivial⟩ fun a F=>?_))
 refine s_storeA wkP F rfl rfl agg110 rfl rfl rfl H 1 rfl (by simp only [List.length_append,List.length_cons,List.length_nil,icells_length,bcells_length,H.rcLen 2 rfl]<;>rfl) (by simp only [List.length_append,List.length_cons,List.length_nil,icells_length,bcells_length,H.rcLen 2 rfl]<;>rfl) (flA (fl rfl) (H.rcFlat 2 rfl)) fun w H=>?_
 replace H:=H.nf 6 rfl
 refine nl (wr ?_)
 replace H:=H.mkRc (R:=R_api_Seat) (cs:=[Value.int .i64 (r24.2.1),Value.int .u64 (r24.2.2.1)]++(cs25)) (x:=(r24.2.1,r24.2.2.1,r24.2.2.2)) (fun gg=>⟨[Value.int .i64 (r24.2.1)],_,rfl,rfl,⟨[Value.int .u64 (r24.2.2.1)],_,rfl,rfl,(gg 2 _ rfl).choose_spec⟩⟩)
 cases hm
 refine x_resC1 F rfl (⟨_,rfl,agg110.run_load (H.blk 2 rfl).row (by simp only [List.length_append,List.length_cons,List.length_nil,icells_length,bcells_length,H.rcLen 3 rfl]<;>rfl)⟩) ?_
 exact ⟨_,rfl,[Value.int .i64 (r24.2.1),Value.int .u64 (r24.2.2.1)]++(cs25),rfl,(H.pm 7 [0,1] rfl:)⟩
 refine bb (List.replicate 5 0) F H rfl fun a F=>?_
 obtain ⟨x39,ex39,hm⟩:=ob hm
 refine sd F rfl ent51 (w_ldAsk ex39 (H.pm 7 [6,0,1,2,3,4,5] rfl:):) ?_;rintro _ w a ⟨rfl,H⟩ F
 replace H:=H.nf 7 rfl
 refine nl (xm1 7 [4] [1,2,6] F H hm rfl rfl (fun r53 (cs54:List Value) z=>z) (fun r53 cs54 z=>O_commit_loader_1 bo0 bo0_0 r53.1::HP.blk b4 ([Value.int .i64 (r53.2.1),Value.int .u64 (r53.2.2.1)]++(cs54)) 110::HP.rc R_api_Answer cs54 r53.2.2.2::z) (fun r53 hm=>?_) (fun r53 a w hm cs54 F H=>?_))
 refine cB F rfl (fun hg55=>?_) (fun hg55=>?_)
 replace hm:=ifT hg55 hm
 refine sr (bk [0,6000] F H rfl ⟨fld129_0,rfl,plain25,trivial⟩ fun a F=>?_)
 obtain ⟨x56,ex56,hm⟩:=ob hm
 obtain ⟨b57,o57,hp57,cs58,H⟩:=H.slE 1 rfl ex56
 obtain rfl:=H.rcB 1 rfl
 replace H:=H.dp 1 rfl
 refine sv F rfl (y_idxS F elem25 rfl rfl rfl hp57 ex56) fun a F=>bk [0,0,0] F H rfl ⟨rfl,plain5,Tryz.underlying5,Tryz.underlying3,fld110_0,trivial⟩ fun a F=>s_st1 wkP F rfl rfl zero3 rfl rfl rfl rfl rfl H 4 rfl rfl fun w H=>?_
 replace H:=H.nf 8 rfl
 refine nl (sr (bk [1,7001] F H rfl ⟨fld129_1,rfl,plain25,trivial⟩ fun a F=>?_))
 obtain ⟨x59,ex59,hm⟩:=ob hm
 refine sd F rfl ent26 (w_newEye ex59 (H.pm 8 [3,0,1,2,3,4,5,6,7] rfl:):) ?_;rintro _ w a ⟨b60,rfl,H⟩ F
 obtain ⟨x61,ex61,hm⟩:=ob hm
 refine sd F rfl ent27 (w_eyeUint ex61 H:) ?_;rintro _ w a ⟨rfl,H⟩ F
 refine bk [0,0,0,1] F H rfl ⟨fld110_1,trivial⟩ fun a F=>s_st1 wkP F rfl rfl zero22 rfl rfl rfl rfl rfl H 5 rfl rfl fun w H=>?_
 replace H:=H.nf 9 rfl
 refine nl (sr (bk [1,8001] F H rfl ⟨fld129_1,rfl,plain25,trivial⟩ fun a F=>?_))
 obtain ⟨x63,ex63,hm⟩:=ob hm
 have hc62:=H.slCap 4 rfl
 replace H:=H.slSubN 1 rfl 4 rfl ex63
 refine sv F rfl (y_slL F elem25 rfl rfl rfl ex63 hc62) fun a F=>?_
 obtain ⟨x64,ex64,hm⟩:=ob hm
 refine sd F rfl ent82 (w_oReadA ex64 (H.pm 10 [0,0,1,2,3,4,5,6,7,8,9] rfl:):) ?_;rintro _ w a ⟨cs65,rfl,H⟩ F
 refine bb [0,0,0] F H rfl fun a F=>?_
 replace H:=H.owNil rByte 5
 replace H:=H.owNil rStr 9
 refine s_allocA wkP F rfl rfl rfl agz58 rfl H fun b66 w a H F=>s_storeA wkP F rfl rfl agg58 rfl rfl rfl H 0 rfl (H.rcLen 3 rfl) rfl (H.rcFlat 3 rfl) fun w H=>bb [0] F H rfl fun a F=>?_
 replace H:=H.nf 14 rfl
 refine nb [0,0,0] F H rfl fun a F=>?_
 obtain ⟨x67,ex67,hm⟩:=ob hm
 refine sd F rfl ent51 (w_ldAsk ex67 (H.pm 14 [7,0,1,2,3,4,5,6,8,9,10,11,12,13] rfl:):) ?_;rintro _ w a ⟨rfl,H⟩ F
 replace H:=H.nf 14 rfl
 refine nl (rl (bk [1999,2] F H rfl ⟨rfl,(aggn agg58 (H.rcLen 4 rfl)),fld110_2,trivial⟩ fun a F=>?_))
 refine s_storeFE wkP F rfl rfl agg58 rfl rfl rfl H 10 rfl (A:=[.int .i64 (IntKind.i64.wrap (((x56).toNat:Int))),.int .u64 (x61.1)]) (X:=[.int .i64 (0),.int .i64 (0),.slice none (([]:List UInt8)).length 0,.slice none (([]:List (List UInt8))).length 0]) rfl (by simp only [List.length_append,List.length_cons,List.length_nil,icells_length,bcells_length]) rfl (H.rcLen 4 rfl) (H.rcFlat 4 rfl) fun w H=>?_
 replace H:=H.nf 14 rfl
 refine lz ?_
 cases hm
 refine ct ?_
 exact ⟨cs65,F.sl rfl,(H.pm 14 [0,10,4,8,9,13] rfl:)⟩
 replace hm:=ifF (nT hg55) hm
 refine sk ?_
 cases hm
 refine ct ?_
 replace H:=H.frz 5 rfl
 replace H:=H.frz 5 rfl
 replace H:=mk_api_Answer H 0 0 1 rfl 0 rfl
 exact ⟨[.int .i64 (0),.int .i64 (0),.slice none (([]:List UInt8)).length 0,.slice none (([]:List (List UInt8))).length 0],F.sl rfl,(H.pm 8 [3,6,0,4,5,7] rfl:)⟩
 refine ct (sr (bk [1999] F H rfl ⟨rfl,(aggn agg110 (by simp only [List.length_append,List.length_cons,List.length_nil,icells_length,bcells_length,H.rcLen 2 rfl]<;>rfl)),trivial⟩ fun a F=>?_))
 refine s_storeA wkP F rfl rfl agg110 rfl rfl rfl H 1 rfl (by simp only [List.length_append,List.length_cons,List.length_nil,icells_length,bcells_length,H.rcLen 2 rfl]<;>rfl) (by simp only [List.length_append,List.length_cons,List.length_nil,icells_length,bcells_length,H.rcLen 2 rfl]<;>rfl) (flA (fl rfl) (H.rcFlat 2 rfl)) fun w H=>?_
 replace H:=H.nf 6 rfl
 refine nl (wr ?_)
 replace H:=H.mkRc (R:=R_api_Seat) (cs:=[Value.int .i64 (r53.2.1),Value.int .u64 (r53.2.2.1)]++(cs54)) (x:=(r53.2.1,r53.2.2.1,r53.2.2.2)) (fun gg=>⟨[Value.int .i64 (r53.2.1)],_,rfl,rfl,⟨[Value.int .u64 (r53.2.2.1)],_,rfl,rfl,(gg 2 _ rfl).choose_spec⟩⟩)
 cases hm
 refine x_resC1 F rfl (⟨_,rfl,agg110.run_load (H.blk 2 rfl).row (by simp only [List.length_append,List.length_cons,List.length_nil,icells_length,bcells_length,H.rcLen 3 rfl]<;>rfl)⟩) ?_
 exact ⟨_,rfl,[Value.int .i64 (r53.2.1),Value.int .u64 (r53.2.2.1)]++(cs54),rfl,(H.pm 7 [0,1] rfl:)⟩
theorem ent47:En Tryz.prog 47:=enters Tryz.func47 (by kernel_rfl) rfl
theorem ent48:En Tryz.prog 48:=enters Tryz.func48 (by kernel_rfl) rfl
theorem ent50:En Tryz.prog 50:=enters Tryz.func50 (by kernel_rfl) rfl
theorem zero65:Zero1 Tryz.prog 65 (.slice none 0 0):=⟨by kernel_rfl,rfl⟩
theorem ent52:En Tryz.prog 52:=enters Tryz.func52 (by kernel_rfl) rfl
theorem w_cLoad {bag:(List UInt8)→Option (List UInt8)} {head:List UInt8} {q1:Option Nat} {w0 w:World} {l:List HP} (hl2:(head).length=32) {r:T_api_Record×T_api_Whole×Int} (hm:cLoad bag head=some r) (H:St w0 w (HP.row 0 (0) (icells .u32 shaStart)::HP.row 1 (0) (icells .u32 shaRounds)::HP.fm q1 hv false (rSl rByte) (fun l=>l.length=32) bag::l)) :
  Calls Tryz.prog 16 [.map q1,.agg (bcells head).toArray].toArray w (fun e w'=>∃ v,e=.returned v∧∃ (cs3:List Value) (cs4:List Value),v=.tuple [.agg cs3.toArray,.agg cs4.toArray,.int .i64 (r.2.2)].toArray∧St w0 w' (HP.rc R_api_Record cs3 r.1::HP.rc R_api_Whole cs4 r.2.1::l)):=by
 unfold cLoad at hm
 refine x_enter Tryz.func16 rfl rfl rfl ?_
 intro a F
 refine sr (s_boxA wkP F rfl rfl rfl rfl rfl H fun b5 w a H F=>?_)
 replace H:=H.owNil rByte 5
 refine s_allocA wkP F rfl rfl rfl agz31 rfl H fun b6 w a H F=>?_
 replace H:=H.owNil R_api_Pair 129
 replace H:=H.owNil R_api_Snap 131
 replace H:=H.owNil R_api_Seat 110
 refine s_allocA wkP F rfl rfl rfl agz67 rfl H fun b7 w a H F=>bb [0] F H rfl fun a F=>?_
 replace H:=H.nf 10 rfl
 refine nl (sr (bk [0,6999] F H rfl ⟨rfl,(aggn agg24 ((bcells_length _).trans hl2)),trivial⟩ fun a F=>?_))
 obtain ⟨x8,ex8,hm⟩:=ob hm
 refine sd F rfl ent47 (w_cRecord hl2 ex8 (H.pm 10 [7,8,9,0,1,2,3,4,5,6,7,8,9] rfl:):) ?_;rintro _ w a ⟨cs9,rfl,H⟩ F
 refine bb [0,0,0] F H rfl fun a F=>?_
 replace H:=H.owNil rByte 5
 refine s_allocA wkP F rfl rfl rfl agz31 rfl H fun b10 w a H F=>s_storeA wkP F rfl rfl agg31 rfl rfl rfl H 0 rfl (H.rcLen 2 rfl) (by simp only [List.length_append,List.length_cons,List.length_nil,icells_length,bcells_length,(List.length_replicate (n:=32)),(List.length_replicate (n:=32)),(List.length_replicate (n:=32)),(List.length_replicate (n:=32))]) (H.rcFlat 2 rfl) fun w H=>bb [0] F H rfl fun a F=>?_
 replace H:=H.nf 13 rfl
 refine nl (sq (sb [0,0] F H rfl fun a F=>?_))
 refine nl (cNm F rfl hm (fun hg11 hm=>?_) (fun hg11 hm=>?_))
 cases hm
 refine sk (ct (sb [0] F H rfl fun a F=>sv F rfl (y_build F rfl rfl (cs:=[.map q1,.int .i64 (0)]) (by kernel_rfl)) fun a F=>s_boxA wkP F rfl rfl rfl rfl rfl H fun b12 w a H F=>?_))
 replace H:=H.owNil R_api_Pair 129
 replace H:=H.owNil R_api_Snap 131
 replace H:=H.owNil R_api_Seat 110
 refine sv F rfl (y_build F rfl rfl (cs:=[.slice none (([]:List T_api_Pair)).length 0,.slice none (([]:List T_api_Snap)).length 0,.slice none (([]:List T_api_Seat)).length 0]) (by kernel_rfl)) fun a F=>?_
 replace H:=H.owNil R_api_Pair 129
 replace H:=H.owNil R_api_Snap 131
 replace H:=H.owNil R_api_Seat 110
 refine s_allocA wkP F rfl rfl rfl agz67 rfl H fun b13 w a H F=>bb [0] F H rfl fun a F=>s_storeA wkP F rfl rfl agg67 rfl rfl rfl H 0 rfl rfl rfl (fl rfl) fun w H=>?_
 replace H:=H.nf 21 rfl
 refine nl (sr (bk [0,34] F H rfl ⟨fld31_3,trivial⟩ fun a F=>?_))
 have G:=F;replace H:=rc_api_Record (H.pk 10 rfl);obtain ⟨v14,hl15,hl16,hl17,hl18,rfl,J⟩:=H;have H:=J;have F:=G;clear G J
 refine sv F rfl (y_loadA F agg24 rfl rfl (row_midA (n:=34) (A:=[Value.int .u64 (x8.1.1),Value.int .u64 (x8.1.2.1)]++(bcells x8.1.2.2.1)) (X:=bcells x8.1.2.2.2.1) (C:=bcells x8.1.2.2.2.2.1++(bcells x8.1.2.2.2.2.2.1++(v14))) (w:=_) ((H.blk 9 rfl).row) (by simp only [List.append_assoc,List.cons_append,List.nil_append]) (by simp only [List.length_append,List.length_cons,List.length_nil,icells_length,bcells_length,hl15])) ((bcells_length _).trans hl16)) fun a F=>?_
 replace H:=O_commit_loader_s (H.pm 21 [8,0,1,2,3,4,5,6,7,9,10,11,12,13,14,15,16,17,18,19,20] rfl:)
 obtain ⟨x19,ex19,hm⟩:=ob hm
 refine sd F rfl ent48 (w_ldTree hl16 ex19 (H.pm 21 [18,19,0,20,1,2,3,4,5,6,7,8,9,10,11,12,13,14,15,16,17,18,19,20] rfl:):) ?_;rintro _ w a ⟨p20,c20,rfl,H⟩ F
 replace H:=H.slP2W 0 rfl
 replace H:=H.slP2W 1 rfl
 refine bk [0,0] F H rfl ⟨fld67_0,fld64_0,trivial⟩ fun a F=>s_st1 wkP F rfl rfl zero61 rfl rfl rfl rfl rfl H 5 rfl rfl fun w H=>?_
 replace H:=H.nf 24 rfl
 refine nl (sq (sr (bk [0,66] F H rfl ⟨fld31_4,trivial⟩ fun a F=>sv F rfl (y_loadA F agg24 rfl rfl (row_midA (n:=66) (A:=[Value.int .u64 (x8.1.1),Value.int .u64 (x8.1.2.1)]++(bcells x8.1.2.2.1++(bcells x8.1.2.2.2.1))) (X:=bcells x8.1.2.2.2.2.1) (C:=bcells x8.1.2.2.2.2.2.1++(v14)) (w:=_) ((H.blk 12 rfl).row) (by simp only [List.append_assoc,List.cons_append,List.nil_append]) (by simp only [List.length_append,List.length_cons,List.length_nil,icells_length,bcells_length,hl15,hl16])) ((bcells_length _).trans hl17)) fun a F=>?_)))
 obtain ⟨x21,ex21,hm⟩:=ob hm
 refine sd F rfl ent48 (w_ldTree hl17 ex21 (H.pm 24 [21,22,3,23,0,1,2,4,5,6,7,8,9,10,11,12,13,14,15,16,17,18,19,20,21,22,23] rfl:):) ?_;rintro _ w a ⟨p22,c22,rfl,H⟩ F
 replace H:=H.slP2W 0 rfl
 replace H:=H.slP2W 1 rfl
 refine bk [0,0] F H rfl ⟨⟨_,Tryz.underlying61⟩,trivial⟩ fun a F=>?_
 replace H:=H.nf 27 rfl
 refine nl (xm0 27 [4,5,7,9,10] [3,5,7,8,9,10,11,12,13,14,15,16,17,18,19,20,21,22,23,24,25,26] F H hm rfl rfl (fun r39 z=>z) (fun r39 z=>z) (fun r39 hm=>?_) (fun r39 a w hm F H=>?_))
 refine bl (xl0 27 [4,5,7,9,10,39,40,41] [1,3,5,7,8,9,10,11,12,13,14,15,16,17,18,19,20,21,22,23,24,25,26] F H hm rfl rfl (fun (s50:Unit) z=>z) (fun s50 z=>z) ⟨F.sl rfl,(H.pm 27 [1,3,5,7,8,9,10,11,12,13,14,15,16,17,18,19,20,21,22,23,24,25,26] rfl:)⟩ (fun s50 a w o F H hm=>sb [0] F H rfl fun a F=>?_))
 refine nl (sq (cPm F rfl hm (fun hg51 hm=>?_) (fun hg51 hm=>?_)))
 refine sk (ct (sq (bl (sr ?_))))
 obtain ⟨x52,ex52,hm⟩:=ob hm
 obtain ⟨b53,o53,hp53,cs54,H⟩:=H.slE 0 rfl ex52
 refine sv F rfl (y_idxS F elem61 rfl rfl rfl hp53 ex52) fun a F=>bk [999] F H rfl ⟨rfl,(aggn agg129 (H.rcLen 1 rfl)),trivial⟩ fun a F=>?_
 replace H:=H.owNil rByte 5
 replace H:=H.owNil rByte 5
 refine s_allocA wkP F rfl rfl rfl agz129 rfl H fun b55 w a H F=>s_storeA wkP F rfl rfl agg129 rfl rfl rfl H 0 rfl (H.rcLen 4 rfl) rfl (H.rcFlat 4 rfl) fun w H=>?_
 replace H:=H.nf 28 rfl
 refine nl ?_
 cases hm
 refine ex (cx (cx ?_));cases hm;refine ⟨_,rfl,?_⟩;rintro rfl
 refine ch (ct ?_)
 exact ⟨F.sl rfl,(H.pm 23 [1,2,3,4,5,6,7,8,9,10,11,12,13,14,15,16,17,18,19,20,21,22] rfl:)⟩
 refine ct (sq (sr (bk [0,98] F H rfl ⟨fld31_5,trivial⟩ fun a F=>sv F rfl (y_loadA F agg24 rfl rfl (row_midA (n:=98) (A:=[Value.int .u64 (x8.1.1),Value.int .u64 (x8.1.2.1)]++(bcells x8.1.2.2.1++(bcells x8.1.2.2.2.1++(bcells x8.1.2.2.2.2.1)))) (X:=bcells x8.1.2.2.2.2.2.1) (C:=v14) (w:=_) ((H.blk 10 rfl).row) (by simp only [List.append_assoc,List.cons_append,List.nil_append]) (by simp only [List.length_append,List.length_cons,List.length_nil,icells_length,bcells_length,hl15,hl16,hl17])) ((bcells_length _).trans hl18)) fun a F=>?_)))
 obtain ⟨x56,ex56,hm⟩:=ob hm
 refine sd F rfl ent48 (w_ldTree hl18 ex56 (H.pm 22 [19,20,0,21,1,2,3,4,5,6,7,8,9,10,11,12,13,14,15,16,17,18,19,20,21] rfl:):) ?_;rintro _ w a ⟨p57,c57,rfl,H⟩ F
 replace H:=H.slP2W 0 rfl
 replace H:=H.slP2W 1 rfl
 refine bk [0,0] F H rfl ⟨⟨_,Tryz.underlying61⟩,trivial⟩ fun a F=>?_
 replace H:=H.nf 25 rfl
 refine nl ?_
 refine xm2 25 [4,5,7,9,10] [4,5,7,8,9,11,12,13,14,15,16,17,18,19,20,21,22,23,24] F H hm rfl rfl (fun r92 (p93:Option Addr) (c93:Nat) z=>z) (fun r92 p93 c93 z=>O_commit_loader_1 b12 q1 r92.1::HP.blk b13 ([.slice p20 (x19.1).length c20,.slice none (([]:List T_api_Snap)).length 0,.slice p93 (r92.2).length c93]) 67::HP.ow R_api_Seat 110 p93 c93 r92.2::z) (fun r92 hm=>?_) (fun r92 a w hm p93 c93 F H=>?_)
 refine bl ?_
 refine xl2 25 [4,5,7,9,10,59,60] [1,4,5,7,8,9,11,12,13,14,15,16,17,18,19,20,21,22,23,24] F H hm rfl rfl (fun (s116:Int×(List T_api_Seat)×Int) (p117:Option Addr) (c117:Nat) z=>(61,.int .i64 (s116.2.2))::z) (fun s116 p117 c117 z=>O_commit_loader_1 b12 q1 s116.1::HP.blk b13 ([.slice p20 (x19.1).length c20,.slice none (([]:List T_api_Snap)).length 0,.slice p117 (s116.2.1).length c117]) 67::HP.ow R_api_Seat 110 p117 c117 s116.2.1::z) ⟨none,0,F.sl rfl,(H.pm 25 [3,6,10,1,4,5,7,8,9,11,12,13,14,15,16,17,18,19,20,21,22,23,24] rfl:)⟩ (fun s116 a w o p117 c117 F H hm=>?_)
 refine sb [0] F H rfl fun a F=>?_
 refine nl (sq (cPm F rfl hm (fun hg118 hm=>?_) (fun hg118 hm=>?_)))
 refine sk (ct (sq (bl (sr ?_))))
 obtain ⟨x119,ex119,hm⟩:=ob hm
 obtain ⟨b120,o120,hp120,cs121,H⟩:=H.slE 3 rfl ex119
 refine sv F rfl (y_idxS F elem61 rfl rfl rfl hp120 ex119) fun a F=>bk [999] F H rfl ⟨rfl,(aggn agg129 (H.rcLen 1 rfl)),trivial⟩ fun a F=>?_
 replace H:=H.owNil rByte 5
 replace H:=H.owNil rByte 5
 refine s_allocA wkP F rfl rfl rfl agz129 rfl H fun b122 w a H F=>s_storeA wkP F rfl rfl agg129 rfl rfl rfl H 0 rfl (H.rcLen 4 rfl) rfl (H.rcFlat 4 rfl) fun w H=>?_
 replace H:=H.nf 28 rfl
 refine nl (mix_regionK [4,5,6,8] [8] (scL [0,1,2,1003,2004,2005,2006,7,3008]) [6] H rfl rfl (by kernel_rfl) (by kernel_rfl) fun w H=>mbk [2] F H rfl ⟨fld67_1,trivial⟩ fun a F=>?_)
 refine m_pure F rfl rfl rfl rfl (fun u hu=>y_load1 F plain65 rfl rfl (row_at (v:=.slice p117 (s116.2.1).length c117) ((hu.choose_spec.blk 0 rfl).row) rfl)) fun a F=>?_
 refine mbk [0,999] F H rfl ⟨rfl,(aggn agg129 (H.rcLen 4 rfl)),trivial⟩ fun a F=>m_heavy rfl rfl ?_
 obtain ⟨x123,ex123,hm⟩:=ob hm
 refine sd F rfl ent50 (w_ldSeat ex123 (H.pm 28 [5,4,0,1,2,3,4,6,7,8,9,10,11,12,13,14,15,16,17,18,19,20,21,22,23,24,25,26,27] rfl:):) ?_;rintro _ w a ⟨cs124,rfl,H⟩ F
 refine lz ?_;refine ct ⟨⟨_,(H.pm 29 [7,0,1,2,3,4,5,6,8,9,10,11,12,13,14,15,16,17,18,19,20,21,22,23,24,25,26,27,28] rfl:)⟩,?_⟩
 refine m_heavy rfl rfl ?_
 refine s_build1 wkP F rfl rfl rfl agg110 elem65 rfl rfl (H.rcLen 0 rfl) (by decide) H fun b125 w a H F=>?_
 replace H:=H.blkOw1 (R:=R_api_Seat) (x:=x123.1) (fun gg=>(gg 1 _ rfl).choose_spec)
 refine lz ?_;refine ct ⟨⟨_,(H.pm 30 [8,0,1,2,3,4,5,6,7,9,10,11,12,13,14,15,16,17,18,19,20,21,22,23,24,25,26,27,28,29] rfl:)⟩,?_⟩
 refine m_heavy rfl rfl ?_
 replace H:=H.frz 0 rfl
 obtain ⟨x127,ex127,hm⟩:=ob hm
 refine s_app wkP F rfl rfl rfl rfl rfl rfl elem65 rfl ex127 H 9 0 rfl rfl fun p126 c126 w a H F=>?_
 refine lz ?_;refine ct ⟨⟨_,(H.pm 30 [8,0,1,2,3,4,5,6,7,9,10,11,12,13,14,15,16,17,18,19,20,21,22,23,24,25,26,27,28,29] rfl:)⟩,?_⟩
 refine mbk [2] F H rfl ⟨fld67_1,trivial⟩ fun a F=>m_last rfl rfl (s_st1 wkP F rfl rfl zero65 rfl rfl rfl rfl rfl H 8 rfl rfl fun w H=>?_)
 refine lz ?_;refine ct ?_
 refine m_nil (bn (ct (rl (bb [0,0] F H rfl fun a F=>?_))))
 replace H:=H.nf 30 rfl
 refine lz (ct ?_);cases hm
 exact ⟨_,rfl,⟨p126,c126,F.sl rfl,(H.pm 30 [2,8,9,10,11,12,13,14,15,16,17,18,19,20,21,22,23,24,25,26,27,28,29] rfl:)⟩⟩
 refine ex (cx (cx ?_));cases hm;refine ⟨_,rfl,?_⟩;rintro rfl
 refine ch (ct ?_)
 exact ⟨p117,c117,F.sl rfl,(H.pm 23 [0,1,2,4,5,6,7,8,9,10,11,12,13,14,15,16,17,18,19,20,21,22] rfl:)⟩
 refine ct (sq (sr (bk [0,1999] F H rfl ⟨rfl,(aggn agg67 rfl),trivial⟩ fun a F=>?_)))
 replace H:=H.frz 8 rfl
 replace H:=H.frz 3 rfl
 replace H:=H.mkRc (R:=R_api_Whole) (cs:=[.slice p20 (x19.1).length c20,.slice none (([]:List T_api_Snap)).length 0,.slice p93 (r92.2).length c93]) (x:=((x19.1,([]:List T_api_Snap)),r92.2)) (fun gg=>⟨[Value.slice p20 (x19.1).length c20,.slice none (([]:List T_api_Snap)).length 0],_,rfl,⟨[Value.slice p20 (x19.1).length c20],_,rfl,⟨_,_,rfl,(gg 4 _ rfl).choose_spec⟩,⟨_,_,rfl,(gg 1 _ rfl).choose_spec⟩⟩,⟨_,_,rfl,(gg 0 _ rfl).choose_spec⟩⟩)
 obtain ⟨x128,ex128,hm⟩:=ob hm
 refine sd F rfl ent52 (w_tCheck ex128 (H.pm 23 [0,0,1,2,3,4,5,6,7,8,9,10,11,12,13,14,15,16,17,18,19,20,21,22] rfl:):) ?_;rintro _ w a ⟨rfl,H⟩ F
 refine bb [0] F H rfl fun a F=>?_
 obtain ⟨x129,ex129,hm⟩:=ob hm
 refine sd F rfl ent51 (w_ldAsk ex129 (H.pm 23 [3,0,1,2,4,5,6,7,8,9,10,11,12,13,14,15,16,17,18,19,20,21,22] rfl:):) ?_;rintro _ w a ⟨rfl,H⟩ F
 refine bb [0] F H rfl fun a F=>?_
 replace H:=H.nf 23 rfl
 refine nl (cB F rfl (fun hg130=>?_) (fun hg130=>?_))
 replace hm:=ifT hg130 hm
 cases hm
 replace hm:=ifF (nT hg130) hm
 refine sk (ct (sq (mix_regionK [2,3] [] (scL [1000,1,2002,2003,4]) [4] H rfl rfl (by kernel_rfl) (by kernel_rfl) fun w H=>?_)))
 refine mbk [11999] F H rfl ⟨rfl,(aggn agg31 (by simp only [List.length_append,List.length_cons,List.length_nil,icells_length,bcells_length,hl15,hl16,hl17,hl18,H.rcLen 6 rfl]<;>rfl)),trivial⟩ fun a F=>?_
 refine m_pure F rfl rfl rfl rfl (fun u hu=>y_loadA F agg67 rfl rfl ((hu.choose_spec.blk 0 rfl).row) rfl) fun a F=>?_
 refine m_heavy rfl rfl ?_
 refine s_storeA wkP F rfl rfl agg31 rfl rfl rfl H 17 rfl (by simp only [List.length_append,List.length_cons,List.length_nil,icells_length,bcells_length,hl15,hl16,hl17,hl18,H.rcLen 6 rfl]<;>rfl) (by simp only [List.length_append,List.length_cons,List.length_nil,icells_length,bcells_length,(List.length_replicate (n:=32)),(List.length_replicate (n:=32)),(List.length_replicate (n:=32)),(List.length_replicate (n:=32))]) (flA (fl rfl) (flA (bcells_flat _) (flA (bcells_flat _) (flA (bcells_flat _) (flA (bcells_flat _) (H.rcFlat 6 rfl)))))) fun w H=>?_
 refine lz ?_;refine ct ⟨⟨_,(H.pm 23 [4,0,1,2,3,5,6,7,8,9,10,11,12,13,14,15,16,17,18,19,20,21,22] rfl:)⟩,?_⟩
 refine m_heavy rfl rfl (s_storeA wkP F rfl rfl agg67 rfl rfl rfl H 13 rfl rfl rfl (fl rfl) fun w H=>?_)
 refine lz ?_;refine ct ⟨⟨_,(H.pm 23 [4,0,1,2,3,5,6,7,8,9,10,11,12,13,14,15,16,17,18,19,20,21,22] rfl:)⟩,?_⟩
 refine mb [0] F H rfl fun a F=>m_nil (ct (wr ?_))
 replace H:=H.mkRc (R:=R_api_Record) (cs:=[Value.int .u64 (x8.1.1),Value.int .u64 (x8.1.2.1)]++(bcells x8.1.2.2.1++(bcells x8.1.2.2.2.1++(bcells x8.1.2.2.2.2.1++(bcells x8.1.2.2.2.2.2.1++(v14)))))) (x:=(x8.1.1,x8.1.2.1,x8.1.2.2.1,x8.1.2.2.2.1,x8.1.2.2.2.2.1,x8.1.2.2.2.2.2.1,x8.1.2.2.2.2.2.2)) (fun gg=>⟨[Value.int .u64 (x8.1.1)],_,rfl,rfl,⟨[Value.int .u64 (x8.1.2.1)],_,rfl,rfl,⟨bcells x8.1.2.2.1,_,rfl,⟨rfl,hl15⟩,⟨bcells x8.1.2.2.2.1,_,rfl,⟨rfl,hl16⟩,⟨bcells x8.1.2.2.2.2.1,_,rfl,⟨rfl,hl17⟩,⟨bcells x8.1.2.2.2.2.2.1,_,rfl,⟨rfl,hl18⟩,(gg 6 _ rfl).choose_spec⟩⟩⟩⟩⟩⟩)
 replace H:=H.mkRc (R:=R_api_Whole) (cs:=[.slice p20 (x19.1).length c20,.slice none (([]:List T_api_Snap)).length 0,.slice p93 (r92.2).length c93]) (x:=((x19.1,([]:List T_api_Snap)),r92.2)) (fun gg=>⟨[Value.slice p20 (x19.1).length c20,.slice none (([]:List T_api_Snap)).length 0],_,rfl,⟨[Value.slice p20 (x19.1).length c20],_,rfl,⟨_,_,rfl,(gg 6 _ rfl).choose_spec⟩,⟨_,_,rfl,(gg 4 _ rfl).choose_spec⟩⟩,⟨_,_,rfl,(gg 3 _ rfl).choose_spec⟩⟩)
 cases hm
 refine x_resC3 F rfl (⟨_,rfl,agg31.run_load (H.blk 19 rfl).row (by simp only [List.length_append,List.length_cons,List.length_nil,icells_length,bcells_length,hl15,hl16,hl17,hl18,H.rcLen 8 rfl]<;>rfl)⟩) (⟨_,rfl,agg67.run_load (H.blk 15 rfl).row rfl⟩) rfl ?_
 exact ⟨_,rfl,[Value.int .u64 (x8.1.1),Value.int .u64 (x8.1.2.1)]++(bcells x8.1.2.2.1++(bcells x8.1.2.2.2.1++(bcells x8.1.2.2.2.2.1++(bcells x8.1.2.2.2.2.2.1++(v14))))),[.slice p20 (x19.1).length c20,.slice none (([]:List T_api_Snap)).length 0,.slice p93 (r92.2).length c93],rfl,(H.pm 25 [1,0] rfl:)⟩
end Go.Proofs.YtapllcabobickaaGreatDoor
