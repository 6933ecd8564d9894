/- Texts SnB, LawA, LawB, P. -/
import Derived.Test.YtnagibpmfabkjaaGreatDoorQ7
import Derived.Test.YtnagibpmfabkjaaGreatDoorQ4
import Derived.Test.YtnagibpmfabkjaaGreatDoorQ3
set_option linter.unusedSimpArgs false
set_option linter.unusedVariables false
namespace Go.Proofs.YtnagibpmfabkjaaGreatDoor
open Go.RowKit Go.Tri
set_option maxRecDepth 100000
set_option maxHeartbeats 4000000
theorem w_bsSnap {xs:List T_api_Snap} {t_:T_api_Snap} {p1:Option Addr} {c1:Nat} {cs2:List Value} {w0 w:World} {l:List HP}  {r:Int×Bool} (hm:bsSnap xs t_=some r) (H:St w0 w (HP.ow R_api_Snap 41 p1 c1 xs::HP.rc R_api_Snap cs2 t_::l)) :
  Calls Tryz.prog 70 [.slice p1 (xs).length c1,.agg cs2.toArray,.func (.func 53) #[] #[]].toArray w (fun e w'=>∃ v,e=.returned v∧v=.tuple [.int .i64 (r.1),.bool (r.2)].toArray∧St w0 w' (HP.ow R_api_Snap 41 p1 c1 xs::l)):=by
 unfold bsSnap at hm
 refine x_enter Tryz.func70 rfl rfl rfl ?_
 intro a F
 refine sr (s_boxA wkP F rfl rfl rfl rfl rfl H fun b3 w a H F=>?_)
 refine bb [0,0] F H rfl fun a F=>?_
 replace H:=H.nf 3 rfl
 refine nl (sr (bk [0,0,0] F H rfl ⟨⟨_,Tryz.underlying25⟩,trivial⟩ fun a F=>?_))
 refine nb [0,0,0] F H rfl fun a F=>nl (sq (xm0 3 [0,2,4,8] [0,1,2] F H hm rfl rfl (fun r53 z=>(9,.int .i64 (r53))::z) (fun r53 z=>z) (fun r53 hm=>?_) (fun r53 a w hm F H=>?_)))
 refine bl (xl0 3 [0,2,4,8] [0,1,2] F H hm rfl rfl (fun (s86:Int×Int) z=>(9,.int .i64 (s86.1))::(10,.int .i64 (s86.2))::z) (fun s86 z=>z) ⟨F.sl rfl,H⟩ (fun s86 a w o F H hm=>?_))
 refine sq (sb [0,0,0] F H rfl fun a F=>?_)
 refine nl (cPm F rfl hm (fun hg87 hm=>?_) (fun hg87 hm=>?_))
 refine sk (ct (xm0 3 [0,2,4,8] [0,1,2] F H hm rfl rfl (fun r95 z=>(9,.int .i64 (r95.1))::(10,.int .i64 (r95.2))::z) (fun r95 z=>z) (fun r95 hm=>?_) (fun r95 a w hm F H=>?_)))
 refine bl (sr (bk [0,0,0,2] F H rfl ⟨Tryz.underlying3,Tryz.underlying172,trivial⟩ fun a F=>?_))
 refine sv F rfl (i_shr F rfl rfl rfl (by decide)) fun a F=>bk [0,0] F H rfl ⟨Tryz.underlying172,Tryz.underlying3,trivial⟩ fun a F=>?_
 refine nl (sq ?_)
 obtain ⟨x96,ex96,hm⟩:=ob hm
 obtain ⟨b97,hp97⟩:=H.owP 1 rfl (idxO_some ex96).2
 obtain ⟨css98,H⟩:=H.oxOpen 1 rfl
 obtain ⟨cs98,hcs98,hcl98,H⟩:=H.oxEl 1 rfl (idxO_some ex96).2
 refine mix_region [6] [] (.step 0 0 (.step 0 1 (.step 0 2 (.step 0 3 (.step 1 4 (.step 1 5 (.step 2 6 (.step 0 7 .done)))))))) (fun u=>∃ ls,St w0 u (ls)) (by kernel_rfl) (by kernel_rfl) ⟨_,H.drew⟩ ?_
 replace H:=H.drew
 generalize w.drew=w at H ⊢
 refine mb [0,0,0] F H rfl fun a F=>?_
 refine m_pure F rfl rfl rfl rfl (fun u hu=>y_idxS F elem25 rfl rfl rfl hp97 ex96) fun a F=>?_
 refine m_read F rfl rfl rfl rfl (y_loadA F agg41 rfl rfl (H.oxRow 2 rfl hp97 hcs98 hcl98) (H.rcLen 0 rfl)) fun a F=>?_
 refine mbk [1999] F H rfl ⟨rfl,(aggn agg41 (H.rcLen 3 rfl)),trivial⟩ fun a F=>?_
 refine m_heavy rfl rfl ?_
 obtain ⟨x99,ex99,hm⟩:=ob hm
 refine s_call wkP F rfl rfl rfl rfl (y_callV0 F rfl rfl rfl ent53) (w_nCompare ex99 (H.pm 4 [0,3,0,1,2,3] rfl:):) ?_;rintro _ w a ⟨rfl,H⟩ F
 refine lz ?_;refine ct ⟨⟨_,H⟩,?_⟩
 refine mb [0] F H rfl fun a F=>?_
 refine m_nil ?_
 replace H:=H.oxShut 2 rfl
 refine ct (xm0 4 [0,2,4,8] [1,2,3] F H hm rfl rfl (fun r101 z=>(9,.int .i64 (r101.1))::(10,.int .i64 (r101.2))::z) (fun r101 z=>z) (fun r101 hm=>?_) (fun r101 a w hm F H=>?_))
 refine cPm F rfl hm (fun hg102 hm=>?_) (fun hg102 hm=>?_)
 refine rl (bb [0,0,0] F H rfl fun a F=>?_)
 replace H:=H.nf 4 rfl
 refine lz ?_
 cases hm
 refine ct ?_
 exact ⟨F.sl rfl,(H.pm 4 [1,2,3] rfl:)⟩
 refine rl (bb [0,0] F H rfl fun a F=>?_)
 replace H:=H.nf 4 rfl
 refine lz ?_
 cases hm
 refine ct ?_
 exact ⟨F.sl rfl,(H.pm 4 [1,2,3] rfl:)⟩
 refine bn ?_
 cases hm
 refine ct ?_
 exact ⟨F.sl rfl,H⟩
 refine ct ?_;cases hm
 exact ⟨_,rfl,⟨F.sl rfl,H⟩⟩
 refine ex (cx (cx ?_));cases hm;refine ⟨_,rfl,?_⟩;rintro rfl
 refine ch (ct ?_)
 exact ⟨F.sl rfl,H⟩
 refine ct (sq ?_)
 by_cases hg103:r53<((xs).length:Int)
 replace hm:=ifT hg103 hm
 obtain ⟨x104,ex104,hm⟩:=ob hm
 obtain ⟨b105,hp105⟩:=H.owP 1 rfl (idxO_some ex104).2
 obtain ⟨css106,H⟩:=H.oxOpen 1 rfl
 obtain ⟨cs106,hcs106,hcl106,H⟩:=H.oxEl 1 rfl (idxO_some ex104).2
 refine mix_region [11] [] (.step 0 0 (.step 0 1 (.step 0 2 (.step 0 3 (.step 0 4 (.step 0 5 (.step 0 6 (.step 0 7 (.step 0 8 (.step 1 9 (.step 1 10 (.step 2 11 (.step 0 12 (.step 0 13 (.step 0 14 (.step 0 15 .done)))))))))))))))) (fun u=>∃ ls,St w0 u (ls)) (by kernel_rfl) (by kernel_rfl) ⟨_,H.drew⟩ ?_
 replace H:=H.drew
 generalize w.drew=w at H ⊢
 refine mb (List.replicate 5 0) F H rfl fun a F=>?_
 replace F:=F.bT 39 hg103 rfl
 refine mb [0,0,0] F H rfl fun a F=>?_
 refine m_on (k:=0) F rfl rfl rfl rfl rfl rfl rfl (fun u hu=>y_idxS F elem25 rfl rfl rfl hp105 ex104) fun a F=>?_
 refine m_on1 (k:=0) F rfl rfl rfl rfl rfl rfl rfl (y_loadA F agg41 rfl rfl (H.oxRow 2 rfl hp105 hcs106 hcl106) (H.rcLen 0 rfl)) fun a F=>?_
 refine mbk [1999] F H rfl ⟨rfl,(aggn agg41 (H.rcLen 3 rfl)),trivial⟩ fun a F=>?_
 refine m_heavyOn F rfl rfl rfl rfl rfl ?_;refine g_onP F rfl rfl rfl rfl ?_
 obtain ⟨x107,ex107,hm⟩:=ob hm
 refine s_call wkP F rfl rfl rfl rfl (y_callV0 F rfl rfl rfl ent53) (w_nCompare ex107 (H.pm 4 [0,3,0,1,2,3] rfl:):) ?_;rintro _ w a ⟨rfl,H⟩ F
 refine lz ?_;refine ct ⟨⟨_,H⟩,?_⟩
 refine mb [0,0,0,0] F H rfl fun a F=>?_
 refine m_nil ?_
 replace H:=H.oxShut 2 rfl
 refine ct (wr ?_)
 cases hm
 refine x_ret2 F rfl rfl rfl ?_
 exact ⟨_,rfl,rfl,(H.pm 4 [2] rfl:)⟩
 replace hm:=ifF hg103 hm
 refine mix_region [11] [] (.step 0 0 (.step 0 1 (.step 0 2 (.step 0 3 (.step 0 4 (.step 0 5 (.step 0 6 (.step 0 7 (.step 0 8 (.step 1 9 (.step 1 10 (.step 2 11 (.step 0 12 (.step 0 13 (.step 0 14 (.step 0 15 .done)))))))))))))))) (fun u=>∃ ls,St w0 u (ls)) (by kernel_rfl) (by kernel_rfl) ⟨_,H.drew⟩ ?_
 replace H:=H.drew
 generalize w.drew=w at H ⊢
 refine mb (List.replicate 5 0) F H rfl fun a F=>?_
 replace F:=F.bF 39 hg103 rfl
 refine mb (List.replicate 11 0) F H rfl fun a F=>?_
 refine m_nil ?_
 refine ct (wr ?_)
 cases hm
 refine x_ret2 F rfl rfl rfl ?_
 exact ⟨_,rfl,rfl,(H.pm 3 [1] rfl:)⟩
section
open Go.ChangeShapes Go.WideShapes Go.ChangeAt
set_option maxHeartbeats 1000000 in
theorem ins71_end {w0 w:World} {l:List HP} {s:Value} {n:Nat} {xs:List Value} (H:St w0 w l) (i:Nat) (hi:l[i]?=some (HP.own 41 3 s n xs)) (hn:n≤1000) (bv cv:Nat) (cs:List Value) (hv:Row w bv 0 cs) (hcs:cs.length=3) (hfc:Flat cs) :
  Calls Tryz.prog 71 #[s,.int .i64 n,.slice (some ⟨bv,0,none⟩) 1 (cv+1)] w (InsSt 41 3 w0 l i n n xs cs):=by
 have hown:=H.owns i hi
 have HS:=Lib.hid (And.intro H hi)
 have hsl:∃ p cap,s=.slice p n cap∧n≤cap∧(p=none→n=0):=by
  obtain ⟨_,⟨rfl,rfl⟩ | ⟨g,cap,cur,rfl,hb,hg,hc,hm,hs,ht⟩⟩:=hown
  ·exact ⟨none,0,rfl,Nat.le_refl _,fun _=>rfl⟩
  ·exact ⟨_,_,rfl,hc,fun h=>by cases h⟩
 have hxl:=hown.1
 clear hown H hi
 obtain ⟨p,cap,rfl,hc,hp⟩:=hsl
 have HV:=Lib.hid (show Sl w (.slice (some ⟨bv,0,none⟩) 1 (cv+1)) 1 cs from .inr (.inr ⟨_,_,_,rfl,by omega,hv⟩))
 have HX:=Lib.hid hxl
 have HCS:=Lib.hid (show cs.length=1 * 3 from hcs)
 have HP:=Lib.hid hp
 have hc':(n:Int)≤(cap:Int):=by omega
 clear hxl hp hv hcs
 have hne:((n:Int)==(n:Int))=true:=by simp
 by_cases hcn:cap=n
 all_goals
  go_enter Tryz.func71,Tryz.ntmps71
  go_wp2_with ((with_reducible refine wl_appendSt elem25 rfl ?_ ?_ ?_ HS.out.1 i HS.out.2 HV.out HCS.out hfc (by unfold maxLen;omega) (by omega) ?_);exact rfl;exact rfl;exact rfl;intro v' w2 h2;have H2:=Lib.hid h2;clear h2)
  go_ret
  refine ⟨_,rfl,?_⟩
  rw [← HX.out,List.take_length,List.drop_length,List.append_nil]
  exact H2.out
set_option maxHeartbeats 2000000 in
theorem ins71_room {w0 w:World} {l:List HP} {g cap n q:Nat} {xs cur:List Value} (H:St w0 w l) (i:Nat) (hi:l[i]?=some (HP.own 41 3 (.slice (some ⟨g,0,none⟩) n cap) n xs)) (hb:Blk w g cur 41) (hcur:cur.length=cap * 3) (hxs:cur.take (n * 3)=xs) (hfx:Flat xs) (hm:cap≤maxLen) (hn:n≤1000) (hq:q<n) (hroom:n+1≤cap)
  (bv cv:Nat) (cs cb:List Value) (hv:Blk w bv cb 41) (hvr:Row w bv 0 cs) (hcs:cs.length=3) (hfc:Flat cs) (hcn:cb≠[]) (hne:bv≠g) :
  Calls Tryz.prog 71 #[.slice (some ⟨g,0,none⟩) n cap,.int .i64 q,.slice (some ⟨bv,0,none⟩) 1 (cv+1)] w (InsSt 41 3 w0 l i n q xs cs):=by
 have HS:=Lib.hid (And.intro H hi)
 have HB:=Lib.hid hb;have HC:=Lib.hid hcur;have HXS:=Lib.hid hxs;have HV:=Lib.hid hv;have HVR:=Lib.hid hvr;have HCS:=Lib.hid hcs;have HM:=Lib.hid hm;have HCN:=Lib.hid hcn
 clear hb hcur hxs hv hvr hcs hm hcn H hi
 have e1:((q:Int)==(n:Int))=false:=by simp;omega
 have e2:decide ((cap:Int)<(n:Int)+1)=false:=by simp;omega
 have hci:¬ cap=q:=by omega
 have hci1:¬ cap=q+1:=by omega
 have hic:(q:Int)≤(n:Int):=by omega
 have hnc:(n:Int)+1≤(cap:Int):=by omega
 go_enter Tryz.func71,Tryz.ntmps71
 go_wp2
 have hun:cur≠[]:=fun h=>by have:=HC.out;rw [h] at this;simp at this;omega
 rw [run_callFunc_extern Tryz.func110 (by kernel_rfl) (by kernel_rfl) (by kernel_rfl) (e:=Extern.SlicesOverlaps.overlaps #[25,25] #[4]) (by kernel_rfl),
  run_overlaps elem25 HV.out HB.out hne HCN.out hun 4]
 clear hun
 simp only [Result.andThen]
 rw [Oper.upon_value]
 go_wp2
 refine wp_region_quiet_tail 8 (by kernel_rfl) (by kernel_rfl) ?_
 simp only [List.take_succ_cons,List.take_zero,List.drop_succ_cons,List.drop_zero]
 repeat (go_big_quiet_step (fail))
 refine wpQuiet_nil ?_
 intro _ hw'
 obtain ⟨nq,hw''⟩:=hw'
 subst hw''
 have HB1:=Lib.hid (show Blk (w.drewN nq) g cur 41 from HB.out)
 have HV1:=Lib.hid (show Row (w.drewN nq) bv 0 cs from HVR.out)
 have HG:=Lib.hid (Chg.drewN g w nq)
 generalize w.drewN nq=w1 at *
 have hl1:xs.length=n * 3:=by rw [← HXS.out,List.length_take,HC.out];omega
 have hdl:(xs.drop (q * 3)).length=(n - q) * 3:=by rw [List.length_drop,hl1,Nat.sub_mul]
 have hrow:Row w1 g (q * 3) (xs.drop (q * 3)):=by
  have h0:Row w1 g 0 (xs.take (q * 3)++xs.drop (q * 3)):=by
   rw [List.take_append_drop,← HXS.out]
   have:=HB1.out.row
   rw [← List.take_append_drop (n * 3) cur] at this
   exact this.left
  have h1:=h0.right
  rw [List.length_take,hl1,Nat.min_eq_left (Nat.mul_le_mul_right 3 (by omega)),Nat.zero_add] at h1
  exact h1
 have HL1:=Lib.hid hl1;have HDL:=Lib.hid hdl;have HROW:=Lib.hid hrow
 clear hl1 hdl hrow
 have HSP:=Lib.hid (splice_room cur xs cs (q * 3) (n * 3) 3 HXS.out (by rw [HC.out];omega) (by omega) HCS.out)
 refine wl_copy elem25 rfl rfl rfl rfl HB1.out HROW.out ?_ ?_ ?_ ?_
 ·rw [HDL.out];congr 1;exact (Nat.min_eq_right (by omega)).symm
 ·rw [HDL.out,HC.out,← Nat.add_mul];exact Nat.mul_le_mul_right 3 (by omega)
 ·exact fun v hv=>hfx v (List.mem_of_mem_drop hv)
 intro w2 hb2 hc2
 rw [show (q+1) * 3=q * 3+3 by omega] at hb2
 obtain ⟨C1,hC1⟩:∃ C1,C1=cur.take (q * 3+3)++xs.drop (q * 3)++cur.drop (q * 3+3+(xs.drop (q * 3)).length):=⟨_,rfl⟩
 rw [← hC1] at hb2
 have hsp:=HSP.out
 simp only [← hC1] at hsp
 have H2:=Lib.hid (And.intro hb2 (And.intro hc2 (HV1.out.chg hc2 hne)))
 have HSP2:=Lib.hid hsp
 have HN2:=Lib.hid (show cs.length=Nat.min 1 (n+1 - q) * 3 by rw [HCS.out,show Nat.min 1 (n+1 - q)=1 from Nat.min_eq_left (by omega)])
 have HF2:=Lib.hid (show q * 3+cs.length≤C1.length by rw [hsp.1,HC.out,HCS.out];omega)
 clear hb2 hc2 hsp hC1
 go_wp2_with ((with_reducible refine wl_copy (dCap:=cap - q) (sCap:=cv+1) elem25 rfl ?_ ?_ ?_ H2.out.1 H2.out.2.2 HN2.out HF2.out hfc ?_);exact rfl;exact rfl;exact rfl;intro w3 hb3 hc3;have H3:=Lib.hid (And.intro hb3 hc3);clear hb3 hc3)
 go_ret
 refine ⟨_,rfl,HS.out.1.chg i HS.out.2 (g:=g) (fun S hA=>hA.2 g rfl) ((HG.out.trans H2.out.2.1).trans H3.out.2) fun S hA=>⟨⟨?_,.inr ⟨g,cap,_,rfl,Nat.zero_le _,H3.out.1,hroom,HM.out,?_,?_⟩⟩,hA.2⟩⟩
 ·simp only [List.length_append,List.length_take,List.length_drop,HL1.out,HCS.out];omega
 ·rw [List.size_toArray,HSP2.out.2.1,HC.out]
 ·rw [show (n+1) * 3=n * 3+3 by omega];exact HSP2.out.2.2
set_option maxHeartbeats 2000000 in
theorem ins71_grow {w0 w:World} {l:List HP} {g cap q:Nat} {xs:List Value} (H:St w0 w l) (i:Nat) (hi:l[i]?=some (HP.own 41 3 (.slice (some ⟨g,0,none⟩) cap cap) cap xs)) (hrx:Row w g 0 xs) (hxl:xs.length=cap * 3) (hfx:Flat xs) (hgw:g<w.heap.size) (hn:cap≤1000) (hq:q<cap)
    (bv cv:Nat) (cs:List Value) (hv:Row w bv 0 cs) (hcs:cs.length=3) (hfc:Flat cs) (hvw:bv<w.heap.size) :
    Calls Tryz.prog 71 #[.slice (some ⟨g,0,none⟩) cap cap,.int .i64 q,.slice (some ⟨bv,0,none⟩) 1 (cv+1)] w (InsSt 41 3 w0 l i cap q xs cs):=by
  have HS:=Lib.hid (And.intro H hi)
  have hd0:Row w g 0 (xs.take (q * 3)):=by
    have:=hrx;rw [← List.take_append_drop (q * 3) xs] at this;exact this.left
  have hd1:Row w g (q * 3) (xs.drop (q * 3)):=by
    have:=hrx;rw [← List.take_append_drop (q * 3) xs] at this
    have h1:=this.right
    rw [List.length_take,hxl,Nat.min_eq_left (Nat.mul_le_mul_right 3 (by omega)),Nat.zero_add] at h1
    exact h1
  have HD0:=Lib.hid hd0;have HD1:=Lib.hid hd1;have HXL:=Lib.hid hxl;have HV:=Lib.hid hv;have HCS:=Lib.hid hcs
  have HLO:=Lib.hid (show (xs.take (q * 3)).length=q * 3 by rw [List.length_take,hxl];exact Nat.min_eq_left (Nat.mul_le_mul_right 3 (by omega)))
  have HDL:=Lib.hid (show (xs.drop (q * 3)).length=(cap - q) * 3 by rw [List.length_drop,hxl,Nat.sub_mul])
  clear hd0 hd1 hxl hv hcs hrx H hi
  have e1:((q:Int)==(cap:Int))=false:=by simp;omega
  have e2:decide ((cap:Int)<(cap:Int)+1)=true:=by simp;omega
  have hci:¬ cap=q:=by omega
  have hc0:¬ cap=0:=by omega
  have hic:(q:Int)≤(cap:Int):=by omega
  go_enter Tryz.func71,Tryz.ntmps71
  go_wp2_with (first
    | ((with_reducible refine wl_appendZeros (n:=q) (cap:=cap) (k:=cap+1 - q) (m:=cap+1) (kk:=(cap:Int)+1 - (q:Int)) elem25 Tryz.underlying3 rfl ?_ (by omega) (by omega) ?_ ?_ HD0.out HLO.out (by omega) (by omega) (by unfold maxLen;omega) (by omega) ?_);exact rfl;exact rfl;exact rfl;intro c rs hc1 hc2 hc3;have hci2:¬ c=q:=(by omega);have hci3:¬ c=q+1:=(by omega);have hcc:(q:Int)≤(c:Int):=(by omega);
        have HC:=Lib.hid (And.intro hc2 (splice_grow xs cs rs (q * 3) (cap * 3) 3 (c * 3) HXL.out (by omega) (by omega) HCS.out hc3));
        have HB0:=Lib.hid (show Blk ((w.alloc (.cells (xs.take (q * 3)++rs).toArray 41)).drew) w.heap.size (xs.take (q * 3)++rs) 41 from Blk.new w _ _);
        have HVR:=Lib.hid (show Row ((w.alloc (.cells (xs.take (q * 3)++rs).toArray 41)).drew) bv 0 cs from HV.out.alloc _);
        have HGR:=Lib.hid (show Row ((w.alloc (.cells (xs.take (q * 3)++rs).toArray 41)).drew) g (q * 3) (xs.drop (q * 3)) from HD1.out.alloc _);
        have HBL:=Lib.hid (show Below w.heap.size w ((w.alloc (.cells (xs.take (q * 3)++rs).toArray 41)).drew) from ((Below.refl _ _).alloc (Nat.le_refl _) _).drew);
        have HN2:=Lib.hid (show cs.length=Nat.min 1 (cap+1 - q) * 3 by rw [HCS.out,show Nat.min 1 (cap+1 - q)=1 from Nat.min_eq_left (by omega)]);
        have HF2:=Lib.hid (show q * 3+cs.length≤(xs.take (q * 3)++rs).length by rw [HC.out.2.1,HCS.out];omega);
        clear hc2 hc3)
    | ((with_reducible refine wl_copy (dCap:=c - q) (sCap:=cv+1) elem25 rfl ?_ ?_ ?_ HB0.out HVR.out HN2.out HF2.out hfc ?_);exact rfl;exact rfl;exact rfl;intro w2 hb2 hc2;have H2:=Lib.hid (And.intro hb2 (And.intro (HGR.out.chg hc2 (by omega)) (HBL.out.chg hc2 (Nat.le_refl _))));clear hb2 hc2))
  refine wp_region_quiet_tail 8 (by kernel_rfl) (by kernel_rfl) ?_
  simp only [List.take_succ_cons,List.take_zero,List.drop_succ_cons,List.drop_zero]
  repeat (go_big_quiet_step (fail))
  refine wpQuiet_nil ?_
  intro _ hw'
  obtain ⟨nq,hw''⟩:=hw'
  subst hw''
  refine wl_copy elem25 rfl rfl rfl rfl (show Blk (w2.drewN nq) _ _ _ from H2.out.1) (show Row (w2.drewN nq) _ _ _ from H2.out.2.1) ?_ ?_ ?_ ?_
  · rw [HDL.out];congr 1;exact (Nat.min_eq_left (by omega)).symm
  · rw [HC.out.2.2.1,HDL.out,← Nat.add_mul];exact Nat.mul_le_mul_right 3 (by omega)
  · exact fun v hv=>hfx v (List.mem_of_mem_drop hv)
  intro w3 hb3 hc3
  rw [show (q+1) * 3=q * 3+3 by omega] at hb3
  have H3:=Lib.hid (And.intro hb3 ((H2.out.2.2.drewN nq).chg hc3 (Nat.le_refl _)))
  clear hb3 hc3
  go_wp2
  go_ret
  have hlt:=H3.out.1.lt
  refine ⟨_,rfl,HS.out.1.upd i HS.out.2 (fun S hA hS=>⟨fun b=>b=w.heap.size,⟨⟨?_,.inr ⟨w.heap.size,c,_,rfl,Nat.zero_le _,H3.out.1,by omega,HC.out.1,?_,?_⟩⟩,fun b hb=>by simp [Value.ownBlock] at hb;exact hb.symm⟩,fun b hb=>.inr (by omega),fun b hb=>by rw [hb];exact hlt,fun b hb _=>H3.out.2.block b hb⟩) H3.out.2.os H3.out.2.tape H3.out.2.output H3.out.2.size⟩
  · simp only [List.length_append,HLO.out,HDL.out,HCS.out];omega
  · rw [List.size_toArray,HC.out.2.2.2.1]
  · rw [show (cap+1) * 3=cap * 3+3 by omega];exact HC.out.2.2.2.2
end
theorem w_insSnap {s:List T_api_Snap} {i_:Int} {v:List T_api_Snap} {p1:Option Addr} {c1:Nat} {p2:Option Addr} {c2:Nat} {w0 w:World} {l:List HP}  {r:(List T_api_Snap)} (hm:insSnap s i_ v=some r) (H:St w0 w (HP.ow R_api_Snap 41 p1 c1 s::HP.ow R_api_Snap 41 p2 c2 v::l)) :
  Calls Tryz.prog 71 [.slice p1 (s).length c1,.int .i64 (i_),.slice p2 (v).length c2].toArray w (fun e w'=>∃ v,e=.returned v∧∃ (p3:Option Addr) (c3:Nat),v=.slice p3 (r).length c3∧St w0 w' (HP.ow R_api_Snap 41 p3 c3 r::l)):=by
 unfold insSnap at hm
 exact ins_st (k:=3) rfl (by decide) ins71_end ins71_room ins71_grow hm H
section
open Go.ChangeShapes Go.WideShapes Go.ChangeAt
set_option maxHeartbeats 2000000 in
theorem del72 {w0 w:World} {l:List HP} {g cap q r:Nat} {xs cur:List Value} (H:St w0 w l) (i:Nat) (hi:l[i]?=some (HP.own 41 3 (.slice (some ⟨g,0,none⟩) (q+1+r) cap) (q+1+r) xs)) (hb:Blk w g cur 41) (hcur:cur.length=cap * 3) (hxs:cur.take ((q+1+r) * 3)=xs) (hfx:Flat xs) (hm:cap≤maxLen) (hnc:q+1+r≤cap) :
  Calls Tryz.prog 72 #[.slice (some ⟨g,0,none⟩) (q+1+r) cap,.int .i64 (q:Int),.int .i64 ((q+1:Nat):Int)] w (DelSt 41 3 w0 l i g cap q r xs):=by
 have HS:=Lib.hid (And.intro H hi)
 have HB:=Lib.hid hb;have HC:=Lib.hid hcur;have HXS:=Lib.hid hxs;have HM:=Lib.hid hm
 clear hb hcur hxs hm H hi
 have e1:((q:Int)==((q+1:Nat):Int))=false:=by simp;omega
 have h1:(q:Int)≤((q+1:Nat):Int):=by omega
 have h2:((q+1:Nat):Int)≤((q+1+r:Nat):Int):=by omega
 have h3:((q+1+r:Nat):Int)≤(cap:Int):=by omega
 have hcq:¬ cap=q:=by omega
 have hcr:¬ cap=q+r:=by omega
 by_cases hcj:cap=q+1
 all_goals
  go_enter Tryz.func72,Tryz.ntmps72
  go_wp2
  refine wp_region_quiet_tail 6 (by kernel_rfl) (by kernel_rfl) ?_
  simp only [List.take_succ_cons,List.take_zero,List.drop_succ_cons,List.drop_zero]
  repeat (go_big_quiet_step (fail))
  refine wpQuiet_nil ?_
  intro _ hw'
  obtain ⟨nq,hw''⟩:=hw'
  subst hw''
  have HB1:=Lib.hid (show Blk (w.drewN nq) g cur 41 from HB.out)
  have HG:=Lib.hid (Chg.drewN g w nq)
  generalize w.drewN nq=w1 at *
  have hl1:xs.length=(q+1+r) * 3:=by rw [← HXS.out,List.length_take,HC.out];omega
  have HL1:=Lib.hid hl1
  have hdl:(xs.drop ((q+1) * 3)).length=r * 3:=by rw [List.length_drop,hl1];omega
  have hrow:Row w1 g ((q+1) * 3) (xs.drop ((q+1) * 3)):=by
   have h0:Row w1 g 0 (xs.take ((q+1) * 3)++xs.drop ((q+1) * 3)):=by
    rw [List.take_append_drop,← HXS.out]
    have:=HB1.out.row
    rw [← List.take_append_drop ((q+1+r) * 3) cur] at this
    exact this.left
   have h1:=h0.right
   rw [List.length_take,hl1,Nat.min_eq_left (Nat.mul_le_mul_right 3 (by omega)),Nat.zero_add] at h1
   exact h1
  have HDL:=Lib.hid hdl;have HROW:=Lib.hid hrow
  clear hl1 hdl hrow
  refine wl_appendR (m:=r) (news:=xs.drop ((q+1) * 3)) elem25 rfl rfl rfl rfl HB1.out ?_ HDL.out (fun v hv=>hfx v (List.mem_of_mem_drop hv)) (by omega) (by rw [HDL.out,HC.out];omega) ?_
  ·first
    | exact HROW.out
    | (rw [List.eq_nil_of_length_eq_zero (l:=xs.drop ((q+1) * 3)) (by rw [HDL.out];omega)];exact fun j v h=>by simp at h)
  intro w2 hb2 hc2
  rw [HDL.out] at hb2
  obtain ⟨C1,hC1⟩:∃ C1,C1=cur.take (q * 3)++xs.drop ((q+1) * 3)++cur.drop (q * 3+r * 3):=⟨_,rfl⟩
  rw [← hC1] at hb2
  have hC1l:C1.length=cap * 3:=by rw [hC1];simp only [List.length_append,List.length_take,List.length_drop,HL1.out,HC.out];omega
  have H2:=Lib.hid (And.intro hb2 hc2);have HC1:=Lib.hid hC1;have HC1L:=Lib.hid hC1l
  clear hb2 hc2 hC1 hC1l
  have h5:(q:Int)+(r:Int)≤(q:Int)+1+(r:Int):=by omega
  have h6:(q:Int)+1+(r:Int)≤(cap:Int):=by omega
  go_wp2
  obtain ⟨zs,hzl,hrun⟩:=run_clearR (P:=Tryz.prog) (off:=(q+r) * 3) (n:=q+1+r - (q+r)) elem25 H2.out.1 (by omega) (fun v hv=>by simp [Value.cells] at hv;rcases hv with rfl | hv<;>(try (rcases hv with rfl | hv))<;>(try subst hv)<;>rfl) (by rw [HC1L.out];omega)
  have hzk:zs.length=3:=by rw [hzl];omega
  have HB3:=H2.out.1.set_same (C1.take ((q+r) * 3)++zs++C1.drop ((q+r) * 3+zs.length))
  have HG3:=Chg.setRow w2 g (C1.take ((q+r) * 3)++zs++C1.drop ((q+r) * 3+zs.length)).toArray
  have HCR:=cut_room cur xs zs (q * 3) (r * 3) 3 (by rw [← HXS.out];congr 1;omega) (by rw [HC.out];omega) hzk C1 _ (by rw [HC1.out,show (q+1) * 3=q * 3+3 by omega]) rfl
  rw [show q * 3+r * 3=(q+r) * 3 by omega] at HCR
  have HR3:=Lib.hid hrun;have HBG:=Lib.hid (And.intro HB3 (And.intro HG3 HCR))
  clear hzl hzk HB3 HG3 HCR hrun
  rw [HR3.out]
  simp only [Result.andThen]
  rw [Oper.upon_value]
  generalize w2.setRow g (C1.take ((q+r) * 3)++zs++C1.drop ((q+r) * 3+zs.length)).toArray=w3 at *
  go_wp2
  go_ret
  try subst hcj
  refine ⟨rfl,HS.out.1.chg i HS.out.2 (g:=g) (fun S hA=>hA.2 g rfl) ((HG.out.trans H2.out.2).trans HBG.out.2.1) fun S hA=>⟨⟨?_,.inr ⟨g,_,_,rfl,Nat.zero_le _,HBG.out.1,by omega,HM.out,?_,?_⟩⟩,hA.2⟩⟩
  ·simp only [List.length_append,List.length_take,HDL.out,HL1.out];omega
  ·rw [List.size_toArray,HBG.out.2.2.2.1,HC.out]
  ·rw [show (q+1) * 3=q * 3+3 by omega];exact HBG.out.2.2.2.2
end
theorem w_delSnap {s:List T_api_Snap} {i_:Int} {j_:Int} {p1:Option Addr} {c1:Nat} {w0 w:World} {l:List HP}  {r:(List T_api_Snap)} (hm:delSnap s i_ j_=some r) (H:St w0 w (HP.ow R_api_Snap 41 p1 c1 s::l)) :
  Calls Tryz.prog 72 [.slice p1 (s).length c1,.int .i64 (i_),.int .i64 (j_)].toArray w (fun e w'=>∃ v,e=.returned v∧∃ (p2:Option Addr) (c2:Nat),v=.slice p2 (r).length c2∧St w0 w' (HP.ow R_api_Snap 41 p2 c2 r::l)):=by
 unfold delSnap at hm
 exact del_st (k:=3) rfl (by decide) del72 hm H
theorem ent70:En Tryz.prog 70:=enters Tryz.func70 (by kernel_rfl) rfl
theorem ent71:En Tryz.prog 71:=enters Tryz.func71 (by kernel_rfl) rfl
theorem ent72:En Tryz.prog 72:=enters Tryz.func72 (by kernel_rfl) rfl
theorem w_nSnap {s:T_api_State_o} {o:T_api_Op} {gen:Int} {bo0:Nat} {cs1:List Value} {w0 w:World} {l:List HP}  {r:Int×T_api_State_o} (hm:nSnap s o gen=some r) (H:St w0 w (O_api_State bo0 s::HP.rc R_api_Op cs1 o::l)) :
  Calls Tryz.prog 44 [.pointer (some ⟨bo0,0,none⟩),.agg cs1.toArray,.int .u64 (gen)].toArray w (fun e w'=>∃ v,e=.returned v∧v=.int .i64 (r.1)∧St w0 w' (O_api_State bo0 r.2::l)):=by
 unfold nSnap at hm
 refine x_enter Tryz.func44 rfl rfl rfl ?_
 intro a F
 refine sr (s_boxA wkP F rfl rfl rfl rfl rfl H fun b2 w a H F=>?_)
 refine bb [0] F H rfl fun a F=>?_
 replace H:=H.nf 3 rfl
 refine nl (sq (sr (bk [1] F H rfl ⟨fld31_1,trivial⟩ fun a F=>?_)))
 have G:=F;replace H:=rc_api_Op (H.pk 2 rfl);obtain ⟨p3,c4,rfl,J⟩:=H;have H:=J;have F:=G;clear G J
 refine bk [1001] F H rfl ⟨rfl,plain9,trivial⟩ fun a F=>?_
 obtain ⟨x5,ex5,hm⟩:=ob hm
 refine sd F rfl ent52 (w_m_path_Name ex5 H:) ?_;rintro _ w a ⟨rfl,H⟩ F
 refine bb [0] F H rfl fun a F=>?_
 replace H:=H.nf 3 rfl
 refine nl (cB F rfl (fun hg6=>?_) (fun hg6=>?_))
 replace hm:=ifT hg6 hm
 refine sb [0] F H rfl fun a F=>nl (wr (tr ?_))
 cases hm
 refine x_ret1 F rfl rfl ?_
 exact ⟨_,rfl,rfl,(H.pm 3 [2] rfl:)⟩
 replace hm:=ifF (nT hg6) hm
 refine sk (ct (sq ?_))
 obtain ⟨p7,c8,p9,c10,H⟩:=O_api_State_o (H.pk 2 rfl)
 replace H:=H.owNil R_api_Pair 103
 refine mix_region [7] [] (.step 0 0 (.step 0 1 (.step 0 2 (.step 1 3 (.step 0 4 (.step 1 5 (.step 0 6 (.step 2 7 (.step 0 8 (.step 0 9 (.step 0 10 (.step 0 11 (.step 0 12 .done))))))))))))) (fun u=>∃ ls,St w0 u (ls)) (by kernel_rfl) (by kernel_rfl) ⟨_,H.drew⟩ ?_
 replace H:=H.drew
 generalize w.drew=w at H ⊢
 refine mbk [0,0,1,1001,1,5001] F H rfl ⟨fld27_1,rfl,plain25,fld31_1,rfl,plain9,trivial⟩ fun a F=>?_
 refine m_pure F rfl rfl rfl rfl (fun u hu=>y_build F rfl rfl (cs:=[.string (txb (o.2.1)),.int .u64 (0),.slice none (([]:List T_api_Pair)).length 0]) (by kernel_rfl)) fun a F=>?_
 refine m_heavy rfl rfl ?_
 replace H:=H.frz 0 rfl
 replace H:=H.mkRc (R:=R_api_Snap) (cs:=[.string (txb (o.2.1)),.int .u64 (0),.slice none (([]:List T_api_Pair)).length 0]) (x:=(o.2.1,0,([]:List T_api_Pair))) (fun gg=>⟨_,_,rfl,rfl,⟨_,_,rfl,rfl,⟨_,_,rfl,(gg 0 _ rfl).choose_spec⟩⟩⟩)
 obtain ⟨x11,ex11,hm⟩:=ob hm
 refine sd F rfl ent70 (w_bsSnap ex11 (H.pm 7 [4,0,0,1,2,3,5,6] rfl:):) ?_;rintro _ w a ⟨rfl,H⟩ F
 refine lz ?_;refine ct ⟨⟨_,H⟩,?_⟩
 refine mb (List.replicate 5 0) F H rfl fun a F=>?_
 refine m_nil ?_
 refine ct (sq ?_)
 replace H:=O_api_State_s (H.pm 7 [3,4,0,1,2,4,5,6] rfl:)
 refine xr0 6 [] [4,5] F H hm rfl rfl (fun r541 z=>z) (fun r541 z=>O_api_State bo0 r541::z) (fun o541 hm hm541=>?_) (fun r541 a w hm F H=>?_)
 refine bl (sr (bk [0,5000,0,0] F H rfl ⟨fld31_0,rfl,plain3,trivial⟩ fun a F=>?_))
 rcases spP 40 F rfl hm with ⟨hg542,hm,F⟩ | ⟨hg542,hm,F⟩
 refine bb [0,0,0] F H rfl fun a F=>?_
 replace H:=H.nf 6 rfl
 refine nl (xr0 6 [] [4,5] F H hm rfl rfl (fun r719 z=>z) (fun r719 z=>O_api_State bo0 r719::z) (fun o719 hm hm719=>?_) (fun r719 a w hm F H=>?_))
 refine cB F rfl (fun hg720=>?_) (fun hg720=>?_)
 replace hm:=ifT hg720 hm
 refine sb [0] F H rfl fun a F=>nl (wr (tr ?_))
 cases hm
 replace hm:=elimR hm719
 refine br (tr ?_)
 cases hm
 replace hm:=elimR hm541
 refine tr ?_
 cases hm
 refine x_ret1 F rfl rfl ?_
 exact ⟨_,rfl,rfl,(H.pm 6 [0] rfl:)⟩
 replace hm:=ifF (nT hg720) hm
 refine sr (bk [0,5000,0,0] F H rfl ⟨fld31_0,rfl,plain3,trivial⟩ fun a F=>?_)
 refine nl (xr0 6 [] [4,5] F H hm rfl rfl (fun r808 z=>z) (fun r808 z=>O_api_State bo0 r808::z) (fun o808 hm hm808=>?_) (fun r808 a w hm F H=>?_))
 refine cPm F rfl hm (fun hg809 hm=>?_) (fun hg809 hm=>?_)
 obtain ⟨p810,c811,p812,c813,H⟩:=O_api_State_o (H.pk 0 rfl)
 refine mix_region [13,15,16,19] [19] (.step 0 0 (.step 0 1 (.step 0 2 (.step 0 3 (.step 0 4 (.step 0 5 (.step 0 6 (.step 0 7 (.step 0 8 (.step 0 9 (.step 0 10 (.step 0 11 (.step 1 12 (.step 2 13 (.step 0 14 (.step 2 15 (.step 2 16 (.step 0 17 (.step 0 18 (.step 3 19 .done)))))))))))))))))))) (fun u=>∃ ls,St w0 u (HP.blk bo0 ([.slice p810 (s.1).length c811,.slice p812 (s.2).length c813]) 27::HP.blk b2 ([.int .i64 (o.1),.string (txb (o.2.1)),.string (txb (o.2.2.1)),.int .i64 (o.2.2.2.1),.int .i64 (o.2.2.2.2.1),.slice p3 (o.2.2.2.2.2).length c4]) 31::ls)) (by kernel_rfl) (by kernel_rfl) ⟨_,(H.drew.pm 8 [0,7,1,2,3,4,5,6] rfl:)⟩ ?_
 replace H:=H.drew
 generalize w.drew=w at H ⊢
 refine mbk [0,0,0,1] F H rfl ⟨fld27_1,trivial⟩ fun a F=>?_
 refine m_pure F rfl rfl rfl rfl (fun u hu=>y_load1 F plain25 rfl rfl (row_at (v:=.slice p812 (s.2).length c813) ((hu.choose_spec.blk 0 rfl).row) rfl)) fun a F=>?_
 refine mbk [0,1] F H rfl ⟨fld31_1,trivial⟩ fun a F=>?_
 refine m_pure F rfl rfl rfl rfl (fun u hu=>y_load1 F plain9 rfl rfl (row_at (v:=.string (txb (o.2.1))) ((hu.choose_spec.blk 1 rfl).row) rfl)) fun a F=>?_
 refine mbk (List.replicate 5 0) F H rfl ⟨fld27_0,rfl,plain24,trivial⟩ fun a F=>?_
 refine m_heavy rfl rfl ?_
 obtain ⟨x814,ex814,hm⟩:=ob hm
 refine sd F rfl ent69 (w_nPairs ex814 (H.pm 8 [1,0,1,2,3,4,5,6,7] rfl:):) ?_;rintro _ w a ⟨p815,c815,rfl,H⟩ F
 refine lz ?_;refine ct ⟨⟨_,(H.pm 9 [1,8,0,2,3,4,5,6,7] rfl:)⟩,?_⟩
 refine m_pure F rfl rfl rfl rfl (fun u hu=>y_build F rfl rfl (cs:=[.string (txb (o.2.1)),.int .u64 (gen),.slice p815 (x814).length c815]) (by kernel_rfl)) fun a F=>?_
 refine m_heavy rfl rfl ?_
 replace H:=H.frz 0 rfl
 refine s_build1 wkP F rfl rfl rfl agg41 elem25 rfl rfl rfl (by decide) H fun b816 w a H F=>?_
 replace H:=H.blkOw1 (R:=R_api_Snap) (x:=(o.2.1,gen,x814)) (fun gg=>⟨_,_,rfl,rfl,⟨_,_,rfl,rfl,⟨_,_,rfl,(gg 1 _ rfl).choose_spec⟩⟩⟩)
 refine lz ?_;refine ct ⟨⟨_,(H.pm 10 [2,9,0,1,3,4,5,6,7,8] rfl:)⟩,?_⟩
 refine m_heavy rfl rfl ?_
 obtain ⟨x817,ex817,hm⟩:=ob hm
 refine sd F rfl ent71 (w_insSnap ex817 (H.pm 10 [4,0,1,2,3,5,6,7,8,9] rfl:):) ?_;rintro _ w a ⟨p818,c818,rfl,H⟩ F
 refine lz ?_;refine ct ⟨⟨_,(H.pm 9 [2,8,0,1,3,4,5,6,7] rfl:)⟩,?_⟩
 refine mbk [0,1] F H rfl ⟨fld27_1,trivial⟩ fun a F=>?_
 refine m_last rfl rfl ?_
 refine s_st1 wkP F rfl rfl zero25 rfl rfl rfl rfl rfl H 2 rfl rfl fun w H=>?_
 refine lz ?_;refine ct ?_
 refine m_nil ?_
 replace H:=O_api_State_s (H.pm 9 [2,3,0,1,3,4,5,6,7,8] rfl:)
 cases hm
 refine ct ?_
 exact ⟨_,rfl,F.cut _ trivial,(H.pm 8 [0,6,7] rfl:)⟩
 refine sb [0,0,0] F H rfl fun a F=>nl (xr0 6 [] [4,5] F H hm rfl rfl (fun r857 z=>z) (fun r857 z=>O_api_State bo0 r857::z) (fun o857 hm hm857=>?_) (fun r857 a w hm F H=>?_))
 refine cB F rfl (fun hg858=>?_) (fun hg858=>?_)
 replace hm:=ifT hg858 hm
 refine sb [0] F H rfl fun a F=>nl (wr (tr ?_))
 cases hm
 replace hm:=elimR hm857
 refine tr ?_
 cases hm
 replace hm:=elimR hm808
 refine tr ?_
 cases hm
 replace hm:=elimR hm719
 refine br (tr ?_)
 cases hm
 replace hm:=elimR hm541
 refine tr ?_
 cases hm
 refine x_ret1 F rfl rfl ?_
 exact ⟨_,rfl,rfl,(H.pm 6 [0] rfl:)⟩
 replace hm:=ifF (nT hg858) hm
 refine sr (bk [0,5000,0,0] F H rfl ⟨fld31_0,rfl,plain3,trivial⟩ fun a F=>?_)
 refine nl (xm0 6 [] [4,5] F H hm rfl rfl (fun r877 z=>z) (fun r877 z=>O_api_State bo0 r877::z) (fun r877 hm=>?_) (fun r877 a w hm F H=>?_))
 refine cPm F rfl hm (fun hg878 hm=>?_) (fun hg878 hm=>?_)
 refine rl (bk [0,0,0,1] F H rfl ⟨fld27_1,trivial⟩ fun a F=>?_)
 obtain ⟨p879,c880,p881,c882,H⟩:=O_api_State_o (H.pk 0 rfl)
 refine bk [1,0,0,0] F H rfl ⟨rfl,plain25,trivial⟩ fun a F=>?_
 obtain ⟨x883,ex883,hm⟩:=ob hm
 refine sd F rfl ent72 (w_delSnap ex883 (H.pm 8 [2,0,1,3,4,5,6,7] rfl:):) ?_;rintro _ w a ⟨p884,c884,rfl,H⟩ F
 refine bk [0,1] F H rfl ⟨fld27_1,trivial⟩ fun a F=>?_
 refine s_st1 wkP F rfl rfl zero25 rfl rfl rfl rfl rfl H 1 rfl rfl fun w H=>?_
 replace H:=H.nf 8 rfl
 refine lz ?_
 replace H:=O_api_State_s (H.pm 8 [1,2,0,2,3,4,5,6,7] rfl:)
 cases hm
 refine ct ?_
 exact ⟨F.cut _ trivial,(H.pm 7 [0,5,6] rfl:)⟩
 refine rl (bk [0,0,0,1] F H rfl ⟨fld27_1,trivial⟩ fun a F=>?_)
 obtain ⟨p885,c886,p887,c888,H⟩:=O_api_State_o (H.pk 0 rfl)
 refine bk [1,0] F H rfl ⟨rfl,plain25,trivial⟩ fun a F=>?_
 obtain ⟨x889,ex889,hm⟩:=ob hm
 obtain ⟨b890,hp890⟩:=H.owP 2 rfl (idxO_some ex889).2
 obtain ⟨css891,H⟩:=H.oxOpen 2 rfl
 obtain ⟨cs891,hcs891,hcl891,H⟩:=H.oxEl 2 rfl (idxO_some ex889).2
 refine sv F rfl (y_idxS F elem25 rfl rfl rfl hp890 ex889) fun a F=>bk [2] F H rfl ⟨fld41_2,trivial⟩ fun a F=>?_
 have G:=F;replace H:=rc_api_Snap (H.pk 0 rfl);obtain ⟨p892,c893,rfl,J⟩:=H;have H:=J;have F:=G;clear G J
 refine sv F rfl (y_load1 F plain24 rfl rfl (row_at (v:=.slice p892 (x889.2.2).length c893) (H.oxRow 3 rfl hp890 hcs891 hcl891) rfl)) fun a F=>?_
 obtain ⟨x894,ex894,hm⟩:=ob hm
 refine sd F rfl ent69 (w_nPairs ex894 (H.pm 9 [0,0,1,2,3,4,5,6,7,8] rfl:):) ?_;rintro _ w a ⟨p895,c895,rfl,H⟩ F
 refine bk [0,0] F H rfl ⟨fld27_0,trivial⟩ fun a F=>?_
 refine s_st1 wkP F rfl rfl zero24 rfl rfl rfl rfl rfl H 2 rfl rfl fun w H=>?_
 replace H:=H.nf 10 rfl
 refine lz ?_
 replace H:=H.oxShut 4 rfl
 replace H:=H.frz 0 rfl
 replace H:=O_api_State_s (H.pm 10 [2,0,4,0,1,3,5,6,7,8,9] rfl:)
 cases hm
 refine ct ?_
 exact ⟨F.cut _ trivial,(H.pm 9 [0,7,8] rfl:)⟩
 cases hm
 refine ct ?_
 exact ⟨_,rfl,F.cut _ trivial,H⟩
 cases hm
 refine ct ?_
 exact ⟨_,rfl,F.cut _ trivial,H⟩
 cases hm
 refine ct ?_
 exact ⟨_,rfl,F.cut _ trivial,H⟩
 refine bn ?_
 cases hm
 refine ct ?_
 exact ⟨_,rfl,F.cut _ trivial,H⟩
 refine bb [0,0,0] F H rfl fun a F=>?_
 replace H:=H.nf 6 rfl
 refine nl (cF F rfl ?_)
 refine sr (bk [0,5000,0,0] F H rfl ⟨fld31_0,rfl,plain3,trivial⟩ fun a F=>?_)
 refine nl (xr0 6 [] [4,5] F H hm rfl rfl (fun r983 z=>z) (fun r983 z=>O_api_State bo0 r983::z) (fun o983 hm hm983=>?_) (fun r983 a w hm F H=>?_))
 refine cPm F rfl hm (fun hg984 hm=>?_) (fun hg984 hm=>?_)
 obtain ⟨p985,c986,p987,c988,H⟩:=O_api_State_o (H.pk 0 rfl)
 refine mix_region [13,15,16,19] [19] (.step 0 0 (.step 0 1 (.step 0 2 (.step 0 3 (.step 0 4 (.step 0 5 (.step 0 6 (.step 0 7 (.step 0 8 (.step 0 9 (.step 0 10 (.step 0 11 (.step 1 12 (.step 2 13 (.step 0 14 (.step 2 15 (.step 2 16 (.step 0 17 (.step 0 18 (.step 3 19 .done)))))))))))))))))))) (fun u=>∃ ls,St w0 u (HP.blk bo0 ([.slice p985 (s.1).length c986,.slice p987 (s.2).length c988]) 27::HP.blk b2 ([.int .i64 (o.1),.string (txb (o.2.1)),.string (txb (o.2.2.1)),.int .i64 (o.2.2.2.1),.int .i64 (o.2.2.2.2.1),.slice p3 (o.2.2.2.2.2).length c4]) 31::ls)) (by kernel_rfl) (by kernel_rfl) ⟨_,(H.drew.pm 8 [0,7,1,2,3,4,5,6] rfl:)⟩ ?_
 replace H:=H.drew
 generalize w.drew=w at H ⊢
 refine mbk [0,0,0,1] F H rfl ⟨fld27_1,trivial⟩ fun a F=>?_
 refine m_pure F rfl rfl rfl rfl (fun u hu=>y_load1 F plain25 rfl rfl (row_at (v:=.slice p987 (s.2).length c988) ((hu.choose_spec.blk 0 rfl).row) rfl)) fun a F=>?_
 refine mbk [0,1] F H rfl ⟨fld31_1,trivial⟩ fun a F=>?_
 refine m_pure F rfl rfl rfl rfl (fun u hu=>y_load1 F plain9 rfl rfl (row_at (v:=.string (txb (o.2.1))) ((hu.choose_spec.blk 1 rfl).row) rfl)) fun a F=>?_
 refine mbk (List.replicate 5 0) F H rfl ⟨fld27_0,rfl,plain24,trivial⟩ fun a F=>?_
 refine m_heavy rfl rfl ?_
 obtain ⟨x989,ex989,hm⟩:=ob hm
 refine sd F rfl ent69 (w_nPairs ex989 (H.pm 8 [1,0,1,2,3,4,5,6,7] rfl:):) ?_;rintro _ w a ⟨p990,c990,rfl,H⟩ F
 refine lz ?_;refine ct ⟨⟨_,(H.pm 9 [1,8,0,2,3,4,5,6,7] rfl:)⟩,?_⟩
 refine m_pure F rfl rfl rfl rfl (fun u hu=>y_build F rfl rfl (cs:=[.string (txb (o.2.1)),.int .u64 (gen),.slice p990 (x989).length c990]) (by kernel_rfl)) fun a F=>?_
 refine m_heavy rfl rfl ?_
 replace H:=H.frz 0 rfl
 refine s_build1 wkP F rfl rfl rfl agg41 elem25 rfl rfl rfl (by decide) H fun b991 w a H F=>?_
 replace H:=H.blkOw1 (R:=R_api_Snap) (x:=(o.2.1,gen,x989)) (fun gg=>⟨_,_,rfl,rfl,⟨_,_,rfl,rfl,⟨_,_,rfl,(gg 1 _ rfl).choose_spec⟩⟩⟩)
 refine lz ?_;refine ct ⟨⟨_,(H.pm 10 [2,9,0,1,3,4,5,6,7,8] rfl:)⟩,?_⟩
 refine m_heavy rfl rfl ?_
 obtain ⟨x992,ex992,hm⟩:=ob hm
 refine sd F rfl ent71 (w_insSnap ex992 (H.pm 10 [4,0,1,2,3,5,6,7,8,9] rfl:):) ?_;rintro _ w a ⟨p993,c993,rfl,H⟩ F
 refine lz ?_;refine ct ⟨⟨_,(H.pm 9 [2,8,0,1,3,4,5,6,7] rfl:)⟩,?_⟩
 refine mbk [0,1] F H rfl ⟨fld27_1,trivial⟩ fun a F=>?_
 refine m_last rfl rfl ?_
 refine s_st1 wkP F rfl rfl zero25 rfl rfl rfl rfl rfl H 2 rfl rfl fun w H=>?_
 refine lz ?_;refine ct ?_
 refine m_nil ?_
 replace H:=O_api_State_s (H.pm 9 [2,3,0,1,3,4,5,6,7,8] rfl:)
 cases hm
 refine ct ?_
 exact ⟨_,rfl,F.cut _ trivial,(H.pm 8 [0,6,7] rfl:)⟩
 refine sb [0,0,0] F H rfl fun a F=>nl (xr0 6 [] [4,5] F H hm rfl rfl (fun r1032 z=>z) (fun r1032 z=>O_api_State bo0 r1032::z) (fun o1032 hm hm1032=>?_) (fun r1032 a w hm F H=>?_))
 refine cB F rfl (fun hg1033=>?_) (fun hg1033=>?_)
 replace hm:=ifT hg1033 hm
 refine sb [0] F H rfl fun a F=>nl (wr (tr ?_))
 cases hm
 replace hm:=elimR hm1032
 refine tr ?_
 cases hm
 replace hm:=elimR hm983
 refine br (tr ?_)
 cases hm
 replace hm:=elimR hm541
 refine tr ?_
 cases hm
 refine x_ret1 F rfl rfl ?_
 exact ⟨_,rfl,rfl,(H.pm 6 [0] rfl:)⟩
 replace hm:=ifF (nT hg1033) hm
 refine sr (bk [0,5000,0,0] F H rfl ⟨fld31_0,rfl,plain3,trivial⟩ fun a F=>?_)
 refine nl (xm0 6 [] [4,5] F H hm rfl rfl (fun r1052 z=>z) (fun r1052 z=>O_api_State bo0 r1052::z) (fun r1052 hm=>?_) (fun r1052 a w hm F H=>?_))
 refine cPm F rfl hm (fun hg1053 hm=>?_) (fun hg1053 hm=>?_)
 refine rl (bk [0,0,0,1] F H rfl ⟨fld27_1,trivial⟩ fun a F=>?_)
 obtain ⟨p1054,c1055,p1056,c1057,H⟩:=O_api_State_o (H.pk 0 rfl)
 refine bk [1,0,0,0] F H rfl ⟨rfl,plain25,trivial⟩ fun a F=>?_
 obtain ⟨x1058,ex1058,hm⟩:=ob hm
 refine sd F rfl ent72 (w_delSnap ex1058 (H.pm 8 [2,0,1,3,4,5,6,7] rfl:):) ?_;rintro _ w a ⟨p1059,c1059,rfl,H⟩ F
 refine bk [0,1] F H rfl ⟨fld27_1,trivial⟩ fun a F=>?_
 refine s_st1 wkP F rfl rfl zero25 rfl rfl rfl rfl rfl H 1 rfl rfl fun w H=>?_
 replace H:=H.nf 8 rfl
 refine lz ?_
 replace H:=O_api_State_s (H.pm 8 [1,2,0,2,3,4,5,6,7] rfl:)
 cases hm
 refine ct ?_
 exact ⟨F.cut _ trivial,(H.pm 7 [0,5,6] rfl:)⟩
 refine rl (bk [0,0,0,1] F H rfl ⟨fld27_1,trivial⟩ fun a F=>?_)
 obtain ⟨p1060,c1061,p1062,c1063,H⟩:=O_api_State_o (H.pk 0 rfl)
 refine bk [1,0] F H rfl ⟨rfl,plain25,trivial⟩ fun a F=>?_
 obtain ⟨x1064,ex1064,hm⟩:=ob hm
 obtain ⟨b1065,hp1065⟩:=H.owP 2 rfl (idxO_some ex1064).2
 obtain ⟨css1066,H⟩:=H.oxOpen 2 rfl
 obtain ⟨cs1066,hcs1066,hcl1066,H⟩:=H.oxEl 2 rfl (idxO_some ex1064).2
 refine sv F rfl (y_idxS F elem25 rfl rfl rfl hp1065 ex1064) fun a F=>bk [2] F H rfl ⟨fld41_2,trivial⟩ fun a F=>?_
 have G:=F;replace H:=rc_api_Snap (H.pk 0 rfl);obtain ⟨p1067,c1068,rfl,J⟩:=H;have H:=J;have F:=G;clear G J
 refine sv F rfl (y_load1 F plain24 rfl rfl (row_at (v:=.slice p1067 (x1064.2.2).length c1068) (H.oxRow 3 rfl hp1065 hcs1066 hcl1066) rfl)) fun a F=>?_
 obtain ⟨x1069,ex1069,hm⟩:=ob hm
 refine sd F rfl ent69 (w_nPairs ex1069 (H.pm 9 [0,0,1,2,3,4,5,6,7,8] rfl:):) ?_;rintro _ w a ⟨p1070,c1070,rfl,H⟩ F
 refine bk [0,0] F H rfl ⟨fld27_0,trivial⟩ fun a F=>?_
 refine s_st1 wkP F rfl rfl zero24 rfl rfl rfl rfl rfl H 2 rfl rfl fun w H=>?_
 replace H:=H.nf 10 rfl
 refine lz ?_
 replace H:=H.oxShut 4 rfl
 replace H:=H.frz 0 rfl
 replace H:=O_api_State_s (H.pm 10 [2,0,4,0,1,3,5,6,7,8,9] rfl:)
 cases hm
 refine ct ?_
 exact ⟨F.cut _ trivial,(H.pm 9 [0,7,8] rfl:)⟩
 cases hm
 refine ct ?_
 exact ⟨_,rfl,F.cut _ trivial,H⟩
 cases hm
 refine ct ?_
 exact ⟨_,rfl,F.cut _ trivial,H⟩
 refine bn ?_
 cases hm
 refine ct ?_
 exact ⟨_,rfl,F.cut _ trivial,H⟩
 refine ct (sb [0] F H rfl fun a F=>?_)
 replace H:=H.nf 3 rfl
 refine nl (wr ?_)
 cases hm
 refine x_ret1 F rfl rfl ?_
 exact ⟨_,rfl,rfl,(H.pm 3 [0] rfl:)⟩
theorem ent43:En Tryz.prog 43:=enters Tryz.func43 (by kernel_rfl) rfl
theorem ent44:En Tryz.prog 44:=enters Tryz.func44 (by kernel_rfl) rfl
theorem ent45:En Tryz.prog 45:=enters Tryz.func45 (by kernel_rfl) rfl
theorem ent46:En Tryz.prog 46:=enters Tryz.func46 (by kernel_rfl) rfl
theorem w_nDo {s:T_api_State} {o:T_api_Op} {gen:Int} {cs1:List Value} {cs2:List Value} {w0 w:World} {l:List HP}  {r:T_api_State×T_api_Answer} (hm:nDo s o gen=some r) (H:St w0 w (HP.rc R_api_State cs1 s::HP.rc R_api_Op cs2 o::l)) :
  Calls Tryz.prog 15 [.agg cs1.toArray,.agg cs2.toArray,.int .u64 (gen)].toArray w (fun e w'=>∃ v,e=.returned v∧∃ (cs3:List Value) (cs4:List Value),v=.tuple [.agg cs3.toArray,.agg cs4.toArray].toArray∧St w0 w' (HP.rc R_api_State cs3 r.1::HP.rc R_api_Answer cs4 r.2::l)):=by
 unfold nDo at hm
 refine x_enter Tryz.func15 rfl rfl rfl ?_
 intro a F
 refine sr (s_boxA wkP F rfl rfl rfl rfl rfl H fun b5 w a H F=>?_)
 refine s_boxA wkP F rfl rfl rfl rfl rfl H fun b6 w a H F=>?_
 replace H:=H.owNil R_api_Pair 103
 replace H:=H.owNil R_api_Snap 41
 refine s_allocA wkP F rfl rfl rfl agz27 rfl H fun b7 w a H F=>?_
 replace H:=H.owNil rByte 5
 replace H:=H.owNil rStr 9
 refine s_allocA wkP F rfl rfl rfl agz35 rfl H fun b8 w a H F=>?_
 replace H:=H.nf 10 rfl
 refine nl (sr (bk [7999] F H rfl ⟨rfl,(aggn agg27 (H.rcLen 8 rfl)),trivial⟩ fun a F=>?_))
 obtain ⟨x9,ex9,hm⟩:=ob hm
 refine sd F rfl ent43 (w_nCopied ex9 (H.pm 10 [8,0,1,2,3,4,5,6,7,8,9] rfl:):) ?_;rintro _ w a ⟨p10,c10,p11,c11,rfl,H⟩ F
 replace H:=H.owNil rByte 5
 replace H:=H.owNil rStr 9
 refine sv F rfl (y_build F rfl rfl (cs:=[.int .i64 (0),.int .i64 (0),.slice none (([]:List UInt8)).length 0,.slice none (([]:List (List UInt8))).length 0]) (by kernel_rfl)) fun a F=>?_
 replace H:=H.owNil R_api_Pair 103
 replace H:=H.owNil R_api_Snap 41
 refine s_allocA wkP F rfl rfl rfl agz27 rfl H fun b12 w a H F=>?_
 replace H:=H.owNil rByte 5
 replace H:=H.owNil rStr 9
 refine s_allocA wkP F rfl rfl rfl agz35 rfl H fun b13 w a H F=>?_
 refine s_storeA wkP F rfl rfl agg27 rfl rfl rfl H 3 rfl rfl rfl (fl rfl) fun w H=>?_
 refine s_storeA wkP F rfl rfl agg35 rfl rfl rfl H 0 rfl rfl rfl (fl rfl) fun w H=>?_
 replace H:=H.nf 20 rfl
 refine nl (sq (sr (bk [0] F H rfl ⟨fld31_0,trivial⟩ fun a F=>?_)))
 have G:=F;replace H:=rc_api_Op (H.pk 19 rfl);obtain ⟨p14,c15,rfl,J⟩:=H;have H:=J;have F:=G;clear G J
 refine bk [17000] F H rfl ⟨rfl,plain3,trivial⟩ fun a F=>nl ?_
 replace H:=O_api_State_s (H.pm 20 [4,9,10,0,1,2,3,5,6,7,8,9,11,12,13,14,15,16,17,18,19] rfl:)
 replace H:=H.frz 15 rfl
 replace H:=O_api_State_s (x0:=([]:List T_api_Pair)) (x1:=([]:List T_api_Snap)) (H.pm 19 [14,0,15,0,1,2,3,4,5,6,7,8,9,10,11,12,13,16,17,18] rfl:)
 refine xm2 18 [3,6,7,8,9] [0,3,5,6,7,8,12,13,14,15] F H hm rfl rfl (fun r94 (cs95:List Value) (cs96:List Value) z=>z) (fun r94 cs95 cs96 z=>O_api_State b12 r94.1::HP.blk b13 (cs95) 35::HP.blk b5 (cs96) 27::HP.rc R_api_Answer cs95 r94.2.1::HP.rc R_api_State cs96 r94.2.2::z) (fun r94 hm=>?_) (fun r94 a w hm cs95 cs96 F H=>?_)
 refine bl (sq (sb [0,0] F H rfl fun a F=>?_))
 replace H:=H.nf 18 rfl
 refine nl (xm0 18 [2,3,4,6,7,8,9,14] [0,2,3,4,5,6,7,8,9,10,12,13,14,15,16,17] F H hm rfl rfl (fun r101 z=>(23,.bool (r101))::z) (fun r101 z=>z) (fun r101 hm=>?_) (fun r101 a w hm F H=>?_))
 refine cPm F rfl hm (fun hg102 hm=>?_) (fun hg102 hm=>?_)
 refine sk ?_
 cases hm
 refine ct ?_
 exact ⟨F.sl rfl,(H.pm 18 [0,2,3,4,5,6,7,8,9,10,12,13,14,15,16,17] rfl:)⟩
 refine sb [0,0] F H rfl fun a F=>nl (xm0 18 [2,3,4,6,7,8,9,14] [0,2,3,4,5,6,7,8,9,10,12,13,14,15,16,17] F H hm rfl rfl (fun r104 z=>(23,.bool (r104))::z) (fun r104 z=>z) (fun r104 hm=>?_) (fun r104 a w hm F H=>?_))
 refine cPm F rfl hm (fun hg105 hm=>?_) (fun hg105 hm=>?_)
 refine sk ?_
 cases hm
 refine ct ?_
 exact ⟨F.sl rfl,(H.pm 18 [0,2,3,4,5,6,7,8,9,10,12,13,14,15,16,17] rfl:)⟩
 refine rl (bb [0,0] F H rfl fun a F=>?_)
 refine lz ?_
 cases hm
 refine ct ?_
 exact ⟨F.sl rfl,(H.pm 18 [0,2,3,4,5,6,7,8,9,10,12,13,14,15,16,17] rfl:)⟩
 cases hm
 refine ct ?_
 exact ⟨F.sl rfl,H⟩
 refine ct (xm2 16 [3,6,7,8,9] [0,2,4,5,6,7,10,11,12,13] F H hm rfl rfl (fun r139 (cs140:List Value) (cs141:List Value) z=>z) (fun r139 cs140 cs141 z=>O_api_State b12 r139.1::HP.blk b13 (cs140) 35::HP.blk b5 (cs141) 27::HP.rc R_api_Answer cs140 r139.2.1::HP.rc R_api_State cs141 r139.2.2::z) (fun r139 hm=>?_) (fun r139 a w hm cs140 cs141 F H=>?_))
 refine cB F rfl (fun hg142=>?_) (fun hg142=>?_)
 replace hm:=ifT hg142 hm
 refine rl (bk [13999,0] F H rfl ⟨rfl,(aggn agg31 rfl),trivial⟩ fun a F=>?_)
 replace H:=H.mkRc (R:=R_api_Op) (cs:=[.int .i64 (o.1),.string (txb (o.2.1)),.string (txb (o.2.2.1)),.int .i64 (o.2.2.2.1),.int .i64 (o.2.2.2.2.1),.slice p14 (o.2.2.2.2.2).length c15]) (x:=(o.1,o.2.1,o.2.2.1,o.2.2.2.1,o.2.2.2.2.1,o.2.2.2.2.2)) (fun gg=>⟨_,_,rfl,rfl,⟨_,_,rfl,rfl,⟨_,_,rfl,rfl,⟨_,_,rfl,rfl,⟨_,_,rfl,rfl,⟨_,_,rfl,(gg 2 _ rfl).choose_spec⟩⟩⟩⟩⟩⟩)
 obtain ⟨x143,ex143,hm⟩:=ob hm
 refine sd F rfl ent44 (w_nSnap ex143 (H.pm 17 [2,0,0,1,3,4,5,6,7,8,9,10,11,12,13,14,15,16] rfl:):) ?_;rintro _ w a ⟨rfl,H⟩ F
 refine bk [0] F H rfl ⟨fld35_0,trivial⟩ fun a F=>?_
 refine s_st1 wkP F rfl rfl zero32 rfl rfl rfl rfl rfl H 4 rfl rfl fun w H=>?_
 replace H:=H.nf 17 rfl
 refine lz ?_
 cases hm
 refine ct ?_
 replace H:=H.frz 10 rfl
 replace H:=H.frz 10 rfl
 replace H:=H.mkRc (R:=R_api_Answer) (cs:=[.int .i64 (x143.1),.int .i64 (0),.slice none (([]:List UInt8)).length 0,.slice none (([]:List (List UInt8))).length 0]) (x:=(x143.1,0,([]:List UInt8),([]:List (List UInt8)))) (fun gg=>⟨_,_,rfl,rfl,⟨_,_,rfl,rfl,⟨_,_,rfl,⟨_,_,rfl,(gg 1 _ rfl).choose_spec⟩,⟨_,_,rfl,(gg 0 _ rfl).choose_spec⟩⟩⟩⟩)
 exact ⟨[.int .i64 (x143.1),.int .i64 (0),.slice none (([]:List UInt8)).length 0,.slice none (([]:List (List UInt8))).length 0],cs1,F.sl rfl,(H.pm 18 [3,7,16,0,17,5,6,8,9,10,11,12,13,14,15] rfl:)⟩
 replace hm:=ifF (nT hg142) hm
 refine sb [0,0] F H rfl fun a F=>nl (xm2 16 [3,6,7,8,9] [0,2,4,5,6,7,10,11,12,13] F H hm rfl rfl (fun r158 (cs159:List Value) (cs160:List Value) z=>z) (fun r158 cs159 cs160 z=>O_api_State b12 r158.1::HP.blk b13 (cs159) 35::HP.blk b5 (cs160) 27::HP.rc R_api_Answer cs159 r158.2.1::HP.rc R_api_State cs160 r158.2.2::z) (fun r158 hm=>?_) (fun r158 a w hm cs159 cs160 F H=>?_))
 refine cPm F rfl hm (fun hg161 hm=>?_) (fun hg161 hm=>?_)
 refine rl (bk [14999,2,13002] F H rfl ⟨rfl,(aggn agg27 (H.rcLen 15 rfl)),fld31_2,rfl,plain9,trivial⟩ fun a F=>?_)
 obtain ⟨x162,ex162,hm⟩:=ob hm
 refine sd F rfl ent45 (w_nList ex162 (H.pm 16 [15,0,1,2,3,4,5,6,7,8,9,10,11,12,13,14,15] rfl:):) ?_;rintro _ w a ⟨cs163,rfl,H⟩ F
 refine s_storeA wkP F rfl rfl agg35 rfl rfl rfl H 4 rfl (H.rcLen 0 rfl) rfl (H.rcFlat 0 rfl) fun w H=>?_
 replace H:=H.nf 17 rfl
 refine lz ?_
 cases hm
 refine ct ?_
 exact ⟨cs163,cs1,F.sl rfl,(H.pm 17 [2,4,15,0,16,1,3,5,6,7,8,11,12,13,14] rfl:)⟩
 refine rl (bk [0] F H rfl ⟨fld27_0,trivial⟩ fun a F=>?_)
 have G:=F;replace H:=rc_api_State (H.pk 15 rfl);obtain ⟨p164,c165,p166,c167,rfl,J⟩:=H;have H:=J;have F:=G;clear G J
 refine bk [16000,15999] F H rfl ⟨rfl,plain24,rfl,(aggn agg31 rfl),trivial⟩ fun a F=>?_
 replace H:=H.mkRc (R:=R_api_Op) (cs:=[.int .i64 (o.1),.string (txb (o.2.1)),.string (txb (o.2.2.1)),.int .i64 (o.2.2.2.1),.int .i64 (o.2.2.2.2.1),.slice p14 (o.2.2.2.2.2).length c15]) (x:=(o.1,o.2.1,o.2.2.1,o.2.2.2.1,o.2.2.2.2.1,o.2.2.2.2.2)) (fun gg=>⟨_,_,rfl,rfl,⟨_,_,rfl,rfl,⟨_,_,rfl,rfl,⟨_,_,rfl,rfl,⟨_,_,rfl,rfl,⟨_,_,rfl,(gg 4 _ rfl).choose_spec⟩⟩⟩⟩⟩⟩)
 obtain ⟨x168,ex168,hm⟩:=ob hm
 refine sd F rfl ent46 (w_fDo ex168 (H.pm 18 [1,0,0,1,2,3,4,5,6,7,8,9,10,11,12,13,14,15,16,17] rfl:):) ?_;rintro _ w a ⟨p169,c169,cs170,rfl,H⟩ F
 refine bk [0,0,0,0] F H rfl ⟨fld27_0,trivial⟩ fun a F=>?_
 obtain ⟨p171,c172,p173,c174,H⟩:=O_api_State_o (H.pk 6 rfl)
 refine s_st1 wkP F rfl rfl zero24 rfl rfl rfl rfl rfl H 0 rfl rfl fun w H=>?_
 refine s_storeA wkP F rfl rfl agg35 rfl rfl rfl H 10 rfl (H.rcLen 4 rfl) rfl (H.rcFlat 4 rfl) fun w H=>?_
 replace H:=H.nf 22 rfl
 refine lz ?_
 replace H:=O_api_State_s (x1:=(x9.1,x9.2).2) (H.pm 22 [0,3,2,1,3,4,5,6,7,8,9,10,11,12,13,14,15,16,17,18,19,20,21] rfl:)
 cases hm
 refine ct ?_
 replace H:=H.mkRc (R:=R_api_State) (cs:=[.slice p164 (s.1).length c165,.slice p166 (s.2).length c167]) (x:=(s.1,s.2)) (fun gg=>⟨_,_,rfl,⟨_,_,rfl,(gg 5 _ rfl).choose_spec⟩,⟨_,_,rfl,(gg 6 _ rfl).choose_spec⟩⟩)
 exact ⟨cs170,[.slice p164 (s.1).length c165,.slice p166 (s.2).length c167],F.sl rfl,(H.pm 22 [1,10,21,4,0,8,9,11,12,13,14,17,18,19,20] rfl:)⟩
 cases hm
 refine ct ?_
 exact ⟨cs159,cs160,F.sl rfl,H⟩
 refine bn ?_
 cases hm
 refine ct ?_
 exact ⟨cs140,cs141,F.sl rfl,H⟩
 refine ct (sq (sr (bk [0] F H rfl ⟨fld35_0,trivial⟩ fun a F=>?_)))
 have G:=F;replace H:=rc_api_Answer (H.pk 3 rfl);obtain ⟨p175,c176,p177,c178,rfl,J⟩:=H;have H:=J;have F:=G;clear G J
 refine bk [3000,0,0] F H rfl ⟨rfl,plain32,trivial⟩ fun a F=>?_
 rcases spP 40 F rfl hm with ⟨hg179,hm,F⟩ | ⟨hg179,hm,F⟩
 refine g_onP F rfl rfl rfl rfl ?_
 obtain ⟨p180,c181,p182,c183,H⟩:=O_api_State_o (H.pk 2 rfl)
 refine bk [999] F H rfl ⟨rfl,(aggn agg27 rfl),trivial⟩ fun a F=>?_
 refine g_onP F rfl rfl rfl rfl ?_
 replace H:=H.frz 2 rfl
 replace H:=H.mkRc (R:=R_api_State) (cs:=[.slice p180 (r94.1.1).length c181,.slice p182 (r94.1.2).length c183]) (x:=(r94.1.1,r94.1.2)) (fun gg=>⟨_,_,rfl,⟨_,_,rfl,(gg 2 _ rfl).choose_spec⟩,⟨_,_,rfl,(gg 0 _ rfl).choose_spec⟩⟩)
 obtain ⟨x184,ex184,hm⟩:=ob hm
 refine sd F rfl ent24 (w_nUnits ex184 (H.pm 19 [0,0,1,2,3,4,5,6,7,8,9,10,11,12,13,14,15,16,17,18] rfl:):) ?_;rintro _ w a ⟨rfl,H⟩ F
 refine bb [0,0] F H rfl fun a F=>?_
 replace H:=H.nf 19 rfl
 refine nl ?_
 refine xm4 19 [3,6,7,8,9] [1,2,3,7,8,9,10,11,12,13,14,15,16,17,18] F H hm rfl rfl (fun r186 (p187:Option Addr) (c187:Nat) (p188:Option Addr) (c188:Nat) z=>z) (fun r186 p187 c187 p188 c188 z=>HP.blk b13 ([.int .i64 (r186.1),.int .i64 (r186.2.1),.slice p187 (r186.2.2.1).length c187,.slice p188 (r186.2.2.2).length c188]) 35::HP.sl rByte p187 c187 r186.2.2.1::HP.sl rStr p188 c188 r186.2.2.2::z) (fun r186 hm=>?_) (fun r186 a w hm p187 c187 p188 c188 F H=>?_)
 refine cPm F rfl hm (fun hg189 hm=>?_) (fun hg189 hm=>?_)
 refine rl ?_
 replace H:=H.owNil rByte 5
 replace H:=H.owNil rStr 9
 refine sv F rfl (y_build F rfl rfl (cs:=[.int .i64 (98),.int .i64 (0),.slice none (([]:List UInt8)).length 0,.slice none (([]:List (List UInt8))).length 0]) (by kernel_rfl)) fun a F=>?_
 refine s_storeA wkP F rfl rfl agg35 rfl rfl rfl H 8 rfl rfl rfl (fl rfl) fun w H=>?_
 replace H:=H.nf 21 rfl
 refine lz ?_
 cases hm
 refine ct ?_
 replace H:=H.frz 1 rfl
 replace H:=H.frz 1 rfl
 exact ⟨none,0,none,0,F.sl rfl,(H.pm 21 [8,1,0,3,4,5,9,10,11,12,13,14,15,16,17,18,19,20] rfl:)⟩
 refine sk ?_
 cases hm
 refine ct ?_
 exact ⟨p175,c176,p177,c178,F.sl rfl,(H.pm 19 [6,4,5,1,2,3,7,8,9,10,11,12,13,14,15,16,17,18] rfl:)⟩
 refine ct (sq (sr (bk [0,0,0] F H rfl ⟨fld35_0,rfl,plain32,trivial⟩ fun a F=>?_)))
 refine nl (cNm F rfl hm (fun hg190 hm=>?_) (fun hg190 hm=>?_))
 refine sq (mix_region [1,3,4] [4] (.step 1 0 (.step 0 2 (.step 2 1 (.step 2 3 (.step 3 4 .done))))) (fun u=>∃ ls,St w0 u (HP.blk b13 ([.int .i64 (r186.1),.int .i64 (r186.2.1),.slice p187 (r186.2.2.1).length c187,.slice p188 (r186.2.2.2).length c188]) 35::ls)) (by kernel_rfl) (by kernel_rfl) ⟨_,H.drew⟩ ?_)
 replace H:=H.drew
 generalize w.drew=w at H ⊢
 refine mbk [6999] F H rfl ⟨rfl,(aggn agg27 (H.rcLen 7 rfl)),trivial⟩ fun a F=>?_
 refine m_pure F rfl rfl rfl rfl (fun u hu=>y_loadA F agg35 rfl rfl ((hu.choose_spec.blk 0 rfl).row) rfl) fun a F=>?_
 refine m_heavy rfl rfl ?_
 obtain ⟨x191,ex191,hm⟩:=ob hm
 refine sd F rfl ent43 (w_nCopied ex191 (H.pm 18 [7,0,1,2,3,4,5,6,7,8,9,10,11,12,13,14,15,16,17] rfl:):) ?_;rintro _ w a ⟨p192,c192,p193,c193,rfl,H⟩ F
 refine lz ?_;refine ct ⟨⟨_,(H.pm 20 [2,0,1,3,4,5,6,7,8,9,10,11,12,13,14,15,16,17,18,19] rfl:)⟩,?_⟩
 refine m_heavy rfl rfl ?_
 obtain ⟨p194,c195,p196,c197,H⟩:=O_api_State_o (H.pk 10 rfl)
 refine s_storeA wkP F rfl rfl agg27 rfl rfl rfl H 0 rfl rfl rfl (fl rfl) fun w H=>?_
 refine lz ?_;refine ct ⟨⟨_,(H.pm 22 [5,0,1,2,3,4,6,7,8,9,10,11,12,13,14,15,16,17,18,19,20,21] rfl:)⟩,?_⟩
 refine m_last rfl rfl ?_
 refine s_storeA wkP F rfl rfl agg35 rfl rfl rfl H 18 rfl rfl rfl (fl rfl) fun w H=>?_
 refine lz ?_;refine ct ?_
 refine m_nil ?_
 refine ct (wr (tr ?_))
 replace H:=H.frz 4 rfl
 replace H:=H.mkRc (R:=R_api_State) (cs:=[.slice p192 (x191.1).length c192,.slice p193 (x191.2).length c193]) (x:=(x191.1,x191.2)) (fun gg=>⟨_,_,rfl,⟨_,_,rfl,(gg 4 _ rfl).choose_spec⟩,⟨_,_,rfl,(gg 0 _ rfl).choose_spec⟩⟩)
 replace H:=H.mkRc (R:=R_api_Answer) (cs:=[.int .i64 (r186.1),.int .i64 (r186.2.1),.slice p187 (r186.2.2.1).length c187,.slice p188 (r186.2.2.2).length c188]) (x:=(r186.1,r186.2.1,r186.2.2.1,r186.2.2.2)) (fun gg=>⟨_,_,rfl,rfl,⟨_,_,rfl,rfl,⟨_,_,rfl,⟨_,_,rfl,(gg 7 _ rfl).choose_spec⟩,⟨_,_,rfl,(gg 8 _ rfl).choose_spec⟩⟩⟩⟩)
 cases hm
 refine x_resC2 F rfl (⟨_,rfl,agg27.run_load (H.blk 3 rfl).row rfl⟩) (⟨_,rfl,agg35.run_load (H.blk 20 rfl).row rfl⟩) ?_
 exact ⟨_,rfl,[.slice p192 (x191.1).length c192,.slice p193 (x191.2).length c193],[.int .i64 (r186.1),.int .i64 (r186.2.1),.slice p187 (r186.2.2.1).length c187,.slice p188 (r186.2.2.2).length c188],rfl,(H.pm 24 [1,0] rfl:)⟩
 refine sk (ct (sq (mix_region [2,3] [3] (.step 1 0 (.step 0 1 (.step 2 2 (.step 3 3 .done)))) (fun u=>∃ ls,St w0 u (HP.blk b13 ([.int .i64 (r186.1),.int .i64 (r186.2.1),.slice p187 (r186.2.2.1).length c187,.slice p188 (r186.2.2.2).length c188]) 35::ls)) (by kernel_rfl) (by kernel_rfl) ⟨_,H.drew⟩ ?_)))
 replace H:=H.drew
 generalize w.drew=w at H ⊢
 refine mbk [4999] F H rfl ⟨rfl,(aggn agg27 rfl),trivial⟩ fun a F=>?_
 refine m_pure F rfl rfl rfl rfl (fun u hu=>y_loadA F agg35 rfl rfl ((hu.choose_spec.blk 0 rfl).row) rfl) fun a F=>?_
 refine m_heavy rfl rfl ?_
 obtain ⟨p198,c199,p200,c201,H⟩:=O_api_State_o (H.pk 8 rfl)
 refine s_storeA wkP F rfl rfl agg27 rfl rfl rfl H 0 rfl rfl rfl (fl rfl) fun w H=>?_
 refine lz ?_;refine ct ⟨⟨_,(H.pm 20 [3,0,1,2,4,5,6,7,8,9,10,11,12,13,14,15,16,17,18,19] rfl:)⟩,?_⟩
 refine m_last rfl rfl ?_
 refine s_storeA wkP F rfl rfl agg35 rfl rfl rfl H 16 rfl rfl rfl (fl rfl) fun w H=>?_
 refine lz ?_;refine ct ?_
 refine m_nil ?_
 refine ct (wr ?_)
 replace H:=H.mkRc (R:=R_api_State) (cs:=[.slice p180 (r94.1.1).length c181,.slice p182 (r94.1.2).length c183]) (x:=(r94.1.1,r94.1.2)) (fun gg=>⟨_,_,rfl,⟨_,_,rfl,(gg 8 _ rfl).choose_spec⟩,⟨_,_,rfl,(gg 6 _ rfl).choose_spec⟩⟩)
 replace H:=H.mkRc (R:=R_api_Answer) (cs:=[.int .i64 (r186.1),.int .i64 (r186.2.1),.slice p187 (r186.2.2.1).length c187,.slice p188 (r186.2.2.2).length c188]) (x:=(r186.1,r186.2.1,r186.2.2.1,r186.2.2.2)) (fun gg=>⟨_,_,rfl,rfl,⟨_,_,rfl,rfl,⟨_,_,rfl,⟨_,_,rfl,(gg 5 _ rfl).choose_spec⟩,⟨_,_,rfl,(gg 6 _ rfl).choose_spec⟩⟩⟩⟩)
 cases hm
 refine x_resC2 F rfl (⟨_,rfl,agg27.run_load (H.blk 2 rfl).row rfl⟩) (⟨_,rfl,agg35.run_load (H.blk 18 rfl).row rfl⟩) ?_
 exact ⟨_,rfl,[.slice p180 (r94.1.1).length c181,.slice p182 (r94.1.2).length c183],[.int .i64 (r186.1),.int .i64 (r186.2.1),.slice p187 (r186.2.2.1).length c187,.slice p188 (r186.2.2.2).length c188],rfl,(H.pm 22 [1,0] rfl:)⟩
 refine bb [0,0,0,0] F H rfl fun a F=>?_
 replace H:=H.nf 16 rfl
 refine nl (cF F rfl ?_)
 refine sk (ct (sq (sr (bk [0,3000,0] F H rfl ⟨fld35_0,rfl,plain32,trivial⟩ fun a F=>?_))))
 refine nl (cNm F rfl hm (fun hg202 hm=>?_) (fun hg202 hm=>?_))
 refine sq (mix_region [1,3,4] [4] (.step 1 0 (.step 0 2 (.step 2 1 (.step 2 3 (.step 3 4 .done))))) (fun u=>∃ ls,St w0 u (HP.blk b13 ([.int .i64 (r94.2.1.1),.int .i64 (r94.2.1.2.1),.slice p175 (r94.2.1.2.2.1).length c176,.slice p177 (r94.2.1.2.2.2).length c178]) 35::ls)) (by kernel_rfl) (by kernel_rfl) ⟨_,(H.drew.pm 16 [3,0,1,2,4,5,6,7,8,9,10,11,12,13,14,15] rfl:)⟩ ?_)
 replace H:=H.drew
 generalize w.drew=w at H ⊢
 refine mbk [4999] F H rfl ⟨rfl,(aggn agg27 (H.rcLen 5 rfl)),trivial⟩ fun a F=>?_
 refine m_pure F rfl rfl rfl rfl (fun u hu=>y_loadA F agg35 rfl rfl ((hu.choose_spec.blk 0 rfl).row) rfl) fun a F=>?_
 refine m_heavy rfl rfl ?_
 obtain ⟨x203,ex203,hm⟩:=ob hm
 refine sd F rfl ent43 (w_nCopied ex203 (H.pm 16 [5,0,1,2,3,4,5,6,7,8,9,10,11,12,13,14,15] rfl:):) ?_;rintro _ w a ⟨p204,c204,p205,c205,rfl,H⟩ F
 refine lz ?_;refine ct ⟨⟨_,(H.pm 18 [5,0,1,2,3,4,6,7,8,9,10,11,12,13,14,15,16,17] rfl:)⟩,?_⟩
 refine m_heavy rfl rfl ?_
 obtain ⟨p206,c207,p208,c209,H⟩:=O_api_State_o (H.pk 8 rfl)
 refine s_storeA wkP F rfl rfl agg27 rfl rfl rfl H 0 rfl rfl rfl (fl rfl) fun w H=>?_
 refine lz ?_;refine ct ⟨⟨_,(H.pm 20 [8,0,1,2,3,4,5,6,7,9,10,11,12,13,14,15,16,17,18,19] rfl:)⟩,?_⟩
 refine m_last rfl rfl ?_
 refine s_storeA wkP F rfl rfl agg35 rfl rfl rfl H 16 rfl rfl rfl (fl rfl) fun w H=>?_
 refine lz ?_;refine ct ?_
 refine m_nil ?_
 refine ct (wr (tr ?_))
 replace H:=H.frz 4 rfl
 replace H:=H.mkRc (R:=R_api_State) (cs:=[.slice p204 (x203.1).length c204,.slice p205 (x203.2).length c205]) (x:=(x203.1,x203.2)) (fun gg=>⟨_,_,rfl,⟨_,_,rfl,(gg 4 _ rfl).choose_spec⟩,⟨_,_,rfl,(gg 0 _ rfl).choose_spec⟩⟩)
 replace H:=H.mkRc (R:=R_api_Answer) (cs:=[.int .i64 (r94.2.1.1),.int .i64 (r94.2.1.2.1),.slice p175 (r94.2.1.2.2.1).length c176,.slice p177 (r94.2.1.2.2.2).length c178]) (x:=(r94.2.1.1,r94.2.1.2.1,r94.2.1.2.2.1,r94.2.1.2.2.2)) (fun gg=>⟨_,_,rfl,rfl,⟨_,_,rfl,rfl,⟨_,_,rfl,⟨_,_,rfl,(gg 6 _ rfl).choose_spec⟩,⟨_,_,rfl,(gg 7 _ rfl).choose_spec⟩⟩⟩⟩)
 cases hm
 refine x_resC2 F rfl (⟨_,rfl,agg27.run_load (H.blk 3 rfl).row rfl⟩) (⟨_,rfl,agg35.run_load (H.blk 18 rfl).row rfl⟩) ?_
 exact ⟨_,rfl,[.slice p204 (x203.1).length c204,.slice p205 (x203.2).length c205],[.int .i64 (r94.2.1.1),.int .i64 (r94.2.1.2.1),.slice p175 (r94.2.1.2.2.1).length c176,.slice p177 (r94.2.1.2.2.2).length c178],rfl,(H.pm 22 [1,0] rfl:)⟩
 refine sk (ct (sq ?_))
 obtain ⟨p210,c211,p212,c213,H⟩:=O_api_State_o (H.pk 2 rfl)
 refine mix_region [2,3] [3] (.step 1 0 (.step 0 1 (.step 2 2 (.step 3 3 .done)))) (fun u=>∃ ls,St w0 u (HP.blk b13 ([.int .i64 (r94.2.1.1),.int .i64 (r94.2.1.2.1),.slice p175 (r94.2.1.2.2.1).length c176,.slice p177 (r94.2.1.2.2.2).length c178]) 35::ls)) (by kernel_rfl) (by kernel_rfl) ⟨_,(H.drew.pm 18 [5,0,1,2,3,4,6,7,8,9,10,11,12,13,14,15,16,17] rfl:)⟩ ?_
 replace H:=H.drew
 generalize w.drew=w at H ⊢
 refine mbk [999] F H rfl ⟨rfl,(aggn agg27 rfl),trivial⟩ fun a F=>?_
 refine m_pure F rfl rfl rfl rfl (fun u hu=>y_loadA F agg35 rfl rfl ((hu.choose_spec.blk 0 rfl).row) rfl) fun a F=>?_
 refine m_heavy rfl rfl ?_
 obtain ⟨p214,c215,p216,c217,H⟩:=O_api_State_o (H.pk 8 rfl)
 refine s_storeA wkP F rfl rfl agg27 rfl rfl rfl H 0 rfl rfl rfl (fl rfl) fun w H=>?_
 refine lz ?_;refine ct ⟨⟨_,(H.pm 20 [8,0,1,2,3,4,5,6,7,9,10,11,12,13,14,15,16,17,18,19] rfl:)⟩,?_⟩
 refine m_last rfl rfl ?_
 refine s_storeA wkP F rfl rfl agg35 rfl rfl rfl H 16 rfl rfl rfl (fl rfl) fun w H=>?_
 refine lz ?_;refine ct ?_
 refine m_nil ?_
 refine ct (wr ?_)
 replace H:=H.frz 5 rfl
 replace H:=H.mkRc (R:=R_api_State) (cs:=[.slice p210 (r94.1.1).length c211,.slice p212 (r94.1.2).length c213]) (x:=(r94.1.1,r94.1.2)) (fun gg=>⟨_,_,rfl,⟨_,_,rfl,(gg 5 _ rfl).choose_spec⟩,⟨_,_,rfl,(gg 0 _ rfl).choose_spec⟩⟩)
 replace H:=H.mkRc (R:=R_api_Answer) (cs:=[.int .i64 (r94.2.1.1),.int .i64 (r94.2.1.2.1),.slice p175 (r94.2.1.2.2.1).length c176,.slice p177 (r94.2.1.2.2.2).length c178]) (x:=(r94.2.1.1,r94.2.1.2.1,r94.2.1.2.2.1,r94.2.1.2.2.2)) (fun gg=>⟨_,_,rfl,rfl,⟨_,_,rfl,rfl,⟨_,_,rfl,⟨_,_,rfl,(gg 7 _ rfl).choose_spec⟩,⟨_,_,rfl,(gg 8 _ rfl).choose_spec⟩⟩⟩⟩)
 cases hm
 refine x_resC2 F rfl (⟨_,rfl,agg27.run_load (H.blk 3 rfl).row rfl⟩) (⟨_,rfl,agg35.run_load (H.blk 18 rfl).row rfl⟩) ?_
 exact ⟨_,rfl,[.slice p210 (r94.1.1).length c211,.slice p212 (r94.1.2).length c213],[.int .i64 (r94.2.1.1),.int .i64 (r94.2.1.2.1),.slice p175 (r94.2.1.2.2.1).length c176,.slice p177 (r94.2.1.2.2.2).length c178],rfl,(H.pm 22 [1,0] rfl:)⟩
set_option maxRecDepth 100000
set_option maxHeartbeats 4000000
theorem w_rCopyPairs {list:List T_api_Pair} {p1:Option Addr} {c1:Nat} {w0 w:World} {l:List HP}  {r:(List T_api_Pair)} (hm:rCopyPairs list=some r) (H:St w0 w (HP.sl R_api_Pair p1 c1 list::l)) :
  Calls Tryz.prog 16 [.slice p1 (list).length c1].toArray w (fun e w'=>∃ v,e=.returned v∧∃ (p2:Option Addr) (c2:Nat),v=.slice p2 (r).length c2∧St w0 w' (HP.ow R_api_Pair 103 p2 c2 r::l)):=by
 unfold rCopyPairs at hm
 refine x_enter Tryz.func16 rfl rfl rfl ?_
 intro a F
 refine sb [0] F H rfl fun a F=>nl (sr (s_build0O (R:=R_api_Pair) wkP F rfl rfl rfl elem24 rfl H fun b3 w a H F=>?_))
 refine bb [0] F H rfl fun a F=>?_
 replace H:=H.nf 2 rfl
 refine nl (sq (sb [0] F H rfl fun a F=>?_))
 refine nl (xm2 2 [] [] F H hm rfl rfl (fun r251 (p252:Option Addr) (c252:Nat) z=>(3,.slice p252 (r251).length c252)::z) (fun r251 p252 c252 z=>HP.ow R_api_Pair 103 p252 c252 r251::z) (fun r251 hm=>?_) (fun r251 a w hm p252 c252 F H=>?_))
 refine bl (xl2 2 [0] [1] F H hm rfl rfl (fun (s417:(List T_api_Pair)×Int) (p418:Option Addr) (c418:Nat) z=>(3,.slice p418 (s417.1).length c418)::(4,.int .i64 (s417.2))::z) (fun s417 p418 c418 z=>HP.ow R_api_Pair 103 p418 c418 s417.1::z) ⟨(some ⟨b3,0,none⟩),0,F.sl rfl,H⟩ (fun s417 a w o p418 c418 F H hm=>?_))
 refine sq (sr (bk [0,0,0,0] F H rfl ⟨⟨_,Tryz.underlying24⟩,trivial⟩ fun a F=>?_))
 refine nl (cPm F rfl hm (fun hg419 hm=>?_) (fun hg419 hm=>?_))
 refine sk (ct (sq (bl (xm2 2 [0,4] [1] F H hm rfl rfl (fun r459 (p460:Option Addr) (c460:Nat) z=>(3,.slice p460 (r459).length c460)::z) (fun r459 p460 c460 z=>HP.ow R_api_Pair 103 p460 c460 r459::z) (fun r459 hm=>?_) (fun r459 a w hm p460 c460 F H=>?_)))))
 obtain ⟨x461,ex461,hm⟩:=ob hm
 obtain ⟨b462,o462,hp462⟩:=H.slP 1 rfl (idxO_some ex461).2
 obtain ⟨cs463,hcl463,H⟩:=H.slEl 1 rfl hp462 (idxO_some ex461).2
 clear hcl463
 have G:=F;replace H:=rc_api_Pair (H.pk 1 rfl);obtain ⟨p464,c465,p466,c467,rfl,J⟩:=H;have H:=J;have F:=G;clear G J
 obtain ⟨x468,ex468,hm⟩:=ob hm
 obtain ⟨cs469,hcl469,H⟩:=H.slEl 4 rfl hp462 (idxO_some ex468).2
 clear hcl469
 have G:=F;replace H:=rc_api_Pair (H.pk 1 rfl);obtain ⟨p470,c471,p472,c473,rfl,J⟩:=H;have H:=J;have F:=G;clear G J
 refine mix_region [1,7,8,14,16,17] [] (.step 0 0 (.step 0 2 (.step 0 3 (.step 0 4 (.step 0 5 (.step 0 6 (.step 0 9 (.step 0 10 (.step 0 11 (.step 0 12 (.step 0 13 (.fork 1 (.fork 7 (.step 2 8 (.step 2 14 (.step 0 15 (.step 2 16 (.step 2 17 (.step 0 18 .done)))))) 8 (.step 2 7 (.step 2 14 (.step 0 15 (.step 2 16 (.step 2 17 (.step 0 18 .done))))))) 8 (.step 2 1 (.step 2 7 (.step 2 14 (.step 0 15 (.step 2 16 (.step 2 17 (.step 0 18 .done))))))))))))))))))) (fun u=>∃ ls,St w0 u (HP.row b462 (o462+(s417.2:Int).toNat * 2) ([.slice p470 (x468.1).length c471,.slice p472 (x468.2).length c473])::HP.row b462 (o462+(s417.2:Int).toNat * 2) ([.slice p464 (x461.1).length c465,.slice p466 (x461.2).length c467])::ls)) (by kernel_rfl) (by kernel_rfl) ⟨_,(H.drew.pm 8 [2,5,0,1,2,3,4,5,6,7] rfl:)⟩ ?_
 replace H:=H.drew
 generalize w.drew=w at H ⊢
 refine mb [0,0,0] F H rfl fun a F=>?_
 refine m_pure F rfl rfl rfl rfl (fun u hu=>y_idxS F elem24 rfl rfl rfl hp462 ex461) fun a F=>?_
 refine mbk [0] F H rfl ⟨fld103_0,trivial⟩ fun a F=>?_
 refine m_pure F rfl rfl rfl rfl (fun u hu=>y_load1 F plain29 rfl rfl (row_at (v:=.slice p464 (x461.1).length c465) (hu.choose_spec.rowAt 1 rfl) rfl)) fun a F=>?_
 refine mb [0,0] F H rfl fun a F=>?_
 refine m_pure F rfl rfl rfl rfl (fun u hu=>y_idxS F elem24 rfl rfl rfl hp462 ex468) fun a F=>?_
 refine mbk [1] F H rfl ⟨fld103_1,trivial⟩ fun a F=>?_
 refine m_pure F rfl rfl rfl rfl (fun u hu=>y_load1 F plain29 rfl rfl (row_at (v:=.slice p472 (x468.2).length c473) (hu.choose_spec.rowAt 0 rfl) rfl)) fun a F=>?_
 refine m_fork rfl rfl rfl rfl ?_ ?_
 refine m_heavy rfl rfl ?_
 refine s_build0O (R:=rByte) wkP F rfl rfl rfl elem29 rfl H fun b474 w a H F=>?_
 refine lz ?_;refine ct ⟨⟨_,(H.pm 9 [3,6,0,1,2,3,4,5,6,7,8] rfl:)⟩,?_⟩
 refine m_fork rfl rfl rfl rfl ?_ ?_
 refine m_heavy rfl rfl ?_
 obtain ⟨x476,ex476,hm⟩:=ob hm
 refine s_app wkP F rfl rfl rfl rfl rfl rfl elem29 rfl ex476 H 0 4 rfl rfl fun p475 c475 w a H F=>?_
 refine lz ?_;refine ct ⟨⟨_,(H.pm 9 [3,6,0,1,2,3,4,5,6,7,8] rfl:)⟩,?_⟩
 refine m_heavy rfl rfl ?_
 refine s_build0O (R:=rByte) wkP F rfl rfl rfl elem29 rfl H fun b477 w a H F=>?_
 refine lz ?_;refine ct ⟨⟨_,(H.pm 10 [4,7,0,1,2,3,4,5,6,7,8,9] rfl:)⟩,?_⟩
 refine m_heavy rfl rfl ?_
 obtain ⟨x479,ex479,hm⟩:=ob hm
 refine s_app wkP F rfl rfl rfl rfl rfl rfl elem29 rfl ex479 H 0 3 rfl rfl fun p478 c478 w a H F=>?_
 refine lz ?_;refine ct ⟨⟨_,(H.pm 10 [4,7,0,1,2,3,4,5,6,7,8,9] rfl:)⟩,?_⟩
 refine m_pure F rfl rfl rfl rfl (fun u hu=>y_build F rfl rfl (cs:=[.slice p475 (x476).length c475,.slice p478 (x479).length c478]) (by kernel_rfl)) fun a F=>?_
 refine m_heavy rfl rfl ?_
 replace H:=H.frz 1 rfl
 replace H:=H.frz 1 rfl
 refine s_build1 wkP F rfl rfl rfl agg103 elem24 rfl rfl rfl (by decide) H fun b480 w a H F=>?_
 replace H:=H.blkOw1 (R:=R_api_Pair) (x:=(x476,x479)) (fun gg=>⟨_,_,rfl,⟨_,_,rfl,(gg 2 _ rfl).choose_spec⟩,⟨_,_,rfl,(gg 1 _ rfl).choose_spec⟩⟩)
 refine lz ?_;refine ct ⟨⟨_,(H.pm 11 [5,8,0,1,2,3,4,5,6,7,8,9,10] rfl:)⟩,?_⟩
 refine m_heavy rfl rfl ?_
 replace H:=H.frz 0 rfl
 obtain ⟨x482,ex482,hm⟩:=ob hm
 refine s_app wkP F rfl rfl rfl rfl rfl rfl elem24 rfl ex482 H 9 0 rfl rfl fun p481 c481 w a H F=>?_
 refine lz ?_;refine ct ⟨⟨_,(H.pm 11 [5,8,0,1,2,3,4,5,6,7,8,9,10] rfl:)⟩,?_⟩
 refine mb [0] F H rfl fun a F=>?_
 refine m_nil ?_
 cases hm
 refine ct ?_
 exact ⟨p481,c481,F.sl rfl,(H.pm 11 [9,10] rfl:)⟩
 refine m_heavy rfl rfl ?_
 refine s_build0O (R:=rByte) wkP F rfl rfl rfl elem29 rfl H fun b483 w a H F=>?_
 refine lz ?_;refine ct ⟨⟨_,(H.pm 10 [4,7,0,1,2,3,4,5,6,7,8,9] rfl:)⟩,?_⟩
 refine m_heavy rfl rfl ?_
 obtain ⟨x485,ex485,hm⟩:=ob hm
 refine s_app wkP F rfl rfl rfl rfl rfl rfl elem29 rfl ex485 H 1 5 rfl rfl fun p484 c484 w a H F=>?_
 refine lz ?_;refine ct ⟨⟨_,(H.pm 10 [4,7,0,1,2,3,4,5,6,7,8,9] rfl:)⟩,?_⟩
 refine m_heavy rfl rfl ?_
 obtain ⟨x487,ex487,hm⟩:=ob hm
 refine s_app wkP F rfl rfl rfl rfl rfl rfl elem29 rfl ex487 H 0 3 rfl rfl fun p486 c486 w a H F=>?_
 refine lz ?_;refine ct ⟨⟨_,(H.pm 10 [4,7,0,1,2,3,4,5,6,7,8,9] rfl:)⟩,?_⟩
 refine m_pure F rfl rfl rfl rfl (fun u hu=>y_build F rfl rfl (cs:=[.slice p484 (x485).length c484,.slice p486 (x487).length c486]) (by kernel_rfl)) fun a F=>?_
 refine m_heavy rfl rfl ?_
 replace H:=H.frz 1 rfl
 replace H:=H.frz 1 rfl
 refine s_build1 wkP F rfl rfl rfl agg103 elem24 rfl rfl rfl (by decide) H fun b488 w a H F=>?_
 replace H:=H.blkOw1 (R:=R_api_Pair) (x:=(x485,x487)) (fun gg=>⟨_,_,rfl,⟨_,_,rfl,(gg 2 _ rfl).choose_spec⟩,⟨_,_,rfl,(gg 1 _ rfl).choose_spec⟩⟩)
 refine lz ?_;refine ct ⟨⟨_,(H.pm 11 [5,8,0,1,2,3,4,5,6,7,8,9,10] rfl:)⟩,?_⟩
 refine m_heavy rfl rfl ?_
 replace H:=H.frz 0 rfl
 obtain ⟨x490,ex490,hm⟩:=ob hm
 refine s_app wkP F rfl rfl rfl rfl rfl rfl elem24 rfl ex490 H 9 0 rfl rfl fun p489 c489 w a H F=>?_
 refine lz ?_;refine ct ⟨⟨_,(H.pm 11 [5,8,0,1,2,3,4,5,6,7,8,9,10] rfl:)⟩,?_⟩
 refine mb [0] F H rfl fun a F=>?_
 refine m_nil ?_
 cases hm
 refine ct ?_
 exact ⟨p489,c489,F.sl rfl,(H.pm 11 [9,10] rfl:)⟩
 refine m_heavy rfl rfl ?_
 refine s_build0O (R:=rByte) wkP F rfl rfl rfl elem29 rfl H fun b491 w a H F=>?_
 refine lz ?_;refine ct ⟨⟨_,(H.pm 9 [3,6,0,1,2,3,4,5,6,7,8] rfl:)⟩,?_⟩
 refine m_heavy rfl rfl ?_
 refine s_build0O (R:=rByte) wkP F rfl rfl rfl elem29 rfl H fun b492 w a H F=>?_
 refine lz ?_;refine ct ⟨⟨_,(H.pm 10 [4,7,0,1,2,3,4,5,6,7,8,9] rfl:)⟩,?_⟩
 refine m_heavy rfl rfl ?_
 obtain ⟨x494,ex494,hm⟩:=ob hm
 refine s_app wkP F rfl rfl rfl rfl rfl rfl elem29 rfl ex494 H 0 5 rfl rfl fun p493 c493 w a H F=>?_
 refine lz ?_;refine ct ⟨⟨_,(H.pm 10 [4,7,0,1,2,3,4,5,6,7,8,9] rfl:)⟩,?_⟩
 refine m_heavy rfl rfl ?_
 obtain ⟨x496,ex496,hm⟩:=ob hm
 refine s_app wkP F rfl rfl rfl rfl rfl rfl elem29 rfl ex496 H 1 3 rfl rfl fun p495 c495 w a H F=>?_
 refine lz ?_;refine ct ⟨⟨_,(H.pm 10 [4,7,0,1,2,3,4,5,6,7,8,9] rfl:)⟩,?_⟩
 refine m_pure F rfl rfl rfl rfl (fun u hu=>y_build F rfl rfl (cs:=[.slice p493 (x494).length c493,.slice p495 (x496).length c495]) (by kernel_rfl)) fun a F=>?_
 refine m_heavy rfl rfl ?_
 replace H:=H.frz 0 rfl
 replace H:=H.frz 1 rfl
 refine s_build1 wkP F rfl rfl rfl agg103 elem24 rfl rfl rfl (by decide) H fun b497 w a H F=>?_
 replace H:=H.blkOw1 (R:=R_api_Pair) (x:=(x494,x496)) (fun gg=>⟨_,_,rfl,⟨_,_,rfl,(gg 2 _ rfl).choose_spec⟩,⟨_,_,rfl,(gg 1 _ rfl).choose_spec⟩⟩)
 refine lz ?_;refine ct ⟨⟨_,(H.pm 11 [5,8,0,1,2,3,4,5,6,7,8,9,10] rfl:)⟩,?_⟩
 refine m_heavy rfl rfl ?_
 replace H:=H.frz 0 rfl
 obtain ⟨x499,ex499,hm⟩:=ob hm
 refine s_app wkP F rfl rfl rfl rfl rfl rfl elem24 rfl ex499 H 9 0 rfl rfl fun p498 c498 w a H F=>?_
 refine lz ?_;refine ct ⟨⟨_,(H.pm 11 [5,8,0,1,2,3,4,5,6,7,8,9,10] rfl:)⟩,?_⟩
 refine mb [0] F H rfl fun a F=>?_
 refine m_nil ?_
 cases hm
 refine ct ?_
 exact ⟨p498,c498,F.sl rfl,(H.pm 11 [9,10] rfl:)⟩
 refine bn (ct (rl (bb [0,0,0] F H rfl fun a F=>?_)))
 refine lz (ct ?_);cases hm
 exact ⟨_,rfl,⟨p460,c460,F.sl rfl,H⟩⟩
 refine ex (cx (cx ?_));cases hm;refine ⟨_,rfl,?_⟩;rintro rfl
 refine ch (ct ?_)
 exact ⟨p418,c418,F.sl rfl,(H.pm 2 [0] rfl:)⟩
 refine ct (sb [0,0] F H rfl fun a F=>?_)
 refine nl (wr ?_)
 cases hm
 refine x_ret1 F rfl rfl ?_
 exact ⟨_,rfl,p252,c252,rfl,H⟩
theorem w_rSamePairs {a_:List T_api_Pair} {b_:List T_api_Pair} {p1:Option Addr} {c1:Nat} {p2:Option Addr} {c2:Nat} {w0 w:World} {l:List HP}  {r:Bool} (hm:rSamePairs a_ b_=some r) (H:St w0 w (HP.sl R_api_Pair p1 c1 a_::HP.sl R_api_Pair p2 c2 b_::l)) :
  Calls Tryz.prog 17 [.slice p1 (a_).length c1,.slice p2 (b_).length c2].toArray w (fun e w'=>∃ v,e=.returned v∧v=.bool (r)∧St w0 w' (l)):=by
 unfold rSamePairs at hm
 refine x_enter Tryz.func17 rfl rfl rfl ?_
 intro a F
 refine sb [0] F H rfl fun a F=>nl (sq (sr (bk (List.replicate 5 0) F H rfl ⟨⟨_,Tryz.underlying24⟩,⟨_,Tryz.underlying24⟩,trivial⟩ fun a F=>?_)))
 refine nl (cNm F rfl hm (fun hg3 hm=>?_) (fun hg3 hm=>?_))
 refine sb [0] F H rfl fun a F=>nl (wr (tr ?_))
 cases hm
 refine x_ret1 F rfl rfl ?_
 exact ⟨_,rfl,rfl,(H.pm 2 [] rfl:)⟩
 refine sk (ct (sq (sb [0] F H rfl fun a F=>?_)))
 refine nl (xr0 2 [] [] F H hm rfl rfl (fun r92 z=>z) (fun r92 z=>z) (fun o92 hm hm92=>?_) (fun r92 a w hm F H=>?_))
 refine bl (xl0 2 [0,1] [0,1] F H hm rfl rfl (fun (s151:Int) z=>(5,.int .i64 (s151))::z) (fun s151 z=>z) ⟨F.sl rfl,H⟩ (fun s151 a w o F H hm=>?_))
 refine sq (sr (bk [0,0,0,0] F H rfl ⟨⟨_,Tryz.underlying24⟩,trivial⟩ fun a F=>?_))
 refine nl (cPm F rfl hm (fun hg152 hm=>?_) (fun hg152 hm=>?_))
 refine sk (ct (sq (bl (sq ?_))))
 obtain ⟨x153,ex153,hm⟩:=ob hm
 obtain ⟨b154,o154,hp154⟩:=H.slP 0 rfl (idxO_some ex153).2
 obtain ⟨cs155,hcl155,H⟩:=H.slEl 0 rfl hp154 (idxO_some ex153).2
 clear hcl155
 have G:=F;replace H:=rc_api_Pair (H.pk 1 rfl);obtain ⟨p156,c157,p158,c159,rfl,J⟩:=H;have H:=J;have F:=G;clear G J
 obtain ⟨x160,ex160,hm⟩:=ob hm
 obtain ⟨b161,o161,hp161⟩:=H.slP 4 rfl (idxO_some ex160).2
 obtain ⟨cs162,hcl162,H⟩:=H.slEl 4 rfl hp161 (idxO_some ex160).2
 clear hcl162
 have G:=F;replace H:=rc_api_Pair (H.pk 1 rfl);obtain ⟨p163,c164,p165,c166,rfl,J⟩:=H;have H:=J;have F:=G;clear G J
 by_cases hg167:x153.1=x160.1
 replace hm:=ifT hg167 hm
 obtain ⟨x168,ex168,hm⟩:=ob hm
 obtain ⟨cs169,hcl169,H⟩:=H.slEl 6 rfl hp154 (idxO_some ex168).2
 clear hcl169
 have G:=F;replace H:=rc_api_Pair (H.pk 1 rfl);obtain ⟨p170,c171,p172,c173,rfl,J⟩:=H;have H:=J;have F:=G;clear G J
 obtain ⟨x174,ex174,hm⟩:=ob hm
 obtain ⟨cs175,hcl175,H⟩:=H.slEl 10 rfl hp161 (idxO_some ex174).2
 clear hcl175
 have G:=F;replace H:=rc_api_Pair (H.pk 1 rfl);obtain ⟨p176,c177,p178,c179,rfl,J⟩:=H;have H:=J;have F:=G;clear G J
 refine qr H (by kernel_rfl) (by kernel_rfl) ?_
 refine qb [0,0] F rfl fun a F=>?_
 refine qv F rfl (fun u hu=>y_idxS F elem24 rfl rfl rfl hp154 ex153) fun a F=>?_
 refine qbk [0,11000] F rfl ⟨fld103_0,rfl,plain29,trivial⟩ fun a F=>?_
 refine qv F rfl (fun u hu=>y_b2s F Tryz.underlying29 Tryz.underlying9 Tryz.underlying5 rfl rfl (hu) 9 rfl) fun a F=>?_
 refine qb [0,0] F rfl fun a F=>?_
 refine qv F rfl (fun u hu=>y_idxS F elem24 rfl rfl rfl hp161 ex160) fun a F=>?_
 refine qbk [0,8000] F rfl ⟨fld103_0,rfl,plain29,trivial⟩ fun a F=>?_
 refine qv F rfl (fun u hu=>y_b2s F Tryz.underlying29 Tryz.underlying9 Tryz.underlying5 rfl rfl (hu) 6 rfl) fun a F=>?_
 refine qv F rfl (fun u hu=>y_neT (l:=x153.1) (m:=x160.1) F rfl rfl rfl) fun a F=>?_
 refine qb [0] F rfl fun a F=>?_
 replace F:=F.nT 30 hg167 rfl
 refine qb [0,0] F rfl fun a F=>?_
 refine qg_on F rfl rfl rfl rfl ?_
 refine qv F rfl (fun u hu=>y_idxS F elem24 rfl rfl rfl hp154 ex168) fun a F=>?_
 refine qbk [1,5001] F rfl ⟨fld103_1,rfl,plain29,trivial⟩ fun a F=>?_
 refine qg_on F rfl rfl rfl rfl ?_
 refine qv F rfl (fun u hu=>y_b2s F Tryz.underlying29 Tryz.underlying9 Tryz.underlying5 rfl rfl (hu) 4 rfl) fun a F=>?_
 refine qb [0,0] F rfl fun a F=>?_
 refine qg_on F rfl rfl rfl rfl ?_
 refine qv F rfl (fun u hu=>y_idxS F elem24 rfl rfl rfl hp161 ex174) fun a F=>?_
 refine qbk [1,2001] F rfl ⟨fld103_1,rfl,plain29,trivial⟩ fun a F=>?_
 refine qg_on F rfl rfl rfl rfl ?_
 refine qv F rfl (fun u hu=>y_b2s F Tryz.underlying29 Tryz.underlying9 Tryz.underlying5 rfl rfl (hu) 1 rfl) fun a F=>?_
 refine qg_on F rfl rfl rfl rfl ?_
 refine qv F rfl (fun u hu=>y_neT (l:=x168.2) (m:=x174.2) F rfl rfl rfl) fun a F=>?_
 refine qb [0] F rfl fun a F=>?_
 refine q_nil fun w H=>?_
 refine ct (cNm F rfl hm (fun hg180 hm=>?_) (fun hg180 hm=>?_))
 refine sb [0] F H rfl fun a F=>?_
 refine nl (wr (br (tr (tr ?_))));cases hm;refine ⟨_,rfl,?_⟩;rintro rfl
 refine br (tr ?_)
 replace hm:=elimR hm92
 refine tr ?_
 cases hm
 refine x_ret1 F rfl rfl ?_
 exact ⟨_,rfl,rfl,(H.pm 14 [] rfl:)⟩
 refine sk (bn (ct (rl (bb [0,0,0] F H rfl fun a F=>?_))))
 refine lz (ct ?_);cases hm
 exact ⟨_,rfl,⟨F.sl rfl,(H.pm 14 [12,13] rfl:)⟩⟩
 replace hm:=ifF hg167 hm
 refine qr H (by kernel_rfl) (by kernel_rfl) ?_
 refine qb [0,0] F rfl fun a F=>?_
 refine qv F rfl (fun u hu=>y_idxS F elem24 rfl rfl rfl hp154 ex153) fun a F=>?_
 refine qbk [0,5000] F rfl ⟨fld103_0,rfl,plain29,trivial⟩ fun a F=>?_
 refine qv F rfl (fun u hu=>y_b2s F Tryz.underlying29 Tryz.underlying9 Tryz.underlying5 rfl rfl (hu) 3 rfl) fun a F=>?_
 refine qb [0,0] F rfl fun a F=>?_
 refine qv F rfl (fun u hu=>y_idxS F elem24 rfl rfl rfl hp161 ex160) fun a F=>?_
 refine qbk [0,2000] F rfl ⟨fld103_0,rfl,plain29,trivial⟩ fun a F=>?_
 refine qv F rfl (fun u hu=>y_b2s F Tryz.underlying29 Tryz.underlying9 Tryz.underlying5 rfl rfl (hu) 0 rfl) fun a F=>?_
 refine qv F rfl (fun u hu=>y_neT (l:=x153.1) (m:=x160.1) F rfl rfl rfl) fun a F=>?_
 refine qb [0] F rfl fun a F=>?_
 replace F:=F.nF 30 hg167 rfl
 refine qb (List.replicate 14 0) F rfl fun a F=>?_
 refine q_nil fun w H=>?_
 refine ct (cT F rfl ?_)
 refine sb [0] F H rfl fun a F=>?_
 refine nl (wr (br (tr (tr ?_))));cases hm;refine ⟨_,rfl,?_⟩;rintro rfl
 refine br (tr ?_)
 replace hm:=elimR hm92
 refine tr ?_
 cases hm
 refine x_ret1 F rfl rfl ?_
 exact ⟨_,rfl,rfl,(H.pm 8 [] rfl:)⟩
 refine ex (cx (cx ?_));cases hm;refine ⟨_,rfl,?_⟩;rintro rfl
 refine ch (ct ?_)
 exact ⟨_,rfl,F.cut _ trivial,(H.pm 2 [] rfl:)⟩
 refine ct (sb [0] F H rfl fun a F=>?_)
 refine nl (wr ?_)
 cases hm
 refine x_ret1 F rfl rfl ?_
 exact ⟨_,rfl,rfl,H⟩
theorem ent17:En Tryz.prog 17:=enters Tryz.func17 (by kernel_rfl) rfl
theorem fld41_1:FieldT Tryz.prog 41 1 1:=by unfold FieldT;rw [Tryz.underlying41];kernel_rfl
theorem plain38:Plain Tryz.prog 38:=by unfold Plain;rw [Tryz.underlying38];rfl
theorem ent14:En Tryz.prog 14:=enters Tryz.func14 (by kernel_rfl) rfl
theorem ent15:En Tryz.prog 15:=enters Tryz.func15 (by kernel_rfl) rfl
theorem w_lSpeaks   {w0 w:World} {l:List HP}  {r:Bool} (hm:lSpeaks =some r) (H:St w0 w (l)) :
  Calls Tryz.prog 13 [].toArray w (fun e w'=>∃ v,e=.returned v∧v=.bool (r)∧St w0 w' (l)):=by
 unfold lSpeaks at hm
 refine x_enter Tryz.func13 rfl rfl rfl ?_
 intro a F
 refine sb [0] F H rfl fun a F=>nl (sr ?_)
 obtain ⟨x1,ex1,hm⟩:=ob hm
 refine sd F rfl ent14 (w_nNew ex1 H:) ?_;rintro _ w a ⟨cs2,rfl,H⟩ F
 replace H:=H.owNil rByte 5
 refine sv F rfl (y_build F rfl rfl (cs:=[.int .i64 (10),.string (txb ([115])),.string (txb ([])),.int .i64 (0),.int .i64 (0),.slice none (([]:List UInt8)).length 0]) (by kernel_rfl)) fun a F=>?_
 replace H:=H.frz 0 rfl
 replace H:=H.mkRc (R:=R_api_Op) (cs:=[.int .i64 (10),.string (txb ([115])),.string (txb ([])),.int .i64 (0),.int .i64 (0),.slice none (([]:List UInt8)).length 0]) (x:=(10,[115],[],0,0,([]:List UInt8))) (fun gg=>⟨_,_,rfl,rfl,⟨_,_,rfl,rfl,⟨_,_,rfl,rfl,⟨_,_,rfl,rfl,⟨_,_,rfl,rfl,⟨_,_,rfl,(gg 0 _ rfl).choose_spec⟩⟩⟩⟩⟩⟩)
 obtain ⟨x3,ex3,hm⟩:=ob hm
 refine sd F rfl ent15 (w_nDo ex3 (H.pm 3 [2,0,0,1,2] rfl:):) ?_;rintro _ w a ⟨cs4,cs5,rfl,H⟩ F
 refine bb [0,0,0] F H rfl fun a F=>?_
 replace H:=H.owNil R_api_Pair 103
 replace H:=H.owNil R_api_Snap 41
 refine s_allocA wkP F rfl rfl rfl agz27 rfl H fun b6 w a H F=>?_
 replace H:=H.owNil rByte 5
 replace H:=H.owNil rStr 9
 refine s_allocA wkP F rfl rfl rfl agz35 rfl H fun b7 w a H F=>?_
 refine s_storeA wkP F rfl rfl agg27 rfl rfl rfl H 3 rfl (H.rcLen 6 rfl) rfl (H.rcFlat 6 rfl) fun w H=>?_
 refine s_storeA wkP F rfl rfl agg35 rfl rfl rfl H 0 rfl (H.rcLen 7 rfl) rfl (H.rcFlat 7 rfl) fun w H=>?_
 replace H:=H.nf 11 rfl
 refine nl (sr (bk [3999] F H rfl ⟨rfl,(aggn agg27 (H.rcLen 6 rfl)),trivial⟩ fun a F=>?_))
 replace H:=H.owNil rByte 5
 refine sv F rfl (y_build F rfl rfl (cs:=[.int .i64 (1),.string (txb ([47,97])),.string (txb ([])),.int .i64 (0),.int .i64 (0),.slice none (([]:List UInt8)).length 0]) (by kernel_rfl)) fun a F=>?_
 replace H:=H.frz 0 rfl
 replace H:=H.mkRc (R:=R_api_Op) (cs:=[.int .i64 (1),.string (txb ([47,97])),.string (txb ([])),.int .i64 (0),.int .i64 (0),.slice none (([]:List UInt8)).length 0]) (x:=(1,[47,97],[],0,0,([]:List UInt8))) (fun gg=>⟨_,_,rfl,rfl,⟨_,_,rfl,rfl,⟨_,_,rfl,rfl,⟨_,_,rfl,rfl,⟨_,_,rfl,rfl,⟨_,_,rfl,(gg 0 _ rfl).choose_spec⟩⟩⟩⟩⟩⟩)
 obtain ⟨x8,ex8,hm⟩:=ob hm
 refine sd F rfl ent15 (w_nDo ex8 (H.pm 13 [8,0,0,1,2,3,4,5,6,7,8,9,10,11,12] rfl:):) ?_;rintro _ w a ⟨cs9,cs10,rfl,H⟩ F
 refine bb [0,0,0] F H rfl fun a F=>?_
 replace H:=H.owNil rByte 5
 replace H:=H.owNil rStr 9
 refine s_allocA wkP F rfl rfl rfl agz35 rfl H fun b11 w a H F=>?_
 refine s_storeA wkP F rfl rfl agg27 rfl rfl rfl H 10 rfl (H.rcLen 3 rfl) (H.rcLen 13 rfl) (H.rcFlat 3 rfl) fun w H=>?_
 refine s_storeA wkP F rfl rfl agg35 rfl rfl rfl H 0 rfl (H.rcLen 4 rfl) rfl (H.rcFlat 4 rfl) fun w H=>?_
 replace H:=H.nf 18 rfl
 refine nl (sr (bk [10999] F H rfl ⟨rfl,(aggn agg27 (H.rcLen 3 rfl)),trivial⟩ fun a F=>?_))
 replace H:=H.owNil rByte 5
 refine sv F rfl (y_build F rfl rfl (cs:=[.int .i64 (12),.string (txb ([115])),.string (txb ([])),.int .i64 (0),.int .i64 (0),.slice none (([]:List UInt8)).length 0]) (by kernel_rfl)) fun a F=>?_
 replace H:=H.frz 0 rfl
 replace H:=H.mkRc (R:=R_api_Op) (cs:=[.int .i64 (12),.string (txb ([115])),.string (txb ([])),.int .i64 (0),.int .i64 (0),.slice none (([]:List UInt8)).length 0]) (x:=(12,[115],[],0,0,([]:List UInt8))) (fun gg=>⟨_,_,rfl,rfl,⟨_,_,rfl,rfl,⟨_,_,rfl,rfl,⟨_,_,rfl,rfl,⟨_,_,rfl,rfl,⟨_,_,rfl,(gg 0 _ rfl).choose_spec⟩⟩⟩⟩⟩⟩)
 obtain ⟨x12,ex12,hm⟩:=ob hm
 refine sd F rfl ent15 (w_nDo ex12 (H.pm 20 [5,0,0,1,2,3,4,5,6,7,8,9,10,11,12,13,14,15,16,17,18,19] rfl:):) ?_;rintro _ w a ⟨cs13,cs14,rfl,H⟩ F
 refine bb [0,0,0] F H rfl fun a F=>?_
 replace H:=H.owNil rByte 5
 replace H:=H.owNil rStr 9
 refine s_allocA wkP F rfl rfl rfl agz35 rfl H fun b15 w a H F=>?_
 refine s_storeA wkP F rfl rfl agg27 rfl rfl rfl H 17 rfl (H.rcLen 3 rfl) (H.rcLen 10 rfl) (H.rcFlat 3 rfl) fun w H=>?_
 refine s_storeA wkP F rfl rfl agg35 rfl rfl rfl H 0 rfl (H.rcLen 4 rfl) rfl (H.rcFlat 4 rfl) fun w H=>?_
 replace H:=H.nf 25 rfl
 refine nl (sr (bk [17999] F H rfl ⟨rfl,(aggn agg27 (H.rcLen 3 rfl)),trivial⟩ fun a F=>?_))
 replace H:=H.owNil rByte 5
 refine sv F rfl (y_build F rfl rfl (cs:=[.int .i64 (9),.string (txb ([47,97])),.string (txb ([])),.int .i64 (0),.int .i64 (0),.slice none (([]:List UInt8)).length 0]) (by kernel_rfl)) fun a F=>?_
 replace H:=H.frz 0 rfl
 replace H:=H.mkRc (R:=R_api_Op) (cs:=[.int .i64 (9),.string (txb ([47,97])),.string (txb ([])),.int .i64 (0),.int .i64 (0),.slice none (([]:List UInt8)).length 0]) (x:=(9,[47,97],[],0,0,([]:List UInt8))) (fun gg=>⟨_,_,rfl,rfl,⟨_,_,rfl,rfl,⟨_,_,rfl,rfl,⟨_,_,rfl,rfl,⟨_,_,rfl,rfl,⟨_,_,rfl,(gg 0 _ rfl).choose_spec⟩⟩⟩⟩⟩⟩)
 obtain ⟨x16,ex16,hm⟩:=ob hm
 refine sd F rfl ent15 (w_nDo ex16 (H.pm 27 [5,0,0,1,2,3,4,5,6,7,8,9,10,11,12,13,14,15,16,17,18,19,20,21,22,23,24,25,26] rfl:):) ?_;rintro _ w a ⟨cs17,cs18,rfl,H⟩ F
 refine bb [0,0,0] F H rfl fun a F=>?_
 replace H:=H.owNil R_api_Pair 103
 replace H:=H.owNil R_api_Snap 41
 refine s_allocA wkP F rfl rfl rfl agz27 rfl H fun b19 w a H F=>?_
 replace H:=H.owNil rByte 5
 replace H:=H.owNil rStr 9
 refine s_allocA wkP F rfl rfl rfl agz35 rfl H fun b20 w a H F=>?_
 refine s_storeA wkP F rfl rfl agg27 rfl rfl rfl H 3 rfl (H.rcLen 6 rfl) rfl (H.rcFlat 6 rfl) fun w H=>?_
 refine s_storeA wkP F rfl rfl agg35 rfl rfl rfl H 0 rfl (H.rcLen 7 rfl) rfl (H.rcFlat 7 rfl) fun w H=>?_
 replace H:=H.nf 35 rfl
 refine nl (sr (bk [0] F H rfl ⟨fld35_0,trivial⟩ fun a F=>?_))
 have G:=F;replace H:=rc_api_Answer (H.pk 31 rfl);obtain ⟨p21,c22,p23,c24,rfl,J⟩:=H;have H:=J;have F:=G;clear G J
 refine bk [26000,0] F H rfl ⟨rfl,plain32,fld35_0,trivial⟩ fun a F=>?_
 have G:=F;replace H:=rc_api_Answer (H.pk 23 rfl);obtain ⟨p25,c26,p27,c28,rfl,J⟩:=H;have H:=J;have F:=G;clear G J
 refine bk [21000,0,0] F H rfl ⟨rfl,plain32,fld35_0,trivial⟩ fun a F=>?_
 have G:=F;replace H:=rc_api_Answer (H.pk 18 rfl);obtain ⟨p29,c30,p31,c32,rfl,J⟩:=H;have H:=J;have F:=G;clear G J
 refine bk [16000,0,0,0] F H rfl ⟨rfl,plain32,trivial⟩ fun a F=>?_
 rcases spP 40 F rfl hm with ⟨hg33,hm,F⟩ | ⟨hg33,hm,F⟩
 refine bk [0] F H rfl ⟨fld35_0,trivial⟩ fun a F=>?_
 refine g_onP F rfl rfl rfl rfl ?_
 have G:=F;replace H:=rc_api_Answer (H.pk 13 rfl);obtain ⟨p34,c35,p36,c37,rfl,J⟩:=H;have H:=J;have F:=G;clear G J
 refine bk [8000,0,0,0] F H rfl ⟨rfl,plain32,trivial⟩ fun a F=>?_
 rcases spP 45 F rfl hm with ⟨hg38,hm,F⟩ | ⟨hg38,hm,F⟩
 refine g_onP F rfl rfl rfl rfl ?_
 obtain ⟨x39,ex39,hm⟩:=ob hm
 refine sd F rfl ent14 (w_nNew ex39 H:) ?_;rintro _ w a ⟨cs40,rfl,H⟩ F
 refine g_onP F rfl rfl rfl rfl ?_
 obtain ⟨x41,ex41,hm⟩:=ob hm
 refine sd F rfl ent24 (w_nUnits ex41 (H.pm 40 [0,0,1,2,3,4,5,6,7,8,9,10,11,12,13,14,15,16,17,18,19,20,21,22,23,24,25,26,27,28,29,30,31,32,33,34,35,36,37,38,39] rfl:):) ?_;rintro _ w a ⟨rfl,H⟩ F
 refine bb [0,0,0] F H rfl fun a F=>?_
 replace H:=H.nf 40 rfl
 refine nl (wr ?_)
 cases hm
 refine x_ret1 F rfl rfl ?_
 exact ⟨_,rfl,rfl,(H.pm 40 [] rfl:)⟩
 refine bb (List.replicate 5 0) F H rfl fun a F=>nl (wr ?_)
 cases hm
 refine x_ret1 F rfl rfl ?_
 exact ⟨_,rfl,rfl,(H.pm 39 [] rfl:)⟩
 refine bb (List.replicate 10 0) F H rfl fun a F=>nl (wr ?_)
 cases hm
 refine x_ret1 F rfl rfl ?_
 exact ⟨_,rfl,rfl,(H.pm 38 [] rfl:)⟩
set_option maxRecDepth 100000
set_option maxHeartbeats 4000000
theorem ent13:En Tryz.prog 13:=enters Tryz.func13 (by kernel_rfl) rfl
theorem agz31:AggT Tryz.prog 31 6 ([.int .i64 (0),.string (txb ([])),.string (txb ([])),.int .i64 (0),.int .i64 (0),.slice none (([]:List UInt8)).length 0]):=⟨by rw [Tryz.underlying31];rfl,by kernel_rfl,by kernel_rfl⟩
theorem elem22:ElemT Tryz.prog 22 31 6 80 (.agg [.int .i64 0,.string ByteArray.empty,.string ByteArray.empty,.int .i64 0,.int .i64 0,.slice none 0 0].toArray):=⟨Tryz.underlying22,by kernel_rfl,by kernel_rfl,by decide⟩
theorem ent16:En Tryz.prog 16:=enters Tryz.func16 (by kernel_rfl) rfl
theorem w_lStay {before:List T_api_Op} {behind:List T_api_Op} {name:List UInt8} {p1:Option Addr} {c1:Nat} {p2:Option Addr} {c2:Nat} {w0 w:World} {l:List HP}  {r:Bool} (hm:lStay before behind name=some r) (H:St w0 w (HP.sl R_api_Op p1 c1 before::HP.sl R_api_Op p2 c2 behind::l)) :
  Calls Tryz.prog 3 [.slice p1 (before).length c1,.slice p2 (behind).length c2,.string (txb (name))].toArray w (fun e w'=>∃ v,e=.returned v∧v=.bool (r)∧St w0 w' (l)):=by
 unfold lStay at hm
 refine x_enter Tryz.func3 rfl rfl rfl ?_
 intro a F
 refine sb [0] F H rfl fun a F=>nl (sq (sr ?_))
 obtain ⟨x3,ex3,hm⟩:=ob hm
 refine sd F rfl ent13 (w_lSpeaks ex3 H:) ?_;rintro _ w a ⟨rfl,H⟩ F
 refine bb [0] F H rfl fun a F=>?_
 replace H:=H.nf 2 rfl
 refine nl (cB F rfl (fun hg4=>?_) (fun hg4=>?_))
 replace hm:=ifT hg4 hm
 refine sb [0] F H rfl fun a F=>nl (wr (tr ?_))
 cases hm
 refine x_ret1 F rfl rfl ?_
 exact ⟨_,rfl,rfl,(H.pm 2 [] rfl:)⟩
 replace hm:=ifF (nT hg4) hm
 refine sk (ct (sq (sr (bk [0,0,0,0] F H rfl ⟨⟨_,Tryz.underlying22⟩,trivial⟩ fun a F=>?_))))
 rcases spP 23 F rfl hm with ⟨hg5,hm,F⟩ | ⟨hg5,hm,F⟩
 refine bb [0,0,0,0] F H rfl fun a F=>nl (cT F rfl ?_)
 refine sb [0] F H rfl fun a F=>nl (wr (tr ?_))
 cases hm
 refine x_ret1 F rfl rfl ?_
 exact ⟨_,rfl,rfl,(H.pm 2 [] rfl:)⟩
 refine bk [0,0,0,0] F H rfl ⟨⟨_,Tryz.underlying22⟩,trivial⟩ fun a F=>nl (cPm F rfl hm (fun hg6 hm=>?_) (fun hg6 hm=>?_))
 refine sb [0] F H rfl fun a F=>nl (wr (tr ?_))
 cases hm
 refine x_ret1 F rfl rfl ?_
 exact ⟨_,rfl,rfl,(H.pm 2 [] rfl:)⟩
 refine sk (ct (sr ?_))
 obtain ⟨x7,ex7,hm⟩:=ob hm
 refine sd F rfl ent14 (w_nNew ex7 H:) ?_;rintro _ w a ⟨cs8,rfl,H⟩ F
 replace H:=H.owNil R_api_Pair 103
 replace H:=H.owNil R_api_Snap 41
 refine s_allocA wkP F rfl rfl rfl agz27 rfl H fun b9 w a H F=>?_
 refine s_storeA wkP F rfl rfl agg27 rfl rfl rfl H 0 rfl (H.rcLen 3 rfl) rfl (H.rcFlat 3 rfl) fun w H=>?_
 replace H:=H.nf 6 rfl
 refine nl (sq (sr (bk [0,0,0] F H rfl ⟨⟨_,Tryz.underlying22⟩,trivial⟩ fun a F=>?_)))
 refine nl (xm1 6 [1,2,7] [1,2,5] F H hm rfl rfl (fun r38 (cs39:List Value) z=>z) (fun r38 cs39 z=>HP.blk b9 (cs39) 27::HP.rc R_api_State cs39 r38::z) (fun r38 hm=>?_) (fun r38 a w hm cs39 F H=>?_))
 refine bl (xl1 6 [1,2,7,29,30] [1,2,4,5] F H hm rfl rfl (fun (s58:T_api_State×Int) (cs59:List Value) z=>(31,.int .i64 (s58.2))::z) (fun s58 cs59 z=>HP.blk b9 (cs59) 27::HP.rc R_api_State cs59 s58.1::z) ⟨cs8,F.sl rfl,(H.pm 6 [0,3,1,2,4,5] rfl:)⟩ (fun s58 a w o cs59 F H hm=>?_))
 refine sb [0] F H rfl fun a F=>nl (sq (cPm F rfl hm (fun hg60 hm=>?_) (fun hg60 hm=>?_)))
 refine sk (ct (sq (bl (sr ?_))))
 obtain ⟨x61,ex61,hm⟩:=ob hm
 obtain ⟨b62,o62,hp62⟩:=H.slP 4 rfl (idxO_some ex61).2
 obtain ⟨cs63,hcl63,H⟩:=H.slEl 4 rfl hp62 (idxO_some ex61).2
 clear hcl63
 refine sv F rfl (y_idxS F elem22 rfl rfl rfl hp62 ex61) fun a F=>bk [999] F H rfl ⟨rfl,(aggn agg31 (H.rcLen 1 rfl)),trivial⟩ fun a F=>?_
 replace H:=H.owNil rByte 5
 refine s_allocA wkP F rfl rfl rfl agz31 rfl H fun b64 w a H F=>?_
 refine s_storeA wkP F rfl rfl agg31 rfl rfl rfl H 0 rfl (H.rcLen 3 rfl) rfl (H.rcFlat 3 rfl) fun w H=>?_
 replace H:=H.nf 10 rfl
 refine nl (rl (bk [4999,999] F H rfl ⟨rfl,(aggn agg27 (H.rcLen 5 rfl)),rfl,(aggn agg31 (H.rcLen 3 rfl)),trivial⟩ fun a F=>?_))
 obtain ⟨x65,ex65,hm⟩:=ob hm
 refine sd F rfl ent15 (w_nDo ex65 (H.pm 10 [5,3,0,1,2,3,4,5,6,7,8,9] rfl:):) ?_;rintro _ w a ⟨cs66,cs67,rfl,H⟩ F
 refine bb [0,0,0] F H rfl fun a F=>?_
 refine s_storeA wkP F rfl rfl agg27 rfl rfl rfl H 6 rfl (H.rcLen 0 rfl) (H.rcLen 7 rfl) (H.rcFlat 0 rfl) fun w H=>?_
 replace H:=H.nf 12 rfl
 refine lz (bn (ct (rl (bb [0,0] F H rfl fun a F=>?_))))
 refine lz (ct ?_);cases hm
 exact ⟨_,rfl,⟨cs66,F.sl rfl,(H.pm 12 [6,0,8,9,10,11] rfl:)⟩⟩
 refine ex (cx (cx ?_));cases hm;refine ⟨_,rfl,?_⟩;rintro rfl
 refine ch (ct ?_)
 exact ⟨cs59,F.sl rfl,(H.pm 6 [0,1,2,3,5] rfl:)⟩
 refine ct (sr (bk [0] F H rfl ⟨fld27_0,trivial⟩ fun a F=>?_))
 have G:=F;replace H:=rc_api_State (H.pk 1 rfl);obtain ⟨p68,c69,p70,c71,rfl,J⟩:=H;have H:=J;have F:=G;clear G J
 refine bk [2000] F H rfl ⟨rfl,plain24,trivial⟩ fun a F=>?_
 obtain ⟨x72,ex72,hm⟩:=ob hm
 refine sd F rfl ent16 (w_rCopyPairs ex72 (H.pm 6 [0,0,1,2,3,4,5] rfl:):) ?_;rintro _ w a ⟨p73,c73,rfl,H⟩ F
 refine bb [0] F H rfl fun a F=>?_
 replace H:=H.nf 7 rfl
 refine nl (sr (bk [3999,0] F H rfl ⟨rfl,(aggn agg27 rfl),trivial⟩ fun a F=>?_))
 replace H:=H.owNil rByte 5
 refine sv F rfl (y_build F rfl rfl (cs:=[.int .i64 (10),.string (txb (name)),.string (txb ([])),.int .i64 (0),.int .i64 (0),.slice none (([]:List UInt8)).length 0]) (by kernel_rfl)) fun a F=>?_
 replace H:=H.mkRc (R:=R_api_State) (cs:=[.slice p68 (r38.1).length c69,.slice p70 (r38.2).length c71]) (x:=(r38.1,r38.2)) (fun gg=>⟨_,_,rfl,⟨_,_,rfl,(gg 2 _ rfl).choose_spec⟩,⟨_,_,rfl,(gg 3 _ rfl).choose_spec⟩⟩)
 replace H:=H.frz 1 rfl
 replace H:=H.mkRc (R:=R_api_Op) (cs:=[.int .i64 (10),.string (txb (name)),.string (txb ([])),.int .i64 (0),.int .i64 (0),.slice none (([]:List UInt8)).length 0]) (x:=(10,name,[],0,0,([]:List UInt8))) (fun gg=>⟨_,_,rfl,rfl,⟨_,_,rfl,rfl,⟨_,_,rfl,rfl,⟨_,_,rfl,rfl,⟨_,_,rfl,rfl,⟨_,_,rfl,(gg 0 _ rfl).choose_spec⟩⟩⟩⟩⟩⟩)
 obtain ⟨x74,ex74,hm⟩:=ob hm
 refine sd F rfl ent15 (w_nDo ex74 (H.pm 10 [2,0,0,1,2,3,4,5,6,7,8,9] rfl:):) ?_;rintro _ w a ⟨cs75,cs76,rfl,H⟩ F
 refine bb [0,0,0] F H rfl fun a F=>?_
 replace H:=H.owNil rByte 5
 replace H:=H.owNil rStr 9
 refine s_allocA wkP F rfl rfl rfl agz35 rfl H fun b77 w a H F=>?_
 refine s_storeA wkP F rfl rfl agg27 rfl rfl rfl H 11 rfl (H.rcLen 3 rfl) rfl (H.rcFlat 3 rfl) fun w H=>?_
 refine s_storeA wkP F rfl rfl agg35 rfl rfl rfl H 0 rfl (H.rcLen 4 rfl) rfl (H.rcFlat 4 rfl) fun w H=>?_
 replace H:=H.nf 15 rfl
 refine nl (sq (sr (bk [0] F H rfl ⟨fld35_0,trivial⟩ fun a F=>?_)))
 have G:=F;replace H:=rc_api_Answer (H.pk 4 rfl);obtain ⟨p78,c79,p80,c81,rfl,J⟩:=H;have H:=J;have F:=G;clear G J
 refine bk [2000,0] F H rfl ⟨rfl,plain32,trivial⟩ fun a F=>nl (cNm F rfl hm (fun hg82 hm=>?_) (fun hg82 hm=>?_))
 refine sr (bk [0,2000,0,0] F H rfl ⟨fld35_0,rfl,plain32,trivial⟩ fun a F=>?_)
 rcases spP 58 F rfl hm with ⟨hg83,hm,F⟩ | ⟨hg83,hm,F⟩
 refine bb (List.replicate 10 0) F H rfl fun a F=>nl (wr (tr ?_))
 cases hm
 refine x_ret1 F rfl rfl ?_
 exact ⟨_,rfl,rfl,(H.pm 16 [] rfl:)⟩
 refine bk [0,2000,0,0,0] F H rfl ⟨fld35_0,rfl,plain32,trivial⟩ fun a F=>?_
 rcases spP 63 F rfl hm with ⟨hg84,hm,F⟩ | ⟨hg84,hm,F⟩
 refine bb (List.replicate 5 0) F H rfl fun a F=>nl (wr (tr ?_))
 cases hm
 refine x_ret1 F rfl rfl ?_
 exact ⟨_,rfl,rfl,(H.pm 16 [] rfl:)⟩
 refine bk [0,2000,0,0,0] F H rfl ⟨fld35_0,rfl,plain32,trivial⟩ fun a F=>nl (wr (tr ?_))
 cases hm
 refine x_ret1 F rfl rfl ?_
 exact ⟨_,rfl,rfl,(H.pm 16 [] rfl:)⟩
 refine sk (ct (sq (sr (bk [0,0,0] F H rfl ⟨⟨_,Tryz.underlying22⟩,trivial⟩ fun a F=>?_))))
 refine nl (xm1 16 [2,7,10] [0,1,2,3,4,9,13,14] F H hm rfl rfl (fun r182 (cs183:List Value) z=>z) (fun r182 cs183 z=>HP.blk b9 (cs183) 27::HP.rc R_api_State cs183 r182::z) (fun r182 hm=>?_) (fun r182 a w hm cs183 F H=>?_))
 refine bl (xl1 16 [2,7,10,68,69] [0,1,2,3,4,9,13,14,15] F H hm rfl rfl (fun (s248:T_api_State×Int) (cs249:List Value) z=>(70,.int .i64 (s248.2))::z) (fun s248 cs249 z=>HP.blk b9 (cs249) 27::HP.rc R_api_State cs249 s248.1::z) ⟨cs75,F.sl rfl,(H.pm 16 [12,5,0,1,2,3,4,9,13,14,15] rfl:)⟩ (fun s248 a w o cs249 F H hm=>?_))
 refine sb [0] F H rfl fun a F=>nl (sq (cPm F rfl hm (fun hg250 hm=>?_) (fun hg250 hm=>?_)))
 refine sk (ct (sq (xm1 11 [2,7,10,68,69,70] [2,3,4,5,6,7,8,9,10] F H hm rfl rfl (fun r265 (cs266:List Value) z=>z) (fun r265 cs266 z=>HP.blk b9 (cs266) 27::HP.rc R_api_State cs266 r265::z) (fun r265 hm=>?_) (fun r265 a w hm cs266 F H=>?_))))
 refine bl (sr ?_)
 obtain ⟨x267,ex267,hm⟩:=ob hm
 obtain ⟨b268,o268,hp268⟩:=H.slP 10 rfl (idxO_some ex267).2
 obtain ⟨cs269,hcl269,H⟩:=H.slEl 10 rfl hp268 (idxO_some ex267).2
 clear hcl269
 refine sv F rfl (y_idxS F elem22 rfl rfl rfl hp268 ex267) fun a F=>bk [999] F H rfl ⟨rfl,(aggn agg31 (H.rcLen 1 rfl)),trivial⟩ fun a F=>?_
 replace H:=H.owNil rByte 5
 refine s_allocA wkP F rfl rfl rfl agz31 rfl H fun b270 w a H F=>?_
 refine s_storeA wkP F rfl rfl agg31 rfl rfl rfl H 0 rfl (H.rcLen 3 rfl) rfl (H.rcFlat 3 rfl) fun w H=>?_
 replace H:=H.nf 15 rfl
 refine nl (sq (sr (bk [0] F H rfl ⟨fld31_0,trivial⟩ fun a F=>?_)))
 have G:=F;replace H:=rc_api_Op (H.pk 3 rfl);obtain ⟨p271,c272,rfl,J⟩:=H;have H:=J;have F:=G;clear G J
 refine bk [1000,0,0] F H rfl ⟨rfl,plain3,trivial⟩ fun a F=>?_
 rcases spP 77 F rfl hm with ⟨hg273,hm,F⟩ | ⟨hg273,hm,F⟩
 refine bk [1,1001,0] F H rfl ⟨fld31_1,rfl,plain9,trivial⟩ fun a F=>?_
 refine g_onP F rfl rfl rfl rfl ?_
 refine sv F rfl (y_eqT (l:=x267.2.1) (m:=name) F rfl rfl rfl) fun a F=>bb [0] F H rfl fun a F=>?_
 refine nl (cPm F rfl hm (fun hg274 hm=>?_) (fun hg274 hm=>?_))
 refine ex (cx (ch ?_))
 cases hm
 refine ct ?_
 exact ⟨cs249,F.sl rfl,(H.pm 15 [4,5,6,7,8,9,10,11,12,13,14] rfl:)⟩
 refine sk (ct (rl (bk [4999,1999] F H rfl ⟨rfl,(aggn agg27 (H.rcLen 5 rfl)),rfl,(aggn agg31 rfl),trivial⟩ fun a F=>?_)))
 replace H:=H.mkRc (R:=R_api_Op) (cs:=[.int .i64 (x267.1),.string (txb (x267.2.1)),.string (txb (x267.2.2.1)),.int .i64 (x267.2.2.2.1),.int .i64 (x267.2.2.2.2.1),.slice p271 (x267.2.2.2.2.2).length c272]) (x:=(x267.1,x267.2.1,x267.2.2.1,x267.2.2.2.1,x267.2.2.2.2.1,x267.2.2.2.2.2)) (fun gg=>⟨_,_,rfl,rfl,⟨_,_,rfl,rfl,⟨_,_,rfl,rfl,⟨_,_,rfl,rfl,⟨_,_,rfl,rfl,⟨_,_,rfl,(gg 0 _ rfl).choose_spec⟩⟩⟩⟩⟩⟩)
 obtain ⟨x275,ex275,hm⟩:=ob hm
 refine sd F rfl ent15 (w_nDo ex275 (H.pm 16 [6,0,0,1,2,3,4,5,6,7,8,9,10,11,12,13,14,15] rfl:):) ?_;rintro _ w a ⟨cs276,cs277,rfl,H⟩ F
 refine bb [0,0,0] F H rfl fun a F=>?_
 refine s_storeA wkP F rfl rfl agg27 rfl rfl rfl H 7 rfl (H.rcLen 0 rfl) (H.rcLen 8 rfl) (H.rcFlat 0 rfl) fun w H=>?_
 replace H:=H.nf 18 rfl
 refine lz (bn ?_)
 cases hm
 refine ct ?_
 exact ⟨cs276,F.sl rfl,(H.pm 18 [7,0,9,10,11,12,13,14,15,16,17] rfl:)⟩
 refine bb (List.replicate 5 0) F H rfl fun a F=>nl (cF F rfl ?_)
 refine sk (ct (rl (bk [4999,1999] F H rfl ⟨rfl,(aggn agg27 (H.rcLen 5 rfl)),rfl,(aggn agg31 rfl),trivial⟩ fun a F=>?_)))
 replace H:=H.mkRc (R:=R_api_Op) (cs:=[.int .i64 (x267.1),.string (txb (x267.2.1)),.string (txb (x267.2.2.1)),.int .i64 (x267.2.2.2.1),.int .i64 (x267.2.2.2.2.1),.slice p271 (x267.2.2.2.2.2).length c272]) (x:=(x267.1,x267.2.1,x267.2.2.1,x267.2.2.2.1,x267.2.2.2.2.1,x267.2.2.2.2.2)) (fun gg=>⟨_,_,rfl,rfl,⟨_,_,rfl,rfl,⟨_,_,rfl,rfl,⟨_,_,rfl,rfl,⟨_,_,rfl,rfl,⟨_,_,rfl,(gg 0 _ rfl).choose_spec⟩⟩⟩⟩⟩⟩)
 obtain ⟨x278,ex278,hm⟩:=ob hm
 refine sd F rfl ent15 (w_nDo ex278 (H.pm 16 [6,0,0,1,2,3,4,5,6,7,8,9,10,11,12,13,14,15] rfl:):) ?_;rintro _ w a ⟨cs279,cs280,rfl,H⟩ F
 refine bb [0,0,0] F H rfl fun a F=>?_
 refine s_storeA wkP F rfl rfl agg27 rfl rfl rfl H 7 rfl (H.rcLen 0 rfl) (H.rcLen 8 rfl) (H.rcFlat 0 rfl) fun w H=>?_
 replace H:=H.nf 18 rfl
 refine lz (bn ?_)
 cases hm
 refine ct ?_
 exact ⟨cs279,F.sl rfl,(H.pm 18 [7,0,9,10,11,12,13,14,15,16,17] rfl:)⟩
 refine ct (rl (bb [0,0] F H rfl fun a F=>?_))
 refine lz (ct ?_);cases hm
 exact ⟨_,rfl,⟨cs266,F.sl rfl,H⟩⟩
 refine ex (cx (cx ?_));cases hm;refine ⟨_,rfl,?_⟩;rintro rfl
 refine ch (ct ?_)
 exact ⟨cs249,F.sl rfl,(H.pm 11 [0,1,2,3,4,5,6,7,8,9] rfl:)⟩
 refine ct (sb [0] F H rfl fun a F=>?_)
 refine nl (sq (sr (bk [1] F H rfl ⟨fld27_1,trivial⟩ fun a F=>?_)))
 have G:=F;replace H:=rc_api_State (H.pk 1 rfl);obtain ⟨p281,c282,p283,c284,rfl,J⟩:=H;have H:=J;have F:=G;clear G J
 refine bk [2001,0,0] F H rfl ⟨rfl,plain25,⟨_,Tryz.underlying25⟩,trivial⟩ fun a F=>nl (xm2 11 [2,7] [0,1,2,3,4,5,6,7,9,10] F H hm rfl rfl (fun r321 (p322:Option Addr) (c322:Nat) z=>(10,.slice p322 (r321.1).length c322)::(14,.bool (r321.2))::z) (fun r321 p322 c322 z=>HP.sl R_api_Pair p322 c322 r321.1::z) (fun r321 hm=>?_) (fun r321 a w hm p322 c322 F H=>?_))
 refine bl ?_
 replace H:=H.frz 8 rfl
 refine xl2 11 [2,7,91,92] [1,2,3,4,5,6,7,8,9,10] F H hm rfl rfl (fun (s346:(List T_api_Pair)×Bool×Int) (p347:Option Addr) (c347:Nat) z=>(10,.slice p347 (s346.1).length c347)::(14,.bool (s346.2.1))::(93,.int .i64 (s346.2.2))::z) (fun s346 p347 c347 z=>HP.sl R_api_Pair p347 c347 s346.1::z) ⟨p73,c73,F.sl rfl,H⟩ (fun s346 a w o p347 c347 F H hm=>?_)
 refine sb [0] F H rfl fun a F=>nl (sq (cPm F rfl hm (fun hg348 hm=>?_) (fun hg348 hm=>?_)))
 refine sk (ct (sq (bl (sr ?_))))
 obtain ⟨x349,ex349,hm⟩:=ob hm
 obtain ⟨b350,o350,hp350⟩:=H.slP 2 rfl (idxO_some ex349).2
 obtain ⟨cs351,hcl351,H⟩:=H.slEl 2 rfl hp350 (idxO_some ex349).2
 clear hcl351
 refine sv F rfl (y_idxS F elem25 rfl rfl rfl hp350 ex349) fun a F=>bk [999] F H rfl ⟨rfl,(aggn agg41 (H.rcLen 1 rfl)),trivial⟩ fun a F=>?_
 replace H:=H.owNil R_api_Pair 103
 refine s_allocA wkP F rfl rfl rfl agz41 rfl H fun b352 w a H F=>?_
 refine s_storeA wkP F rfl rfl agg41 rfl rfl rfl H 0 rfl (H.rcLen 3 rfl) rfl (H.rcFlat 3 rfl) fun w H=>?_
 replace H:=H.nf 15 rfl
 refine nl (rl (bb [0,0] F H rfl fun a F=>?_))
 by_cases hg353:s346.2.1=true
 replace hm:=ifT hg353 hm
 replace F:=F.vT 98 hg353 rfl
 refine bb (List.replicate 17 0) F H rfl fun a F=>?_
 refine lz (bn (ct (rl (bb [0,0] F H rfl fun a F=>?_))))
 refine lz (ct ?_);cases hm
 exact ⟨_,rfl,⟨p347,c347,F.sl rfl,(H.pm 15 [4,5,6,7,8,9,10,11,12,13,14] rfl:)⟩⟩
 replace hm:=ifF hg353 hm
 replace F:=F.vF 98 hg353 rfl
 refine bk [0] F H rfl ⟨fld41_0,trivial⟩ fun a F=>?_
 refine g_onP F rfl rfl rfl rfl ?_
 have G:=F;replace H:=rc_api_Snap (H.pk 3 rfl);obtain ⟨p354,c355,rfl,J⟩:=H;have H:=J;have F:=G;clear G J
 refine bk [1000,0] F H rfl ⟨rfl,plain9,trivial⟩ fun a F=>?_
 refine g_onP F rfl rfl rfl rfl ?_
 refine sv F rfl (y_eqT (l:=x349.1) (m:=name) F rfl rfl rfl) fun a F=>bb [0] F H rfl fun a F=>?_
 rcases spP 103 F rfl hm with ⟨hg356,hm,F⟩ | ⟨hg356,hm,F⟩
 refine bk [1,1001,0,0,0] F H rfl ⟨fld41_1,rfl,plain38,trivial⟩ fun a F=>?_
 rcases spP 108 F rfl hm with ⟨hg357,hm,F⟩ | ⟨hg357,hm,F⟩
 refine bk [2,1002,0] F H rfl ⟨fld41_2,rfl,plain24,trivial⟩ fun a F=>?_
 refine g_onP F rfl rfl rfl rfl ?_
 obtain ⟨x358,ex358,hm⟩:=ob hm
 refine sd F rfl ent17 (w_rSamePairs ex358 (H.pm 15 [0,4,0,1,2,3,4,5,6,7,8,9,10,11,12,13,14] rfl:):) ?_;rintro _ w a ⟨rfl,H⟩ F
 refine bb [0,0,0] F H rfl fun a F=>?_
 replace H:=H.nf 15 rfl
 refine lz (bn (ct (rl (bb [0,0] F H rfl fun a F=>?_))))
 refine lz (ct ?_);cases hm
 exact ⟨_,rfl,⟨p347,c347,F.sl rfl,(H.pm 15 [4,5,6,7,8,9,10,11,12,13,14] rfl:)⟩⟩
 refine bb (List.replicate 7 0) F H rfl fun a F=>?_
 refine lz (bn (ct (rl (bb [0,0] F H rfl fun a F=>?_))))
 refine lz (ct ?_);cases hm
 exact ⟨_,rfl,⟨p347,c347,F.sl rfl,(H.pm 15 [4,5,6,7,8,9,10,11,12,13,14] rfl:)⟩⟩
 refine bb (List.replicate 12 0) F H rfl fun a F=>?_
 refine lz (bn (ct (rl (bb [0,0] F H rfl fun a F=>?_))))
 refine lz (ct ?_);cases hm
 exact ⟨_,rfl,⟨p347,c347,F.sl rfl,(H.pm 15 [4,5,6,7,8,9,10,11,12,13,14] rfl:)⟩⟩
 refine ex (cx (cx ?_));cases hm;refine ⟨_,rfl,?_⟩;rintro rfl
 refine ch (ct ?_)
 exact ⟨p347,c347,F.sl rfl,H⟩
 refine ct (sr (bk [3999,0] F H rfl ⟨rfl,(aggn agg27 rfl),trivial⟩ fun a F=>?_))
 replace H:=H.owNil rByte 5
 refine sv F rfl (y_build F rfl rfl (cs:=[.int .i64 (12),.string (txb (name)),.string (txb ([])),.int .i64 (0),.int .i64 (0),.slice none (([]:List UInt8)).length 0]) (by kernel_rfl)) fun a F=>?_
 replace H:=H.mkRc (R:=R_api_State) (cs:=[.slice p281 (r182.1).length c282,.slice p283 (r182.2).length c284]) (x:=(r182.1,r182.2)) (fun gg=>⟨_,_,rfl,⟨_,_,rfl,(gg 2 _ rfl).choose_spec⟩,⟨_,_,rfl,(gg 3 _ rfl).choose_spec⟩⟩)
 replace H:=H.frz 1 rfl
 replace H:=H.mkRc (R:=R_api_Op) (cs:=[.int .i64 (12),.string (txb (name)),.string (txb ([])),.int .i64 (0),.int .i64 (0),.slice none (([]:List UInt8)).length 0]) (x:=(12,name,[],0,0,([]:List UInt8))) (fun gg=>⟨_,_,rfl,rfl,⟨_,_,rfl,rfl,⟨_,_,rfl,rfl,⟨_,_,rfl,rfl,⟨_,_,rfl,rfl,⟨_,_,rfl,(gg 0 _ rfl).choose_spec⟩⟩⟩⟩⟩⟩)
 obtain ⟨x359,ex359,hm⟩:=ob hm
 refine sd F rfl ent15 (w_nDo ex359 (H.pm 14 [2,0,0,1,2,3,4,5,6,7,8,9,10,11,12,13] rfl:):) ?_;rintro _ w a ⟨cs360,cs361,rfl,H⟩ F
 refine bb [0,0,0] F H rfl fun a F=>?_
 replace H:=H.owNil rByte 5
 replace H:=H.owNil rStr 9
 refine s_allocA wkP F rfl rfl rfl agz35 rfl H fun b362 w a H F=>?_
 refine s_storeA wkP F rfl rfl agg27 rfl rfl rfl H 11 rfl (H.rcLen 3 rfl) rfl (H.rcFlat 3 rfl) fun w H=>?_
 refine s_storeA wkP F rfl rfl agg35 rfl rfl rfl H 0 rfl (H.rcLen 4 rfl) rfl (H.rcFlat 4 rfl) fun w H=>?_
 replace H:=H.nf 19 rfl
 refine nb [0,0] F H rfl fun a F=>?_
 by_cases hg363:r321.2=true
 replace hm:=ifT hg363 hm
 replace F:=F.vT 124 hg363 rfl
 refine bk [0] F H rfl ⟨fld35_0,trivial⟩ fun a F=>?_
 refine g_onP F rfl rfl rfl rfl ?_
 have G:=F;replace H:=rc_api_Answer (H.pk 4 rfl);obtain ⟨p364,c365,p366,c367,rfl,J⟩:=H;have H:=J;have F:=G;clear G J
 refine bk [2000,0,0] F H rfl ⟨rfl,plain32,trivial⟩ fun a F=>?_
 rcases spP 128 F rfl hm with ⟨hg368,hm,F⟩ | ⟨hg368,hm,F⟩
 refine bk [0] F H rfl ⟨fld27_0,trivial⟩ fun a F=>?_
 refine g_onP F rfl rfl rfl rfl ?_
 have G:=F;replace H:=rc_api_State (H.pk 5 rfl);obtain ⟨p369,c370,p371,c372,rfl,J⟩:=H;have H:=J;have F:=G;clear G J
 refine bk [13000,0] F H rfl ⟨rfl,plain24,trivial⟩ fun a F=>?_
 refine g_onP F rfl rfl rfl rfl ?_
 obtain ⟨x373,ex373,hm⟩:=ob hm
 refine sd F rfl ent17 (w_rSamePairs ex373 (H.pm 21 [0,10,0,1,2,3,4,5,6,7,8,9,10,11,12,13,14,15,16,17,18,19,20] rfl:):) ?_;rintro _ w a ⟨rfl,H⟩ F
 refine bb [0,0] F H rfl fun a F=>?_
 by_cases hg374:x373=true
 replace hm:=ifT hg374 hm
 replace F:=F.vT 134 hg374 rfl
 refine bb (List.replicate 6 0) F H rfl fun a F=>?_
 replace H:=H.nf 21 rfl
 refine nl (wr ?_)
 cases hm
 refine x_ret1 F rfl rfl ?_
 exact ⟨_,rfl,rfl,(H.pm 21 [] rfl:)⟩
 replace hm:=ifF hg374 hm
 replace F:=F.vF 134 hg374 rfl
 refine bk [0,4000,0,0,0,0] F H rfl ⟨fld35_0,rfl,plain32,trivial⟩ fun a F=>?_
 replace H:=H.nf 21 rfl
 refine nl (wr ?_)
 cases hm
 refine x_ret1 F rfl rfl ?_
 exact ⟨_,rfl,rfl,(H.pm 21 [] rfl:)⟩
 refine bk [0,0,0,0,0,0,0,2000,0,0,0,0] F H rfl ⟨fld35_0,rfl,plain32,trivial⟩ fun a F=>nl (wr ?_)
 cases hm
 refine x_ret1 F rfl rfl ?_
 exact ⟨_,rfl,rfl,(H.pm 20 [] rfl:)⟩
 replace hm:=ifF hg363 hm
 replace F:=F.vF 124 hg363 rfl
 refine bb (List.replicate 16 0) F H rfl fun a F=>nl (wr ?_)
 cases hm
 refine x_ret1 F rfl rfl ?_
 exact ⟨_,rfl,rfl,(H.pm 19 [] rfl:)⟩
end Go.Proofs.YtnagibpmfabkjaaGreatDoor
namespace Go.Tri
open Go.RowKit
def iterF {σ:Type} (step:Nat→σ→σ):Nat→Nat→σ→σ
 | 0,_,s=>s
 | m+1,i,s=>iterF step m (i+1) (step i s)
theorem loop_for {σ ρ:Type} {f:σ×Int→Option ((σ×Int) ⊕ ρ)} (step:Nat→σ→σ) (fin:σ→ρ) (n:Nat) (I:Nat→σ→Prop)
  (hs:∀ i s,i<n→I i s→f (s,(i:Int))=some (.inl (step i s,((i+1:Nat):Int)))∧I (i+1) (step i s)) (he:∀ s,I n s→f (s,(n:Int))=some (.inr (fin s))) :
  ∀ (m i:Nat) (s:σ),i+m=n→I i s→loopO f (s,(i:Int))=some (fin (iterF step m i s))∧I n (iterF step m i s)
 | 0,i,s,h,hi=>by
  have:i=n:=by omega
  subst this
  rw [loopO_eq,he s hi]
  exact ⟨rfl,hi⟩
 | m+1,i,s,h,hi=>by
  obtain ⟨h1,h2⟩:=hs i s (by omega) hi
  rw [loopO_eq,h1]
  exact loop_for step fin n I hs he m (i+1) (step i s) (by omega) h2
theorem loop_for0 {σ ρ:Type} {f:σ×Int→Option ((σ×Int) ⊕ ρ)} (step:Nat→σ→σ) (fin:σ→ρ) (n:Nat) (I:Nat→σ→Prop)
  (hs:∀ i s,i<n→I i s→f (s,(i:Int))=some (.inl (step i s,((i+1:Nat):Int)))∧I (i+1) (step i s)) (he:∀ s,I n s→f (s,(n:Int))=some (.inr (fin s))) {s0:σ} (h0:I 0 s0) :
  loopO f (s0,0)=some (fin (iterF step n 0 s0))∧I n (iterF step n 0 s0):=loop_for step fin n I hs he n 0 s0 (by omega) h0
theorem iterF_congr {σ:Type} {f g:Nat→σ→σ} (I:Nat→σ→Prop) (n:Nat) (h:∀ i s,i<n→I i s→f i s=g i s∧I (i+1) (f i s)):∀ (m i:Nat) (s:σ),i+m=n→I i s→iterF f m i s=iterF g m i s
 | 0,_,_,_,_=>rfl
 | m+1,i,s,hm,hi=>by
  obtain ⟨h1,h2⟩:=h i s (by omega) hi
  show iterF f m (i+1) (f i s)=iterF g m (i+1) (g i s)
  rw [← h1]
  exact iterF_congr I n h m (i+1) (f i s) (by omega) h2
theorem idxO_nat {α:Type} {xs:List α} {i:Nat} {x:α} (h:xs[i]?=some x):idxO xs (i:Int)=some x:=by
 unfold idxO;rw [if_pos (by omega)];simpa using h
theorem idxO_get {α:Type} {xs:List α} {i:Nat} (h:i<xs.length):idxO xs (i:Int)=some xs[i]:=idxO_nat (List.getElem?_eq_getElem h)
theorem idxO_getD {α:Type} {xs:List α} {i:Int} {n:Nat} (d:α) (hi:i=(n:Int)) (h:n<xs.length):idxO xs i=some (xs.getD n d):=by
 subst hi
 rw [idxO_get h];simp [List.getD,List.getElem?_eq_getElem h]
theorem slcO_of {α:Type} {xs:List α} {i j:Nat} (h1:i≤j) (h2:j≤xs.length):slcO xs (i:Int) (j:Int)=some ((xs.take j).drop i):=by
 unfold slcO;rw [if_pos ⟨by omega,by omega,by omega⟩];simp
theorem appO_of {α:Type} [Cap α] {xs ys:List α} (h:xs.length+ys.length≤274877906944):appO xs ys=some (xs++ys):=by
 unfold appO;rw [if_pos (Nat.le_trans h Cap.le)]
theorem appO_byte {xs ys:List UInt8} (h:xs.length+ys.length≤140737488355328):appO xs ys=some (xs++ys):=by
 unfold appO;rw [if_pos (show xs.length+ys.length≤Cap.cap UInt8 from h)]
theorem wrap_u8' (n:Int):IntKind.u8.wrap n=n % 256:=by
 unfold IntKind.wrap;simp [IntKind.signed,IntKind.bits]
theorem i64_id {n:Int} (h1:-9223372036854775808≤n) (h2:n≤9223372036854775807):IntKind.i64.wrap n=n:=wrap_i64 rfl h1 h2
theorem u64_id {n:Int} (h1:0≤n) (h2:n<18446744073709551616):IntKind.u64.wrap n=n:=wrap_u64 rfl h1 (by omega)
theorem u8O_of {n:Int} (h1:0≤n) (h2:n<256):u8O n=some (u8 n):=by unfold u8O;rw [if_pos ⟨h1,h2⟩]
theorem loop_down {σ ρ:Type} {f:σ×Int→Option ((σ×Int) ⊕ ρ)} (step:Nat→σ→σ) (fin:σ→ρ) (I:Nat→σ→Prop)
  (hs:∀ i s,I (i+1) s→f (s,(i:Int))=some (.inl (step i s,(i:Int) - 1))∧I i (step i s)) (he:∀ s,I 0 s→f (s,-1)=some (.inr (fin s))) :
  ∀ (n:Nat) (s:σ),I n s→loopO f (s,(n:Int) - 1)=some (fin ((List.range n).reverse.foldl (fun s i=>step i s) s))
 | 0,s,h=>by
  rw [loopO_eq]
  have:f (s,((0:Nat):Int) - 1)=some (.inr (fin s)):=he s h
  rw [this];rfl
 | n+1,s,h=>by
  obtain ⟨h1,h2⟩:=hs n s h
  rw [loopO_eq]
  have e:((n+1:Nat):Int) - 1=n:=by omega
  rw [e,h1]
  show loopO f (step n s,(n:Int) - 1)=_
  rw [loop_down step fin I hs he n (step n s) h2,List.range_succ,List.reverse_append]
  rfl
theorem shrI_nat (k:IntKind) (n c:Nat) (hc:c≤k.bits):shrI k (n:Int) (c:Int)=((n / 2 ^ c:Nat):Int):=by
 unfold shrI
 rw [show min (c:Int).toNat k.bits=c by omega,Int.fdiv_eq_ediv_of_nonneg _ (by exact_mod_cast Nat.zero_le (2 ^ c))]
 push_cast;rfl
theorem loop_run {σ ρ:Type} {f:σ→Option (σ ⊕ ρ)} (I:Nat→σ→Prop) (Q:ρ→Prop) (n:Nat)
  (hs:∀ i s,i<n→I i s→(∃ s',f s=some (.inl s')∧I (i+1) s')∨(∃ r,f s=some (.inr r)∧Q r))
  (he:∀ s,I n s→∃ r,f s=some (.inr r)∧Q r):∀ (m i:Nat) (s:σ),i+m=n→I i s→∃ r,loopO f s=some r∧Q r
 | 0,i,s,h,hi=>by
  obtain rfl:i=n:=by omega
  obtain ⟨r,h1,h2⟩:=he s hi
  exact ⟨r,by rw [loopO_eq,h1];rfl,h2⟩
 | m+1,i,s,h,hi=>by
  rcases hs i s (by omega) hi with ⟨s',h1,h2⟩ | ⟨r,h1,h2⟩
  ·obtain ⟨r,h3,h4⟩:=loop_run I Q n hs he m (i+1) s' (by omega) h2
   exact ⟨r,by rw [loopO_eq,h1];exact h3,h4⟩
  ·exact ⟨r,by rw [loopO_eq,h1];rfl,h2⟩
theorem bind_runP {σ ρ τ:Type} {f:σ→Option (σ ⊕ ρ)} {k:ρ→Option τ} {C:Option τ→Prop} (I:Nat→σ→Prop) (Q:ρ→Prop) (n:Nat) {s0:σ} (h0:I 0 s0)
  (hs:∀ i s,i<n→I i s→(∃ s',f s=some (.inl s')∧I (i+1) s')∨(∃ r,f s=some (.inr r)∧Q r))
  (he:∀ s,I n s→∃ r,f s=some (.inr r)∧Q r) (hk:∀ r,Q r→C (k r)):C (Option.bind (loopO f s0) k):=by
 obtain ⟨r,h1,h2⟩:=loop_run I Q n hs he n 0 s0 (by omega) h0
 rw [h1];exact hk r h2
theorem bind_run {σ ρ τ:Type} {f:σ→Option (σ ⊕ ρ)} {k:ρ→Option τ} {t:τ} (I:Nat→σ→Prop) (Q:ρ→Prop) (n:Nat) {s0:σ} (h0:I 0 s0)
  (hs:∀ i s,i<n→I i s→(∃ s',f s=some (.inl s')∧I (i+1) s')∨(∃ r,f s=some (.inr r)∧Q r))
  (he:∀ s,I n s→∃ r,f s=some (.inr r)∧Q r) (hk:∀ r,Q r→k r=some t):Option.bind (loopO f s0) k=some t :=
 bind_runP (C:=fun o=>o=some t) I Q n h0 hs he hk
end Go.Tri
