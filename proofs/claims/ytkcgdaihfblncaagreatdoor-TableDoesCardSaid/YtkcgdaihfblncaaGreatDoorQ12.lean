/- Texts TabA, TabB, TabC. -/
import Derived.Test.YtkcgdaihfblncaaGreatDoorQ11
set_option linter.unusedSimpArgs false
set_option linter.unusedVariables false
namespace Go.Proofs.YtkcgdaihfblncaaGreatDoor
open Go.RowKit Go.Tri
variable {w0 w:World} {l:List HP}
set_option maxRecDepth 100000
set_option maxHeartbeats 4000000
theorem w_penText {p:T_pack_Pen_o} {b:List UInt8} {bo0:Nat} {p0:Option Addr} {c0:Nat} {r:Int×T_pack_Pen_o} (hm:penText p b=some r) (H:St w0 w (O_pack_Pen bo0 p::HP.sl rByte p0 c0 b::l)) :
  Calls Tryz.prog 57 [.pointer (some ⟨bo0,0,none⟩),.slice p0 (b).length c0].toArray w (fun e w'=>∃ v,e=.returned v/\v=.int .i64 (r.1)/\St w0 w' (O_pack_Pen bo0 r.2::l)):=by
 unfold penText at hm
 exact au Tryz.func57
instance:Ctr Tryz.prog 57 0 (type_of% @w_penText):=⟨enters Tryz.func57 (by kernel_rfl) rfl,@w_penText⟩
theorem aA3 {x:Int}  {r:Bool} (hm:mE x=some r) (H:St w0 w (l)) :
  Calls Tryz.prog 89 [.int .i64 (x)].toArray w (fun e w'=>∃ v,e=.returned v/\v=.bool (r)/\St w0 w' (l)):=by
 unfold mE at hm
 exact au Tryz.func89
instance:Ctr Tryz.prog 89 0 (type_of% @aA3):=⟨enters Tryz.func89 (by kernel_rfl) rfl,@aA3⟩
theorem aAj {x:Int} {y:Int}  {r:Int} (hm:rT x y=some r) (H:St w0 w (l)) :
  Calls Tryz.prog 59 [.int .i64 (x),.int .i64 (y)].toArray w (fun e w'=>∃ v,e=.returned v/\v=.int .i64 (r)/\St w0 w' (l)):=by
 unfold rT at hm
 exact au Tryz.func59
instance:Ctr Tryz.prog 59 0 (type_of% @aAj):=⟨enters Tryz.func59 (by kernel_rfl) rfl,@aAj⟩
theorem nJ:aM Tryz.prog 49 0 0:=by unfold aM;rw [Tryz.underlying49];kernel_rfl
instance:FldC Tryz.prog 49 0 0:=⟨nJ⟩
theorem aE7 {a_:T_api_Seat} {b_:T_api_Seat} {cs0:List Value} {cs1:List Value} {r:Int} (hm:gH a_ b_=some r) (H:St w0 w (HP.rc R_api_Seat cs0 a_::HP.rc R_api_Seat cs1 b_::l)) :
  Calls Tryz.prog 29 [.agg cs0.toArray,.agg cs1.toArray].toArray w (fun e w'=>∃ v,e=.returned v/\v=.int .i64 (r)/\St w0 w' (l)):=by
 unfold gH at hm
 exact au Tryz.func29
instance:Ctr Tryz.prog 29 0 (type_of% @aE7):=⟨enters Tryz.func29 (by kernel_rfl) rfl,@aE7⟩
theorem fK:ElemT Tryz.prog 26 49 6 80 (.agg [.int .i64 0,.int .u64 0,.int .i64 0,.int .i64 0,.slice none 0 0,.slice none 0 0].toArray):=⟨Tryz.underlying26,by kernel_rfl,by kernel_rfl,by decide⟩
instance:ElmC Tryz.prog 26 49 6 80 (.agg [.int .i64 0,.int .u64 0,.int .i64 0,.int .i64 0,.slice none 0 0,.slice none 0 0].toArray):=⟨fK⟩
theorem fA:AggT Tryz.prog 49 6 [.int .i64 0,.int .u64 0,.int .i64 0,.int .i64 0,.slice none 0 0,.slice none 0 0]:=⟨by rw [Tryz.underlying49];rfl,by kernel_rfl,by kernel_rfl⟩
instance:AggC Tryz.prog 49 6 [.int .i64 0,.int .u64 0,.int .i64 0,.int .i64 0,.slice none 0 0,.slice none 0 0]:=⟨fA⟩
theorem aGy {xs:List T_api_Seat} {t_:T_api_Seat} {p0:Option Addr} {c0:Nat} {cs0:List Value} {r:Int×Bool} (hm:nH xs t_=some r) (H:St w0 w (HP.ow R_api_Seat 49 p0 c0 xs::HP.rc R_api_Seat cs0 t_::l)) :
  Calls Tryz.prog 69 [.slice p0 (xs).length c0,.agg cs0.toArray,.func (.func 29) #[] #[]].toArray w (fun e w'=>∃ v,e=.returned v/\v=.tuple [.int .i64 (r.1),.bool (r.2)].toArray/\St w0 w' (HP.ow R_api_Seat 49 p0 c0 xs::l)):=by
 unfold nH at hm
 have h0:LH0 3 [0,2,4,8] [] (fun (s0:Int×Int) z=>(9,.int .i64 (s0.1))::(10,.int .i64 (s0.2))::z) (fun s0 z=>z):=⟨trivial⟩
 have h1:MH 5 [6] [] (scP [(0,0),(0,1),(0,2),(0,3),(1,4),(1,5),(2,6),(0,7)]) []:=⟨trivial⟩
 have h2:MH 8 [11] [] (scP [(0,0),(0,1),(0,2),(0,3),(0,4),(0,5),(0,6),(0,7),(0,8),(1,9),(1,10),(2,11),(0,12),(0,13),(0,14),(0,15)]) []:=⟨trivial⟩
 exact au Tryz.func69
instance:Ctr Tryz.prog 69 0 (type_of% @aGy):=⟨enters Tryz.func69 (by kernel_rfl) rfl,@aGy⟩
theorem aAy {seats:List T_api_Seat} {client:Int} {p0:Option Addr} {c0:Nat} {r:Int×Bool} (hm:jB seats client=some r) (H:St w0 w (HP.ow R_api_Seat 49 p0 c0 seats::l)) :
  Calls Tryz.prog 42 [.slice p0 (seats).length c0,.int .i64 (client)].toArray w (fun e w'=>∃ v,e=.returned v/\v=.tuple [.int .i64 (r.1),.bool (r.2)].toArray/\St w0 w' (HP.ow R_api_Seat 49 p0 c0 seats::l)):=by
 unfold jB at hm
 exact au Tryz.func42
instance:Ctr Tryz.prog 42 0 (type_of% @aAy):=⟨enters Tryz.func42 (by kernel_rfl) rfl,@aAy⟩
theorem aC9 {n:Int}  {r:Bool} (hm:mG n=some r) (H:St w0 w (l)) :
  Calls Tryz.prog 54 [.int .i64 (n)].toArray w (fun e w'=>∃ v,e=.returned v/\v=.bool (r)/\St w0 w' (l)):=by
 unfold mG at hm
 exact au Tryz.func54
instance:Ctr Tryz.prog 54 0 (type_of% @aC9):=⟨enters Tryz.func54 (by kernel_rfl) rfl,@aC9⟩
theorem aFb {s:List UInt8}  {r:Bool} (hm:oR s=some r) (H:St w0 w (l)) :
  Calls Tryz.prog 53 [.string (txb (s))].toArray w (fun e w'=>∃ v,e=.returned v/\v=.bool (r)/\St w0 w' (l)):=by
 unfold oR at hm
 exact au Tryz.func53
instance:Ctr Tryz.prog 53 0 (type_of% @aFb):=⟨enters Tryz.func53 (by kernel_rfl) rfl,@aFb⟩
theorem aE4 {s:List (List UInt8)} {p0:Option Addr} {c0:Nat} {r:Int} (hm:oP s=some r) (H:St w0 w (HP.sl rStr p0 c0 s::l)) :
  Calls Tryz.prog 86 [.slice p0 (s).length c0,.func (.func 53) #[] #[]].toArray w (fun e w'=>∃ v,e=.returned v/\v=.int .i64 (r)/\St w0 w' (l)):=by
 unfold oP at hm
 have h0:LH0 2 [0,1,7] [] (fun (s0:Int) z=>(8,.int .i64 (s0))::z) (fun s0 z=>z):=⟨trivial⟩
 exact au Tryz.func86
instance:Ctr Tryz.prog 86 1 (type_of% @aE4):=⟨enters Tryz.func86 (by kernel_rfl) rfl,@aE4⟩
theorem aAn {s:List (List UInt8)} {p0:Option Addr} {c0:Nat} {r:Bool} (hm:pG s=some r) (H:St w0 w (HP.sl rStr p0 c0 s::l)) :
  Calls Tryz.prog 55 [.slice p0 (s).length c0,.func (.func 53) #[] #[]].toArray w (fun e w'=>∃ v,e=.returned v/\v=.bool (r)/\St w0 w' (l)):=by
 unfold pG at hm
 exact au Tryz.func55
instance:Ctr Tryz.prog 55 1 (type_of% @aAn):=⟨enters Tryz.func55 (by kernel_rfl) rfl,@aAn⟩
theorem aCl {a_:T_api_Answer} {cs0:List Value} {r:(List UInt8)×Int} (hm:pH a_=some r) (H:St w0 w (HP.rc R_api_Answer cs0 a_::l)) :
  Calls Tryz.prog 28 [.agg cs0.toArray].toArray w (fun e w'=>∃ v,e=.returned v/\∃ (p0:Option Addr) (c0:Nat),v=.tuple [.slice p0 (r.1).length c0,.int .i64 (r.2)].toArray/\St w0 w' (HP.sl rByte p0 c0 r.1::l)):=by
 unfold pH at hm
 have h0:∀ (b0:Nat),LH0 10 [5,59,60] [(5,b0)] (fun (s0:T_pack_Pen_o×Int) z=>(61,.int .i64 (s0.2))::z) (fun s0 z=>O_pack_Pen b0 s0.1::z):=fun _=>⟨trivial⟩
 exact au Tryz.func28
section
open Go.ChangeShapes Go.WideShapes Go.ChangeAt
set_option maxHeartbeats 1000000 in
instance:Ctr Tryz.prog 28 0 (type_of% @aCl):=⟨enters Tryz.func28 (by kernel_rfl) rfl,@aCl⟩
theorem aP5 {w0 w:World} {l:List HP} {s:Value} {n:Nat} {xs:List Value} (H:St w0 w l) (i:Nat) (hi:l[i]?=some (HP.own 49 6 s n xs)) (hn:n<=1000) (bv cv:Nat) (cs:List Value) (hv:Row w bv 0 cs) (hcs:cs.length=6) (hfc:Flat cs) :
  Calls Tryz.prog 49 #[s,.int .i64 n,.slice (some ⟨bv,0,none⟩) 1 (cv+1)] w (fW 49 6 w0 l i n n xs cs):=by
 have hown:=H.owns i hi
 have HS:=Lib.hid (And.intro H hi)
 have hsl:∃ p cap,s=.slice p n cap/\n<=cap/\(p=none->n=0):=by
  obtain ⟨_,⟨rfl,rfl⟩ | ⟨g,cap,cur,rfl,hb,hg,hc,hm,hs,ht⟩⟩:=hown
  ·exact ⟨none,0,rfl,Nat.le_refl _,fun _=>rfl⟩
  ·exact ⟨_,_,rfl,hc,fun h=>by cases h⟩
 have hxl:=hown.1
 clear hown H hi
 obtain ⟨p,cap,rfl,hc,hp⟩:=hsl
 have HV:=Lib.hid (show Sl w (.slice (some ⟨bv,0,none⟩) 1 (cv+1)) 1 cs from .inr (.inr ⟨_,_,_,rfl,by omega,hv⟩))
 have HX:=Lib.hid hxl
 have HCS:=Lib.hid (show cs.length=1*6 from hcs)
 have HP:=Lib.hid hp
 have hc':(n:Int)<=(cap:Int):=by omega
 clear hxl hp hv hcs
 have hne:((n:Int)==(n:Int))=true:=by simp
 by_cases hcn:cap=n
 all_goals
  go_enter Tryz.func49,Tryz.ntmps49
  go_wp2_with ((with_reducible refine aG6 fK rfl ?_ ?_ ?_ HS.out.1 i HS.out.2 HV.out HCS.out hfc (by unfold maxLen;omega) (by omega) ?_);exact rfl;exact rfl;exact rfl;intro v' w2 h2;have H2:=Lib.hid h2;clear h2)
  go_ret
  refine ⟨_,rfl,?_⟩
  rw [<- HX.out,List.take_length,List.drop_length,List.append_nil]
  exact H2.out
set_option maxHeartbeats 2000000 in
theorem aP1 {w0 w:World} {l:List HP} {g cap n q:Nat} {xs cur:List Value} (H:St w0 w l) (i:Nat) (hi:l[i]?=some (HP.own 49 6 (.slice (some ⟨g,0,none⟩) n cap) n xs)) (hb:Blk w g cur 49) (hcur:cur.length=cap*6) (hxs:cur.take (n*6)=xs) (hfx:Flat xs) (hm:cap<=maxLen) (hn:n<=1000) (hq:q<n) (hroom:n+1<=cap)
  (bv cv:Nat) (cs cb:List Value) (hv:Blk w bv cb 49) (hvr:Row w bv 0 cs) (hcs:cs.length=6) (hfc:Flat cs) (hcn:cb≠[]) (hne:bv≠g) :
  Calls Tryz.prog 49 #[.slice (some ⟨g,0,none⟩) n cap,.int .i64 q,.slice (some ⟨bv,0,none⟩) 1 (cv+1)] w (fW 49 6 w0 l i n q xs cs):=by
 have HS:=Lib.hid (And.intro H hi)
 have HB:=Lib.hid hb;have HC:=Lib.hid hcur;have HXS:=Lib.hid hxs;have HV:=Lib.hid hv;have HVR:=Lib.hid hvr;have HCS:=Lib.hid hcs;have HM:=Lib.hid hm;have HCN:=Lib.hid hcn
 clear hb hcur hxs hv hvr hcs hm hcn H hi
 have e1:((q:Int)==(n:Int))=false:=by simp;omega
 have e2:decide ((cap:Int)<(n:Int)+1)=false:=by simp;omega
 have hci:¬ cap=q:=by omega
 have hci1:¬ cap=q+1:=by omega
 have hic:(q:Int)<=(n:Int):=by omega
 have hnc:(n:Int)+1<=(cap:Int):=by omega
 go_enter Tryz.func49,Tryz.ntmps49
 go_wp2
 have hun:cur≠[]:=fun h=>by have:=HC.out;rw [h] at this;simp at this;omega
 rw [run_callFunc_extern Tryz.func80 (by kernel_rfl) (by kernel_rfl) (by kernel_rfl) (e:=Extern.SlicesOverlaps.overlaps #[26,26] #[4]) (by kernel_rfl),
  aGu fK HV.out HB.out hne HCN.out hun 4]
 clear hun
 simp only [Result.andThen]
 rw [Oper.upon_value]
 go_wp2
 refine pO 8 (by kernel_rfl) (by kernel_rfl) ?_
 simp only [List.take_succ_cons,List.take_zero,List.drop_succ_cons,List.drop_zero]
 repeat (go_big_quiet_step (fail))
 refine wpQuiet_nil ?_
 intro _ hw'
 obtain ⟨nq,hw''⟩:=hw'
 subst hw''
 have HB1:=Lib.hid (show Blk (w.drewN nq) g cur 49 from HB.out)
 have HV1:=Lib.hid (show Row (w.drewN nq) bv 0 cs from HVR.out)
 have HG:=Lib.hid (Chg.drewN g w nq)
 generalize w.drewN nq=w1 at *
 have hl1:xs.length=n*6:=by rw [<- HXS.out,List.length_take,HC.out];omega
 have hdl:(xs.drop (q*6)).length=(n-q)*6:=by rw [List.length_drop,hl1,Nat.sub_mul]
 have hrow:Row w1 g (q*6) (xs.drop (q*6)):=by
  have h0:Row w1 g 0 (xs.take (q*6)++xs.drop (q*6)):=by
   rw [List.take_append_drop,<- HXS.out]
   have:=HB1.out.row
   rw [<- List.take_append_drop (n*6) cur] at this
   exact this.left
  have h1:=h0.right
  rw [List.length_take,hl1,Nat.min_eq_left (Nat.mul_le_mul_right 6 (by omega)),Nat.zero_add] at h1
  exact h1
 have HL1:=Lib.hid hl1;have HDL:=Lib.hid hdl;have HROW:=Lib.hid hrow
 clear hl1 hdl hrow
 have HSP:=Lib.hid (aBo cur xs cs (q*6) (n*6) 6 HXS.out (by rw [HC.out];omega) (by omega) HCS.out)
 refine iE fK rfl rfl rfl rfl HB1.out HROW.out ?_ ?_ ?_ ?_
 ·rw [HDL.out];congr 1;exact (Nat.min_eq_right (by omega)).symm
 ·rw [HDL.out,HC.out,<- Nat.add_mul];exact Nat.mul_le_mul_right 6 (by omega)
 ·exact fun v hv=>hfx v (List.mem_of_mem_drop hv)
 intro w2 hb2 hc2
 rw [show (q+1)*6=q*6+6 by omega] at hb2
 obtain ⟨C1,hC1⟩:∃ C1,C1=cur.take (q*6+6)++xs.drop (q*6)++cur.drop (q*6+6+(xs.drop (q*6)).length):=⟨_,rfl⟩
 rw [<- hC1] at hb2
 have hsp:=HSP.out
 simp only [<- hC1] at hsp
 have H2:=Lib.hid (And.intro hb2 (And.intro hc2 (HV1.out.chg hc2 hne)))
 have HSP2:=Lib.hid hsp
 have HN2:=Lib.hid (show cs.length=Nat.min 1 (n+1-q)*6 by rw [HCS.out,show Nat.min 1 (n+1-q)=1 from Nat.min_eq_left (by omega)])
 have HF2:=Lib.hid (show q*6+cs.length<=C1.length by rw [hsp.1,HC.out,HCS.out];omega)
 clear hb2 hc2 hsp hC1
 go_wp2_with ((with_reducible refine iE (dCap:=cap-q) (sCap:=cv+1) fK rfl ?_ ?_ ?_ H2.out.1 H2.out.2.2 HN2.out HF2.out hfc ?_);exact rfl;exact rfl;exact rfl;intro w3 hb3 hc3;have H3:=Lib.hid (And.intro hb3 hc3);clear hb3 hc3)
 go_ret
 refine ⟨_,rfl,HS.out.1.chg i HS.out.2 (g:=g) (fun S hA=>hA.2 g rfl) ((HG.out.trans H2.out.2.1).trans H3.out.2) fun S hA=>⟨⟨?_,.inr ⟨g,cap,_,rfl,Nat.zero_le _,H3.out.1,hroom,HM.out,?_,?_⟩⟩,hA.2⟩⟩
 ·simp only [List.length_append,List.length_take,List.length_drop,HL1.out,HCS.out];omega
 ·rw [List.size_toArray,HSP2.out.2.1,HC.out]
 ·rw [show (n+1)*6=n*6+6 by omega];exact HSP2.out.2.2
set_option maxHeartbeats 2000000 in
theorem aM7 {w0 w:World} {l:List HP} {g cap q:Nat} {xs:List Value} (H:St w0 w l) (i:Nat) (hi:l[i]?=some (HP.own 49 6 (.slice (some ⟨g,0,none⟩) cap cap) cap xs)) (hrx:Row w g 0 xs) (hxl:xs.length=cap*6) (hfx:Flat xs) (hgw:g<w.heap.size) (hn:cap<=1000) (hq:q<cap)
    (bv cv:Nat) (cs:List Value) (hv:Row w bv 0 cs) (hcs:cs.length=6) (hfc:Flat cs) (hvw:bv<w.heap.size) :
    Calls Tryz.prog 49 #[.slice (some ⟨g,0,none⟩) cap cap,.int .i64 q,.slice (some ⟨bv,0,none⟩) 1 (cv+1)] w (fW 49 6 w0 l i cap q xs cs):=by
  have HS:=Lib.hid (And.intro H hi)
  have hd0:Row w g 0 (xs.take (q*6)):=by
    have:=hrx;rw [<- List.take_append_drop (q*6) xs] at this;exact this.left
  have hd1:Row w g (q*6) (xs.drop (q*6)):=by
    have:=hrx;rw [<- List.take_append_drop (q*6) xs] at this
    have h1:=this.right
    rw [List.length_take,hxl,Nat.min_eq_left (Nat.mul_le_mul_right 6 (by omega)),Nat.zero_add] at h1
    exact h1
  have HD0:=Lib.hid hd0;have HD1:=Lib.hid hd1;have HXL:=Lib.hid hxl;have HV:=Lib.hid hv;have HCS:=Lib.hid hcs
  have HLO:=Lib.hid (show (xs.take (q*6)).length=q*6 by rw [List.length_take,hxl];exact Nat.min_eq_left (Nat.mul_le_mul_right 6 (by omega)))
  have HDL:=Lib.hid (show (xs.drop (q*6)).length=(cap-q)*6 by rw [List.length_drop,hxl,Nat.sub_mul])
  clear hd0 hd1 hxl hv hcs hrx H hi
  have e1:((q:Int)==(cap:Int))=false:=by simp;omega
  have e2:decide ((cap:Int)<(cap:Int)+1)=true:=by simp;omega
  have hci:¬ cap=q:=by omega
  have hc0:¬ cap=0:=by omega
  have hic:(q:Int)<=(cap:Int):=by omega
  go_enter Tryz.func49,Tryz.ntmps49
  go_wp2_with (first
    | ((with_reducible refine aFx (n:=q) (cap:=cap) (k:=cap+1-q) (m:=cap+1) (kk:=(cap:Int)+1-(q:Int)) fK u3 rfl ?_ (by omega) (by omega) ?_ ?_ HD0.out HLO.out (by omega) (by omega) (by unfold maxLen;omega) (by omega) ?_);exact rfl;exact rfl;exact rfl;intro c rs hc1 hc2 hc3;have hci2:¬ c=q:=(by omega);have hci3:¬ c=q+1:=(by omega);have hcc:(q:Int)<=(c:Int):=(by omega);
        have HC:=Lib.hid (And.intro hc2 (aFq xs cs rs (q*6) (cap*6) 6 (c*6) HXL.out (by omega) (by omega) HCS.out hc3));
        have HB0:=Lib.hid (show Blk ((w.alloc (.cells (xs.take (q*6)++rs).toArray 49)).drew) w.heap.size (xs.take (q*6)++rs) 49 from Blk.new w _ _);
        have HVR:=Lib.hid (show Row ((w.alloc (.cells (xs.take (q*6)++rs).toArray 49)).drew) bv 0 cs from HV.out.alloc _);
        have HGR:=Lib.hid (show Row ((w.alloc (.cells (xs.take (q*6)++rs).toArray 49)).drew) g (q*6) (xs.drop (q*6)) from HD1.out.alloc _);
        have HBL:=Lib.hid (show Below w.heap.size w ((w.alloc (.cells (xs.take (q*6)++rs).toArray 49)).drew) from ((Below.refl _ _).alloc (Nat.le_refl _) _).drew);
        have HN2:=Lib.hid (show cs.length=Nat.min 1 (cap+1-q)*6 by rw [HCS.out,show Nat.min 1 (cap+1-q)=1 from Nat.min_eq_left (by omega)]);
        have HF2:=Lib.hid (show q*6+cs.length<=(xs.take (q*6)++rs).length by rw [HC.out.2.1,HCS.out];omega);
        clear hc2 hc3)
    | ((with_reducible refine iE (dCap:=c-q) (sCap:=cv+1) fK rfl ?_ ?_ ?_ HB0.out HVR.out HN2.out HF2.out hfc ?_);exact rfl;exact rfl;exact rfl;intro w2 hb2 hc2;have H2:=Lib.hid (And.intro hb2 (And.intro (HGR.out.chg hc2 (by omega)) (HBL.out.chg hc2 (Nat.le_refl _))));clear hb2 hc2))
  refine pO 8 (by kernel_rfl) (by kernel_rfl) ?_
  simp only [List.take_succ_cons,List.take_zero,List.drop_succ_cons,List.drop_zero]
  repeat (go_big_quiet_step (fail))
  refine wpQuiet_nil ?_
  intro _ hw'
  obtain ⟨nq,hw''⟩:=hw'
  subst hw''
  refine iE fK rfl rfl rfl rfl (show Blk (w2.drewN nq) _ _ _ from H2.out.1) (show Row (w2.drewN nq) _ _ _ from H2.out.2.1) ?_ ?_ ?_ ?_
  · rw [HDL.out];congr 1;exact (Nat.min_eq_left (by omega)).symm
  · rw [HC.out.2.2.1,HDL.out,<- Nat.add_mul];exact Nat.mul_le_mul_right 6 (by omega)
  · exact fun v hv=>hfx v (List.mem_of_mem_drop hv)
  intro w3 hb3 hc3
  rw [show (q+1)*6=q*6+6 by omega] at hb3
  have H3:=Lib.hid (And.intro hb3 ((H2.out.2.2.drewN nq).chg hc3 (Nat.le_refl _)))
  clear hb3 hc3
  go_wp2
  go_ret
  have hlt:=H3.out.1.lt
  refine ⟨_,rfl,HS.out.1.upd i HS.out.2 (fun S hA hS=>⟨fun b=>b=w.heap.size,⟨⟨?_,.inr ⟨w.heap.size,c,_,rfl,Nat.zero_le _,H3.out.1,by omega,HC.out.1,?_,?_⟩⟩,fun b hb=>by simp [Value.ownBlock] at hb;exact hb.symm⟩,fun b hb=>.inr (by omega),fun b hb=>by rw [hb];exact hlt,fun b hb _=>H3.out.2.block b hb⟩) H3.out.2.os H3.out.2.tape H3.out.2.output H3.out.2.size⟩
  · simp only [List.length_append,HLO.out,HDL.out,HCS.out];omega
  · rw [List.size_toArray,HC.out.2.2.2.1]
  · rw [show (cap+1)*6=cap*6+6 by omega];exact HC.out.2.2.2.2
end
theorem aFk {s:List T_api_Seat} {i_:Int} {v:List T_api_Seat} {p0:Option Addr} {c0:Nat} {p1:Option Addr} {c1:Nat} {r:(List T_api_Seat)} (hm:oC s i_ v=some r) (H:St w0 w (HP.ow R_api_Seat 49 p0 c0 s::HP.ow R_api_Seat 49 p1 c1 v::l)) :
  Calls Tryz.prog 49 [.slice p0 (s).length c0,.int .i64 (i_),.slice p1 (v).length c1].toArray w (fun e w'=>∃ v,e=.returned v/\∃ (p2:Option Addr) (c2:Nat),v=.slice p2 (r).length c2/\St w0 w' (HP.ow R_api_Seat 49 p2 c2 r::l)):=by
 unfold oC at hm
 exact zU (k:=6) rfl (by decide) aP5 aP1 aM7 hm H
instance:Ctr Tryz.prog 49 0 (type_of% @aFk):=⟨enters Tryz.func49 (by kernel_rfl) rfl,@aFk⟩
set_option maxRecDepth 100000
set_option maxHeartbeats 4000000
theorem aAw {xs:List T_api_Seat} {t_:T_api_Seat} {p0:Option Addr} {c0:Nat} {cs0:List Value} {r:Int×Bool} (hm:fU xs t_=some r) (H:St w0 w (HP.sl R_api_Seat p0 c0 xs::HP.rc R_api_Seat cs0 t_::l)) :
  Calls Tryz.prog 69 [.slice p0 (xs).length c0,.agg cs0.toArray,.func (.func 29) #[] #[]].toArray w (fun e w'=>∃ v,e=.returned v/\v=.tuple [.int .i64 (r.1),.bool (r.2)].toArray/\St w0 w' (l)):=by
 unfold fU at hm
 have h0:LH0 3 [0,2,4,8] [] (fun (s0:Int×Int) z=>(9,.int .i64 (s0.1))::(10,.int .i64 (s0.2))::z) (fun s0 z=>z):=⟨trivial⟩
 have h1:MH 5 [6] [] (scP [(0,0),(0,1),(0,2),(0,3),(1,4),(1,5),(2,6),(0,7)]) []:=⟨trivial⟩
 have h2:MH 8 [11] [] (scP [(0,0),(0,1),(0,2),(0,3),(0,4),(0,5),(0,6),(0,7),(0,8),(1,9),(1,10),(2,11),(0,12),(0,13),(0,14),(0,15)]) []:=⟨trivial⟩
 exact au Tryz.func69
instance:Ctr Tryz.prog 69 1 (type_of% @aAw):=⟨enters Tryz.func69 (by kernel_rfl) rfl,@aAw⟩
theorem aF8 {seats:List T_api_Seat} {client:Int} {p0:Option Addr} {c0:Nat} {r:Int×Bool} (hm:jQ seats client=some r) (H:St w0 w (HP.sl R_api_Seat p0 c0 seats::l)) :
  Calls Tryz.prog 42 [.slice p0 (seats).length c0,.int .i64 (client)].toArray w (fun e w'=>∃ v,e=.returned v/\v=.tuple [.int .i64 (r.1),.bool (r.2)].toArray/\St w0 w' (l)):=by
 unfold jQ at hm
 exact au Tryz.func42
instance:Ctr Tryz.prog 42 1 (type_of% @aF8):=⟨enters Tryz.func42 (by kernel_rfl) rfl,@aF8⟩
theorem aDy {a_:T_api_Answer} {cs0:List Value} {r:T_api_Answer} (hm:jV a_=some r) (H:St w0 w (HP.rc R_api_Answer cs0 a_::l)) :
  Calls Tryz.prog 43 [.agg cs0.toArray].toArray w (fun e w'=>∃ v,e=.returned v/\∃ (cs1:List Value),v=.agg cs1.toArray/\St w0 w' (HP.rc R_api_Answer cs1 r::l)):=by
 unfold jV at hm
 refine dM Tryz.func43 rfl rfl rfl ?_
 intro a F
 refine sr (gB wkP F rfl rfl rfl rfl rfl H fun b0 w a H F=>?_)
 replace H:=H.oN rByte 5
 replace H:=H.oN rStr 9
 refine bE wkP F rfl rfl rfl dA rfl H fun b1 w a H F=>?_
 replace H:=H.nf 5 rfl
 refine nl (sq ?_)
 have G:=F;replace H:=rc_api_Answer (H.pk 4 rfl);obtain ⟨p0,c0,p1,c1,rfl,J⟩:=H;have H:=J;have F:=G;clear G J
 refine iK [2,5,7,9] [9] (.step 0 0 (.step 1 1 (.step 0 3 (.step 0 4 (.step 2 2 (.step 0 6 (.step 2 5 (.step 2 7 (.step 0 8 (.step 3 9 .done)))))))))) (fun u=>∃ y ls,St w0 u (HP.blk b0 ([.int .i64 (a_.1),.int .i64 (a_.2.1),y,.slice p1 (a_.2.2.2).length c1]) 47::ls)) (by kernel_rfl) (by kernel_rfl) ⟨_,_,(H.drew.pm 6 [5,0,1,2,3,4] rfl:)⟩ ?_
 replace H:=H.drew
 generalize w.drew=w at H ⊢
 refine mbk [2,5002,3] F H rfl ⟨oW,rfl,plain30,lX,trivial⟩ fun a F=>?_
 refine bH F rfl rfl rfl rfl (fun u hu=>bS F plain45 rfl rfl (eM (v:=.slice p1 (a_.2.2.2).length c1) ((hu.choose_spec.choose_spec.blk 0 rfl).row) rfl)) fun a F=>?_
 refine aE rfl rfl ?_
 obtain ⟨x0,ex0,hm⟩:=ob hm
 refine sd F rfl ent70 (yC ex0 (H.pm 6 [0,0,1,2,3,4,5] rfl:):) ?_;rintro _ w a ⟨p2,c2,rfl,H⟩ F
 refine lz ?_;refine ct ⟨⟨_,_,(H.pm 7 [6,0,1,2,3,4,5] rfl:)⟩,?_⟩
 refine mbk [2] F H rfl ⟨oW,trivial⟩ fun a F=>aE rfl rfl ?_
 obtain ⟨x1,ex1,hm⟩:=ob hm
 refine sd F rfl ent71 (yK ex1 (H.pm 7 [2,0,1,2,3,4,5,6] rfl:):) ?_;rintro _ w a ⟨p3,c3,rfl,H⟩ F
 refine lz ?_;refine ct ⟨⟨_,_,(H.pm 8 [7,0,1,2,3,4,5,6] rfl:)⟩,?_⟩
 refine aE rfl rfl (cN wkP F rfl rfl zero30 rfl rfl rfl rfl rfl H 7 rfl rfl fun w H=>?_)
 refine lz ?_;refine ct ⟨⟨_,_,(H.pm 8 [7,0,1,2,3,4,5,6] rfl:)⟩,?_⟩
 refine mbk [3] F H rfl ⟨lX,trivial⟩ fun a F=>dF rfl rfl (cN wkP F rfl rfl yT rfl rfl rfl rfl rfl H 7 rfl rfl fun w H=>?_)
 refine lz ?_;refine ct ?_
 refine bR (ct (sr (bk [7999] F H rfl ⟨rfl,(bY agg47 rfl),trivial⟩ fun a F=>aJ wkP F rfl rfl agg47 rfl rfl rfl H 4 rfl rfl rfl (fl rfl) fun w H=>?_)))
 replace H:=H.nf 8 rfl
 refine nl (wr ?_)
 replace H:=H.frz 1 rfl
 replace H:=H.frz 1 rfl
 replace H:=mk_api_Answer H a_.1 a_.2.1 1 rfl 0 rfl
 cases hm
 refine sN F rfl (⟨_,rfl,agg47.run_load (H.blk 5 rfl).row rfl⟩) ?_
 exact ⟨_,rfl,[.int .i64 (a_.1),.int .i64 (a_.2.1),.slice p2 (x0).length c2,.slice p3 (x1).length c3],rfl,(H.pm 9 [0] rfl:)⟩
instance:Ctr Tryz.prog 43 0 (type_of% @aDy):=⟨enters Tryz.func43 (by kernel_rfl) rfl,@aDy⟩
theorem yG:AggT Tryz.prog 49 6 ([.int .i64 (0),.int .u64 (0),.int .i64 (0),.int .i64 (0),.slice none (([]:List UInt8)).length 0,.slice none (([]:List (List UInt8))).length 0]):=⟨by rw [Tryz.underlying49];rfl,by kernel_rfl,by kernel_rfl⟩
theorem wI:aM Tryz.prog 49 2 2:=by unfold aM;rw [Tryz.underlying49];kernel_rfl
instance:FldC Tryz.prog 49 2 2:=⟨wI⟩
theorem aEw {seats:List T_api_Seat} {p0:Option Addr} {c0:Nat} {r:(List T_api_Seat)} (hm:kO seats=some r) (H:St w0 w (HP.sl R_api_Seat p0 c0 seats::l)) :
  Calls Tryz.prog 41 [.slice p0 (seats).length c0].toArray w (fun e w'=>∃ v,e=.returned v/\∃ (p1:Option Addr) (c1:Nat),v=.slice p1 (r).length c1/\St w0 w' (HP.ow R_api_Seat 49 p1 c1 r::l)):=by
 unfold kO at hm
 have h0:LH2 2 [5,6] [] (fun (s0:(List T_api_Seat)×Int) (p2:Option Addr) (c2:Nat) z=>(2,.slice p2 (s0.1).length c2)::(7,.int .i64 (s0.2))::z) (fun s0 p2 c2 z=>HP.ow R_api_Seat 49 p2 c2 s0.1::z):=⟨trivial⟩
 exact au Tryz.func41
instance:Ctr Tryz.prog 41 0 (type_of% @aEw):=⟨enters Tryz.func41 (by kernel_rfl) rfl,@aEw⟩
theorem oD:aM Tryz.prog 49 1 1:=by unfold aM;rw [Tryz.underlying49];kernel_rfl
instance:FldC Tryz.prog 49 1 1:=⟨oD⟩
theorem aAt {seats:List T_api_Seat} {client:Int} {number:Int} {p0:Option Addr} {c0:Nat} {r:Int×T_api_Answer} (hm:jA seats client number=some r) (H:St w0 w (HP.sl R_api_Seat p0 c0 seats::l)) :
  Calls Tryz.prog 24 [.slice p0 (seats).length c0,.int .i64 (client),.int .u64 (number)].toArray w (fun e w'=>∃ v,e=.returned v/\∃ (cs0:List Value),v=.tuple [.int .i64 (r.1),.agg cs0.toArray].toArray/\St w0 w' (HP.rc R_api_Answer cs0 r.2::l)):=by
 unfold jA at hm
 exact au Tryz.func24
instance:Ctr Tryz.prog 24 0 (type_of% @aAt):=⟨enters Tryz.func24 (by kernel_rfl) rfl,@aAt⟩
theorem aCy {seats:List T_api_Seat} {s:T_api_Seat} {p0:Option Addr} {c0:Nat} {cs0:List Value} {r:(List T_api_Seat)} (hm:iJ seats s=some r) (H:St w0 w (HP.sl R_api_Seat p0 c0 seats::HP.rc R_api_Seat cs0 s::l)) :
  Calls Tryz.prog 26 [.slice p0 (seats).length c0,.agg cs0.toArray].toArray w (fun e w'=>∃ v,e=.returned v/\∃ (p1:Option Addr) (c1:Nat),v=.slice p1 (r).length c1/\St w0 w' (HP.sl R_api_Seat p1 c1 r::l)):=by
 unfold iJ at hm
 exact au Tryz.func26
instance:Ctr Tryz.prog 26 0 (type_of% @aCy):=⟨enters Tryz.func26 (by kernel_rfl) rfl,@aCy⟩
theorem eU:AggT Tryz.prog 28 3 ([.slice none (([]:List T_api_Pair)).length 0,.slice none (([]:List T_api_Snap)).length 0,.slice none (([]:List T_api_Seat)).length 0]):=⟨by rw [Tryz.underlying28];rfl,by kernel_rfl,by kernel_rfl⟩
theorem agg28:AggT Tryz.prog 28 3 [.slice none 0 0,.slice none 0 0,.slice none 0 0]:=⟨by rw [Tryz.underlying28];rfl,by kernel_rfl,by kernel_rfl⟩
instance:AggC Tryz.prog 28 3 [.slice none 0 0,.slice none 0 0,.slice none 0 0]:=⟨agg28⟩
theorem kA   {r:T_api_Whole} (hm:oH =some r) (H:St w0 w (l)) :
  Calls Tryz.prog 16 [].toArray w (fun e w'=>∃ v,e=.returned v/\∃ (cs0:List Value),v=.agg cs0.toArray/\St w0 w' (HP.rc R_api_Whole cs0 r::l)):=by
 unfold oH at hm
 exact au Tryz.func16
instance:Ctr Tryz.prog 16 0 (type_of% @kA):=⟨enters Tryz.func16 (by kernel_rfl) rfl,@kA⟩
theorem zR {client:Int}  {r:Bool} (hm:fZ client=some r) (H:St w0 w (l)) :
  Calls Tryz.prog 22 [.int .i64 (client)].toArray w (fun e w'=>∃ v,e=.returned v/\v=.bool (r)/\St w0 w' (l)):=by
 unfold fZ at hm
 exact au Tryz.func22
instance:Ctr Tryz.prog 22 0 (type_of% @zR):=⟨enters Tryz.func22 (by kernel_rfl) rfl,@zR⟩
theorem zS:aM Tryz.prog 28 0 0:=by unfold aM;rw [Tryz.underlying28];kernel_rfl
instance:FldC Tryz.prog 28 0 0:=⟨zS⟩
theorem pM:aM Tryz.prog 28 1 2:=by unfold aM;rw [Tryz.underlying28];kernel_rfl
instance:FldC Tryz.prog 28 1 2:=⟨pM⟩
theorem qG:Plain Tryz.prog 26:=by unfold Plain;rw [Tryz.underlying26];rfl
instance:PlnC Tryz.prog 26:=⟨qG⟩
theorem aBx {w_:T_api_Whole} {cs0:List Value} {r:Int} (hm:gW w_=some r) (H:St w0 w (HP.rc R_api_Whole cs0 w_::l)) :
  Calls Tryz.prog 11 [.agg cs0.toArray].toArray w (fun e w'=>∃ v,e=.returned v/\v=.int .i64 (r)/\St w0 w' (l)):=by
 unfold gW at hm
 have h0:LH0 3 [1,13,14] [] (fun (s0:Bool×Int) z=>(3,.bool (s0.1))::(15,.int .i64 (s0.2))::z) (fun s0 z=>z):=⟨trivial⟩
 exact au Tryz.func11
instance:Ctr Tryz.prog 11 0 (type_of% @aBx):=⟨enters Tryz.func11 (by kernel_rfl) rfl,@aBx⟩
theorem aHk {w_:T_api_Whole} {cs0:List Value} {r:T_api_Whole} (hm:fV w_=some r) (H:St w0 w (HP.rc R_api_Whole cs0 w_::l)) :
  Calls Tryz.prog 23 [.agg cs0.toArray].toArray w (fun e w'=>∃ v,e=.returned v/\∃ (cs1:List Value),v=.agg cs1.toArray/\St w0 w' (HP.rc R_api_Whole cs1 r::l)):=by
 unfold fV at hm
 have h0:MH 2 [3,5] [5] (scP [(0,0),(0,1),(1,2),(2,3),(0,4),(3,5)]) [3]:=⟨trivial⟩
 exact au Tryz.func23
instance:Ctr Tryz.prog 23 0 (type_of% @aHk):=⟨enters Tryz.func23 (by kernel_rfl) rfl,@aHk⟩
theorem mO:aM Tryz.prog 34 0 0:=by unfold aM;rw [Tryz.underlying34];kernel_rfl
instance:FldC Tryz.prog 34 0 0:=⟨mO⟩
theorem kW:aM Tryz.prog 34 1 1:=by unfold aM;rw [Tryz.underlying34];kernel_rfl
instance:FldC Tryz.prog 34 1 1:=⟨kW⟩
theorem aAa:aM Tryz.prog 34 2 2:=by unfold aM;rw [Tryz.underlying34];kernel_rfl
instance:FldC Tryz.prog 34 2 2:=⟨aAa⟩
theorem eA {w_:T_api_Whole} {c:T_api_Call} {gen:Int} {cs0:List Value} {cs1:List Value} {r:T_api_Whole×T_api_Answer×Int} (hm:tDo w_ c gen=some r) (H:St w0 w (HP.rc R_api_Whole cs0 w_::HP.rc R_api_Call cs1 c::l)) :
  Calls Tryz.prog 10 [.agg cs0.toArray,.agg cs1.toArray,.int .u64 (gen)].toArray w (fun e w'=>∃ v,e=.returned v/\∃ (cs2:List Value) (cs3:List Value),v=.tuple [.agg cs2.toArray,.agg cs3.toArray,.int .i64 (r.2.2)].toArray/\St w0 w' (HP.rc R_api_Whole cs2 r.1::HP.rc R_api_Answer cs3 r.2.1::l)):=by
 unfold tDo at hm
 have h0:MH 5 [1,4,5] [] (scP [(1,0),(0,2),(0,3),(2,1),(2,4),(2,5),(0,6)]) [10]:=⟨trivial⟩
 have h1:MH 7 [9,13,14] [] (scP [(0,0),(0,1),(1,2),(0,3),(1,4),(0,5),(1,6),(1,7),(0,8),(0,11),(0,12),(2,9),(0,10),(2,13),(2,14),(0,15)]) [11,10]:=⟨trivial⟩
 exact au Tryz.func10
instance:Ctr Tryz.prog 10 0 (type_of% @eA):=⟨enters Tryz.func10 (by kernel_rfl) rfl,@eA⟩
set_option maxRecDepth 100000
set_option maxHeartbeats 4000000
theorem ent13:En Tryz.prog 13:=enters Tryz.func13 (by kernel_rfl) rfl
theorem zH {a_:List T_api_Seat} {b_:List T_api_Seat} {p0:Option Addr} {c0:Nat} {p1:Option Addr} {c1:Nat} {r:Bool} (hm:nB a_ b_=some r) (H:St w0 w (HP.sl R_api_Seat p0 c0 a_::HP.sl R_api_Seat p1 c1 b_::l)) :
  Calls Tryz.prog 33 [.slice p0 (a_).length c0,.slice p1 (b_).length c1].toArray w (fun e w'=>∃ v,e=.returned v/\v=.bool (r)/\St w0 w' (l)):=by
 unfold nB at hm
 have h0:LH0 4 [0,1] [] (fun (s0:Int) z=>(5,.int .i64 (s0))::z) (fun s0 z=>z):=⟨trivial⟩
 exact au Tryz.func33
instance:Ctr Tryz.prog 33 0 (type_of% @zH):=⟨enters Tryz.func33 (by kernel_rfl) rfl,@zH⟩
theorem aCc {a_:T_api_Whole} {b_:T_api_Whole} {cs0:List Value} {cs1:List Value} {r:Bool} (hm:iH a_ b_=some r) (H:St w0 w (HP.rc R_api_Whole cs0 a_::HP.rc R_api_Whole cs1 b_::l)) :
  Calls Tryz.prog 14 [.agg cs0.toArray,.agg cs1.toArray].toArray w (fun e w'=>∃ v,e=.returned v/\v=.bool (r)/\St w0 w' (l)):=by
 unfold iH at hm
 exact au Tryz.func14
instance:Ctr Tryz.prog 14 0 (type_of% @aCc):=⟨enters Tryz.func14 (by kernel_rfl) rfl,@aCc⟩
theorem aAc {w_:T_api_Whole} {cs0:List Value} {r:Bool} (hm:gM w_=some r) (H:St w0 w (HP.rc R_api_Whole cs0 w_::l)) :
  Calls Tryz.prog 5 [.agg cs0.toArray].toArray w (fun e w'=>∃ v,e=.returned v/\v=.bool (r)/\St w0 w' (l)):=by
 unfold gM at hm
 exact au Tryz.func5
instance:Ctr Tryz.prog 5 0 (type_of% @aAc):=⟨enters Tryz.func5 (by kernel_rfl) rfl,@aAc⟩
theorem agz34:AggT Tryz.prog 34 8 ([.int .i64 (0),.int .u64 (0),.int .i64 (0),.string (txb ([])),.string (txb ([])),.int .i64 (0),.int .i64 (0),.slice none (([]:List UInt8)).length 0]):=⟨by rw [Tryz.underlying34];rfl,by kernel_rfl,by kernel_rfl⟩
theorem pS:AggT Tryz.prog 34 8 [.int .i64 0,.int .u64 0,.int .i64 0,.string ByteArray.empty,.string ByteArray.empty,.int .i64 0,.int .i64 0,.slice none 0 0]:=⟨by rw [Tryz.underlying34];rfl,by kernel_rfl,by kernel_rfl⟩
instance:AggC Tryz.prog 34 8 [.int .i64 0,.int .u64 0,.int .i64 0,.string ByteArray.empty,.string ByteArray.empty,.int .i64 0,.int .i64 0,.slice none 0 0]:=⟨pS⟩
theorem qC:En Tryz.prog 16:=enters Tryz.func16 (by kernel_rfl) rfl
theorem eQ:En Tryz.prog 10:=enters Tryz.func10 (by kernel_rfl) rfl
theorem aGe:Zero1 Tryz.prog 29 (.int .u64 0):=⟨by kernel_rfl,rfl⟩
instance:ZerC Tryz.prog 29 (.int .u64 0):=⟨aGe⟩
theorem aDl   {r:Bool} (hm:nZ =some r) (H:St w0 w (l)) :
  Calls Tryz.prog 4 [].toArray w (fun e w'=>∃ v,e=.returned v/\v=.bool (r)/\St w0 w' (l)):=by
 unfold nZ at hm
 refine dM Tryz.func4 rfl rfl rfl ?_
 intro a F
 refine sb [0] F H rfl fun a F=>nl (sr ?_)
 replace H:=H.oN rByte 5
 refine sv F rfl (bU F rfl rfl (cs:=[.int .i64 (1),.string (txb ([47,97])),.string (txb ([])),.int .i64 (0),.int .i64 (0),.slice none (([]:List UInt8)).length 0]) (by kernel_rfl)) fun a F=>sv F rfl (bU F rfl rfl (cs:=[.int .i64 (1),.int .u64 (5),.int .i64 (1),.string (txb ([47,97])),.string (txb ([])),.int .i64 (0),.int .i64 (0),.slice none (([]:List UInt8)).length 0]) (by kernel_rfl)) fun a F=>?_
 replace H:=H.oN rByte 5
 refine bE wkP F rfl rfl rfl agz34 rfl H fun b0 w a H F=>aJ wkP F rfl rfl pS rfl rfl rfl H 0 rfl rfl rfl (fl rfl) fun w H=>?_
 replace H:=H.nf 3 rfl
 refine nl (sq ?_)
 obtain ⟨r0,er195,hm0⟩:=ob hm;clear hm;revert er195;intro hm
 refine fQ (fun aa ww=>∃ (p0:Option Addr) (c0:Nat) (b1:Nat) (p1:Option Addr) (c1:Nat) (p2:Option Addr) (c2:Nat) (p3:Option Addr) (c3:Nat) (b2:Nat) (p4:Option Addr) (c4:Nat) (p5:Option Addr) (c5:Nat),Fr ⟨60,[]⟩ aa [(1,.pointer (some ⟨b0,0,none⟩)),(2,.pointer (some ⟨b1,0,none⟩)),(3,.pointer (some ⟨b2,0,none⟩)),(4,.int .i64 (r0.2.2.2))]/\St w0 ww (HP.blk b0 ([.int .i64 (1),.int .u64 (5),.int .i64 (1),.string (txb ([47,97])),.string (txb ([])),.int .i64 (0),.int .i64 (0),.slice p0 (r0.1).length c0]) 34::HP.ow rByte 5 none 0 ([]:List UInt8)::HP.sl rByte p0 c0 r0.1::HP.blk b1 ([.slice p1 (r0.2.1.1.1).length c1,.slice p2 (r0.2.1.1.2).length c2,.slice p3 (r0.2.1.2).length c3]) 28::HP.sl R_api_Pair p1 c1 r0.2.1.1.1::HP.sl R_api_Snap p2 c2 r0.2.1.1.2::HP.sl R_api_Seat p3 c3 r0.2.1.2::HP.blk b2 ([.int .i64 (r0.2.2.1.1),.int .i64 (r0.2.2.1.2.1),.slice p4 (r0.2.2.1.2.2.1).length c4,.slice p5 (r0.2.2.1.2.2.2).length c5]) 47::HP.sl rByte p4 c4 r0.2.2.1.2.2.1::HP.sl rStr p5 c5 r0.2.2.1.2.2.2::l)) ?_ ?_
 refine iK [0,2,7,8,9,10] [] (.step 0 1 (.fork3 0 (.fork3 2 (.step 0 3 (.step 0 4 (.step 0 5 (.step 0 6 (.fork 7 (.step 2 8 (.step 2 9 (.step 2 10 (.step 0 11 .done)))) 8 (.step 2 7 (.step 2 9 (.step 2 10 (.step 0 11 .done))))))))) 7 (.fork 2 (.step 0 3 (.step 0 4 (.step 0 5 (.step 0 6 (.step 2 8 (.step 2 9 (.step 2 10 (.step 0 11 .done)))))))) 8 (.step 2 2 (.step 0 3 (.step 0 4 (.step 0 5 (.step 0 6 (.step 2 9 (.step 2 10 (.step 0 11 .done))))))))) 8 (.fork 2 (.step 0 3 (.step 0 4 (.step 0 5 (.step 0 6 (.step 2 7 (.step 2 9 (.step 2 10 (.step 0 11 .done)))))))) 7 (.step 2 2 (.step 0 3 (.step 0 4 (.step 0 5 (.step 0 6 (.step 2 9 (.step 2 10 (.step 0 11 .done)))))))))) 7 (.fork 0 (.fork 2 (.step 0 3 (.step 0 4 (.step 0 5 (.step 0 6 (.step 2 8 (.step 2 9 (.step 2 10 (.step 0 11 .done)))))))) 8 (.step 2 2 (.step 0 3 (.step 0 4 (.step 0 5 (.step 0 6 (.step 2 9 (.step 2 10 (.step 0 11 .done))))))))) 8 (.step 2 0 (.step 2 2 (.step 0 3 (.step 0 4 (.step 0 5 (.step 0 6 (.step 2 9 (.step 2 10 (.step 0 11 .done)))))))))) 8 (.fork 0 (.fork 2 (.step 0 3 (.step 0 4 (.step 0 5 (.step 0 6 (.step 2 7 (.step 2 9 (.step 2 10 (.step 0 11 .done)))))))) 7 (.step 2 2 (.step 0 3 (.step 0 4 (.step 0 5 (.step 0 6 (.step 2 9 (.step 2 10 (.step 0 11 .done))))))))) 7 (.step 2 0 (.step 2 2 (.step 0 3 (.step 0 4 (.step 0 5 (.step 0 6 (.step 2 9 (.step 2 10 (.step 0 11 .done)))))))))))) (fun u=>∃ ls,St w0 u (HP.blk b0 ([.int .i64 (1),.int .u64 (5),.int .i64 (1),.string (txb ([47,97])),.string (txb ([])),.int .i64 (0),.int .i64 (0),.slice none (([]:List UInt8)).length 0]) 34::ls)) (by kernel_rfl) (by kernel_rfl) ⟨_,H.drew⟩ ?_
 replace H:=H.drew
 generalize w.drew=w at H ⊢
 refine bH F rfl rfl rfl rfl (fun u hu=>dJ F pS rfl rfl ((hu.choose_spec.blk 0 rfl).row) rfl) fun a F=>?_
 refine uA rfl rfl rfl rfl rfl rfl ?_ ?_ ?_
 refine aE rfl rfl ?_
 obtain ⟨x0,ex0,hm⟩:=ob hm
 refine sd F rfl qC (kA ex0 H:) ?_;rintro _ w a ⟨cs0,rfl,H⟩ F
 refine lz ?_;refine ct ⟨⟨_,(H.pm 4 [1,0,2,3] rfl:)⟩,?_⟩
 refine uA rfl rfl rfl rfl rfl rfl ?_ ?_ ?_
 refine aE rfl rfl ?_
 replace H:=H.frz 3 rfl
 replace H:=H.mR (R:=R_api_Call) (cs:=[.int .i64 (1),.int .u64 (5),.int .i64 (1),.string (txb ([47,97])),.string (txb ([])),.int .i64 (0),.int .i64 (0),.slice none (([]:List UInt8)).length 0]) (x:=(1,5,(1,[47,97],[],0,0,([]:List UInt8)))) (fun gg=>⟨[Value.int .i64 (1)],_,rfl,rfl,⟨[Value.int .u64 (5)],_,rfl,rfl,⟨[Value.int .i64 (1)],_,rfl,rfl,⟨[Value.string (txb ([47,97]))],_,rfl,rfl,⟨[Value.string (txb ([]))],_,rfl,rfl,⟨[Value.int .i64 (0)],_,rfl,rfl,⟨[Value.int .i64 (0)],_,rfl,rfl,⟨_,_,rfl,(gg 0 _ rfl).choose_spec⟩⟩⟩⟩⟩⟩⟩⟩)
 obtain ⟨x1,ex1,hm⟩:=ob hm
 refine sd F rfl eQ (eA ex1 (H.pm 5 [2,0,0,1,2,3,4] rfl:):) ?_;rintro _ w a ⟨cs1,cs2,rfl,H⟩ F
 refine lz ?_;refine ct ⟨⟨_,(H.pm 7 [5,0,1,2,3,4,6] rfl:)⟩,?_⟩
 refine mb [0,0,0,0] F H rfl fun a F=>?_
 refine eE rfl rfl rfl rfl ?_ ?_
 refine aE rfl rfl ?_
 replace H:=H.oN R_api_Pair 126
 replace H:=H.oN R_api_Snap 90
 replace H:=H.oN R_api_Seat 49
 refine bE wkP F rfl rfl rfl eU rfl H fun b3 w a H F=>?_
 refine lz ?_;refine ct ⟨⟨_,(H.pm 11 [9,0,1,2,3,4,5,6,7,8,10] rfl:)⟩,?_⟩
 refine aE rfl rfl ?_
 replace H:=H.oN rByte 5
 replace H:=H.oN rStr 9
 refine bE wkP F rfl rfl rfl dA rfl H fun b4 w a H F=>?_
 refine lz ?_;refine ct ⟨⟨_,(H.pm 14 [12,0,1,2,3,4,5,6,7,8,9,10,11,13] rfl:)⟩,?_⟩
 refine aE rfl rfl ?_
 have G:=F;replace H:=rc_api_Whole (H.pk 7 rfl);obtain ⟨u211,p6,c6,rfl,J⟩:=H;have H:=J;have F:=G;clear G J
 have G:=F;replace H:=rc_api_State (H.pk 0 rfl);obtain ⟨p7,c7,p8,c8,rfl,J⟩:=H;have H:=J;have F:=G;clear G J
 refine aJ wkP F rfl rfl agg28 rfl rfl rfl H 6 rfl rfl rfl (fl rfl) fun w H=>?_
 refine lz ?_;refine ct ⟨⟨_,(H.pm 16 [14,0,1,2,3,4,5,6,7,8,9,10,11,12,13,15] rfl:)⟩,?_⟩
 refine aE rfl rfl ?_
 have G:=F;replace H:=rc_api_Answer (H.pk 10 rfl);obtain ⟨p9,c9,p10,c10,rfl,J⟩:=H;have H:=J;have F:=G;clear G J
 refine aJ wkP F rfl rfl agg47 rfl rfl rfl H 5 rfl rfl rfl (fl rfl) fun w H=>?_
 refine lz ?_;refine ct ⟨⟨_,(H.pm 17 [15,0,1,2,3,4,5,6,7,8,9,10,11,12,13,14,16] rfl:)⟩,?_⟩
 refine mb [0] F H rfl fun a F=>bR ?_
 cases hm
 exact ct ⟨none,0,b3,p7,c7,p8,c8,p6,c6,b4,p9,c9,p10,c10,F.sl rfl,(H.pm 17 [15,16,13,8,2,3,4,5,0,1] rfl:)⟩
 refine aE rfl rfl ?_
 replace H:=H.oN rByte 5
 replace H:=H.oN rStr 9
 refine bE wkP F rfl rfl rfl dA rfl H fun b5 w a H F=>?_
 refine lz ?_;refine ct ⟨⟨_,(H.pm 10 [8,0,1,2,3,4,5,6,7,9] rfl:)⟩,?_⟩
 refine aE rfl rfl ?_
 replace H:=H.oN R_api_Pair 126
 replace H:=H.oN R_api_Snap 90
 replace H:=H.oN R_api_Seat 49
 refine bE wkP F rfl rfl rfl eU rfl H fun b6 w a H F=>?_
 refine lz ?_;refine ct ⟨⟨_,(H.pm 14 [12,0,1,2,3,4,5,6,7,8,9,10,11,13] rfl:)⟩,?_⟩
 refine aE rfl rfl ?_
 have G:=F;replace H:=rc_api_Whole (H.pk 7 rfl);obtain ⟨u224,p11,c11,rfl,J⟩:=H;have H:=J;have F:=G;clear G J
 have G:=F;replace H:=rc_api_State (H.pk 0 rfl);obtain ⟨p12,c12,p13,c13,rfl,J⟩:=H;have H:=J;have F:=G;clear G J
 refine aJ wkP F rfl rfl agg28 rfl rfl rfl H 3 rfl rfl rfl (fl rfl) fun w H=>?_
 refine lz ?_;refine ct ⟨⟨_,(H.pm 16 [14,0,1,2,3,4,5,6,7,8,9,10,11,12,13,15] rfl:)⟩,?_⟩
 refine aE rfl rfl ?_
 have G:=F;replace H:=rc_api_Answer (H.pk 10 rfl);obtain ⟨p14,c14,p15,c15,rfl,J⟩:=H;have H:=J;have F:=G;clear G J
 refine aJ wkP F rfl rfl agg47 rfl rfl rfl H 9 rfl rfl rfl (fl rfl) fun w H=>?_
 refine lz ?_;refine ct ⟨⟨_,(H.pm 17 [15,0,1,2,3,4,5,6,7,8,9,10,11,12,13,14,16] rfl:)⟩,?_⟩
 refine mb [0] F H rfl fun a F=>bR ?_
 cases hm
 exact ct ⟨none,0,b6,p12,c12,p13,c13,p11,c11,b5,p14,c14,p15,c15,F.sl rfl,(H.pm 17 [15,16,13,5,2,3,4,9,0,1] rfl:)⟩
 refine aE rfl rfl ?_
 replace H:=H.oN R_api_Pair 126
 replace H:=H.oN R_api_Snap 90
 replace H:=H.oN R_api_Seat 49
 refine bE wkP F rfl rfl rfl eU rfl H fun b7 w a H F=>?_
 refine lz ?_;refine ct ⟨⟨_,(H.pm 8 [5,0,1,2,3,4,6,7] rfl:)⟩,?_⟩
 refine eE rfl rfl rfl rfl ?_ ?_
 refine aE rfl rfl ?_
 replace H:=H.frz 7 rfl
 replace H:=H.mR (R:=R_api_Call) (cs:=[.int .i64 (1),.int .u64 (5),.int .i64 (1),.string (txb ([47,97])),.string (txb ([])),.int .i64 (0),.int .i64 (0),.slice none (([]:List UInt8)).length 0]) (x:=(1,5,(1,[47,97],[],0,0,([]:List UInt8)))) (fun gg=>⟨[Value.int .i64 (1)],_,rfl,rfl,⟨[Value.int .u64 (5)],_,rfl,rfl,⟨[Value.int .i64 (1)],_,rfl,rfl,⟨[Value.string (txb ([47,97]))],_,rfl,rfl,⟨[Value.string (txb ([]))],_,rfl,rfl,⟨[Value.int .i64 (0)],_,rfl,rfl,⟨[Value.int .i64 (0)],_,rfl,rfl,⟨_,_,rfl,(gg 0 _ rfl).choose_spec⟩⟩⟩⟩⟩⟩⟩⟩)
 obtain ⟨x2,ex2,hm⟩:=ob hm
 refine sd F rfl eQ (eA ex2 (H.pm 9 [6,0,0,1,2,3,4,5,6,7,8] rfl:):) ?_;rintro _ w a ⟨cs3,cs4,rfl,H⟩ F
 refine lz ?_;refine ct ⟨⟨_,(H.pm 11 [9,0,1,2,3,4,5,6,7,8,10] rfl:)⟩,?_⟩
 refine mb [0,0,0,0] F H rfl fun a F=>aE rfl rfl ?_
 replace H:=H.oN rByte 5
 replace H:=H.oN rStr 9
 refine bE wkP F rfl rfl rfl dA rfl H fun b8 w a H F=>?_
 refine lz ?_;refine ct ⟨⟨_,(H.pm 14 [12,0,1,2,3,4,5,6,7,8,9,10,11,13] rfl:)⟩,?_⟩
 refine aE rfl rfl ?_
 have G:=F;replace H:=rc_api_Whole (H.pk 3 rfl);obtain ⟨u240,p16,c16,rfl,J⟩:=H;have H:=J;have F:=G;clear G J
 have G:=F;replace H:=rc_api_State (H.pk 0 rfl);obtain ⟨p17,c17,p18,c18,rfl,J⟩:=H;have H:=J;have F:=G;clear G J
 refine aJ wkP F rfl rfl agg28 rfl rfl rfl H 9 rfl rfl rfl (fl rfl) fun w H=>?_
 refine lz ?_;refine ct ⟨⟨_,(H.pm 16 [14,0,1,2,3,4,5,6,7,8,9,10,11,12,13,15] rfl:)⟩,?_⟩
 refine aE rfl rfl ?_
 have G:=F;replace H:=rc_api_Answer (H.pk 6 rfl);obtain ⟨p19,c19,p20,c20,rfl,J⟩:=H;have H:=J;have F:=G;clear G J
 refine aJ wkP F rfl rfl agg47 rfl rfl rfl H 5 rfl rfl rfl (fl rfl) fun w H=>?_
 refine lz ?_;refine ct ⟨⟨_,(H.pm 17 [15,0,1,2,3,4,5,6,7,8,9,10,11,12,13,14,16] rfl:)⟩,?_⟩
 refine mb [0] F H rfl fun a F=>bR ?_
 cases hm
 exact ct ⟨none,0,b7,p17,c17,p18,c18,p16,c16,b8,p19,c19,p20,c20,F.sl rfl,(H.pm 17 [15,16,9,10,2,3,4,5,0,1] rfl:)⟩
 refine aE rfl rfl ?_
 replace H:=H.oN rByte 5
 replace H:=H.oN rStr 9
 refine bE wkP F rfl rfl rfl dA rfl H fun b9 w a H F=>?_
 refine lz ?_;refine ct ⟨⟨_,(H.pm 11 [8,0,1,2,3,4,5,6,7,9,10] rfl:)⟩,?_⟩
 refine aE rfl rfl ?_
 replace H:=H.frz 10 rfl
 replace H:=H.mR (R:=R_api_Call) (cs:=[.int .i64 (1),.int .u64 (5),.int .i64 (1),.string (txb ([47,97])),.string (txb ([])),.int .i64 (0),.int .i64 (0),.slice none (([]:List UInt8)).length 0]) (x:=(1,5,(1,[47,97],[],0,0,([]:List UInt8)))) (fun gg=>⟨[Value.int .i64 (1)],_,rfl,rfl,⟨[Value.int .u64 (5)],_,rfl,rfl,⟨[Value.int .i64 (1)],_,rfl,rfl,⟨[Value.string (txb ([47,97]))],_,rfl,rfl,⟨[Value.string (txb ([]))],_,rfl,rfl,⟨[Value.int .i64 (0)],_,rfl,rfl,⟨[Value.int .i64 (0)],_,rfl,rfl,⟨_,_,rfl,(gg 0 _ rfl).choose_spec⟩⟩⟩⟩⟩⟩⟩⟩)
 obtain ⟨x3,ex3,hm⟩:=ob hm
 refine sd F rfl eQ (eA ex3 (H.pm 12 [9,0,0,1,2,3,4,5,6,7,8,9,10,11] rfl:):) ?_;rintro _ w a ⟨cs5,cs6,rfl,H⟩ F
 refine lz ?_;refine ct ⟨⟨_,(H.pm 14 [12,0,1,2,3,4,5,6,7,8,9,10,11,13] rfl:)⟩,?_⟩
 refine mb [0,0,0,0] F H rfl fun a F=>aE rfl rfl ?_
 have G:=F;replace H:=rc_api_Whole (H.pk 0 rfl);obtain ⟨u255,p21,c21,rfl,J⟩:=H;have H:=J;have F:=G;clear G J
 have G:=F;replace H:=rc_api_State (H.pk 0 rfl);obtain ⟨p22,c22,p23,c23,rfl,J⟩:=H;have H:=J;have F:=G;clear G J
 refine aJ wkP F rfl rfl agg28 rfl rfl rfl H 9 rfl rfl rfl (fl rfl) fun w H=>?_
 refine lz ?_;refine ct ⟨⟨_,(H.pm 16 [14,0,1,2,3,4,5,6,7,8,9,10,11,12,13,15] rfl:)⟩,?_⟩
 refine aE rfl rfl ?_
 have G:=F;replace H:=rc_api_Answer (H.pk 3 rfl);obtain ⟨p24,c24,p25,c25,rfl,J⟩:=H;have H:=J;have F:=G;clear G J
 refine aJ wkP F rfl rfl agg47 rfl rfl rfl H 7 rfl rfl rfl (fl rfl) fun w H=>?_
 refine lz ?_;refine ct ⟨⟨_,(H.pm 17 [15,0,1,2,3,4,5,6,7,8,9,10,11,12,13,14,16] rfl:)⟩,?_⟩
 refine mb [0] F H rfl fun a F=>bR ?_
 cases hm
 exact ct ⟨none,0,b7,p22,c22,p23,c23,p21,c21,b9,p24,c24,p25,c25,F.sl rfl,(H.pm 17 [15,16,6,10,2,3,4,7,0,1] rfl:)⟩
 refine aE rfl rfl ?_
 replace H:=H.oN rByte 5
 replace H:=H.oN rStr 9
 refine bE wkP F rfl rfl rfl dA rfl H fun b10 w a H F=>?_
 refine lz ?_;refine ct ⟨⟨_,(H.pm 7 [4,0,1,2,3,5,6] rfl:)⟩,?_⟩
 refine eE rfl rfl rfl rfl ?_ ?_
 refine aE rfl rfl ?_
 replace H:=H.frz 6 rfl
 replace H:=H.mR (R:=R_api_Call) (cs:=[.int .i64 (1),.int .u64 (5),.int .i64 (1),.string (txb ([47,97])),.string (txb ([])),.int .i64 (0),.int .i64 (0),.slice none (([]:List UInt8)).length 0]) (x:=(1,5,(1,[47,97],[],0,0,([]:List UInt8)))) (fun gg=>⟨[Value.int .i64 (1)],_,rfl,rfl,⟨[Value.int .u64 (5)],_,rfl,rfl,⟨[Value.int .i64 (1)],_,rfl,rfl,⟨[Value.string (txb ([47,97]))],_,rfl,rfl,⟨[Value.string (txb ([]))],_,rfl,rfl,⟨[Value.int .i64 (0)],_,rfl,rfl,⟨[Value.int .i64 (0)],_,rfl,rfl,⟨_,_,rfl,(gg 0 _ rfl).choose_spec⟩⟩⟩⟩⟩⟩⟩⟩)
 obtain ⟨x4,ex4,hm⟩:=ob hm
 refine sd F rfl eQ (eA ex4 (H.pm 8 [5,0,0,1,2,3,4,5,6,7] rfl:):) ?_;rintro _ w a ⟨cs7,cs8,rfl,H⟩ F
 refine lz ?_;refine ct ⟨⟨_,(H.pm 10 [8,0,1,2,3,4,5,6,7,9] rfl:)⟩,?_⟩
 refine mb [0,0,0,0] F H rfl fun a F=>aE rfl rfl ?_
 replace H:=H.oN R_api_Pair 126
 replace H:=H.oN R_api_Snap 90
 replace H:=H.oN R_api_Seat 49
 refine bE wkP F rfl rfl rfl eU rfl H fun b11 w a H F=>?_
 refine lz ?_;refine ct ⟨⟨_,(H.pm 14 [12,0,1,2,3,4,5,6,7,8,9,10,11,13] rfl:)⟩,?_⟩
 refine aE rfl rfl ?_
 have G:=F;replace H:=rc_api_Whole (H.pk 4 rfl);obtain ⟨u271,p26,c26,rfl,J⟩:=H;have H:=J;have F:=G;clear G J
 have G:=F;replace H:=rc_api_State (H.pk 0 rfl);obtain ⟨p27,c27,p28,c28,rfl,J⟩:=H;have H:=J;have F:=G;clear G J
 refine aJ wkP F rfl rfl agg28 rfl rfl rfl H 3 rfl rfl rfl (fl rfl) fun w H=>?_
 refine lz ?_;refine ct ⟨⟨_,(H.pm 16 [14,0,1,2,3,4,5,6,7,8,9,10,11,12,13,15] rfl:)⟩,?_⟩
 refine aE rfl rfl ?_
 have G:=F;replace H:=rc_api_Answer (H.pk 7 rfl);obtain ⟨p29,c29,p30,c30,rfl,J⟩:=H;have H:=J;have F:=G;clear G J
 refine aJ wkP F rfl rfl agg47 rfl rfl rfl H 11 rfl rfl rfl (fl rfl) fun w H=>?_
 refine lz ?_;refine ct ⟨⟨_,(H.pm 17 [15,0,1,2,3,4,5,6,7,8,9,10,11,12,13,14,16] rfl:)⟩,?_⟩
 refine mb [0] F H rfl fun a F=>bR ?_
 cases hm
 exact ct ⟨none,0,b11,p27,c27,p28,c28,p26,c26,b10,p29,c29,p30,c30,F.sl rfl,(H.pm 17 [15,16,10,5,2,3,4,11,0,1] rfl:)⟩
 refine aE rfl rfl ?_
 replace H:=H.oN R_api_Pair 126
 replace H:=H.oN R_api_Snap 90
 replace H:=H.oN R_api_Seat 49
 refine bE wkP F rfl rfl rfl eU rfl H fun b12 w a H F=>?_
 refine lz ?_;refine ct ⟨⟨_,(H.pm 11 [8,0,1,2,3,4,5,6,7,9,10] rfl:)⟩,?_⟩
 refine aE rfl rfl ?_
 replace H:=H.frz 10 rfl
 replace H:=H.mR (R:=R_api_Call) (cs:=[.int .i64 (1),.int .u64 (5),.int .i64 (1),.string (txb ([47,97])),.string (txb ([])),.int .i64 (0),.int .i64 (0),.slice none (([]:List UInt8)).length 0]) (x:=(1,5,(1,[47,97],[],0,0,([]:List UInt8)))) (fun gg=>⟨[Value.int .i64 (1)],_,rfl,rfl,⟨[Value.int .u64 (5)],_,rfl,rfl,⟨[Value.int .i64 (1)],_,rfl,rfl,⟨[Value.string (txb ([47,97]))],_,rfl,rfl,⟨[Value.string (txb ([]))],_,rfl,rfl,⟨[Value.int .i64 (0)],_,rfl,rfl,⟨[Value.int .i64 (0)],_,rfl,rfl,⟨_,_,rfl,(gg 0 _ rfl).choose_spec⟩⟩⟩⟩⟩⟩⟩⟩)
 obtain ⟨x5,ex5,hm⟩:=ob hm
 refine sd F rfl eQ (eA ex5 (H.pm 12 [9,0,0,1,2,3,4,5,6,7,8,9,10,11] rfl:):) ?_;rintro _ w a ⟨cs9,cs10,rfl,H⟩ F
 refine lz ?_;refine ct ⟨⟨_,(H.pm 14 [12,0,1,2,3,4,5,6,7,8,9,10,11,13] rfl:)⟩,?_⟩
 refine mb [0,0,0,0] F H rfl fun a F=>aE rfl rfl ?_
 have G:=F;replace H:=rc_api_Whole (H.pk 0 rfl);obtain ⟨u286,p31,c31,rfl,J⟩:=H;have H:=J;have F:=G;clear G J
 have G:=F;replace H:=rc_api_State (H.pk 0 rfl);obtain ⟨p32,c32,p33,c33,rfl,J⟩:=H;have H:=J;have F:=G;clear G J
 refine aJ wkP F rfl rfl agg28 rfl rfl rfl H 6 rfl rfl rfl (fl rfl) fun w H=>?_
 refine lz ?_;refine ct ⟨⟨_,(H.pm 16 [14,0,1,2,3,4,5,6,7,8,9,10,11,12,13,15] rfl:)⟩,?_⟩
 refine aE rfl rfl ?_
 have G:=F;replace H:=rc_api_Answer (H.pk 3 rfl);obtain ⟨p34,c34,p35,c35,rfl,J⟩:=H;have H:=J;have F:=G;clear G J
 refine aJ wkP F rfl rfl agg47 rfl rfl rfl H 11 rfl rfl rfl (fl rfl) fun w H=>?_
 refine lz ?_;refine ct ⟨⟨_,(H.pm 17 [15,0,1,2,3,4,5,6,7,8,9,10,11,12,13,14,16] rfl:)⟩,?_⟩
 refine mb [0] F H rfl fun a F=>bR ?_
 cases hm
 exact ct ⟨none,0,b12,p32,c32,p33,c33,p31,c31,b10,p34,c34,p35,c35,F.sl rfl,(H.pm 17 [15,16,6,7,2,3,4,11,0,1] rfl:)⟩
 refine aE rfl rfl ?_
 replace H:=H.oN R_api_Pair 126
 replace H:=H.oN R_api_Snap 90
 replace H:=H.oN R_api_Seat 49
 refine bE wkP F rfl rfl rfl eU rfl H fun b13 w a H F=>?_
 refine lz ?_;refine ct ⟨⟨_,(H.pm 7 [4,0,1,2,3,5,6] rfl:)⟩,?_⟩
 refine eE rfl rfl rfl rfl ?_ ?_
 refine aE rfl rfl ?_
 obtain ⟨x6,ex6,hm⟩:=ob hm
 refine sd F rfl qC (kA ex6 H:) ?_;rintro _ w a ⟨cs11,rfl,H⟩ F
 refine lz ?_;refine ct ⟨⟨_,(H.pm 8 [5,0,1,2,3,4,6,7] rfl:)⟩,?_⟩
 refine eE rfl rfl rfl rfl ?_ ?_
 refine aE rfl rfl ?_
 replace H:=H.frz 7 rfl
 replace H:=H.mR (R:=R_api_Call) (cs:=[.int .i64 (1),.int .u64 (5),.int .i64 (1),.string (txb ([47,97])),.string (txb ([])),.int .i64 (0),.int .i64 (0),.slice none (([]:List UInt8)).length 0]) (x:=(1,5,(1,[47,97],[],0,0,([]:List UInt8)))) (fun gg=>⟨[Value.int .i64 (1)],_,rfl,rfl,⟨[Value.int .u64 (5)],_,rfl,rfl,⟨[Value.int .i64 (1)],_,rfl,rfl,⟨[Value.string (txb ([47,97]))],_,rfl,rfl,⟨[Value.string (txb ([]))],_,rfl,rfl,⟨[Value.int .i64 (0)],_,rfl,rfl,⟨[Value.int .i64 (0)],_,rfl,rfl,⟨_,_,rfl,(gg 0 _ rfl).choose_spec⟩⟩⟩⟩⟩⟩⟩⟩)
 obtain ⟨x7,ex7,hm⟩:=ob hm
 refine sd F rfl eQ (eA ex7 (H.pm 9 [2,0,0,1,2,3,4,5,6,7,8] rfl:):) ?_;rintro _ w a ⟨cs12,cs13,rfl,H⟩ F
 refine lz ?_;refine ct ⟨⟨_,(H.pm 11 [9,0,1,2,3,4,5,6,7,8,10] rfl:)⟩,?_⟩
 refine mb [0,0,0,0] F H rfl fun a F=>aE rfl rfl ?_
 replace H:=H.oN rByte 5
 replace H:=H.oN rStr 9
 refine bE wkP F rfl rfl rfl dA rfl H fun b14 w a H F=>?_
 refine lz ?_;refine ct ⟨⟨_,(H.pm 14 [12,0,1,2,3,4,5,6,7,8,9,10,11,13] rfl:)⟩,?_⟩
 refine aE rfl rfl ?_
 have G:=F;replace H:=rc_api_Whole (H.pk 3 rfl);obtain ⟨u304,p36,c36,rfl,J⟩:=H;have H:=J;have F:=G;clear G J
 have G:=F;replace H:=rc_api_State (H.pk 0 rfl);obtain ⟨p37,c37,p38,c38,rfl,J⟩:=H;have H:=J;have F:=G;clear G J
 refine aJ wkP F rfl rfl agg28 rfl rfl rfl H 10 rfl rfl rfl (fl rfl) fun w H=>?_
 refine lz ?_;refine ct ⟨⟨_,(H.pm 16 [14,0,1,2,3,4,5,6,7,8,9,10,11,12,13,15] rfl:)⟩,?_⟩
 refine aE rfl rfl ?_
 have G:=F;replace H:=rc_api_Answer (H.pk 6 rfl);obtain ⟨p39,c39,p40,c40,rfl,J⟩:=H;have H:=J;have F:=G;clear G J
 refine aJ wkP F rfl rfl agg47 rfl rfl rfl H 5 rfl rfl rfl (fl rfl) fun w H=>?_
 refine lz ?_;refine ct ⟨⟨_,(H.pm 17 [15,0,1,2,3,4,5,6,7,8,9,10,11,12,13,14,16] rfl:)⟩,?_⟩
 refine mb [0] F H rfl fun a F=>bR ?_
 cases hm
 exact ct ⟨none,0,b13,p37,c37,p38,c38,p36,c36,b14,p39,c39,p40,c40,F.sl rfl,(H.pm 17 [15,16,9,11,2,3,4,5,0,1] rfl:)⟩
 refine aE rfl rfl ?_
 replace H:=H.oN rByte 5
 replace H:=H.oN rStr 9
 refine bE wkP F rfl rfl rfl dA rfl H fun b15 w a H F=>?_
 refine lz ?_;refine ct ⟨⟨_,(H.pm 11 [8,0,1,2,3,4,5,6,7,9,10] rfl:)⟩,?_⟩
 refine aE rfl rfl ?_
 replace H:=H.frz 10 rfl
 replace H:=H.mR (R:=R_api_Call) (cs:=[.int .i64 (1),.int .u64 (5),.int .i64 (1),.string (txb ([47,97])),.string (txb ([])),.int .i64 (0),.int .i64 (0),.slice none (([]:List UInt8)).length 0]) (x:=(1,5,(1,[47,97],[],0,0,([]:List UInt8)))) (fun gg=>⟨[Value.int .i64 (1)],_,rfl,rfl,⟨[Value.int .u64 (5)],_,rfl,rfl,⟨[Value.int .i64 (1)],_,rfl,rfl,⟨[Value.string (txb ([47,97]))],_,rfl,rfl,⟨[Value.string (txb ([]))],_,rfl,rfl,⟨[Value.int .i64 (0)],_,rfl,rfl,⟨[Value.int .i64 (0)],_,rfl,rfl,⟨_,_,rfl,(gg 0 _ rfl).choose_spec⟩⟩⟩⟩⟩⟩⟩⟩)
 obtain ⟨x8,ex8,hm⟩:=ob hm
 refine sd F rfl eQ (eA ex8 (H.pm 12 [5,0,0,1,2,3,4,5,6,7,8,9,10,11] rfl:):) ?_;rintro _ w a ⟨cs14,cs15,rfl,H⟩ F
 refine lz ?_;refine ct ⟨⟨_,(H.pm 14 [12,0,1,2,3,4,5,6,7,8,9,10,11,13] rfl:)⟩,?_⟩
 refine mb [0,0,0,0] F H rfl fun a F=>aE rfl rfl ?_
 have G:=F;replace H:=rc_api_Whole (H.pk 0 rfl);obtain ⟨u319,p41,c41,rfl,J⟩:=H;have H:=J;have F:=G;clear G J
 have G:=F;replace H:=rc_api_State (H.pk 0 rfl);obtain ⟨p42,c42,p43,c43,rfl,J⟩:=H;have H:=J;have F:=G;clear G J
 refine aJ wkP F rfl rfl agg28 rfl rfl rfl H 10 rfl rfl rfl (fl rfl) fun w H=>?_
 refine lz ?_;refine ct ⟨⟨_,(H.pm 16 [14,0,1,2,3,4,5,6,7,8,9,10,11,12,13,15] rfl:)⟩,?_⟩
 refine aE rfl rfl ?_
 have G:=F;replace H:=rc_api_Answer (H.pk 3 rfl);obtain ⟨p44,c44,p45,c45,rfl,J⟩:=H;have H:=J;have F:=G;clear G J
 refine aJ wkP F rfl rfl agg47 rfl rfl rfl H 7 rfl rfl rfl (fl rfl) fun w H=>?_
 refine lz ?_;refine ct ⟨⟨_,(H.pm 17 [15,0,1,2,3,4,5,6,7,8,9,10,11,12,13,14,16] rfl:)⟩,?_⟩
 refine mb [0] F H rfl fun a F=>bR ?_
 cases hm
 exact ct ⟨none,0,b13,p42,c42,p43,c43,p41,c41,b15,p44,c44,p45,c45,F.sl rfl,(H.pm 17 [15,16,6,11,2,3,4,7,0,1] rfl:)⟩
 refine aE rfl rfl ?_
 replace H:=H.oN rByte 5
 replace H:=H.oN rStr 9
 refine bE wkP F rfl rfl rfl dA rfl H fun b16 w a H F=>?_
 refine lz ?_;refine ct ⟨⟨_,(H.pm 10 [7,0,1,2,3,4,5,6,8,9] rfl:)⟩,?_⟩
 refine aE rfl rfl ?_
 obtain ⟨x9,ex9,hm⟩:=ob hm
 refine sd F rfl qC (kA ex9 H:) ?_;rintro _ w a ⟨cs16,rfl,H⟩ F
 refine lz ?_;refine ct ⟨⟨_,(H.pm 11 [8,0,1,2,3,4,5,6,7,9,10] rfl:)⟩,?_⟩
 refine aE rfl rfl ?_
 replace H:=H.frz 10 rfl
 replace H:=H.mR (R:=R_api_Call) (cs:=[.int .i64 (1),.int .u64 (5),.int .i64 (1),.string (txb ([47,97])),.string (txb ([])),.int .i64 (0),.int .i64 (0),.slice none (([]:List UInt8)).length 0]) (x:=(1,5,(1,[47,97],[],0,0,([]:List UInt8)))) (fun gg=>⟨[Value.int .i64 (1)],_,rfl,rfl,⟨[Value.int .u64 (5)],_,rfl,rfl,⟨[Value.int .i64 (1)],_,rfl,rfl,⟨[Value.string (txb ([47,97]))],_,rfl,rfl,⟨[Value.string (txb ([]))],_,rfl,rfl,⟨[Value.int .i64 (0)],_,rfl,rfl,⟨[Value.int .i64 (0)],_,rfl,rfl,⟨_,_,rfl,(gg 0 _ rfl).choose_spec⟩⟩⟩⟩⟩⟩⟩⟩)
 obtain ⟨x10,ex10,hm⟩:=ob hm
 refine sd F rfl eQ (eA ex10 (H.pm 12 [2,0,0,1,2,3,4,5,6,7,8,9,10,11] rfl:):) ?_;rintro _ w a ⟨cs17,cs18,rfl,H⟩ F
 refine lz ?_;refine ct ⟨⟨_,(H.pm 14 [12,0,1,2,3,4,5,6,7,8,9,10,11,13] rfl:)⟩,?_⟩
 refine mb [0,0,0,0] F H rfl fun a F=>aE rfl rfl ?_
 have G:=F;replace H:=rc_api_Whole (H.pk 0 rfl);obtain ⟨u336,p46,c46,rfl,J⟩:=H;have H:=J;have F:=G;clear G J
 have G:=F;replace H:=rc_api_State (H.pk 0 rfl);obtain ⟨p47,c47,p48,c48,rfl,J⟩:=H;have H:=J;have F:=G;clear G J
 refine aJ wkP F rfl rfl agg28 rfl rfl rfl H 10 rfl rfl rfl (fl rfl) fun w H=>?_
 refine lz ?_;refine ct ⟨⟨_,(H.pm 16 [14,0,1,2,3,4,5,6,7,8,9,10,11,12,13,15] rfl:)⟩,?_⟩
 refine aE rfl rfl ?_
 have G:=F;replace H:=rc_api_Answer (H.pk 3 rfl);obtain ⟨p49,c49,p50,c50,rfl,J⟩:=H;have H:=J;have F:=G;clear G J
 refine aJ wkP F rfl rfl agg47 rfl rfl rfl H 8 rfl rfl rfl (fl rfl) fun w H=>?_
 refine lz ?_;refine ct ⟨⟨_,(H.pm 17 [15,0,1,2,3,4,5,6,7,8,9,10,11,12,13,14,16] rfl:)⟩,?_⟩
 refine mb [0] F H rfl fun a F=>bR ?_
 cases hm
 exact ct ⟨none,0,b13,p47,c47,p48,c48,p46,c46,b16,p49,c49,p50,c50,F.sl rfl,(H.pm 17 [15,16,6,11,2,3,4,8,0,1] rfl:)⟩
 refine aE rfl rfl ?_
 replace H:=H.oN rByte 5
 replace H:=H.oN rStr 9
 refine bE wkP F rfl rfl rfl dA rfl H fun b17 w a H F=>?_
 refine lz ?_;refine ct ⟨⟨_,(H.pm 6 [3,0,1,2,4,5] rfl:)⟩,?_⟩
 refine eE rfl rfl rfl rfl ?_ ?_
 refine aE rfl rfl ?_
 obtain ⟨x11,ex11,hm⟩:=ob hm
 refine sd F rfl qC (kA ex11 H:) ?_;rintro _ w a ⟨cs19,rfl,H⟩ F
 refine lz ?_;refine ct ⟨⟨_,(H.pm 7 [4,0,1,2,3,5,6] rfl:)⟩,?_⟩
 refine eE rfl rfl rfl rfl ?_ ?_
 refine aE rfl rfl ?_
 replace H:=H.frz 6 rfl
 replace H:=H.mR (R:=R_api_Call) (cs:=[.int .i64 (1),.int .u64 (5),.int .i64 (1),.string (txb ([47,97])),.string (txb ([])),.int .i64 (0),.int .i64 (0),.slice none (([]:List UInt8)).length 0]) (x:=(1,5,(1,[47,97],[],0,0,([]:List UInt8)))) (fun gg=>⟨[Value.int .i64 (1)],_,rfl,rfl,⟨[Value.int .u64 (5)],_,rfl,rfl,⟨[Value.int .i64 (1)],_,rfl,rfl,⟨[Value.string (txb ([47,97]))],_,rfl,rfl,⟨[Value.string (txb ([]))],_,rfl,rfl,⟨[Value.int .i64 (0)],_,rfl,rfl,⟨[Value.int .i64 (0)],_,rfl,rfl,⟨_,_,rfl,(gg 0 _ rfl).choose_spec⟩⟩⟩⟩⟩⟩⟩⟩)
 obtain ⟨x12,ex12,hm⟩:=ob hm
 refine sd F rfl eQ (eA ex12 (H.pm 8 [2,0,0,1,2,3,4,5,6,7] rfl:):) ?_;rintro _ w a ⟨cs20,cs21,rfl,H⟩ F
 refine lz ?_;refine ct ⟨⟨_,(H.pm 10 [8,0,1,2,3,4,5,6,7,9] rfl:)⟩,?_⟩
 refine mb [0,0,0,0] F H rfl fun a F=>aE rfl rfl ?_
 replace H:=H.oN R_api_Pair 126
 replace H:=H.oN R_api_Snap 90
 replace H:=H.oN R_api_Seat 49
 refine bE wkP F rfl rfl rfl eU rfl H fun b18 w a H F=>?_
 refine lz ?_;refine ct ⟨⟨_,(H.pm 14 [12,0,1,2,3,4,5,6,7,8,9,10,11,13] rfl:)⟩,?_⟩
 refine aE rfl rfl ?_
 have G:=F;replace H:=rc_api_Whole (H.pk 4 rfl);obtain ⟨u354,p51,c51,rfl,J⟩:=H;have H:=J;have F:=G;clear G J
 have G:=F;replace H:=rc_api_State (H.pk 0 rfl);obtain ⟨p52,c52,p53,c53,rfl,J⟩:=H;have H:=J;have F:=G;clear G J
 refine aJ wkP F rfl rfl agg28 rfl rfl rfl H 3 rfl rfl rfl (fl rfl) fun w H=>?_
 refine lz ?_;refine ct ⟨⟨_,(H.pm 16 [14,0,1,2,3,4,5,6,7,8,9,10,11,12,13,15] rfl:)⟩,?_⟩
 refine aE rfl rfl ?_
 have G:=F;replace H:=rc_api_Answer (H.pk 7 rfl);obtain ⟨p54,c54,p55,c55,rfl,J⟩:=H;have H:=J;have F:=G;clear G J
 refine aJ wkP F rfl rfl agg47 rfl rfl rfl H 12 rfl rfl rfl (fl rfl) fun w H=>?_
 refine lz ?_;refine ct ⟨⟨_,(H.pm 17 [15,0,1,2,3,4,5,6,7,8,9,10,11,12,13,14,16] rfl:)⟩,?_⟩
 refine mb [0] F H rfl fun a F=>bR ?_
 cases hm
 exact ct ⟨none,0,b18,p52,c52,p53,c53,p51,c51,b17,p54,c54,p55,c55,F.sl rfl,(H.pm 17 [15,16,10,5,2,3,4,12,0,1] rfl:)⟩
 refine aE rfl rfl ?_
 replace H:=H.oN R_api_Pair 126
 replace H:=H.oN R_api_Snap 90
 replace H:=H.oN R_api_Seat 49
 refine bE wkP F rfl rfl rfl eU rfl H fun b19 w a H F=>?_
 refine lz ?_;refine ct ⟨⟨_,(H.pm 11 [8,0,1,2,3,4,5,6,7,9,10] rfl:)⟩,?_⟩
 refine aE rfl rfl ?_
 replace H:=H.frz 10 rfl
 replace H:=H.mR (R:=R_api_Call) (cs:=[.int .i64 (1),.int .u64 (5),.int .i64 (1),.string (txb ([47,97])),.string (txb ([])),.int .i64 (0),.int .i64 (0),.slice none (([]:List UInt8)).length 0]) (x:=(1,5,(1,[47,97],[],0,0,([]:List UInt8)))) (fun gg=>⟨[Value.int .i64 (1)],_,rfl,rfl,⟨[Value.int .u64 (5)],_,rfl,rfl,⟨[Value.int .i64 (1)],_,rfl,rfl,⟨[Value.string (txb ([47,97]))],_,rfl,rfl,⟨[Value.string (txb ([]))],_,rfl,rfl,⟨[Value.int .i64 (0)],_,rfl,rfl,⟨[Value.int .i64 (0)],_,rfl,rfl,⟨_,_,rfl,(gg 0 _ rfl).choose_spec⟩⟩⟩⟩⟩⟩⟩⟩)
 obtain ⟨x13,ex13,hm⟩:=ob hm
 refine sd F rfl eQ (eA ex13 (H.pm 12 [6,0,0,1,2,3,4,5,6,7,8,9,10,11] rfl:):) ?_;rintro _ w a ⟨cs22,cs23,rfl,H⟩ F
 refine lz ?_;refine ct ⟨⟨_,(H.pm 14 [12,0,1,2,3,4,5,6,7,8,9,10,11,13] rfl:)⟩,?_⟩
 refine mb [0,0,0,0] F H rfl fun a F=>aE rfl rfl ?_
 have G:=F;replace H:=rc_api_Whole (H.pk 0 rfl);obtain ⟨u369,p56,c56,rfl,J⟩:=H;have H:=J;have F:=G;clear G J
 have G:=F;replace H:=rc_api_State (H.pk 0 rfl);obtain ⟨p57,c57,p58,c58,rfl,J⟩:=H;have H:=J;have F:=G;clear G J
 refine aJ wkP F rfl rfl agg28 rfl rfl rfl H 6 rfl rfl rfl (fl rfl) fun w H=>?_
 refine lz ?_;refine ct ⟨⟨_,(H.pm 16 [14,0,1,2,3,4,5,6,7,8,9,10,11,12,13,15] rfl:)⟩,?_⟩
 refine aE rfl rfl ?_
 have G:=F;replace H:=rc_api_Answer (H.pk 3 rfl);obtain ⟨p59,c59,p60,c60,rfl,J⟩:=H;have H:=J;have F:=G;clear G J
 refine aJ wkP F rfl rfl agg47 rfl rfl rfl H 12 rfl rfl rfl (fl rfl) fun w H=>?_
 refine lz ?_;refine ct ⟨⟨_,(H.pm 17 [15,0,1,2,3,4,5,6,7,8,9,10,11,12,13,14,16] rfl:)⟩,?_⟩
 refine mb [0] F H rfl fun a F=>bR ?_
 cases hm
 exact ct ⟨none,0,b19,p57,c57,p58,c58,p56,c56,b17,p59,c59,p60,c60,F.sl rfl,(H.pm 17 [15,16,6,7,2,3,4,12,0,1] rfl:)⟩
 refine aE rfl rfl ?_
 replace H:=H.oN R_api_Pair 126
 replace H:=H.oN R_api_Snap 90
 replace H:=H.oN R_api_Seat 49
 refine bE wkP F rfl rfl rfl eU rfl H fun b20 w a H F=>?_
 refine lz ?_;refine ct ⟨⟨_,(H.pm 10 [7,0,1,2,3,4,5,6,8,9] rfl:)⟩,?_⟩
 refine aE rfl rfl ?_
 obtain ⟨x14,ex14,hm⟩:=ob hm
 refine sd F rfl qC (kA ex14 H:) ?_;rintro _ w a ⟨cs24,rfl,H⟩ F
 refine lz ?_;refine ct ⟨⟨_,(H.pm 11 [8,0,1,2,3,4,5,6,7,9,10] rfl:)⟩,?_⟩
 refine aE rfl rfl ?_
 replace H:=H.frz 10 rfl
 replace H:=H.mR (R:=R_api_Call) (cs:=[.int .i64 (1),.int .u64 (5),.int .i64 (1),.string (txb ([47,97])),.string (txb ([])),.int .i64 (0),.int .i64 (0),.slice none (([]:List UInt8)).length 0]) (x:=(1,5,(1,[47,97],[],0,0,([]:List UInt8)))) (fun gg=>⟨[Value.int .i64 (1)],_,rfl,rfl,⟨[Value.int .u64 (5)],_,rfl,rfl,⟨[Value.int .i64 (1)],_,rfl,rfl,⟨[Value.string (txb ([47,97]))],_,rfl,rfl,⟨[Value.string (txb ([]))],_,rfl,rfl,⟨[Value.int .i64 (0)],_,rfl,rfl,⟨[Value.int .i64 (0)],_,rfl,rfl,⟨_,_,rfl,(gg 0 _ rfl).choose_spec⟩⟩⟩⟩⟩⟩⟩⟩)
 obtain ⟨x15,ex15,hm⟩:=ob hm
 refine sd F rfl eQ (eA ex15 (H.pm 12 [2,0,0,1,2,3,4,5,6,7,8,9,10,11] rfl:):) ?_;rintro _ w a ⟨cs25,cs26,rfl,H⟩ F
 refine lz ?_;refine ct ⟨⟨_,(H.pm 14 [12,0,1,2,3,4,5,6,7,8,9,10,11,13] rfl:)⟩,?_⟩
 refine mb [0,0,0,0] F H rfl fun a F=>aE rfl rfl ?_
 have G:=F;replace H:=rc_api_Whole (H.pk 0 rfl);obtain ⟨u386,p61,c61,rfl,J⟩:=H;have H:=J;have F:=G;clear G J
 have G:=F;replace H:=rc_api_State (H.pk 0 rfl);obtain ⟨p62,c62,p63,c63,rfl,J⟩:=H;have H:=J;have F:=G;clear G J
 refine aJ wkP F rfl rfl agg28 rfl rfl rfl H 7 rfl rfl rfl (fl rfl) fun w H=>?_
 refine lz ?_;refine ct ⟨⟨_,(H.pm 16 [14,0,1,2,3,4,5,6,7,8,9,10,11,12,13,15] rfl:)⟩,?_⟩
 refine aE rfl rfl ?_
 have G:=F;replace H:=rc_api_Answer (H.pk 3 rfl);obtain ⟨p64,c64,p65,c65,rfl,J⟩:=H;have H:=J;have F:=G;clear G J
 refine aJ wkP F rfl rfl agg47 rfl rfl rfl H 12 rfl rfl rfl (fl rfl) fun w H=>?_
 refine lz ?_;refine ct ⟨⟨_,(H.pm 17 [15,0,1,2,3,4,5,6,7,8,9,10,11,12,13,14,16] rfl:)⟩,?_⟩
 refine mb [0] F H rfl fun a F=>bR ?_
 cases hm
 exact ct ⟨none,0,b20,p62,c62,p63,c63,p61,c61,b17,p64,c64,p65,c65,F.sl rfl,(H.pm 17 [15,16,6,8,2,3,4,12,0,1] rfl:)⟩
 clear F H hm
 rintro a w ⟨p0,c0,b1,p1,c1,p2,c2,p3,c3,b2,p4,c4,p5,c5,F,H⟩;have hm:=hm0;clear hm0
 refine ct (sr (bk [3999,999] F H rfl ⟨rfl,(bY agg28 rfl),rfl,(bY pS rfl),trivial⟩ fun a F=>?_))
 replace H:=H.mR (R:=R_api_Whole) (cs:=[.slice p1 (r0.2.1.1.1).length c1,.slice p2 (r0.2.1.1.2).length c2,.slice p3 (r0.2.1.2).length c3]) (x:=((r0.2.1.1.1,r0.2.1.1.2),r0.2.1.2)) (fun gg=>⟨[Value.slice p1 (r0.2.1.1.1).length c1,.slice p2 (r0.2.1.1.2).length c2],_,rfl,⟨[Value.slice p1 (r0.2.1.1.1).length c1],_,rfl,⟨_,_,rfl,(gg 4 _ rfl).choose_spec⟩,⟨_,_,rfl,(gg 5 _ rfl).choose_spec⟩⟩,⟨_,_,rfl,(gg 6 _ rfl).choose_spec⟩⟩)
 replace H:=H.mR (R:=R_api_Call) (cs:=[.int .i64 (1),.int .u64 (5),.int .i64 (1),.string (txb ([47,97])),.string (txb ([])),.int .i64 (0),.int .i64 (0),.slice p0 (r0.1).length c0]) (x:=(1,5,(1,[47,97],[],0,0,r0.1))) (fun gg=>⟨[Value.int .i64 (1)],_,rfl,rfl,⟨[Value.int .u64 (5)],_,rfl,rfl,⟨[Value.int .i64 (1)],_,rfl,rfl,⟨[Value.string (txb ([47,97]))],_,rfl,rfl,⟨[Value.string (txb ([]))],_,rfl,rfl,⟨[Value.int .i64 (0)],_,rfl,rfl,⟨[Value.int .i64 (0)],_,rfl,rfl,⟨_,_,rfl,(gg 3 _ rfl).choose_spec⟩⟩⟩⟩⟩⟩⟩⟩)
 obtain ⟨x16,ex16,hm⟩:=ob hm
 refine sd F rfl eQ (eA ex16 (H.pm 12 [1,0,0,1,2,3,4,5,6,7,8,9,10,11] rfl:):) ?_;rintro _ w a ⟨cs27,cs28,rfl,H⟩ F
 refine bb [0,0,0,0] F H rfl fun a F=>?_
 replace H:=H.oN rByte 5
 replace H:=H.oN rStr 9
 refine bE wkP F rfl rfl rfl dA rfl H fun b21 w a H F=>?_
 have G:=F;replace H:=rc_api_Whole (H.pk 3 rfl);obtain ⟨u401,p66,c66,rfl,J⟩:=H;have H:=J;have F:=G;clear G J
 have G:=F;replace H:=rc_api_State (H.pk 0 rfl);obtain ⟨p67,c67,p68,c68,rfl,J⟩:=H;have H:=J;have F:=G;clear G J
 refine aJ wkP F rfl rfl agg28 rfl rfl rfl H 12 rfl rfl rfl (fl rfl) fun w H=>?_
 have G:=F;replace H:=rc_api_Answer (H.pk 6 rfl);obtain ⟨p69,c69,p70,c70,rfl,J⟩:=H;have H:=J;have F:=G;clear G J
 refine aJ wkP F rfl rfl agg47 rfl rfl rfl H 5 rfl rfl rfl (fl rfl) fun w H=>bb [0] F H rfl fun a F=>?_
 replace H:=H.nf 20 rfl
 refine nl (sr (bk [1] F H rfl ⟨kW,trivial⟩ fun a F=>cN wkP F rfl rfl aGe rfl rfl rfl rfl rfl H 10 rfl rfl fun w H=>?_))
 replace H:=H.nf 20 rfl
 refine nl (sr (bk [13999,10999] F H rfl ⟨rfl,(bY agg28 rfl),rfl,(bY pS rfl),trivial⟩ fun a F=>?_))
 replace H:=H.mR (R:=R_api_Whole) (cs:=[.slice p67 (x16.1.1.1).length c67,.slice p68 (x16.1.1.2).length c68,.slice p66 (x16.1.2).length c66]) (x:=((x16.1.1.1,x16.1.1.2),x16.1.2)) (fun gg=>⟨[Value.slice p67 (x16.1.1.1).length c67,.slice p68 (x16.1.1.2).length c68],_,rfl,⟨[Value.slice p67 (x16.1.1.1).length c67],_,rfl,⟨_,_,rfl,(gg 2 _ rfl).choose_spec⟩,⟨_,_,rfl,(gg 3 _ rfl).choose_spec⟩⟩,⟨_,_,rfl,(gg 4 _ rfl).choose_spec⟩⟩)
 replace H:=H.mR (R:=R_api_Call) (cs:=[.int .i64 (1),.int .u64 (4),.int .i64 (1),.string (txb ([47,97])),.string (txb ([])),.int .i64 (0),.int .i64 (0),.slice p0 (r0.1).length c0]) (x:=(1,4,(1,[47,97],[],0,0,r0.1))) (fun gg=>⟨[Value.int .i64 (1)],_,rfl,rfl,⟨[Value.int .u64 (4)],_,rfl,rfl,⟨[Value.int .i64 (1)],_,rfl,rfl,⟨[Value.string (txb ([47,97]))],_,rfl,rfl,⟨[Value.string (txb ([]))],_,rfl,rfl,⟨[Value.int .i64 (0)],_,rfl,rfl,⟨[Value.int .i64 (0)],_,rfl,rfl,⟨_,_,rfl,(gg 13 _ rfl).choose_spec⟩⟩⟩⟩⟩⟩⟩⟩)
 obtain ⟨x17,ex17,hm⟩:=ob hm
 refine sd F rfl eQ (eA ex17 (H.pm 22 [1,0,0,1,2,3,4,5,6,7,8,9,10,11,12,13,14,15,16,17,18,19,20,21] rfl:):) ?_;rintro _ w a ⟨cs29,cs30,rfl,H⟩ F
 refine bb [0,0,0,0] F H rfl fun a F=>?_
 replace H:=H.oN R_api_Pair 126
 replace H:=H.oN R_api_Snap 90
 replace H:=H.oN R_api_Seat 49
 refine bE wkP F rfl rfl rfl eU rfl H fun b22 w a H F=>?_
 replace H:=H.oN rByte 5
 replace H:=H.oN rStr 9
 refine bE wkP F rfl rfl rfl dA rfl H fun b23 w a H F=>?_
 have G:=F;replace H:=rc_api_Whole (H.pk 7 rfl);obtain ⟨u417,p71,c71,rfl,J⟩:=H;have H:=J;have F:=G;clear G J
 have G:=F;replace H:=rc_api_State (H.pk 0 rfl);obtain ⟨p72,c72,p73,c73,rfl,J⟩:=H;have H:=J;have F:=G;clear G J
 refine aJ wkP F rfl rfl agg28 rfl rfl rfl H 6 rfl rfl rfl (fl rfl) fun w H=>?_
 have G:=F;replace H:=rc_api_Answer (H.pk 10 rfl);obtain ⟨p74,c74,p75,c75,rfl,J⟩:=H;have H:=J;have F:=G;clear G J
 refine aJ wkP F rfl rfl agg47 rfl rfl rfl H 5 rfl rfl rfl (fl rfl) fun w H=>bb [0] F H rfl fun a F=>?_
 replace H:=H.nf 34 rfl
 refine nl (sr (bk [0,31000,0,0] F H rfl ⟨lY,rfl,plain44,trivial⟩ fun a F=>?_))
 rcases spP 37 F rfl hm with ⟨hg0,hm,F⟩ | ⟨hg0,hm,F⟩
 refine bk [31999,19999] F H rfl ⟨rfl,(bY agg47 rfl),rfl,(bY agg47 rfl),trivial⟩ fun a F=>nE F rfl rfl rfl rfl ?_
 replace H:=mk_api_Answer H r0.2.2.1.1 r0.2.2.1.2.1 32 rfl 33 rfl
 replace H:=mk_api_Answer H x16.2.1.1 x16.2.1.2.1 15 rfl 16 rfl
 obtain ⟨x18,ex18,hm⟩:=ob hm
 refine sd F rfl ent13 (wP ex18 (H.pm 36 [1,0,0,1,2,3,4,5,6,7,8,9,10,11,12,13,14,15,16,17,18,19,20,21,22,23,24,25,26,27,28,29,30,31,32,33,34,35] rfl:):) ?_;rintro _ w a ⟨rfl,H⟩ F
 refine bb [0,0] F H rfl fun a F=>?_
 by_cases hg1:x18=true
 replace hm:=ifT hg1 hm
 replace F:=F.vT 42 hg1 rfl
 refine bb [0,0,0,0] F H rfl fun a F=>?_
 rcases spP 46 F rfl hm with ⟨hg2,hm,F⟩ | ⟨hg2,hm,F⟩
 refine bb [0,0,0,0] F H rfl fun a F=>?_
 rcases spP 50 F rfl hm with ⟨hg3,hm,F⟩ | ⟨hg3,hm,F⟩
 refine bb [0,0,0,0] F H rfl fun a F=>sv F rfl (tN F rfl rfl rfl rfl) fun a F=>bb [0] F H rfl fun a F=>sv F rfl (tN F rfl rfl rfl rfl) fun a F=>bb [0] F H rfl fun a F=>sv F rfl (tN F rfl rfl rfl rfl) fun a F=>bb [0] F H rfl fun a F=>?_
 replace H:=H.nf 36 rfl
 refine nl (wr ?_)
 cases hm
 refine eF F rfl rfl ?_
 exact ⟨_,rfl,rfl,(H.pm 36 [] rfl:)⟩
 refine bb (List.replicate 10 0) F H rfl fun a F=>?_
 replace H:=H.nf 36 rfl
 refine nl (wr ?_)
 cases hm
 refine eF F rfl rfl ?_
 exact ⟨_,rfl,rfl,(H.pm 36 [] rfl:)⟩
 refine bb (List.replicate 14 0) F H rfl fun a F=>?_
 replace H:=H.nf 36 rfl
 refine nl (wr ?_)
 cases hm
 refine eF F rfl rfl ?_
 exact ⟨_,rfl,rfl,(H.pm 36 [] rfl:)⟩
 replace hm:=ifF hg1 hm
 replace F:=F.vF 42 hg1 rfl
 refine bb (List.replicate 18 0) F H rfl fun a F=>?_
 replace H:=H.nf 36 rfl
 refine nl (wr ?_)
 cases hm
 refine eF F rfl rfl ?_
 exact ⟨_,rfl,rfl,(H.pm 36 [] rfl:)⟩
 refine bb (List.replicate 23 0) F H rfl fun a F=>nl (wr ?_)
 cases hm
 refine eF F rfl rfl ?_
 exact ⟨_,rfl,rfl,(H.pm 34 [] rfl:)⟩
instance:Ctr Tryz.prog 4 0 (type_of% @aDl):=⟨enters Tryz.func4 (by kernel_rfl) rfl,@aDl⟩
end Go.Proofs.YtkcgdaihfblncaaGreatDoor
