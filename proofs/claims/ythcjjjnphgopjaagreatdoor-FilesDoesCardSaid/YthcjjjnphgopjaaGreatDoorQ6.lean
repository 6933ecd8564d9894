/- Texts LibA, FilesA. -/
import Derived.Test.YthcjjjnphgopjaaGreatDoorQ5
import Derived.Test.YthcjjjnphgopjaaGreatDoorQ3
import Derived.Test.YthcjjjnphgopjaaGreatDoorQ4
import Derived.Test.YthcjjjnphgopjaaGreatDoorFilL
set_option linter.unusedSimpArgs false
set_option linter.unusedVariables false
namespace Go.Proofs.YthcjjjnphgopjaaGreatDoor
open Go.RowKit Go.Tri
set_option maxRecDepth 100000
set_option maxHeartbeats 4000000
theorem w_cmp58 {w:World} {v u:Value} {x y:List UInt8} (hx:Sl w v x.length (bcells x)) (hy:Sl w u y.length (bcells y)):Calls Tryz.prog 58 [v,u].toArray w (fun e w'=>e=.returned (.int .i64 (Lib.compareBytes x y))∧w'=w):=by
 refine x_enter Tryz.func58 rfl rfl rfl ?_
 intro a F
 replace F:Fr ⟨8,[]⟩ a [(0,v),(1,u)]:=F
 refine wp_seq (r_lit ?_)
 refine sv F rfl (y_assign F rfl rfl) fun a F=>?_
 refine wpList_nil (c_then ?_)
 refine wp_seq (r_lit ?_)
 refine sv F rfl (y_move F rfl rfl) fun a F=>sv F rfl (y_move F rfl rfl) fun a F=>?_
 refine sv F rfl (y_ext F rfl rfl (v:=.int .i64 (Lib.compareBytes x y)) (w:=w) (by rw [run_callFunc_extern Tryz.func78 (by kernel_rfl) (by kernel_rfl) (by kernel_rfl) (e:=Extern.BytealgCompare.compare) (by kernel_rfl),run_compare hx hy];rfl)) fun a F=>?_
 refine sv F rfl (y_assign F rfl rfl) fun a F=>?_
 refine wpList_nil (c_then ?_)
 refine wp_ret ?_
 refine x_ret1 F rfl rfl ?_
 exact ⟨rfl,rfl⟩
theorem w_sortT {xs:List (List UInt8)} {p1:Option Addr} {c1:Nat} {w0 w:World} {l:List HP}  {r:(List (List UInt8))} (hm:sortT xs=some r) (H:St w0 w (HP.ow rStr 9 p1 c1 xs::l)) :
  Calls Tryz.prog 107 [.slice p1 (xs).length c1].toArray w (fun e w'=>∃ v,e=.returned v∧v=.tuple [].toArray∧((r).length=(xs).length)∧St w0 w' (HP.ow rStr 9 p1 c1 r::l)):=by
 unfold sortT at hm
 obtain ⟨hn,rfl⟩:=sortTO_some hm
 rcases H.owCase 0 rfl with ⟨rfl,rfl,rfl⟩ | ⟨b,rfl⟩
 · exact (Tryz.slices_Sort_string_none none 0 w).mono fun e w' ⟨he,hw⟩=>⟨_,he,rfl,List.length_mergeSort _,by rw [hw];simpa using H⟩
 · obtain ⟨h1,h2,_,h4⟩:=H.putStr 0 rfl
   refine (Tryz.slices_Sort_string b 0 c1 xs w h1 h2 (by omega)).mono fun e w' ⟨he,n,os,hw⟩=>⟨_,he,rfl,List.length_mergeSort _,?_⟩
   have h5:=h4 (xs.mergeSort fun x y=>decide (x≤y)) xs.length n os (List.length_mergeSort _) (Nat.le_of_eq (List.length_mergeSort _).symm)
   rw [List.take_of_length_le (Nat.le_of_eq (List.length_mergeSort _))] at h5
   rw [hw];exact h5
theorem ent58:En Tryz.prog 58:=enters Tryz.func58 (by kernel_rfl) rfl
theorem ent57:En Tryz.prog 57:=enters Tryz.func57 (by kernel_rfl) rfl
theorem plain23:Plain Tryz.prog 23:=by unfold Plain;rw [Tryz.underlying23];rfl
theorem fld60_0:FieldT Tryz.prog 60 0 0:=by unfold FieldT;rw [Tryz.underlying60];kernel_rfl
theorem agg60:AggT Tryz.prog 60 2 [.slice none 0 0,.slice none 0 0]:=⟨by rw [Tryz.underlying60];rfl,by kernel_rfl,by kernel_rfl⟩
theorem w_cmpp57 {B:Base} (x y:PE B) (w:World) (hs:Sub B w):Calls Tryz.prog 57 [.agg (encP x).toArray,.agg (encP y).toArray].toArray w (fun e w'=>e=.returned (.int .i64 (cmpP x y))∧∃ q os',w'=Go.Sort.grow (w.drewN q) os'):=by
 obtain ⟨q1,c1,v1,hx1,hx2⟩:=pe_key hs x
 obtain ⟨q2,c2,v2,hy1,hy2⟩:=pe_key hs y
 refine x_enter Tryz.func57 rfl rfl rfl ?_
 intro a F
 replace F:Fr ⟨10,[]⟩ a [(0,.agg (x.1.1).toArray),(1,.agg (y.1.1).toArray)]:=F
 rw [hx1,hy1] at F
 refine wp_seq (r_lit ?_)
 refine sv F rfl (y_boxA F rfl rfl) fun a F=>sv F rfl (y_boxA F rfl rfl) fun a F=>sv F rfl (y_assign F rfl rfl) fun a F=>?_
 refine wpList_nil (c_then ?_)
 obtain ⟨w1,hw1⟩:∃ w1,w1=w.alloc (.cells [Value.slice q1 x.1.2.1.length c1,v1].toArray 60):=⟨_,rfl⟩
 obtain ⟨w2,hw2⟩:∃ w2,w2=w1.alloc (.cells [Value.slice q2 y.1.2.1.length c2,v2].toArray 60):=⟨_,rfl⟩
 have hs2:Sub B w2:=fun b o hb=>by rw [hw2,hw1];exact heapOld _ _ b (by have:=hs.lt hb;simp;omega) |>.trans ((heapOld _ _ b (hs.lt hb)).trans (hs b o hb))
 have hb1:Blk w2 w.heap.size [Value.slice q1 x.1.2.1.length c1,v1] 60:=by rw [hw2,hw1];exact (Blk.new w _ _).alloc _
 have hb2:Blk w2 w1.heap.size [Value.slice q2 y.1.2.1.length c2,v2] 60:=by rw [hw2];exact Blk.new _ _ _
 rw [← hw1] at F
 rw [← hw1,← hw2]
 generalize w.heap.size=b1 at *
 generalize w1.heap.size=b2 at *
 obtain ⟨q3,c3,v3,hx3,hx4⟩:=pe_key hs2 x
 obtain ⟨q4,c4,v4,hy3,hy4⟩:=pe_key hs2 y
 rw [hx1] at hx3
 rw [hy1] at hy3
 simp only [List.cons.injEq,Value.slice.injEq,true_and,and_true] at hx3 hy3
 obtain ⟨⟨rfl,rfl⟩,rfl⟩:=hx3
 obtain ⟨⟨rfl,rfl⟩,rfl⟩:=hy3
 refine wp_seq (r_lit ?_)
 refine sv F rfl (y_fieldAddr F fld60_0 rfl rfl) fun a F=>sv F rfl (y_load1 F plain23 rfl rfl (hb1.cell _)) fun a F=>sv F rfl (y_fieldAddr F fld60_0 rfl rfl) fun a F=>sv F rfl (y_load1 F plain23 rfl rfl (hb2.cell _)) fun a F=>?_
 refine s_callV (v:=.int .i64 (cmpP x y)) wkP F rfl rfl rfl rfl (y_call F rfl rfl ent58) (R:=fun w'=>w'=w2) ((w_cmp58 hx4 hy4).mono fun e w' h=>⟨h.1,h.2⟩) ?_;rintro w a rfl F
 refine sv F rfl (y_assign F rfl rfl) fun a F=>?_
 refine wpList_nil (c_then ?_)
 refine wp_ret ?_
 refine x_ret1 F rfl rfl ?_
 refine ⟨rfl,0,#[Obj.cells [Value.slice q1 x.1.2.1.length c1,v1].toArray 60 (0,0),Obj.cells [Value.slice q2 y.1.2.1.length c2,v2].toArray 60 (0,0)],?_⟩
 rw [hw2,hw1,Go.Sort.alloc_eq_grow,Go.Sort.alloc_eq_grow,Go.Sort.grow_grow]
 rfl
theorem w_sortPs {xs:List T_api_Pair} {p1:Option Addr} {c1:Nat} {w0 w:World} {l:List HP}  {r:(List T_api_Pair)} (hm:sortPs xs=some r) (H:St w0 w (HP.ow R_api_Pair 60 p1 c1 xs::l)) :
  Calls Tryz.prog 56 [.slice p1 (xs).length c1,.func (.func 57) #[] #[]].toArray w (fun e w'=>∃ v,e=.returned v∧v=.tuple [].toArray∧((r).length=(xs).length)∧St w0 w' (HP.ow R_api_Pair 60 p1 c1 r::l)):=by
 unfold sortPs at hm
 obtain ⟨hnd,hn,rfl⟩:=sortPO_some hm
 rcases H.owCase 0 rfl with ⟨rfl,rfl,rfl⟩ | ⟨b,rfl⟩
 · exact (AnyF.slices_SortFunc_none Tryz.layz56 none 0 (.func (.func 57) #[] #[]) w).mono fun e w' ⟨he,hw⟩=>⟨_,he,rfl,by simp [sortPairs],by rw [hw,show sortPairs []=[] by simp [sortPairs]];exact H⟩
 · obtain ⟨B,d,hd,hH,hb,hB,hK⟩:=H.sortP 0 rfl
   have hlen:d.toArray.size=xs.length:=by rw [← hd];simp
   have:=AnyQ.slices_SortFunc Tryz.layz56 2 agg60.run_isAgg agg60.run_szOf encP encP_len encP_one cmpP cmpP_swo 57 #[] b 0 c1 d.toArray w ent57 (fun m os dk hs x y=>w_cmpp57 x y _ (hB dk m os)) hH hb (by rw [hlen];omega)
   rw [hlen] at this
   refine this.mono ?_
   rintro e w' ⟨rfl,d',n,os,hp,hs,rfl⟩
   rw [← hlen] at hp hs
   obtain ⟨h1,h2,h3⟩:=sort_pairs hp hs
   have h4:=hK d' n os h1
   rw [hd] at h2
   have h5:=sortPairs_eq hnd h2 h3
   rw [h5] at h4
   exact ⟨_,rfl,rfl,(List.mergeSort_perm xs leP).length_eq,h4⟩
theorem fld25_2:FieldT Tryz.prog 25 2 2:=by unfold FieldT;rw [Tryz.underlying25];kernel_rfl
theorem ent84:En Tryz.prog 84:=enters Tryz.func84 (by kernel_rfl) rfl
theorem ent85:En Tryz.prog 85:=enters Tryz.func85 (by kernel_rfl) rfl
theorem w_delc85 {b3:Nat} {cs:List Value} {tx:List UInt8} (hto:cs[2]?=some (.string (txb tx))) (x:List UInt8) (W:World) (hb:Blk W b3 cs 25):Calls Tryz.prog 85 #[encStr x,.pointer (some ⟨b3,0,none⟩)] W (fun e w'=>e=.returned (.bool (leqB x tx))∧∃ q,w'=W.drewN q):=by
 refine x_enter (args:=[encStr x,.pointer (some ⟨b3,0,none⟩)]) Tryz.func85 rfl rfl rfl ?_
 intro a F
 replace F:Fr ⟨8,[]⟩ a [(0,.string (txb x)),(1,.pointer (some ⟨b3,0,none⟩))]:=F
 refine wp_seq (r_lit ?_)
 refine sv F rfl (y_assign F rfl rfl) fun a F=>?_
 refine wpList_nil (c_then ?_)
 refine wp_seq (r_lit ?_)
 refine sv F rfl (y_move F rfl rfl) fun a F=>sv F rfl (y_fieldAddr F fld25_2 rfl rfl) fun a F=>sv F rfl (y_load1 F plain9 rfl rfl ((hb.cell _).trans hto)) fun a F=>sv F rfl (y_leqT F rfl rfl rfl) fun a F=>sv F rfl (y_assign F rfl rfl) fun a F=>?_
 refine wpList_nil (c_then ?_)
 refine wp_ret ?_
 refine x_ret1 F rfl rfl ?_
 exact ⟨rfl,0,rfl⟩
theorem w_delnil84 (fv:Value) (w:World):Calls Tryz.prog 84 [.slice none 0 0,fv].toArray w (fun e w'=>e=.returned (.slice none 0 0)∧w'=w):=by
 refine x_enter Tryz.func84 rfl rfl rfl ?_
 intro a F
 replace F:Fr ⟨42,[]⟩ a [(0,.slice none 0 0),(1,fv)]:=F
 refine wp_seq (r_lit ?_)
 refine sv F rfl (y_assign F rfl rfl) fun a F=>?_
 refine wpList_nil (c_then ?_)
 refine wp_seq (r_lit ?_)
 refine sv F rfl (y_move F rfl rfl) fun a F=>sv F rfl (y_move F rfl rfl) fun a F=>?_
 refine s_callV (v:=.int .i64 (-1)) wkP F rfl rfl rfl rfl (y_call F rfl rfl ent108) (R:=fun w'=>w'=w) ((AnyE.slices_IndexFunc_empty Tryz.layz108 none 0 fv w).mono fun e w' h=>⟨h.1,h.2⟩) ?_;rintro w a rfl F
 refine sv F rfl (y_assign F rfl rfl) fun a F=>?_
 refine wpList_nil (c_then ?_)
 refine wp_seq (wp_seq (r_lit ?_))
 refine sv F rfl (y_move F rfl rfl) fun a F=>sv F rfl (y_eql F rfl rfl rfl) fun a F=>?_
 refine wpList_nil (c_then ?_)
 refine x_condT F rfl ?_
 refine wp_seq (r_lit ?_)
 refine sv F rfl (y_move F rfl rfl) fun a F=>sv F rfl (y_assign F rfl rfl) fun a F=>?_
 refine wpList_nil (c_then ?_)
 refine wp_ret ?_
 refine c_thenR ?_
 refine x_ret1 F rfl rfl ?_
 exact ⟨rfl,rfl⟩
theorem w_del84 {p:Option Addr} {c b3:Nat} {xs r:List (List UInt8)} {cs:List Value} {tx:List UInt8} {w0 w:World} {l:List HP} (hm:delO xs tx=some r) (hto:cs[2]?=some (.string (txb tx))) (H:St w0 w (HP.ow rStr 9 p c xs::HP.blk b3 cs 25::l)) :
  Calls Tryz.prog 84 [.slice p xs.length c,.func (.func 85) #[] [.pointer (some ⟨b3,0,none⟩)].toArray].toArray w (fun e w'=>∃ v,e=.returned v∧v=.slice p r.length c∧St w0 w' (HP.ow rStr 9 p c r::HP.blk b3 cs 25::l)):=by
 obtain ⟨hn,rfl⟩:=delO_some hm
 have hoc:=St.owCase (R:=rStr) (e:=9) (p:=p) (cap:=c) (xs:=xs) H 0 rfl
 obtain hoc | ⟨b,rfl⟩:=hoc
 · obtain ⟨hp,hc,hx⟩:=hoc
   subst hp hc hx
   have hq:=w_delnil84 (.func (.func 85) #[] [.pointer (some ⟨b3,0,none⟩)].toArray) w
   rw [List.length_nil]
   refine Calls.mono hq fun e w' ⟨he,hw⟩=>⟨_,he,rfl,hw▸H⟩
 · have hap:=St.apart (e:=9) (b:=b) (b3:=b3) (cap:=c) (xs:=xs) (cs:=cs) (t:=25) H 0 1 rfl rfl Nat.zero_ne_one
   obtain ⟨hb1,hb2,hb3⟩:=hap
   obtain ⟨h1,h2,hcap,h4⟩:=H.putStr 0 rfl
   have hp:PredAt Tryz.prog 85 #[.pointer (some ⟨b3,0,none⟩)] encStr (fun x=>leqB x tx) w:=fun W x hW=>w_delc85 hto x W (by unfold Blk at hb1 ⊢;rw [hW.block b3 hb2];exact hb1)
   have hpo:PredOver Tryz.prog 85 #[.pointer (some ⟨b3,0,none⟩)] encStr (fun x=>leqB x tx) b 0 xs.toArray.size w:=fun n os dk x _=>w_delc85 hto x _ (by
     unfold Blk at hb1 ⊢
     have hw:(sortWorld encStr w b 0 n dk os).heap=(w.heap.modify b (Sort.onCells (Sort.putCells encStr 0 dk)))++os:=rfl
     rw [hw,Array.getElem?_append_left (by simpa using hb2),Array.getElem?_modify,if_neg (Ne.symm hb3)];exact hb1)
   have:=AnyE.slices_DeleteFunc Tryz.layz84 encStr (fun x=>rfl) (fun x=>leqB x tx) 85 #[.pointer (some ⟨b3,0,none⟩)] ent85 [] (fun w=>zero9.run w) b 0 c xs.toArray w hp hpo h1 (by simp;omega) (by simpa using hcap)
   refine this.mono fun e w' ⟨he,q,hw⟩=>⟨_,he,?_,?_⟩
   · simp
   · have hfl:(xs.filter fun x=>!leqB x tx).length≤xs.length:=List.length_filter_le _ _
     have h5:=h4 ((xs.filter fun x=>!leqB x tx)++List.replicate (xs.length - (xs.filter fun x=>!leqB x tx).length) []) (xs.filter fun x=>!leqB x tx).length q #[] (by simp;omega) (by simp)
     rw [List.take_left' rfl] at h5
     rw [hw]
     simpa using h5
set_option maxRecDepth 100000
set_option maxHeartbeats 4000000
theorem elem23:ElemT Tryz.prog 23 5 1 1 (.int .u8 0):=⟨Tryz.underlying23,by kernel_rfl,by kernel_rfl,by decide⟩
theorem w_cloneB {s:List UInt8} {p1:Option Addr} {c1:Nat} {w0 w:World} {l:List HP}  {r:(List UInt8)} (hm:cloneB s=some r) (H:St w0 w (HP.sl rByte p1 c1 s::l)) :
  Calls Tryz.prog 55 [.slice p1 (s).length c1].toArray w (fun e w'=>∃ v,e=.returned v∧∃ (p2:Option Addr) (c2:Nat),v=.slice p2 (r).length c2∧St w0 w' (HP.ow rByte 5 p2 c2 r::l)):=by
 unfold cloneB at hm
 refine x_enter Tryz.func55 rfl rfl rfl ?_
 intro a F
 refine sb [0] F H rfl fun a F=>nl (sq (sb [0] F H rfl fun a F=>?_))
 obtain _ | ad:=p1
 obtain ⟨hx0,hc0⟩:=H.slNone 0 rfl;subst hc0;try subst hx0
 replace H:=H.dp 0 rfl
 refine sv F rfl (y_eqNil F rfl Tryz.underlying23 rfl rfl (by simp)) fun a F=>nl (cT F rfl (sb [0] F H rfl fun a F=>nl (wr (tr ?_))))
 replace H:=H.owNil rByte 5
 cases hm
 refine x_ret1 F rfl rfl ?_
 exact ⟨_,rfl,none,0,rfl,H⟩
 refine sv F rfl (y_eqSome F rfl Tryz.underlying23 rfl rfl (by simp)) fun a F=>nl (cF F rfl (sk (ct (sr (s_build0O (R:=rByte) wkP F rfl rfl rfl elem23 rfl H fun b3 w a H F=>bb [0] F H rfl fun a F=>?_)))))
 obtain ⟨x5,ex5,hm⟩:=ob hm
 refine s_app wkP F rfl rfl rfl rfl rfl rfl elem23 rfl ex5 H 0 1 rfl rfl fun p4 c4 w a H F=>?_
 refine bb [0] F H rfl fun a F=>?_
 replace H:=H.nf 2 rfl
 refine nl (wr ?_)
 cases hm
 refine x_ret1 F rfl rfl ?_
 exact ⟨_,rfl,p4,c4,rfl,(H.pm 2 [0] rfl:)⟩
theorem fld88_0:FieldT Tryz.prog 88 0 0:=by unfold FieldT;rw [Tryz.underlying88];kernel_rfl
theorem zero23:Zero1 Tryz.prog 23 (.slice none 0 0):=⟨by kernel_rfl,rfl⟩
theorem w_penRaw {p:T_pack_Pen_o} {b:List UInt8} {bo0:Nat} {p1:Option Addr} {c1:Nat} {w0 w:World} {l:List HP}  {r:T_pack_Pen_o} (hm:penRaw p b=some r) (H:St w0 w (O_pack_Pen bo0 p::HP.sl rByte p1 c1 b::l)) :
  Calls Tryz.prog 51 [.pointer (some ⟨bo0,0,none⟩),.slice p1 (b).length c1].toArray w (fun e w'=>∃ v,e=.returned v∧v=.tuple [].toArray∧St w0 w' (O_pack_Pen bo0 r::l)):=by
 unfold penRaw at hm
 refine x_enter Tryz.func51 rfl rfl rfl ?_
 intro a F
 refine rl (bk [0,0,0,0] F H rfl ⟨fld88_0,trivial⟩ fun a F=>?_)
 obtain ⟨p2,c3,H⟩:=O_pack_Pen_o (H.pk 0 rfl)
 refine bk [0,0] F H rfl ⟨rfl,plain23,trivial⟩ fun a F=>?_
 obtain ⟨x5,ex5,hm⟩:=ob hm
 refine s_app wkP F rfl rfl rfl rfl rfl rfl elem23 rfl ex5 H 1 2 rfl rfl fun p4 c4 w a H F=>?_
 refine bk [0,0] F H rfl ⟨fld88_0,trivial⟩ fun a F=>s_st1 wkP F rfl rfl zero23 rfl rfl rfl rfl rfl H 0 rfl rfl fun w H=>?_
 replace H:=H.nf 3 rfl
 refine lz ?_
 replace H:=O_pack_Pen_s H
 cases hm
 refine x_end0 F rfl ?_
 exact ⟨_,rfl,rfl,(H.pm 2 [0] rfl:)⟩
theorem zero5:Zero1 Tryz.prog 5 (.int .u8 0):=⟨by kernel_rfl,rfl⟩
theorem w_penUint {p:T_pack_Pen_o} {n:Int} {size:Int} {bo0:Nat} {w0 w:World} {l:List HP}  {r:Int×T_pack_Pen_o} (hm:penUint p n size=some r) (H:St w0 w (O_pack_Pen bo0 p::l)) :
  Calls Tryz.prog 52 [.pointer (some ⟨bo0,0,none⟩),.int .u64 (n),.int .i64 (size)].toArray w (fun e w'=>∃ v,e=.returned v∧v=.int .i64 (r.1)∧St w0 w' (O_pack_Pen bo0 r.2::l)):=by
 unfold penUint at hm
 refine x_enter Tryz.func52 rfl rfl rfl ?_
 intro a F
 refine sb [0] F H rfl fun a F=>nl (sq (sb [0,0,0] F H rfl fun a F=>?_))
 rcases spP 10 F rfl hm with ⟨hg1,hm,F⟩ | ⟨hg1,hm,F⟩
 refine bb (List.replicate 14 0) F H rfl fun a F=>nl (cT F rfl (sb [0] F H rfl fun a F=>nl (wr (tr ?_))))
 cases hm
 refine x_ret1 F rfl rfl ?_
 exact ⟨_,rfl,rfl,H⟩
 refine bb [0,0,0,0] F H rfl fun a F=>?_
 rcases spP 14 F rfl hm with ⟨hg2,hm,F⟩ | ⟨hg2,hm,F⟩
 refine bb (List.replicate 10 0) F H rfl fun a F=>nl (cT F rfl (sb [0] F H rfl fun a F=>nl (wr (tr ?_))))
 cases hm
 refine x_ret1 F rfl rfl ?_
 exact ⟨_,rfl,rfl,H⟩
 refine bb [0,0,0] F H rfl fun a F=>?_
 rcases spP 17 F rfl hm with ⟨hg3,hm,F⟩ | ⟨hg3,hm,F⟩
 refine bb [0,0,0] F H rfl fun a F=>g_onP F rfl rfl rfl rfl ?_
 obtain ⟨x4,ex4,hm⟩:=ob hm
 refine sv F rfl (i_shrO F rfl rfl rfl ex4) fun a F=>bb [0,0,0] F H rfl fun a F=>?_
 refine nl (cPm F rfl hm (fun hg5 hm=>?_) (fun hg5 hm=>?_))
 refine sb [0] F H rfl fun a F=>nl (wr (tr ?_))
 cases hm
 refine x_ret1 F rfl rfl ?_
 exact ⟨_,rfl,rfl,H⟩
 refine sk (ct (sq (sb [0,0,0] F H rfl fun a F=>?_)))
 refine nl (xm0 1 [] [] F H hm rfl rfl (fun r31 z=>z) (fun r31 z=>O_pack_Pen bo0 r31::z) (fun r31 hm=>?_) (fun r31 a w hm F H=>?_))
 refine bl (xl0 1 [0,1] [] F H hm rfl rfl (fun (s48:T_pack_Pen_o×Int) z=>(7,.int .i64 (s48.2))::z) (fun s48 z=>O_pack_Pen bo0 s48.1::z) ⟨F.sl rfl,H⟩ (fun s48 a w o F H hm=>sq (sb [0,0] F H rfl fun a F=>?_)))
 refine nl (cPm F rfl hm (fun hg49 hm=>?_) (fun hg49 hm=>?_))
 refine sk (ct (sq (bl ?_)))
 obtain ⟨p50,c51,H⟩:=O_pack_Pen_o (H.pk 0 rfl)
 obtain ⟨x52,ex52,hm⟩:=ob hm
 refine mix_regionK [10,11,14] [14] (scL [0,1,2,3,4,5,6,7,8,9,2010,2011,12,13,3014]) [0] H rfl rfl (by kernel_rfl) (by kernel_rfl) fun w H=>?_
 refine mbk [0,0,0,0] F H rfl ⟨fld88_0,trivial⟩ fun a F=>?_
 refine m_pure F rfl rfl rfl rfl (fun u hu=>y_load1 F plain23 rfl rfl (row_at (v:=.slice p50 (s48.1).length c51) ((hu.choose_spec.blk 0 rfl).row) rfl)) fun a F=>?_
 refine mb [0,0,0] F H rfl fun a F=>?_
 refine m_pure F rfl rfl rfl rfl (fun u hu=>i_shrO F rfl rfl rfl ex52) fun a F=>?_
 refine mbk [1] F H rfl ⟨Tryz.underlying91,Tryz.underlying5,trivial⟩ fun a F=>m_heavy rfl rfl ?_
 obtain ⟨x54,ex54,hm⟩:=ob hm
 refine s_buildC wkP F rfl rfl rfl elem23 zero5 rfl rfl rfl rfl (by simp [Value.cells]) (by decide) H fun b53 w a H F=>?_
 replace H:=H.blkOw1 (R:=rByte) (x:=x54) (fun gg=>(congrArg (fun z=>[Value.int .u8 z]) (u8O_some ex54).symm))
 refine lz ?_;refine ct ⟨⟨_,(H.pm 3 [1,0,2] rfl:)⟩,?_⟩
 refine m_heavy rfl rfl ?_
 replace H:=H.frz 0 rfl
 obtain ⟨x56,ex56,hm⟩:=ob hm
 refine s_app wkP F rfl rfl rfl rfl rfl rfl elem23 rfl ex56 H 2 0 rfl rfl fun p55 c55 w a H F=>?_
 refine lz ?_;refine ct ⟨⟨_,(H.pm 3 [1,0,2] rfl:)⟩,?_⟩
 refine mbk [0,0] F H rfl ⟨fld88_0,trivial⟩ fun a F=>m_last rfl rfl (s_st1 wkP F rfl rfl zero23 rfl rfl rfl rfl rfl H 1 rfl rfl fun w H=>?_)
 refine lz ?_;refine ct ?_
 refine m_nil (bn (ct (rl (bb [0,0,0] F H rfl fun a F=>?_))))
 replace H:=H.nf 3 rfl
 refine lz ?_
 replace H:=O_pack_Pen_s (H.pm 3 [1,2,0] rfl:)
 refine ct ?_;cases hm
 exact ⟨_,rfl,⟨F.sl rfl,(H.pm 2 [0] rfl:)⟩⟩
 refine ex (cx (cx ?_));cases hm;refine ⟨_,rfl,?_⟩;rintro rfl
 refine ch (ct ?_)
 exact ⟨F.cut _ trivial,H⟩
 refine ct (sb [0] F H rfl fun a F=>nl (wr ?_))
 cases hm
 refine x_ret1 F rfl rfl ?_
 exact ⟨_,rfl,rfl,H⟩
 refine bb (List.replicate 7 0) F H rfl fun a F=>nl (cF F rfl (sk (ct (sq (sb [0,0,0] F H rfl fun a F=>?_)))))
 refine nl (xm0 1 [] [] F H hm rfl rfl (fun r82 z=>z) (fun r82 z=>O_pack_Pen bo0 r82::z) (fun r82 hm=>?_) (fun r82 a w hm F H=>?_))
 refine bl (xl0 1 [0,1] [] F H hm rfl rfl (fun (s99:T_pack_Pen_o×Int) z=>(7,.int .i64 (s99.2))::z) (fun s99 z=>O_pack_Pen bo0 s99.1::z) ⟨F.sl rfl,H⟩ (fun s99 a w o F H hm=>sq (sb [0,0] F H rfl fun a F=>?_)))
 refine nl (cPm F rfl hm (fun hg100 hm=>?_) (fun hg100 hm=>?_))
 refine sk (ct (sq (bl ?_)))
 obtain ⟨p101,c102,H⟩:=O_pack_Pen_o (H.pk 0 rfl)
 obtain ⟨x103,ex103,hm⟩:=ob hm
 refine mix_regionK [10,11,14] [14] (scL [0,1,2,3,4,5,6,7,8,9,2010,2011,12,13,3014]) [0] H rfl rfl (by kernel_rfl) (by kernel_rfl) fun w H=>?_
 refine mbk [0,0,0,0] F H rfl ⟨fld88_0,trivial⟩ fun a F=>?_
 refine m_pure F rfl rfl rfl rfl (fun u hu=>y_load1 F plain23 rfl rfl (row_at (v:=.slice p101 (s99.1).length c102) ((hu.choose_spec.blk 0 rfl).row) rfl)) fun a F=>?_
 refine mb [0,0,0] F H rfl fun a F=>?_
 refine m_pure F rfl rfl rfl rfl (fun u hu=>i_shrO F rfl rfl rfl ex103) fun a F=>?_
 refine mbk [1] F H rfl ⟨Tryz.underlying91,Tryz.underlying5,trivial⟩ fun a F=>m_heavy rfl rfl ?_
 obtain ⟨x105,ex105,hm⟩:=ob hm
 refine s_buildC wkP F rfl rfl rfl elem23 zero5 rfl rfl rfl rfl (by simp [Value.cells]) (by decide) H fun b104 w a H F=>?_
 replace H:=H.blkOw1 (R:=rByte) (x:=x105) (fun gg=>(congrArg (fun z=>[Value.int .u8 z]) (u8O_some ex105).symm))
 refine lz ?_;refine ct ⟨⟨_,(H.pm 3 [1,0,2] rfl:)⟩,?_⟩
 refine m_heavy rfl rfl ?_
 replace H:=H.frz 0 rfl
 obtain ⟨x107,ex107,hm⟩:=ob hm
 refine s_app wkP F rfl rfl rfl rfl rfl rfl elem23 rfl ex107 H 2 0 rfl rfl fun p106 c106 w a H F=>?_
 refine lz ?_;refine ct ⟨⟨_,(H.pm 3 [1,0,2] rfl:)⟩,?_⟩
 refine mbk [0,0] F H rfl ⟨fld88_0,trivial⟩ fun a F=>m_last rfl rfl (s_st1 wkP F rfl rfl zero23 rfl rfl rfl rfl rfl H 1 rfl rfl fun w H=>?_)
 refine lz ?_;refine ct ?_
 refine m_nil (bn (ct (rl (bb [0,0,0] F H rfl fun a F=>?_))))
 replace H:=H.nf 3 rfl
 refine lz ?_
 replace H:=O_pack_Pen_s (H.pm 3 [1,2,0] rfl:)
 refine ct ?_;cases hm
 exact ⟨_,rfl,⟨F.sl rfl,(H.pm 2 [0] rfl:)⟩⟩
 refine ex (cx (cx ?_));cases hm;refine ⟨_,rfl,?_⟩;rintro rfl
 refine ch (ct ?_)
 exact ⟨F.cut _ trivial,H⟩
 refine ct (sb [0] F H rfl fun a F=>nl (wr ?_))
 cases hm
 refine x_ret1 F rfl rfl ?_
 exact ⟨_,rfl,rfl,H⟩
theorem ent55:En Tryz.prog 55:=enters Tryz.func55 (by kernel_rfl) rfl
theorem w_penData {p:T_pack_Pen_o} {bo0:Nat} {w0 w:World} {l:List HP}  {r:(List UInt8)×T_pack_Pen_o} (hm:penData p=some r) (H:St w0 w (O_pack_Pen bo0 p::l)) :
  Calls Tryz.prog 53 [.pointer (some ⟨bo0,0,none⟩)].toArray w (fun e w'=>∃ v,e=.returned v∧∃ (p1:Option Addr) (c1:Nat),v=.slice p1 (r.1).length c1∧St w0 w' (HP.ow rByte 5 p1 c1 r.1::O_pack_Pen_1 bo0 r.2::l)):=by
 unfold penData at hm
 refine x_enter Tryz.func53 rfl rfl rfl ?_
 intro a F
 refine sb [0] F H rfl fun a F=>nl (sr (bk [0,0,0] F H rfl ⟨fld88_0,trivial⟩ fun a F=>?_))
 obtain ⟨p2,c3,H⟩:=O_pack_Pen_o (H.pk 0 rfl)
 refine bk [0] F H rfl ⟨rfl,plain23,trivial⟩ fun a F=>?_
 replace H:=H.frz 1 rfl
 obtain ⟨x4,ex4,hm⟩:=ob hm
 refine sd F rfl ent55 (w_cloneB ex4 (H.pm 2 [0,0,1] rfl:):) ?_;rintro _ w a ⟨p5,c5,rfl,H⟩ F
 refine bb [0] F H rfl fun a F=>?_
 replace H:=H.nf 3 rfl
 refine nl (wr ?_)
 replace H:=O_pack_Pen_1_s (H.pm 3 [2,1,0,1] rfl:)
 cases hm
 refine x_ret1 F rfl rfl ?_
 exact ⟨_,rfl,p5,c5,rfl,(H.pm 3 [1,0] rfl:)⟩
theorem plain3:Plain Tryz.prog 3:=by unfold Plain;rw [Tryz.underlying3];rfl
theorem w_mk54 (p:Option Addr) (n c:Nat) (x:Int) {m:Nat} (hx:x=((m:Nat):Int)) (hm:0<m) (w0 w:World) (l:List HP) (H:St w0 w l) :
  Calls Tryz.prog 54 [.slice p n c,.int .i64 x].toArray w (fun e w'=>∃ v,e=.returned v∧∃ b0 b1,v=.func (.func 75) #[] [.pointer (some ⟨b0,0,none⟩),.pointer (some ⟨b1,0,none⟩)].toArray∧St w0 w' (HP.blk b1 [.int .i64 ((m:Nat):Int)] 3::HP.blk b0 [.slice p n c] 23::l)):=by
 subst hx
 refine x_enter Tryz.func54 rfl rfl rfl ?_
 intro a F
 replace F:Fr ⟨9,[]⟩ a [(0,.slice p n c),(1,.int .i64 ((m:Nat):Int))]:=F
 refine wp_seq ?_
 refine r_lit ?_
 refine s_box1 wkP F rfl rfl rfl rfl rfl rfl H fun b0 w a H F=>s_box1 wkP F rfl rfl rfl rfl rfl rfl H fun b1 w a H F=>sv F rfl (y_assign F rfl rfl) fun a F=>?_
 refine wpList_nil ?_
 refine c_then ?_
 refine wp_seq ?_
 refine wp_seq ?_
 refine r_lit ?_
 refine sv F rfl (y_load1 F plain3 rfl rfl ((H.blk 0 rfl).cell _)) fun a F=>sv F rfl (y_lss F rfl rfl rfl) fun a F=>?_
 refine wpList_nil ?_
 refine c_then ?_
 refine x_condP F rfl (fun hc=>absurd hc (by omega)) (fun hc=>?_)
 refine wp_skip ?_
 refine c_then ?_
 refine wp_seq ?_
 refine r_lit ?_
 refine sv F rfl (y_makeFunc F rfl rfl) fun a F=>sv F rfl (y_assign F rfl rfl) fun a F=>?_
 refine wpList_nil ?_
 refine c_then ?_
 refine wp_ret ?_
 refine x_ret1 F rfl rfl ?_
 exact ⟨_,rfl,b0,b1,rfl,H⟩
set_option maxHeartbeats 2000000 in
theorem seq75 (b0 b1:Nat) (p:Option Addr) (c:Nat) (xs:List UInt8) (n:Nat) (hn:0<n) (hm:n≤9223372036854775807) (hmx:xs.length≤1152921504606846976) :
    SeqC Tryz.prog 75 [.pointer (some ⟨b0,0,none⟩),.pointer (some ⟨b1,0,none⟩)] (fun z:Nat×List UInt8=>[.slice (shp p (z.1+z.2.length) z.1 1) z.2.length z.2.length]) [HP.blk b1 [.int .i64 ((n:Nat):Int)] 3,HP.blk b0 [.slice p xs.length c] 23,HP.sl rByte p c xs] (fun pre x=>∃ post,chunkZ n xs=pre++x::post) (fun pre=>pre=chunkZ n xs):=by
 intro L w0 G E J KK next stop g0 hY W fr H
 refine xii_enter Tryz.func75 rfl rfl rfl ?_
 intro a F
 replace F:Fr ⟨31,[]⟩ a [(0,.func (.yield L) #[] #[]),(1,.pointer (some ⟨b0,0,none⟩)),(2,.pointer (some ⟨b1,0,none⟩))]:=F
 have H:St w0 W ([HP.blk b1 [.int .i64 ((n:Nat):Int)] 3,HP.blk b0 [.slice p xs.length c] 23,HP.sl rByte p c xs]++(J g0++fr)):=H.perm perm_mid
 have hcap:=H.slCap 2 rfl
 refine wpIn_seq ?_
 refine ri_lit ?_
 refine s_val wkI F rfl rfl rfl rfl (y_assign F rfl rfl) fun a F=>?_
 refine wpListIn_nil ?_
 refine c_then ?_
 refine wpIn_block ?_
 refine xi_loop (fun (q:G×Nat×Int) aa ww=>(q.2.2=((q.2.1 * n:Nat):Int))∧Rn next g0 ((chunkZ n xs).take q.2.1) q.1∧Fr ⟨31,[]⟩ aa [(0,.func (.yield L) #[] #[]),(1,.pointer (some ⟨b0,0,none⟩)),(2,.pointer (some ⟨b1,0,none⟩)),(4,.int .i64 q.2.2)]∧St w0 ww ([HP.blk b1 [.int .i64 ((n:Nat):Int)] 3,HP.blk b0 [.slice p xs.length c] 23,HP.sl rByte p c xs]++(J q.1++fr))) (fun q=>xs.length - q.2.1) (g0,0,0) ⟨by simp,by show Rn next g0 ((chunkZ n xs).take 0) g0;rw [List.take_zero];rfl,F.cut _ ⟨rfl,rfl,rfl,rfl,trivial⟩,H⟩ ?_
 clear F H
 rintro ⟨g,k,i⟩ a w ⟨hi,hrn,F,H⟩
 simp only at hi hrn F H
 refine wpIn_seq ?_
 refine wpIn_seq ?_
 refine ri_lit ?_
 refine s_val wkI F rfl rfl rfl rfl (y_move F rfl rfl) fun a F=>?_
 refine s_val wkI F rfl rfl rfl rfl (y_load1 F plain23 rfl rfl ((H.blk 1 rfl).cell _)) fun a F=>?_
 refine s_val wkI F rfl rfl rfl rfl (y_lenS F rfl Tryz.underlying23 rfl) fun a F=>?_
 refine s_val wkI F rfl rfl rfl rfl (y_lss F rfl rfl rfl) fun a F=>?_
 refine wpListIn_nil ?_
 refine c_then ?_
 refine xi_condP F rfl (fun hc=>?_) (fun hc=>?_)
 · refine wpIn_skip ?_
   refine c_then ?_
   have hkl:k * n<xs.length:=by omega
   have hat:=chunkZ_at hn hkl
   obtain ⟨y,hy⟩:∃ y,y=(xs.drop (k * n)).take n:=⟨_,rfl⟩
   rw [← hy] at hat
   have hmem:(k * n,y)∈chunkZ n xs:=List.mem_of_getElem? hat
   have hyl:y.length=min n (xs.length - k * n):=by rw [hy];simp
   have hsl:=chunk_slc hkl hy
   have hsl1:slcO xs ((k * n:Nat):Int) ((xs.length:Nat):Int)=some (xs.drop (k * n)):=by unfold slcO;rw [if_pos (by omega),Int.toNat_natCast,Int.toNat_natCast,List.take_length]
   have hkn:0<k→n≤k * n:=fun h=>Nat.le_mul_of_pos_left n h
   have hs2:(k+1) * n=k * n+n:=Nat.succ_mul k n
   have hle:(k+1) * n≤9223372036854775807:=by
     rcases Nat.eq_zero_or_pos k with h0 | h0
     · subst h0;omega
     · have:=hkn h0;omega
   have hw1:IntKind.i64.wrap (((k * n:Nat):Int)+((y.length:Nat):Int))=((k * n+y.length:Nat):Int):=wrap_i64 (by omega) (by omega) (by omega)
   have hw2:IntKind.i64.wrap (((k * n:Nat):Int)+((n:Nat):Int))=(((k+1) * n:Nat):Int):=wrap_i64 (by omega) (by omega) (by omega)
   subst hi
   refine wpIn_seq ?_
   refine wpIn_block ?_
   refine wpIn_seq ?_
   refine qri H (by kernel_rfl) (by kernel_rfl) ?_
   refine qv F rfl (fun u hu=>y_load1 F plain3 rfl rfl ((hu.blk 0 rfl).cell _)) fun a F=>?_
   refine qv F rfl (fun u hu=>y_load1 F plain23 rfl rfl ((hu.blk 1 rfl).cell _)) fun a F=>?_
   refine qv F rfl (fun u hu=>y_move F rfl rfl) fun a F=>?_
   refine qv F rfl (fun u hu=>y_slL F elem23 rfl rfl rfl hsl1 hcap) fun a F=>?_
   refine qv F rfl (fun u hu=>y_lenS F rfl Tryz.underlying23 rfl) fun a F=>?_
   refine qv F rfl (fun u hu=>y_min F rfl rfl rfl (r:=((y.length:Nat):Int)) (by rw [List.length_drop,hyl];omega)) fun a F=>?_
   refine qv F rfl (fun u hu=>y_assign F rfl rfl) fun a F=>?_
   refine q_nil ?_
   clear H;intro w H
   refine c_then ?_
   refine wpIn_seq ?_
   refine ri_lit ?_
   refine s_val wkI F rfl rfl rfl rfl (y_move F rfl rfl) fun a F=>?_
   refine s_val wkI F rfl rfl rfl rfl (y_load1 F plain23 rfl rfl ((H.blk 1 rfl).cell _)) fun a F=>?_
   refine s_val wkI F rfl rfl rfl rfl (y_move F rfl rfl) fun a F=>?_
   refine s_val wkI F rfl rfl rfl rfl (y_move F rfl rfl) fun a F=>?_
   refine s_val wkI F rfl rfl rfl rfl (y_move F rfl rfl) fun a F=>?_
   refine s_val wkI F rfl rfl rfl rfl (y_add F rfl rfl rfl hw1) fun a F=>?_
   refine s_val wkI F rfl rfl rfl rfl (y_move F rfl rfl) fun a F=>?_
   refine s_val wkI F rfl rfl rfl rfl (y_move F rfl rfl) fun a F=>?_
   refine s_val wkI F rfl rfl rfl rfl (y_add F rfl rfl rfl hw1) fun a F=>?_
   refine s_val wkI F rfl rfl rfl rfl (y_slLHM F elem23 rfl rfl rfl rfl rfl hsl hcap) fun a F=>?_
   rw [Int.toNat_natCast,Int.toNat_natCast,Nat.add_sub_cancel_left] at F
   have hadm:∃ post,chunkZ n xs=(chunkZ n xs).take k++(k * n,y)::post:=by
     refine ⟨(chunkZ n xs).drop (k+1),?_⟩
     obtain ⟨h2,h3⟩:=List.getElem?_eq_some_iff.1 hat
     rw [← h3,← List.drop_eq_getElem_cons h2,List.take_append_drop]
   refine si_yield F rfl rfl rfl rfl rfl rfl (R:=fun bo W'=>(bo=true∧∃ g',next g (k * n,y) g'∧St w0 W' (J g'++([HP.blk b1 [.int .i64 ((n:Nat):Int)] 3,HP.blk b0 [.slice p xs.length c] 23,HP.sl rByte p c xs]++fr)))∨(bo=false∧∃ kk,stop g (k * n,y) kk∧St w0 W' (KK kk++([HP.blk b1 [.int .i64 ((n:Nat):Int)] 3,HP.blk b0 [.slice p xs.length c] 23,HP.sl rByte p c xs]++fr)))) (YieldI.mono (hY _ g (k * n,y) _ ([HP.blk b1 [.int .i64 ((n:Nat):Int)] 3,HP.blk b0 [.slice p xs.length c] 23,HP.sl rByte p c xs]++fr) hadm hrn (H.perm (perm_mid (A:=[HP.blk b1 [.int .i64 ((n:Nat):Int)] 3,HP.blk b0 [.slice p xs.length c] 23,HP.sl rByte p c xs])))) ?_) ?_
   · rintro ee W' (⟨g',rfl,hn,H'⟩ | ⟨kk,rfl,hs,H'⟩)
     · exact ⟨true,rfl,.inl ⟨rfl,g',hn,H'⟩⟩
     · exact ⟨false,rfl,.inr ⟨rfl,kk,hs,H'⟩⟩
   intro bo w a hR F
   refine s_val wkI F rfl rfl rfl rfl (y_not F rfl rfl) fun a F=>?_
   refine wpListIn_nil ?_
   refine c_then ?_
   rcases hR with ⟨rfl,g',hn2,H⟩ | ⟨rfl,kk,hst,H⟩
   · refine xi_condF F rfl ?_
     refine wpIn_skip ?_
     refine c_blkN ?_
     refine c_then ?_
     replace H:St w0 w ([HP.blk b1 [.int .i64 ((n:Nat):Int)] 3,HP.blk b0 [.slice p xs.length c] 23,HP.sl rByte p c xs]++(J g'++fr)):=H.perm (perm_mid (A:=J g'))
     refine ri_lit ?_
     refine s_val wkI F rfl rfl rfl rfl (y_move F rfl rfl) fun a F=>?_
     refine s_val wkI F rfl rfl rfl rfl (y_load1 F plain3 rfl rfl ((H.blk 0 rfl).cell _)) fun a F=>?_
     refine s_val wkI F rfl rfl rfl rfl (y_add F rfl rfl rfl hw2) fun a F=>?_
     refine s_val wkI F rfl rfl rfl rfl (y_assign F rfl rfl) fun a F=>?_
     refine wpListIn_nil ?_
     refine c_then ⟨(g',k+1,_),⟨rfl,?_,F.cut _ ⟨rfl,rfl,rfl,rfl,trivial⟩,H⟩,?_⟩
     · show Rn next g0 ((chunkZ n xs).take (k+1)) g'
       rw [List.take_add_one,hat]
       exact Rn.snoc hrn hn2
     · show xs.length - (k+1)<xs.length - k
       have:k≤k * n:=Nat.le_mul_of_pos_right k hn
       omega
   · refine xi_condT F rfl ?_
     refine wpIn_ret ?_
     refine c_blkR ?_
     refine c_thenR ?_
     refine c_thenR ?_
     refine c_blkR ?_
     refine xi_ret0 F rfl ?_
     exact ⟨_,rfl,.inr ⟨_,g,(k * n,y),kk,hadm,hrn,hst,H⟩⟩
 · refine wpIn_exit ?_
   refine c_thenX ?_
   refine c_thenX ?_
   refine c_hit ?_
   refine xi_end0 F rfl ?_
   rw [chunkZ_all hn (by omega)] at hrn
   exact ⟨_,rfl,.inl ⟨_,g,rfl,hrn,H.perm (perm_mid (A:=[HP.blk b1 [.int .i64 ((n:Nat):Int)] 3,HP.blk b0 [.slice p xs.length c] 23,HP.sl rByte p c xs]))⟩⟩
theorem agz71:AggT Tryz.prog 71 2 ([.bool false,.slice none (([]:List UInt8)).length 0]):=⟨by rw [Tryz.underlying71];rfl,by kernel_rfl,by kernel_rfl⟩
theorem ent49:En Tryz.prog 49:=enters Tryz.func49 (by kernel_rfl) rfl
theorem agg71:AggT Tryz.prog 71 2 [.bool false,.slice none 0 0]:=⟨by rw [Tryz.underlying71];rfl,by kernel_rfl,by kernel_rfl⟩
theorem aggz71:AggT Tryz.prog 71 2 ([Value.bool false]++[Value.slice none 0 0]):=⟨by rw [Tryz.underlying71];rfl,by kernel_rfl,by kernel_rfl⟩
theorem ent104:En Tryz.prog 104:=enters Tryz.func104 (by kernel_rfl) rfl
theorem fld71_0:FieldT Tryz.prog 71 0 0:=by unfold FieldT;rw [Tryz.underlying71];kernel_rfl
theorem plain4:Plain Tryz.prog 4:=by unfold Plain;rw [Tryz.underlying4];rfl
theorem w_sLook {s:(List UInt8)→Option T_files_file} {p:List UInt8} {q1:Option Nat} {w0 w:World} {l:List HP}  {r:T_files_file×Int} (hm:sLook s p=some r) (H:St w0 w (HP.mm q1 ekStr true R_files_file (fun _=>True) s::l)) :
  Calls Tryz.prog 79 [.map q1,.string (txb (p))].toArray w (fun e w'=>∃ v,e=.returned v∧∃ (cs2:List Value),v=.tuple [.agg cs2.toArray,.int .i64 (r.2)].toArray∧St w0 w' (HP.rc R_files_file cs2 r.1::HP.mm q1 ekStr true R_files_file (fun _=>True) s::l)):=by
 unfold sLook at hm
 refine x_enter Tryz.func79 rfl rfl rfl ?_
 intro a F
 refine sr ?_
 replace H:=H.owNil rByte 5
 refine s_allocA wkP F rfl rfl rfl agz71 rfl H fun b3 w a H F=>bb [0] F H rfl fun a F=>?_
 replace H:=H.nf 3 rfl
 refine nl (sq (sb [0] F H rfl fun a F=>?_))
 obtain ⟨x4,ex4,hm⟩:=ob hm
 refine sd F rfl ent49 (w_m_path_Check ex4 H:) ?_;rintro _ w a ⟨rfl,H⟩ F
 refine bb [0] F H rfl fun a F=>?_
 replace H:=H.nf 3 rfl
 refine nb [0,0] F H rfl fun a F=>?_
 refine nl (cNm F rfl hm (fun hg5 hm=>?_) (fun hg5 hm=>?_))
 refine sr ?_
 replace H:=H.owNil rByte 5
 refine sv F rfl (y_build F rfl rfl (cs:=[.bool false,.slice none (([]:List UInt8)).length 0]) (by kernel_rfl)) fun a F=>bb [0] F H rfl fun a F=>s_storeA wkP F rfl rfl agg71 rfl rfl rfl H 1 rfl rfl rfl (fl rfl) fun w H=>bb [0] F H rfl fun a F=>?_
 replace H:=H.nf 4 rfl
 refine nl (wr (tr ?_))
 replace H:=H.frz 0 rfl
 replace H:=H.mkRc (R:=R_files_file) (cs:=[.bool false,.slice none (([]:List UInt8)).length 0]) (x:=(false,([]:List UInt8))) (fun gg=>⟨_,_,rfl,rfl,⟨_,_,rfl,(gg 0 _ rfl).choose_spec⟩⟩)
 cases hm
 refine x_resC2 F rfl (⟨_,rfl,agg71.run_load (H.blk 2 rfl).row rfl⟩) rfl ?_
 exact ⟨_,rfl,[.bool false,.slice none (([]:List UInt8)).length 0],rfl,(H.pm 5 [0,4] rfl:)⟩
 refine sk (ct (sq (sb [0] F H rfl fun a F=>?_)))
 obtain ⟨x6,ex6,hm⟩:=ob hm
 refine sd F rfl ent104 (w_m_path_Ancestors ex6 H:) ?_;rintro _ w a ⟨p7,c7,rfl,H⟩ F
 refine bk [0,0] F H rfl ⟨⟨_,Tryz.underlying35⟩,trivial⟩ fun a F=>?_
 replace H:=H.nf 4 rfl
 refine nl (xr0 4 [0,1,4] [1,2,3] F H hm rfl rfl (fun r42 z=>z) (fun r42 z=>z) (fun o42 hm hm42=>?_) (fun r42 a w hm F H=>?_))
 refine bl (xl0 4 [0,1,4,20,21] [0,1,2,3] F H hm rfl rfl (fun (s65:Int) z=>(22,.int .i64 (s65))::z) (fun s65 z=>z) ⟨F.sl rfl,H⟩ (fun s65 a w o F H hm=>sb [0] F H rfl fun a F=>?_))
 refine nl (sq (cPm F rfl hm (fun hg66 hm=>?_) (fun hg66 hm=>?_)))
 refine sk (ct (sq (bl (sr ?_))))
 obtain ⟨x67,ex67,hm⟩:=ob hm
 obtain ⟨b68,o68,hp68,cs69,H⟩:=H.slE 0 rfl ex67
 obtain rfl:=H.rcStr 1 rfl
 replace H:=H.dp 1 rfl
 refine sv F rfl (y_idxS F elem35 rfl rfl rfl hp68 ex67) fun a F=>bk [0,0] F H rfl ⟨rfl,plain9,trivial⟩ fun a F=>nb [0,0] F H rfl fun a F=>?_
 obtain ⟨es70,H⟩:=H.mmOpen 4 rfl
 obtain ⟨cs71,hcs71,H⟩:=H.mxGet 4 rfl x67 (zc:=([Value.bool false]++[Value.slice none 0 0])) (z0:=(false,[])) (fun B=>⟨_,_,rfl,(fun _=>rfl) B,((fun _=>rSl_nil _ _) B)⟩)
 refine sv F rfl (y_mxGet2 (agg:=true) (zc:=([Value.bool false]++[Value.slice none 0 0])) F Tryz.underlying65 (keyStr Tryz.underlying9) (fun w=>aggz71.run_zero w) rfl H 5 rfl rfl (k:=x67) rfl trivial hcs71) fun a F=>bb [0,0,0] F H rfl fun a F=>?_
 replace H:=H.owNil rByte 5
 refine s_allocA wkP F rfl rfl rfl agz71 rfl H fun b72 w a H F=>s_storeA wkP F rfl rfl agg71 rfl rfl rfl H 0 rfl (H.rcLen 2 rfl) rfl (H.rcFlat 2 rfl) fun w H=>bb [0] F H rfl fun a F=>?_
 replace H:=H.nf 8 rfl
 refine nl ?_
 replace H:=H.mxShut 7 rfl
 refine bl (sb [0,0,0] F H rfl fun a F=>?_)
 replace H:=H.nf 8 rfl
 refine nl (cB F rfl (fun hg73=>?_) (fun hg73=>?_))
 replace hm:=ifT hg73 hm
 refine sr ?_
 replace H:=H.owNil rByte 5
 refine sv F rfl (y_build F rfl rfl (cs:=[.bool false,.slice none (([]:List UInt8)).length 0]) (by kernel_rfl)) fun a F=>s_storeA wkP F rfl rfl agg71 rfl rfl rfl H 6 rfl rfl rfl (fl rfl) fun w H=>bb [0] F H rfl fun a F=>?_
 replace H:=H.nf 9 rfl
 refine nl (wr (br (br (tr (tr ?_)))));cases hm;refine ⟨_,rfl,?_⟩;rintro rfl
 refine br (tr ?_)
 replace hm:=elimR hm42
 refine tr ?_
 replace H:=H.frz 0 rfl
 replace H:=H.mkRc (R:=R_files_file) (cs:=[.bool false,.slice none (([]:List UInt8)).length 0]) (x:=(false,([]:List UInt8))) (fun gg=>⟨_,_,rfl,rfl,⟨_,_,rfl,(gg 0 _ rfl).choose_spec⟩⟩)
 cases hm
 refine x_resC2 F rfl (⟨_,rfl,agg71.run_load (H.blk 7 rfl).row rfl⟩) rfl ?_
 exact ⟨_,rfl,[.bool false,.slice none (([]:List UInt8)).length 0],rfl,(H.pm 10 [0,9] rfl:)⟩
 replace hm:=ifF (nT hg73) hm
 refine sr (bk [0] F H rfl ⟨fld71_0,trivial⟩ fun a F=>?_)
 have G:=F;replace H:=rc_files_file (H.pk 2 rfl);obtain ⟨p74,c75,rfl,J⟩:=H;have H:=J;have F:=G;clear G J
 refine bk [1000,0,0] F H rfl ⟨rfl,plain4,trivial⟩ fun a F=>?_
 refine nl (cB F rfl (fun hg76=>?_) (fun hg76=>?_))
 replace hm:=ifT hg76 hm
 refine sr ?_
 replace H:=H.owNil rByte 5
 refine sv F rfl (y_build F rfl rfl (cs:=[.bool false,.slice none (([]:List UInt8)).length 0]) (by kernel_rfl)) fun a F=>s_storeA wkP F rfl rfl agg71 rfl rfl rfl H 6 rfl rfl rfl (fl rfl) fun w H=>bb [0] F H rfl fun a F=>?_
 replace H:=H.nf 9 rfl
 refine nl (wr (br (br (tr (tr ?_)))));cases hm;refine ⟨_,rfl,?_⟩;rintro rfl
 refine br (tr ?_)
 replace hm:=elimR hm42
 refine tr ?_
 replace H:=H.frz 0 rfl
 replace H:=H.mkRc (R:=R_files_file) (cs:=[.bool false,.slice none (([]:List UInt8)).length 0]) (x:=(false,([]:List UInt8))) (fun gg=>⟨_,_,rfl,rfl,⟨_,_,rfl,(gg 0 _ rfl).choose_spec⟩⟩)
 cases hm
 refine x_resC2 F rfl (⟨_,rfl,agg71.run_load (H.blk 7 rfl).row rfl⟩) rfl ?_
 exact ⟨_,rfl,[.bool false,.slice none (([]:List UInt8)).length 0],rfl,(H.pm 10 [0,9] rfl:)⟩
 replace hm:=ifF (nT hg76) hm
 refine sk (bn (bn (ct (rl (bb [0,0] F H rfl fun a F=>?_)))))
 refine lz (ct ?_);cases hm
 exact ⟨_,rfl,⟨F.sl rfl,(H.pm 8 [4,5,6,7] rfl:)⟩⟩
 refine ex (cx (cx ?_));cases hm;refine ⟨_,rfl,?_⟩;rintro rfl
 refine ch (ct ?_)
 exact ⟨_,rfl,F.sl rfl,(H.pm 4 [1,2,3] rfl:)⟩
 refine ct (sb [0,0] F H rfl fun a F=>?_)
 obtain ⟨es77,H⟩:=H.mmOpen 2 rfl
 obtain ⟨cs78,hcs78,H⟩:=H.mxGet 2 rfl p (zc:=([Value.bool false]++[Value.slice none 0 0])) (z0:=(false,[])) (fun B=>⟨_,_,rfl,(fun _=>rfl) B,((fun _=>rSl_nil _ _) B)⟩)
 refine sv F rfl (y_mxGet2 (agg:=true) (zc:=([Value.bool false]++[Value.slice none 0 0])) F Tryz.underlying65 (keyStr Tryz.underlying9) (fun w=>aggz71.run_zero w) rfl H 3 rfl rfl (k:=p) rfl trivial hcs78) fun a F=>bb [0,0,0] F H rfl fun a F=>?_
 replace H:=H.owNil rByte 5
 refine s_allocA wkP F rfl rfl rfl agz71 rfl H fun b79 w a H F=>s_storeA wkP F rfl rfl agg71 rfl rfl rfl H 0 rfl (H.rcLen 2 rfl) rfl (H.rcFlat 2 rfl) fun w H=>bb [0] F H rfl fun a F=>?_
 replace H:=H.nf 6 rfl
 refine nl ?_
 replace H:=H.mxShut 5 rfl
 refine sq (sb [0,0] F H rfl fun a F=>?_)
 replace H:=H.nf 6 rfl
 refine nl (cB F rfl (fun hg80=>?_) (fun hg80=>?_))
 replace hm:=ifT hg80 hm
 refine sr ?_
 replace H:=H.owNil rByte 5
 refine sv F rfl (y_build F rfl rfl (cs:=[.bool false,.slice none (([]:List UInt8)).length 0]) (by kernel_rfl)) fun a F=>s_storeA wkP F rfl rfl agg71 rfl rfl rfl H 4 rfl rfl rfl (fl rfl) fun w H=>bb [0] F H rfl fun a F=>?_
 replace H:=H.nf 7 rfl
 refine nl (wr (tr ?_))
 replace H:=H.frz 0 rfl
 replace H:=H.mkRc (R:=R_files_file) (cs:=[.bool false,.slice none (([]:List UInt8)).length 0]) (x:=(false,([]:List UInt8))) (fun gg=>⟨_,_,rfl,rfl,⟨_,_,rfl,(gg 0 _ rfl).choose_spec⟩⟩)
 cases hm
 refine x_resC2 F rfl (⟨_,rfl,agg71.run_load (H.blk 5 rfl).row rfl⟩) rfl ?_
 exact ⟨_,rfl,[.bool false,.slice none (([]:List UInt8)).length 0],rfl,(H.pm 8 [0,7] rfl:)⟩
 replace hm:=ifF (nT hg80) hm
 refine sk (ct (sr (bk [999] F H rfl ⟨rfl,(aggn agg71 (H.rcLen 2 rfl)),trivial⟩ fun a F=>s_storeA wkP F rfl rfl agg71 rfl rfl rfl H 3 rfl (H.rcLen 2 rfl) rfl (H.rcFlat 2 rfl) fun w H=>bb [0] F H rfl fun a F=>?_)))
 replace H:=H.nf 6 rfl
 refine nl (wr ?_)
 cases hm
 refine x_resC2 F rfl (⟨_,rfl,agg71.run_load (H.blk 3 rfl).row (H.rcLen 2 rfl)⟩) rfl ?_
 exact ⟨_,rfl,cs78,rfl,(H.pm 6 [2,5] rfl:)⟩
theorem ent79:En Tryz.prog 79:=enters Tryz.func79 (by kernel_rfl) rfl
theorem w_sRegular {s:(List UInt8)→Option T_files_file} {p:List UInt8} {q1:Option Nat} {w0 w:World} {l:List HP}  {r:T_files_file×Int} (hm:sRegular s p=some r) (H:St w0 w (HP.mm q1 ekStr true R_files_file (fun _=>True) s::l)) :
  Calls Tryz.prog 80 [.map q1,.string (txb (p))].toArray w (fun e w'=>∃ v,e=.returned v∧∃ (cs2:List Value),v=.tuple [.agg cs2.toArray,.int .i64 (r.2)].toArray∧St w0 w' (HP.rc R_files_file cs2 r.1::HP.mm q1 ekStr true R_files_file (fun _=>True) s::l)):=by
 unfold sRegular at hm
 refine x_enter Tryz.func80 rfl rfl rfl ?_
 intro a F
 refine sr ?_
 replace H:=H.owNil rByte 5
 refine s_allocA wkP F rfl rfl rfl agz71 rfl H fun b3 w a H F=>bb [0] F H rfl fun a F=>?_
 replace H:=H.nf 3 rfl
 refine nb [0,0] F H rfl fun a F=>?_
 obtain ⟨x4,ex4,hm⟩:=ob hm
 refine sd F rfl ent79 (w_sLook ex4 (H.pm 3 [2,0,1] rfl:):) ?_;rintro _ w a ⟨cs5,rfl,H⟩ F
 refine bb [0,0,0] F H rfl fun a F=>?_
 replace H:=H.owNil rByte 5
 refine s_allocA wkP F rfl rfl rfl agz71 rfl H fun b6 w a H F=>s_storeA wkP F rfl rfl agg71 rfl rfl rfl H 0 rfl (H.rcLen 2 rfl) rfl (H.rcFlat 2 rfl) fun w H=>bb [0] F H rfl fun a F=>?_
 replace H:=H.nf 6 rfl
 refine nl (sq (sb [0,0,0] F H rfl fun a F=>?_))
 rcases spP 16 F rfl hm with ⟨hg7,hm,F⟩ | ⟨hg7,hm,F⟩
 refine bk [0] F H rfl ⟨fld71_0,trivial⟩ fun a F=>g_onP F rfl rfl rfl rfl ?_
 have G:=F;replace H:=rc_files_file (H.pk 2 rfl);obtain ⟨p8,c9,rfl,J⟩:=H;have H:=J;have F:=G;clear G J
 refine bk [1000,0] F H rfl ⟨rfl,plain4,trivial⟩ fun a F=>?_
 refine nl (cB F rfl (fun hg10=>?_) (fun hg10=>?_))
 replace hm:=ifT hg10 hm
 refine sr ?_
 replace H:=H.owNil rByte 5
 refine sv F rfl (y_build F rfl rfl (cs:=[.bool false,.slice none (([]:List UInt8)).length 0]) (by kernel_rfl)) fun a F=>s_storeA wkP F rfl rfl agg71 rfl rfl rfl H 5 rfl rfl rfl (fl rfl) fun w H=>bb [0] F H rfl fun a F=>?_
 replace H:=H.nf 7 rfl
 refine nl (wr (tr ?_))
 replace H:=H.frz 0 rfl
 replace H:=H.mkRc (R:=R_files_file) (cs:=[.bool false,.slice none (([]:List UInt8)).length 0]) (x:=(false,([]:List UInt8))) (fun gg=>⟨_,_,rfl,rfl,⟨_,_,rfl,(gg 0 _ rfl).choose_spec⟩⟩)
 cases hm
 refine x_resC2 F rfl (⟨_,rfl,agg71.run_load (H.blk 6 rfl).row rfl⟩) rfl ?_
 exact ⟨_,rfl,[.bool false,.slice none (([]:List UInt8)).length 0],rfl,(H.pm 8 [0,5] rfl:)⟩
 replace hm:=ifF (nT hg10) hm
 refine sk (ct (sr (bk [1999,0] F H rfl ⟨rfl,(aggn agg71 rfl),trivial⟩ fun a F=>s_storeA wkP F rfl rfl agg71 rfl rfl rfl H 4 rfl rfl rfl (fl rfl) fun w H=>bb [0] F H rfl fun a F=>?_)))
 replace H:=H.nf 6 rfl
 refine nl (wr ?_)
 replace H:=mk_files_file H x4.1.1 0 rfl
 cases hm
 refine x_resC2 F rfl (⟨_,rfl,agg71.run_load (H.blk 5 rfl).row rfl⟩) rfl ?_
 exact ⟨_,rfl,[.bool (x4.1.1),.slice p8 (x4.1.2).length c9],rfl,(H.pm 7 [0,4] rfl:)⟩
 refine bb [0,0,0] F H rfl fun a F=>nl (cF F rfl (sk (ct (sr (bk [999,0] F H rfl ⟨rfl,(aggn agg71 (H.rcLen 2 rfl)),trivial⟩ fun a F=>s_storeA wkP F rfl rfl agg71 rfl rfl rfl H 4 rfl (H.rcLen 2 rfl) rfl (H.rcFlat 2 rfl) fun w H=>bb [0] F H rfl fun a F=>?_)))))
 replace H:=H.nf 6 rfl
 refine nl (wr ?_)
 cases hm
 refine x_resC2 F rfl (⟨_,rfl,agg71.run_load (H.blk 4 rfl).row (H.rcLen 2 rfl)⟩) rfl ?_
 exact ⟨_,rfl,cs5,rfl,(H.pm 6 [2,3] rfl:)⟩
theorem ent50:En Tryz.prog 50:=enters Tryz.func50 (by kernel_rfl) rfl
theorem w_sRoom {s:(List UInt8)→Option T_files_file} {p:List UInt8} {q1:Option Nat} {w0 w:World} {l:List HP}  {r:Int} (hm:sRoom s p=some r) (H:St w0 w (HP.mm q1 ekStr true R_files_file (fun _=>True) s::l)) :
  Calls Tryz.prog 61 [.map q1,.string (txb (p))].toArray w (fun e w'=>∃ v,e=.returned v∧v=.int .i64 (r)∧St w0 w' (HP.mm q1 ekStr true R_files_file (fun _=>True) s::l)):=by
 unfold sRoom at hm
 refine x_enter Tryz.func61 rfl rfl rfl ?_
 intro a F
 refine sb [0] F H rfl fun a F=>nl (sq (sb [0] F H rfl fun a F=>?_))
 obtain ⟨x2,ex2,hm⟩:=ob hm
 refine sd F rfl ent49 (w_m_path_Check ex2 H:) ?_;rintro _ w a ⟨rfl,H⟩ F
 refine bb [0] F H rfl fun a F=>?_
 replace H:=H.nf 1 rfl
 refine nb [0,0] F H rfl fun a F=>?_
 refine nl (cNm F rfl hm (fun hg3 hm=>?_) (fun hg3 hm=>?_))
 refine sb [0,0] F H rfl fun a F=>nl (wr (tr ?_))
 cases hm
 refine x_ret1 F rfl rfl ?_
 exact ⟨_,rfl,rfl,H⟩
 refine sk (ct (sq (sb [0] F H rfl fun a F=>sv F rfl (y_eqT (l:=p) (m:=[47]) F rfl rfl rfl) fun a F=>?_)))
 refine nl (cPm F rfl hm (fun hg4 hm=>?_) (fun hg4 hm=>?_))
 refine sb [0] F H rfl fun a F=>nl (wr (tr ?_))
 cases hm
 refine x_ret1 F rfl rfl ?_
 exact ⟨_,rfl,rfl,H⟩
 refine sk (ct (sb [0,0] F H rfl fun a F=>?_))
 obtain ⟨x5,ex5,hm⟩:=ob hm
 refine sd F rfl ent50 (w_m_path_Parent ex5 H:) ?_;rintro _ w a ⟨rfl,H⟩ F
 obtain ⟨x6,ex6,hm⟩:=ob hm
 refine sd F rfl ent79 (w_sLook ex6 H:) ?_;rintro _ w a ⟨cs7,rfl,H⟩ F
 refine bb [0,0,0] F H rfl fun a F=>?_
 replace H:=H.owNil rByte 5
 refine s_allocA wkP F rfl rfl rfl agz71 rfl H fun b8 w a H F=>s_storeA wkP F rfl rfl agg71 rfl rfl rfl H 0 rfl (H.rcLen 2 rfl) rfl (H.rcFlat 2 rfl) fun w H=>bb [0] F H rfl fun a F=>?_
 replace H:=H.nf 4 rfl
 refine nl (sq (sb [0,0] F H rfl fun a F=>?_))
 refine nl (cNm F rfl hm (fun hg9 hm=>?_) (fun hg9 hm=>?_))
 refine sb [0,0] F H rfl fun a F=>nl (wr (tr ?_))
 cases hm
 refine x_ret1 F rfl rfl ?_
 exact ⟨_,rfl,rfl,(H.pm 4 [3] rfl:)⟩
 refine sk (ct (sq (sr (bk [0] F H rfl ⟨fld71_0,trivial⟩ fun a F=>?_))))
 have G:=F;replace H:=rc_files_file (H.pk 2 rfl);obtain ⟨p10,c11,rfl,J⟩:=H;have H:=J;have F:=G;clear G J
 refine bk [1000,0] F H rfl ⟨rfl,plain4,trivial⟩ fun a F=>?_
 refine nl (cB F rfl (fun hg12=>?_) (fun hg12=>?_))
 replace hm:=ifT hg12 hm
 refine sb [0] F H rfl fun a F=>nl (wr (tr ?_))
 cases hm
 refine x_ret1 F rfl rfl ?_
 exact ⟨_,rfl,rfl,(H.pm 4 [3] rfl:)⟩
 replace hm:=ifF (nT hg12) hm
 refine sk (ct (sq (sb [0,0] F H rfl fun a F=>?_)))
 obtain ⟨es13,H⟩:=H.mmOpen 3 rfl
 obtain ⟨cs14,hcs14,H⟩:=H.mxGet 3 rfl p (zc:=([Value.bool false]++[Value.slice none 0 0])) (z0:=(false,[])) (fun B=>⟨_,_,rfl,(fun _=>rfl) B,((fun _=>rSl_nil _ _) B)⟩)
 refine sv F rfl (y_mxGet2 (agg:=true) (zc:=([Value.bool false]++[Value.slice none 0 0])) F Tryz.underlying65 (keyStr Tryz.underlying9) (fun w=>aggz71.run_zero w) rfl H 4 rfl rfl (k:=p) rfl trivial hcs14) fun a F=>bb [0,0,0] F H rfl fun a F=>?_
 replace H:=H.owNil rByte 5
 refine s_allocA wkP F rfl rfl rfl agz71 rfl H fun b15 w a H F=>s_storeA wkP F rfl rfl agg71 rfl rfl rfl H 0 rfl (H.rcLen 2 rfl) rfl (H.rcFlat 2 rfl) fun w H=>bb [0] F H rfl fun a F=>?_
 replace H:=H.nf 7 rfl
 refine nl ?_
 replace H:=H.mxShut 6 rfl
 refine sb [0] F H rfl fun a F=>?_
 replace H:=H.nf 7 rfl
 refine nl (cB F rfl (fun hg16=>?_) (fun hg16=>?_))
 replace hm:=ifT hg16 hm
 refine sb [0] F H rfl fun a F=>nl (wr (tr ?_))
 cases hm
 refine x_ret1 F rfl rfl ?_
 exact ⟨_,rfl,rfl,(H.pm 7 [6] rfl:)⟩
 replace hm:=ifF (nT hg16) hm
 refine sk (ct (sb [0] F H rfl fun a F=>nl (wr ?_)))
 cases hm
 refine x_ret1 F rfl rfl ?_
 exact ⟨_,rfl,rfl,(H.pm 7 [6] rfl:)⟩
theorem fld71_1:FieldT Tryz.prog 71 1 1:=by unfold FieldT;rw [Tryz.underlying71];kernel_rfl
theorem w_sSound {s:(List UInt8)→Option T_files_file} {q1:Option Nat} {w0 w:World} {l:List HP}  {r:Bool} (hm:sSound s=some r) (H:St w0 w (HP.mm q1 ekStr true R_files_file (fun _=>True) s::l)) :
  Calls Tryz.prog 32 [.map q1].toArray w (fun e w'=>∃ v,e=.returned v∧v=.bool (r)∧St w0 w' (HP.mm q1 ekStr true R_files_file (fun _=>True) s::l)):=by
 unfold sSound at hm
 refine x_enter Tryz.func32 rfl rfl rfl ?_
 intro a F
 refine sb [0] F H rfl fun a F=>nl (sq (sb [0] F H rfl fun a F=>?_))
 obtain ⟨raw2,cl2,es2,hM2,hE2,H⟩:=H.moOpen 0 rfl
 refine s_rngM wkP F rfl rfl rfl Tryz.underlying65 rfl H 1 rfl rfl fun r2 w a H F=>?_
 replace H:=H.nf 3 rfl
 refine nl (bl ?_)
 have hmM39:=hm;clear hm
 refine x_loopM es2 hmM39 (fun (s39:Unit) vis39 aa ww=>Fr ⟨36,[]⟩ aa [(0,.map q1),(6,.pointer (some ⟨r2,0,none⟩))]∧St w0 ww (HP.obj r2 (mit q1 cl2 (bornsOf raw2 (vis39)))::HP.es R_files_file (fun _=>True) es2 s::HP.mo q1 raw2 cl2::l)) ⟨F.sl rfl,H⟩ ?_
 clear F H
 rintro s39 vis39 a w hr39 ⟨F,H⟩
 refine sr (s_nxtM wkP F rfl rfl rfl rfl rfl hM2 hr39.ok H 2 0 rfl rfl rfl (fun hall40 w a H F=>?_) (fun q40 k40 cs40 v40 hq40 hn40 w a H F=>?_))
 have hm:=elimL (hr39.done hE2 hall40 hmM39)
 refine bb [0] F H rfl fun a F=>nl (sq (cF F rfl ?_))
 refine ex (cx (cx ?_))
 replace H:=H.moMm 2 1 hM2 rfl rfl
 refine ch (ct (sb [0] F H rfl fun a F=>?_))
 obtain ⟨es41,H⟩:=H.mmOpen 2 rfl
 obtain ⟨cs42,hcs42,H⟩:=H.mxGet 2 rfl ([47]) (zc:=([Value.bool false]++[Value.slice none 0 0])) (z0:=(false,[])) (fun B=>⟨_,_,rfl,(fun _=>rfl) B,((fun _=>rSl_nil _ _) B)⟩)
 refine sv F rfl (y_mxGet (agg:=true) (zc:=([Value.bool false]++[Value.slice none 0 0])) F Tryz.underlying65 (keyStr Tryz.underlying9) (fun w=>aggz71.run_zero w) rfl H 3 rfl rfl (k:=([47])) rfl trivial hcs42) fun a F=>?_
 have G:=F;replace H:=rc_files_file (H.pk 0 rfl);obtain ⟨p43,c44,rfl,J⟩:=H;have H:=J;have F:=G;clear G J
 refine sv F rfl (y_field1 F Tryz.underlying71 rfl plain4 rfl rfl rfl) fun a F=>bb [0] F H rfl fun a F=>?_
 replace H:=H.nf 4 rfl
 refine nl ?_
 replace H:=H.mxShut 3 rfl
 refine wr ?_
 cases hm
 refine x_ret1 F rfl rfl ?_
 exact ⟨_,rfl,rfl,(H.pm 4 [3] rfl:)⟩
 obtain ⟨o40,hm,hs40,hx40⟩:=hr39.step hE2 hq40 hn40 hmM39
 refine bb [0] F H rfl fun a F=>nl (sq (cT F rfl (sk (ct (bl (sr ?_))))))
 obtain ⟨hk45,H⟩:=H.esEl 1 rfl hq40
 refine sv F rfl (y_entM (agg:=true) (ek:=ekStr) F rfl rfl hM2 hq40 H 3 1 rfl rfl rfl) fun a F=>bb [0,0] F H rfl fun a F=>?_
 replace H:=H.owNil rByte 5
 refine s_allocA wkP F rfl rfl rfl agz71 rfl H fun b46 w a H F=>bb [0] F H rfl fun a F=>s_storeA wkP F rfl rfl agg71 rfl rfl rfl H 0 rfl (H.rcLen 2 rfl) rfl (H.rcFlat 2 rfl) fun w H=>?_
 replace H:=H.nf 6 rfl
 refine nb [0] F H rfl fun a F=>?_
 obtain ⟨x47,ex47,hm⟩:=ob hm
 refine sd F rfl ent49 (w_m_path_Check ex47 H:) ?_;rintro _ w a ⟨rfl,H⟩ F
 refine bb [0,0] F H rfl fun a F=>?_
 rcases spN 15 F rfl hm with ⟨hg48,hm,F⟩ | ⟨hg48,hm,F⟩
 refine bk [1] F H rfl ⟨fld71_1,trivial⟩ fun a F=>g_onP F rfl rfl rfl rfl ?_
 have G:=F;replace H:=rc_files_file (H.pk 2 rfl);obtain ⟨p49,c50,rfl,J⟩:=H;have H:=J;have F:=G;clear G J
 refine bk [1001,0,0,0,0] F H rfl ⟨rfl,plain23,⟨_,Tryz.underlying23⟩,trivial⟩ fun a F=>?_
 rcases spP 21 F rfl hm with ⟨hg51,hm,F⟩ | ⟨hg51,hm,F⟩
 refine bb (List.replicate 11 0) F H rfl fun a F=>?_
 replace H:=H.nf 6 rfl
 refine nl (cT F rfl (sb [0] F H rfl fun a F=>?_))
 refine nl (wr (br (tr ?_)));cases hm;obtain rfl:=elimS (hx40 _ rfl)
 replace H:=H.moMm 5 4 hM2 rfl rfl
 refine br (tr (x_ret1 F rfl rfl ?_))
 exact ⟨_,rfl,rfl,(H.pm 6 [5] rfl:)⟩
 refine bb [0] F H rfl fun a F=>g_onP F rfl rfl rfl rfl (sv F rfl (y_neT (l:=k40) (m:=[47]) F rfl rfl rfl) fun a F=>bb [0] F H rfl fun a F=>?_)
 rcases spN 24 F rfl hm with ⟨hg52,hm,F⟩ | ⟨hg52,hm,F⟩
 refine bb (List.replicate 8 0) F H rfl fun a F=>?_
 replace H:=H.nf 6 rfl
 refine nl (cF F rfl ?_)
 refine sk (bn (ct ?_));cases hm
 exact ⟨_,q40,hs40 _ rfl,⟨F.sl rfl,(H.pm 6 [3,4,5] rfl:)⟩⟩
 refine bb [0,0] F H rfl fun a F=>g_onP F rfl rfl rfl rfl ?_
 obtain ⟨x53,ex53,hm⟩:=ob hm
 refine sd F rfl ent50 (w_m_path_Parent ex53 H:) ?_;rintro _ w a ⟨rfl,H⟩ F
 refine g_onP F rfl rfl rfl rfl ?_
 obtain ⟨cs54,hcs54,H⟩:=H.esLook 4 rfl x53 (zc:=([Value.bool false]++[Value.slice none 0 0])) (z0:=(false,[])) (fun B=>⟨_,_,rfl,(fun _=>rfl) B,((fun _=>rSl_nil _ _) B)⟩)
 refine sv F rfl (y_mxGet (agg:=true) (zc:=([Value.bool false]++[Value.slice none 0 0])) F Tryz.underlying65 (keyStr Tryz.underlying9) (fun w=>aggz71.run_zero w) rfl (H.moMx 6 5 hM2 rfl rfl) 6 rfl rfl (k:=x53) rfl trivial hcs54) fun a F=>g_onP F rfl rfl rfl rfl ?_
 have G:=F;replace H:=rc_files_file (H.pk 0 rfl);obtain ⟨p55,c56,rfl,J⟩:=H;have H:=J;have F:=G;clear G J
 refine sv F rfl (y_field1 F Tryz.underlying71 rfl plain4 rfl rfl rfl) fun a F=>bb [0,0,0] F H rfl fun a F=>?_
 replace H:=H.nf 7 rfl
 refine nl (cB F rfl (fun hg57=>?_) (fun hg57=>?_))
 replace hm:=ifT hg57 hm
 refine sb [0] F H rfl fun a F=>?_
 refine nl (wr (br (tr ?_)));cases hm;obtain rfl:=elimS (hx40 _ rfl)
 replace H:=H.moMm 6 5 hM2 rfl rfl
 refine br (tr (x_ret1 F rfl rfl ?_))
 exact ⟨_,rfl,rfl,(H.pm 7 [6] rfl:)⟩
 replace hm:=ifF (nT hg57) hm
 refine sk (bn (ct ?_));cases hm
 exact ⟨_,q40,hs40 _ rfl,⟨F.sl rfl,(H.pm 7 [4,5,6] rfl:)⟩⟩
 refine bb (List.replicate 17 0) F H rfl fun a F=>?_
 replace H:=H.nf 6 rfl
 refine nl (cT F rfl (sb [0] F H rfl fun a F=>?_))
 refine nl (wr (br (tr ?_)));cases hm;obtain rfl:=elimS (hx40 _ rfl)
 replace H:=H.moMm 5 4 hM2 rfl rfl
 refine br (tr (x_ret1 F rfl rfl ?_))
 exact ⟨_,rfl,rfl,(H.pm 6 [5] rfl:)⟩
theorem w_sized {data:List UInt8} {n:Int} {p1:Option Addr} {c1:Nat} {w0 w:World} {l:List HP}  {r:(List UInt8)} (hm:sized data n=some r) (H:St w0 w (HP.sl rByte p1 c1 data::l)) :
  Calls Tryz.prog 81 [.slice p1 (data).length c1,.int .i64 (n)].toArray w (fun e w'=>∃ v,e=.returned v∧∃ (p2:Option Addr) (c2:Nat),v=.slice p2 (r).length c2∧St w0 w' (HP.ow rByte 5 p2 c2 r::l)):=by
 unfold sized at hm
 refine x_enter Tryz.func81 rfl rfl rfl ?_
 intro a F
 refine sb [0] F H rfl fun a F=>nb [0] F H rfl fun a F=>?_
 obtain ⟨x4,ex4,hm⟩:=ob hm
 refine s_mkO (R:=rByte) wkP F rfl rfl rfl elem23 rfl rfl rfl rfl rfl rfl (z:=(0:UInt8)) (fun _=>rfl) ex4 H fun b3 w a H F=>?_
 refine bb [0] F H rfl fun a F=>?_
 replace H:=H.nf 2 rfl
 refine nb [0,0] F H rfl fun a F=>?_
 have hf5:0+(x4).length≤(x4).length:=(by rw [Nat.zero_add];exact Nat.le_refl _)
 have hl5:(putAt x4 0 ((data).take (x4).length)).length=(x4).length:=putAt_len _ _ _ (by rw [List.length_take];omega)
 refine s_cpyO wkP F rfl rfl rfl elem23 rfl H 0 1 rfl rfl (fun h=>by obtain ⟨b,hb⟩:=H.owP 0 rfl (List.getElem?_eq_getElem h);exact ⟨b,hb,hb⟩) hf5 rfl rfl fun w a H F=>?_
 replace F:=F.bool (k:=7) (u:=.slice (some ⟨b3,0,none⟩) ((putAt x4 0 ((data).take (x4).length))).length ((x4).length)) rfl (by rw [hl5])
 replace F:=F.bool (k:=5) (u:=.slice (some ⟨b3,0,none⟩) ((putAt x4 0 ((data).take (x4).length))).length ((x4).length)) rfl (by rw [hl5])
 replace F:=F.bool (k:=8) (u:=.slice (some ⟨b3,0,none⟩) ((putAt x4 0 ((data).take (x4).length))).length ((x4).length)) rfl (by rw [hl5])
 replace H:=H.nf 2 rfl
 refine nb [0,0] F H rfl fun a F=>nl (wr ?_)
 cases hm
 refine x_ret1 F rfl rfl ?_
 exact ⟨_,rfl,(some ⟨b3,0,none⟩),(x4).length,rfl,(H.pm 2 [0] rfl:)⟩
theorem agz37:AggT Tryz.prog 37 4 ([.int .i64 (0),.int .i64 (0),.slice none (([]:List UInt8)).length 0,.slice none (([]:List (List UInt8))).length 0]):=⟨by rw [Tryz.underlying37];rfl,by kernel_rfl,by kernel_rfl⟩
theorem fld25_1:FieldT Tryz.prog 25 1 1:=by unfold FieldT;rw [Tryz.underlying25];kernel_rfl
theorem ent80:En Tryz.prog 80:=enters Tryz.func80 (by kernel_rfl) rfl
theorem fld25_4:FieldT Tryz.prog 25 4 4:=by unfold FieldT;rw [Tryz.underlying25];kernel_rfl
theorem fld25_0:FieldT Tryz.prog 25 0 0:=by unfold FieldT;rw [Tryz.underlying25];kernel_rfl
theorem fld25_3:FieldT Tryz.prog 25 3 3:=by unfold FieldT;rw [Tryz.underlying25];kernel_rfl
theorem fld37_0:FieldT Tryz.prog 37 0 0:=by unfold FieldT;rw [Tryz.underlying37];kernel_rfl
theorem zero33:Zero1 Tryz.prog 33 (.int .i64 0):=⟨by kernel_rfl,rfl⟩
theorem fld25_5:FieldT Tryz.prog 25 5 5:=by unfold FieldT;rw [Tryz.underlying25];kernel_rfl
theorem ent81:En Tryz.prog 81:=enters Tryz.func81 (by kernel_rfl) rfl
theorem fld37_1:FieldT Tryz.prog 37 1 1:=by unfold FieldT;rw [Tryz.underlying37];kernel_rfl
theorem zero3:Zero1 Tryz.prog 3 (.int .i64 0):=⟨by kernel_rfl,rfl⟩
theorem agg37:AggT Tryz.prog 37 4 [.int .i64 0,.int .i64 0,.slice none 0 0,.slice none 0 0]:=⟨by rw [Tryz.underlying37];rfl,by kernel_rfl,by kernel_rfl⟩
theorem w_sWrite {s:(List UInt8)→Option T_files_file} {o:T_api_Op} {m1:Nat} {cs2:List Value} {w0 w:World} {l:List HP}  {r:T_api_Answer×((List UInt8)→Option T_files_file)} (hm:sWrite s o=some r) (H:St w0 w (HP.mm (some m1) ekStr true R_files_file (fun _=>True) s::HP.rc R_api_Op cs2 o::l)) :
  Calls Tryz.prog 62 [.map (some m1),.agg cs2.toArray].toArray w (fun e w'=>∃ v,e=.returned v∧∃ (cs3:List Value),v=.agg cs3.toArray∧St w0 w' (HP.rc R_api_Answer cs3 r.1::HP.mm (some m1) ekStr true R_files_file (fun _=>True) r.2::l)):=by
 unfold sWrite at hm
 refine x_enter Tryz.func62 rfl rfl rfl ?_
 intro a F
 refine sr (s_boxA wkP F rfl rfl rfl rfl rfl H fun b4 w a H F=>?_)
 replace H:=H.owNil rByte 5
 replace H:=H.owNil rStr 9
 refine s_allocA wkP F rfl rfl rfl agz37 rfl H fun b5 w a H F=>?_
 replace H:=H.nf 6 rfl
 refine nl (sr (bk [0,1] F H rfl ⟨fld25_1,trivial⟩ fun a F=>?_))
 have G:=F;replace H:=rc_api_Op (H.pk 5 rfl);obtain ⟨p6,c7,rfl,J⟩:=H;have H:=J;have F:=G;clear G J
 refine bk [4001] F H rfl ⟨rfl,plain9,trivial⟩ fun a F=>?_
 obtain ⟨x8,ex8,hm⟩:=ob hm
 refine sd F rfl ent80 (w_sRegular ex8 (H.pm 6 [5,0,1,2,3,4] rfl:):) ?_;rintro _ w a ⟨cs9,rfl,H⟩ F
 refine bb [0,0,0] F H rfl fun a F=>?_
 replace H:=H.owNil rByte 5
 refine s_allocA wkP F rfl rfl rfl agz71 rfl H fun b10 w a H F=>s_storeA wkP F rfl rfl agg71 rfl rfl rfl H 0 rfl (H.rcLen 2 rfl) rfl (H.rcFlat 2 rfl) fun w H=>bb [0] F H rfl fun a F=>?_
 replace H:=H.nf 9 rfl
 refine nl (sr (bk [4,8004,0] F H rfl ⟨fld25_4,rfl,plain3,trivial⟩ fun a F=>nl (sq (sr (bk [0,8000,0] F H rfl ⟨fld25_0,rfl,plain3,trivial⟩ fun a F=>?_)))))
 refine nl (xm0 9 [0,3,4,5,6] [0,1,2,3,4,5,6,7,8] F H hm rfl rfl (fun r12 z=>(7,.int .i64 (r12))::z) (fun r12 z=>z) (fun r12 hm=>?_) (fun r12 a w hm F H=>?_))
 refine cPm F rfl hm (fun hg13 hm=>?_) (fun hg13 hm=>?_)
 refine rl (bk [3,8003,0] F H rfl ⟨fld25_3,rfl,plain3,trivial⟩ fun a F=>lz ?_)
 cases hm
 refine ct ?_
 exact ⟨F.sl rfl,H⟩
 refine sk ?_
 cases hm
 refine ct ?_
 exact ⟨F.sl rfl,H⟩
 refine ct (sq ?_)
 refine xm1 9 [4] [1,4,6,7,8] F H hm rfl rfl (fun r626 (cs627:List Value) z=>z) (fun r626 cs627 z=>HP.blk b10 (cs627) 71::HP.mm (some m1) ekStr true R_files_file (fun _=>True) r626.2.1::HP.blk b5 ([.int .i64 (r626.2.2.1),.int .i64 (r626.2.2.2),.slice none (([]:List UInt8)).length 0,.slice none (([]:List (List UInt8))).length 0]) 37::HP.rc R_files_file cs627 r626.1::z) (fun r626 hm=>?_) (fun r626 a w hm cs627 F H=>?_)
 refine bl (sb [0,0,0] F H rfl fun a F=>nl ?_)
 refine xm1 9 [4] [1,4,6,7,8] F H hm rfl rfl (fun r933 (cs934:List Value) z=>z) (fun r933 cs934 z=>HP.blk b10 (cs934) 71::HP.mm (some m1) ekStr true R_files_file (fun _=>True) r933.2.1::HP.blk b5 ([.int .i64 (r933.2.2.1),.int .i64 (r933.2.2.2),.slice none (([]:List UInt8)).length 0,.slice none (([]:List (List UInt8))).length 0]) 37::HP.rc R_files_file cs934 r933.1::z) (fun r933 hm=>?_) (fun r933 a w hm cs934 F H=>?_)
 refine cNm F rfl hm (fun hg935 hm=>?_) (fun hg935 hm=>?_)
 refine rl (bk [0,0] F H rfl ⟨fld37_0,trivial⟩ fun a F=>s_st1 wkP F rfl rfl zero33 rfl rfl rfl rfl rfl H 5 rfl rfl fun w H=>?_)
 replace H:=H.nf 9 rfl
 refine lz ?_
 cases hm
 refine ct ?_
 exact ⟨cs9,F.sl rfl,(H.pm 9 [0,3,5,2,1,4,6,7,8] rfl:)⟩
 refine sb [0,0,0] F H rfl fun a F=>nl ?_
 refine xm1 9 [4] [1,4,6,7,8] F H hm rfl rfl (fun r1087 (cs1088:List Value) z=>z) (fun r1087 cs1088 z=>HP.blk b10 (cs1088) 71::HP.mm (some m1) ekStr true R_files_file (fun _=>True) r1087.2.1::HP.blk b5 ([.int .i64 (r1087.2.2.1),.int .i64 (r1087.2.2.2),.slice none (([]:List UInt8)).length 0,.slice none (([]:List (List UInt8))).length 0]) 37::HP.rc R_files_file cs1088 r1087.1::z) (fun r1087 hm=>?_) (fun r1087 a w hm cs1088 F H=>?_)
 refine cPm F rfl hm (fun hg1089 hm=>?_) (fun hg1089 hm=>?_)
 refine rl (bk [0] F H rfl ⟨fld37_0,trivial⟩ fun a F=>s_st1 wkP F rfl rfl zero33 rfl rfl rfl rfl rfl H 5 rfl rfl fun w H=>?_)
 replace H:=H.nf 9 rfl
 refine lz ?_
 cases hm
 refine ct ?_
 exact ⟨cs9,F.sl rfl,(H.pm 9 [0,3,5,2,1,4,6,7,8] rfl:)⟩
 refine sb [0,0,0] F H rfl fun a F=>?_
 rcases spP 64 F rfl hm with ⟨hg1090,hm,F⟩ | ⟨hg1090,hm,F⟩
 refine bb (List.replicate 13 0) F H rfl fun a F=>nl (cT F rfl (rl (bk [0] F H rfl ⟨fld37_0,trivial⟩ fun a F=>s_st1 wkP F rfl rfl zero33 rfl rfl rfl rfl rfl H 5 rfl rfl fun w H=>?_)))
 replace H:=H.nf 9 rfl
 refine lz ?_
 cases hm
 refine ct ?_
 exact ⟨cs9,F.sl rfl,(H.pm 9 [0,3,5,2,1,4,6,7,8] rfl:)⟩
 refine bk [0,8000,0,0] F H rfl ⟨fld25_0,rfl,plain3,trivial⟩ fun a F=>?_
 rcases spP 68 F rfl hm with ⟨hg1091,hm,F⟩ | ⟨hg1091,hm,F⟩
 refine bk [0,5,8005,0,0,0,0,0,0] F H rfl ⟨fld25_5,rfl,plain23,⟨_,Tryz.underlying23⟩,trivial⟩ fun a F=>nl ?_
 refine xm1 9 [4] [1,4,6,7,8] F H hm rfl rfl (fun r1141 (cs1142:List Value) z=>z) (fun r1141 cs1142 z=>HP.blk b10 (cs1142) 71::HP.mm (some m1) ekStr true R_files_file (fun _=>True) r1141.2.1::HP.blk b5 ([.int .i64 (r1141.2.2.1),.int .i64 (r1141.2.2.2),.slice none (([]:List UInt8)).length 0,.slice none (([]:List (List UInt8))).length 0]) 37::HP.rc R_files_file cs1142 r1141.1::z) (fun r1141 hm=>?_) (fun r1141 a w hm cs1142 F H=>?_)
 refine cPm F rfl hm (fun hg1143 hm=>?_) (fun hg1143 hm=>?_)
 refine rl (bk [0] F H rfl ⟨fld37_0,trivial⟩ fun a F=>s_st1 wkP F rfl rfl zero33 rfl rfl rfl rfl rfl H 5 rfl rfl fun w H=>?_)
 replace H:=H.nf 9 rfl
 refine lz ?_
 cases hm
 refine ct ?_
 exact ⟨cs9,F.sl rfl,(H.pm 9 [0,3,5,2,1,4,6,7,8] rfl:)⟩
 refine sr (bk [0,8000,0,0] F H rfl ⟨fld25_0,rfl,plain3,trivial⟩ fun a F=>nl ?_)
 refine xm1 9 [4] [1,4,6,7,8] F H hm rfl rfl (fun r1167 (cs1168:List Value) z=>z) (fun r1167 cs1168 z=>HP.blk b10 (cs1168) 71::HP.mm (some m1) ekStr true R_files_file (fun _=>True) r1167.2.1::HP.blk b5 ([.int .i64 (0),.int .i64 (r1167.2.2),.slice none (([]:List UInt8)).length 0,.slice none (([]:List (List UInt8))).length 0]) 37::HP.rc R_files_file cs1168 r1167.1::z) (fun r1167 hm=>?_) (fun r1167 a w hm cs1168 F H=>?_)
 refine cPm F rfl hm (fun hg1169 hm=>?_) (fun hg1169 hm=>?_)
 have G:=F;replace H:=rc_files_file (H.pk 2 rfl);obtain ⟨p1170,c1171,rfl,J⟩:=H;have H:=J;have F:=G;clear G J
 refine mix_regionK [6,8] [8] (scL [0,1,2,3,1004,5,2006,7,3008]) [8] H rfl rfl (by kernel_rfl) (by kernel_rfl) fun w H=>?_
 refine mbk [0,1] F H rfl ⟨fld25_1,trivial⟩ fun a F=>?_
 refine m_pure F rfl rfl rfl rfl (fun u hu=>y_load1 F plain9 rfl rfl (row_at (v:=.string (txb (o.2.1))) ((hu.choose_spec.blk 0 rfl).row) rfl)) fun a F=>?_
 refine mbk [1,1001,0] F H rfl ⟨fld71_1,rfl,plain23,trivial⟩ fun a F=>m_heavy rfl rfl ?_
 obtain ⟨x1172,ex1172,hm⟩:=ob hm
 refine sd F rfl ent81 (w_sized ex1172 (H.pm 9 [0,0,1,2,3,4,5,6,7,8] rfl:):) ?_;rintro _ w a ⟨p1173,c1173,rfl,H⟩ F
 refine lz ?_;refine ct ⟨⟨_,(H.pm 10 [9,0,1,2,3,4,5,6,7,8] rfl:)⟩,?_⟩
 refine m_pure F rfl rfl rfl rfl (fun u hu=>y_build F rfl rfl (cs:=[.bool false,.slice p1173 (x1172).length c1173]) (by kernel_rfl)) fun a F=>?_
 refine m_last rfl rfl ?_
 replace H:=H.frz 0 rfl
 refine s_mmSet wkP F rfl rfl Tryz.underlying65 (keyStr Tryz.underlying9) rfl H 4 rfl rfl (k:=o.2.1) rfl (cs:=[.bool false,.slice p1173 (x1172).length c1173]) rfl trivial (v:=(false,x1172)) (fun gg=>⟨_,_,rfl,rfl,⟨_,_,rfl,(gg 0 _ rfl).choose_spec⟩⟩) fun w H=>?_
 refine lz ?_;refine ct ?_
 refine m_nil ?_
 cases hm
 refine ct ?_
 replace H:=mk_files_file H x8.1.1 1 rfl
 exact ⟨[.bool (x8.1.1),.slice p1170 (x8.1.2).length c1171],F.sl rfl,(H.pm 11 [3,5,7,0,4,6,8,9,10] rfl:)⟩
 refine sr (bk [5,8005,0,1] F H rfl ⟨fld25_5,rfl,plain23,⟨_,Tryz.underlying23⟩,fld37_1,trivial⟩ fun a F=>s_st1 wkP F rfl rfl zero3 rfl rfl rfl rfl rfl H 5 rfl rfl fun w H=>?_)
 replace H:=H.nf 9 rfl
 refine nl (sr (bk [1,5001,0] F H rfl ⟨fld37_1,rfl,plain3,trivial⟩ fun a F=>?_))
 refine nl (xm1 9 [4] [1,4,5,6,7,8] F H hm rfl rfl (fun r1182 (cs1183:List Value) z=>z) (fun r1182 cs1183 z=>HP.blk b10 (cs1183) 71::HP.mm (some m1) ekStr true R_files_file (fun _=>True) r1182.2::HP.rc R_files_file cs1183 r1182.1::z) (fun r1182 hm=>?_) (fun r1182 a w hm cs1183 F H=>?_))
 refine cPm F rfl hm (fun hg1184 hm=>?_) (fun hg1184 hm=>?_)
 refine sr (bk [1] F H rfl ⟨fld71_1,trivial⟩ fun a F=>?_)
 have G:=F;replace H:=rc_files_file (H.pk 2 rfl);obtain ⟨p1185,c1186,rfl,J⟩:=H;have H:=J;have F:=G;clear G J
 refine bk [1001,1,1001,0,0,1,5001,0] F H rfl ⟨rfl,plain23,fld71_1,rfl,plain23,⟨_,Tryz.underlying23⟩,fld37_1,rfl,plain3,trivial⟩ fun a F=>sv F rfl (y_max F rfl rfl rfl rfl) fun a F=>?_
 obtain ⟨x1187,ex1187,hm⟩:=ob hm
 refine sd F rfl ent81 (w_sized ex1187 (H.pm 9 [0,0,1,2,3,4,5,6,7,8] rfl:):) ?_;rintro _ w a ⟨p1188,c1188,rfl,H⟩ F
 refine bb [0] F H rfl fun a F=>?_
 replace H:=H.nf 10 rfl
 refine nl (sq ?_)
 obtain ⟨x1190,ex1190,hm⟩:=ob hm
 have hc1189:=H.owForm 0 rfl
 refine mix_regionK [5] [5] (scL [0,1,2,3,1004,3005]) [] H rfl rfl (by kernel_rfl) (by kernel_rfl) fun w H=>?_
 refine mb [0,0] F H rfl fun a F=>?_
 refine m_pure F rfl rfl rfl rfl (fun u hu=>y_slL F elem23 rfl rfl rfl ex1190 hc1189) fun a F=>?_
 refine mbk [5,9005] F H rfl ⟨fld25_5,rfl,plain23,trivial⟩ fun a F=>m_last rfl rfl ?_
 have hf1191:(r12:Int).toNat+(x1190).length≤(x1187).length:=(ow_sub H 0 rfl ex1190).2
 have hl1191:(putAt x1187 (r12:Int).toNat ((o.2.2.2.2.2).take (x1190).length)).length=(x1187).length:=putAt_len _ _ _ (by rw [List.length_take];omega)
 refine s_cpyO wkP F rfl rfl rfl elem23 rfl H 0 5 rfl rfl (ow_sub H 0 rfl ex1190).1 hf1191 rfl rfl fun w a H F=>?_
 replace F:=F.bool (k:=40) (u:=.slice p1188 ((putAt x1187 (r12:Int).toNat ((o.2.2.2.2.2).take (x1190).length))).length c1188) rfl (by rw [hl1191])
 replace F:=F.bool (k:=8) (u:=.slice p1188 ((putAt x1187 (r12:Int).toNat ((o.2.2.2.2.2).take (x1190).length))).length c1188) rfl (by rw [hl1191])
 replace F:=F.bool (k:=41) (u:=.slice p1188 ((putAt x1187 (r12:Int).toNat ((o.2.2.2.2.2).take (x1190).length))).length c1188) rfl (by rw [hl1191])
 refine lz ?_;refine ct ?_
 refine m_nil (ct (rl (bk [0,1,9001,0] F H rfl ⟨fld25_1,rfl,plain9,trivial⟩ fun a F=>sv F rfl (y_build F rfl rfl (cs:=[.bool false,.slice p1188 ((putAt x1187 (r12:Int).toNat ((o.2.2.2.2.2).take (x1190).length))).length c1188]) (by kernel_rfl)) fun a F=>?_)))
 replace H:=H.frz 0 rfl
 refine s_mmSet wkP F rfl rfl Tryz.underlying65 (keyStr Tryz.underlying9) rfl H 4 rfl rfl (k:=o.2.1) rfl (cs:=[.bool false,.slice p1188 ((putAt x1187 (r12:Int).toNat ((o.2.2.2.2.2).take (x1190).length))).length c1188]) rfl trivial (v:=(false,(putAt x1187 (r12:Int).toNat ((o.2.2.2.2.2).take (x1190).length)))) (fun gg=>⟨_,_,rfl,rfl,⟨_,_,rfl,(gg 0 _ rfl).choose_spec⟩⟩) fun w H=>?_
 replace H:=H.nf 10 rfl
 refine lz ?_
 cases hm
 refine ct ?_
 replace H:=mk_files_file H x8.1.1 1 rfl
 exact ⟨[.bool (x8.1.1),.slice p1185 (x8.1.2).length c1186],F.sl rfl,(H.pm 11 [3,5,0,4,6,7,8,9,10] rfl:)⟩
 refine sk ?_
 cases hm
 refine ct ?_
 exact ⟨cs9,F.sl rfl,(H.pm 9 [0,3,2,1,4,5,6,7,8] rfl:)⟩
 cases hm
 refine ct ?_
 exact ⟨cs1183,F.sl rfl,(H.pm 9 [0,1,5,2,3,4,6,7,8] rfl:)⟩
 cases hm
 refine ct ?_
 exact ⟨cs1168,F.sl rfl,H⟩
 cases hm
 refine ct ?_
 exact ⟨cs1142,F.sl rfl,H⟩
 refine bb (List.replicate 9 0) F H rfl fun a F=>nl (cF F rfl (sr (bk [0,8000,0,0] F H rfl ⟨fld25_0,rfl,plain3,trivial⟩ fun a F=>nl ?_)))
 refine xm1 9 [4] [1,4,6,7,8] F H hm rfl rfl (fun r1215 (cs1216:List Value) z=>z) (fun r1215 cs1216 z=>HP.blk b10 (cs1216) 71::HP.mm (some m1) ekStr true R_files_file (fun _=>True) r1215.2.1::HP.blk b5 ([.int .i64 (0),.int .i64 (r1215.2.2),.slice none (([]:List UInt8)).length 0,.slice none (([]:List (List UInt8))).length 0]) 37::HP.rc R_files_file cs1216 r1215.1::z) (fun r1215 hm=>?_) (fun r1215 a w hm cs1216 F H=>?_)
 refine cPm F rfl hm (fun hg1217 hm=>?_) (fun hg1217 hm=>?_)
 have G:=F;replace H:=rc_files_file (H.pk 2 rfl);obtain ⟨p1218,c1219,rfl,J⟩:=H;have H:=J;have F:=G;clear G J
 refine mix_regionK [6,8] [8] (scL [0,1,2,3,1004,5,2006,7,3008]) [8] H rfl rfl (by kernel_rfl) (by kernel_rfl) fun w H=>?_
 refine mbk [0,1] F H rfl ⟨fld25_1,trivial⟩ fun a F=>?_
 refine m_pure F rfl rfl rfl rfl (fun u hu=>y_load1 F plain9 rfl rfl (row_at (v:=.string (txb (o.2.1))) ((hu.choose_spec.blk 0 rfl).row) rfl)) fun a F=>?_
 refine mbk [1,1001,0] F H rfl ⟨fld71_1,rfl,plain23,trivial⟩ fun a F=>m_heavy rfl rfl ?_
 obtain ⟨x1220,ex1220,hm⟩:=ob hm
 refine sd F rfl ent81 (w_sized ex1220 (H.pm 9 [0,0,1,2,3,4,5,6,7,8] rfl:):) ?_;rintro _ w a ⟨p1221,c1221,rfl,H⟩ F
 refine lz ?_;refine ct ⟨⟨_,(H.pm 10 [9,0,1,2,3,4,5,6,7,8] rfl:)⟩,?_⟩
 refine m_pure F rfl rfl rfl rfl (fun u hu=>y_build F rfl rfl (cs:=[.bool false,.slice p1221 (x1220).length c1221]) (by kernel_rfl)) fun a F=>?_
 refine m_last rfl rfl ?_
 replace H:=H.frz 0 rfl
 refine s_mmSet wkP F rfl rfl Tryz.underlying65 (keyStr Tryz.underlying9) rfl H 4 rfl rfl (k:=o.2.1) rfl (cs:=[.bool false,.slice p1221 (x1220).length c1221]) rfl trivial (v:=(false,x1220)) (fun gg=>⟨_,_,rfl,rfl,⟨_,_,rfl,(gg 0 _ rfl).choose_spec⟩⟩) fun w H=>?_
 refine lz ?_;refine ct ?_
 refine m_nil ?_
 cases hm
 refine ct ?_
 replace H:=mk_files_file H x8.1.1 1 rfl
 exact ⟨[.bool (x8.1.1),.slice p1218 (x8.1.2).length c1219],F.sl rfl,(H.pm 11 [3,5,7,0,4,6,8,9,10] rfl:)⟩
 refine sr (bk [5,8005,0,1] F H rfl ⟨fld25_5,rfl,plain23,⟨_,Tryz.underlying23⟩,fld37_1,trivial⟩ fun a F=>s_st1 wkP F rfl rfl zero3 rfl rfl rfl rfl rfl H 5 rfl rfl fun w H=>?_)
 replace H:=H.nf 9 rfl
 refine nl (sr (bk [1,5001,0] F H rfl ⟨fld37_1,rfl,plain3,trivial⟩ fun a F=>?_))
 refine nl (xm1 9 [4] [1,4,5,6,7,8] F H hm rfl rfl (fun r1230 (cs1231:List Value) z=>z) (fun r1230 cs1231 z=>HP.blk b10 (cs1231) 71::HP.mm (some m1) ekStr true R_files_file (fun _=>True) r1230.2::HP.rc R_files_file cs1231 r1230.1::z) (fun r1230 hm=>?_) (fun r1230 a w hm cs1231 F H=>?_))
 refine cPm F rfl hm (fun hg1232 hm=>?_) (fun hg1232 hm=>?_)
 refine sr (bk [1] F H rfl ⟨fld71_1,trivial⟩ fun a F=>?_)
 have G:=F;replace H:=rc_files_file (H.pk 2 rfl);obtain ⟨p1233,c1234,rfl,J⟩:=H;have H:=J;have F:=G;clear G J
 refine bk [1001,1,1001,0,0,1,5001,0] F H rfl ⟨rfl,plain23,fld71_1,rfl,plain23,⟨_,Tryz.underlying23⟩,fld37_1,rfl,plain3,trivial⟩ fun a F=>sv F rfl (y_max F rfl rfl rfl rfl) fun a F=>?_
 obtain ⟨x1235,ex1235,hm⟩:=ob hm
 refine sd F rfl ent81 (w_sized ex1235 (H.pm 9 [0,0,1,2,3,4,5,6,7,8] rfl:):) ?_;rintro _ w a ⟨p1236,c1236,rfl,H⟩ F
 refine bb [0] F H rfl fun a F=>?_
 replace H:=H.nf 10 rfl
 refine nl (sq ?_)
 obtain ⟨x1238,ex1238,hm⟩:=ob hm
 have hc1237:=H.owForm 0 rfl
 refine mix_regionK [5] [5] (scL [0,1,2,3,1004,3005]) [] H rfl rfl (by kernel_rfl) (by kernel_rfl) fun w H=>?_
 refine mb [0,0] F H rfl fun a F=>?_
 refine m_pure F rfl rfl rfl rfl (fun u hu=>y_slL F elem23 rfl rfl rfl ex1238 hc1237) fun a F=>?_
 refine mbk [5,9005] F H rfl ⟨fld25_5,rfl,plain23,trivial⟩ fun a F=>m_last rfl rfl ?_
 have hf1239:(r12:Int).toNat+(x1238).length≤(x1235).length:=(ow_sub H 0 rfl ex1238).2
 have hl1239:(putAt x1235 (r12:Int).toNat ((o.2.2.2.2.2).take (x1238).length)).length=(x1235).length:=putAt_len _ _ _ (by rw [List.length_take];omega)
 refine s_cpyO wkP F rfl rfl rfl elem23 rfl H 0 5 rfl rfl (ow_sub H 0 rfl ex1238).1 hf1239 rfl rfl fun w a H F=>?_
 replace F:=F.bool (k:=40) (u:=.slice p1236 ((putAt x1235 (r12:Int).toNat ((o.2.2.2.2.2).take (x1238).length))).length c1236) rfl (by rw [hl1239])
 replace F:=F.bool (k:=8) (u:=.slice p1236 ((putAt x1235 (r12:Int).toNat ((o.2.2.2.2.2).take (x1238).length))).length c1236) rfl (by rw [hl1239])
 replace F:=F.bool (k:=41) (u:=.slice p1236 ((putAt x1235 (r12:Int).toNat ((o.2.2.2.2.2).take (x1238).length))).length c1236) rfl (by rw [hl1239])
 refine lz ?_;refine ct ?_
 refine m_nil (ct (rl (bk [0,1,9001,0] F H rfl ⟨fld25_1,rfl,plain9,trivial⟩ fun a F=>sv F rfl (y_build F rfl rfl (cs:=[.bool false,.slice p1236 ((putAt x1235 (r12:Int).toNat ((o.2.2.2.2.2).take (x1238).length))).length c1236]) (by kernel_rfl)) fun a F=>?_)))
 replace H:=H.frz 0 rfl
 refine s_mmSet wkP F rfl rfl Tryz.underlying65 (keyStr Tryz.underlying9) rfl H 4 rfl rfl (k:=o.2.1) rfl (cs:=[.bool false,.slice p1236 ((putAt x1235 (r12:Int).toNat ((o.2.2.2.2.2).take (x1238).length))).length c1236]) rfl trivial (v:=(false,(putAt x1235 (r12:Int).toNat ((o.2.2.2.2.2).take (x1238).length)))) (fun gg=>⟨_,_,rfl,rfl,⟨_,_,rfl,(gg 0 _ rfl).choose_spec⟩⟩) fun w H=>?_
 replace H:=H.nf 10 rfl
 refine lz ?_
 cases hm
 refine ct ?_
 replace H:=mk_files_file H x8.1.1 1 rfl
 exact ⟨[.bool (x8.1.1),.slice p1233 (x8.1.2).length c1234],F.sl rfl,(H.pm 11 [3,5,0,4,6,7,8,9,10] rfl:)⟩
 refine sk ?_
 cases hm
 refine ct ?_
 exact ⟨cs9,F.sl rfl,(H.pm 9 [0,3,2,1,4,5,6,7,8] rfl:)⟩
 cases hm
 refine ct ?_
 exact ⟨cs1231,F.sl rfl,(H.pm 9 [0,1,5,2,3,4,6,7,8] rfl:)⟩
 cases hm
 refine ct ?_
 exact ⟨cs1216,F.sl rfl,H⟩
 cases hm
 refine ct ?_
 exact ⟨cs1088,F.sl rfl,H⟩
 refine bn ?_
 cases hm
 refine ct ?_
 exact ⟨cs934,F.sl rfl,H⟩
 refine ct (sr (bk [2999] F H rfl ⟨rfl,(aggn agg37 rfl),trivial⟩ fun a F=>s_storeA wkP F rfl rfl agg37 rfl rfl rfl H 2 rfl rfl rfl (fl rfl) fun w H=>?_))
 replace H:=H.nf 9 rfl
 refine nl (wr ?_)
 replace H:=H.frz 7 rfl
 replace H:=H.frz 7 rfl
 replace H:=mk_api_Answer H r626.2.2.1 r626.2.2.2 1 rfl 0 rfl
 cases hm
 refine x_resC1 F rfl (⟨_,rfl,agg37.run_load (H.blk 5 rfl).row rfl⟩) ?_
 exact ⟨_,rfl,[.int .i64 (r626.2.2.1),.int .i64 (r626.2.2.2),.slice none (([]:List UInt8)).length 0,.slice none (([]:List (List UInt8))).length 0],rfl,(H.pm 10 [0,4] rfl:)⟩
theorem fld37_2:FieldT Tryz.prog 37 2 2:=by unfold FieldT;rw [Tryz.underlying37];kernel_rfl
theorem w_sRead {s:(List UInt8)→Option T_files_file} {o:T_api_Op} {q1:Option Nat} {cs2:List Value} {w0 w:World} {l:List HP}  {r:T_api_Answer} (hm:sRead s o=some r) (H:St w0 w (HP.mm q1 ekStr true R_files_file (fun _=>True) s::HP.rc R_api_Op cs2 o::l)) :
  Calls Tryz.prog 63 [.map q1,.agg cs2.toArray].toArray w (fun e w'=>∃ v,e=.returned v∧∃ (cs3:List Value),v=.agg cs3.toArray∧St w0 w' (HP.rc R_api_Answer cs3 r::HP.mm q1 ekStr true R_files_file (fun _=>True) s::l)):=by
 unfold sRead at hm
 refine x_enter Tryz.func63 rfl rfl rfl ?_
 intro a F
 refine sr (s_boxA wkP F rfl rfl rfl rfl rfl H fun b4 w a H F=>?_)
 replace H:=H.owNil rByte 5
 replace H:=H.owNil rStr 9
 refine s_allocA wkP F rfl rfl rfl agz37 rfl H fun b5 w a H F=>?_
 replace H:=H.nf 6 rfl
 refine nl (sr (bk [0,1] F H rfl ⟨fld25_1,trivial⟩ fun a F=>?_))
 have G:=F;replace H:=rc_api_Op (H.pk 5 rfl);obtain ⟨p6,c7,rfl,J⟩:=H;have H:=J;have F:=G;clear G J
 refine bk [4001] F H rfl ⟨rfl,plain9,trivial⟩ fun a F=>?_
 obtain ⟨x8,ex8,hm⟩:=ob hm
 refine sd F rfl ent80 (w_sRegular ex8 (H.pm 6 [5,0,1,2,3,4] rfl:):) ?_;rintro _ w a ⟨cs9,rfl,H⟩ F
 refine bb [0,0,0] F H rfl fun a F=>?_
 replace H:=H.owNil rByte 5
 refine s_allocA wkP F rfl rfl rfl agz71 rfl H fun b10 w a H F=>s_storeA wkP F rfl rfl agg71 rfl rfl rfl H 0 rfl (H.rcLen 2 rfl) rfl (H.rcFlat 2 rfl) fun w H=>bb [0] F H rfl fun a F=>?_
 replace H:=H.nf 9 rfl
 refine nl (sq ?_)
 refine xm3 9 [4] [1,3,4,6,8] F H hm rfl rfl (fun r60 (cs61:List Value) (p62:Option Addr) (c62:Nat) z=>z) (fun r60 cs61 p62 c62 z=>HP.blk b10 (cs61) 71::HP.blk b5 ([.int .i64 (r60.2.1),.int .i64 (r60.2.2.1),.slice p62 (r60.2.2.2).length c62,.slice none (([]:List (List UInt8))).length 0]) 37::HP.rc R_files_file cs61 r60.1::HP.ow rByte 5 p62 c62 r60.2.2.2::z) (fun r60 hm=>?_) (fun r60 a w hm cs61 p62 c62 F H=>?_)
 refine bl (sb [0,0,0] F H rfl fun a F=>nl ?_)
 refine xm3 9 [4] [1,3,4,6,8] F H hm rfl rfl (fun r86 (cs87:List Value) (p88:Option Addr) (c88:Nat) z=>z) (fun r86 cs87 p88 c88 z=>HP.blk b10 (cs87) 71::HP.blk b5 ([.int .i64 (r86.2.1),.int .i64 (r86.2.2.1),.slice p88 (r86.2.2.2).length c88,.slice none (([]:List (List UInt8))).length 0]) 37::HP.rc R_files_file cs87 r86.1::HP.ow rByte 5 p88 c88 r86.2.2.2::z) (fun r86 hm=>?_) (fun r86 a w hm cs87 p88 c88 F H=>?_)
 refine cNm F rfl hm (fun hg89 hm=>?_) (fun hg89 hm=>?_)
 refine rl (bk [0,0] F H rfl ⟨fld37_0,trivial⟩ fun a F=>s_st1 wkP F rfl rfl zero33 rfl rfl rfl rfl rfl H 5 rfl rfl fun w H=>?_)
 replace H:=H.nf 9 rfl
 refine lz ?_
 cases hm
 refine ct ?_
 exact ⟨cs9,none,0,F.sl rfl,(H.pm 9 [0,5,2,7,1,3,4,6,8] rfl:)⟩
 refine sr (bk [3,8003,0,0] F H rfl ⟨fld25_3,rfl,plain3,trivial⟩ fun a F=>?_)
 rcases spP 49 F rfl hm with ⟨hg90,hm,F⟩ | ⟨hg90,hm,F⟩
 refine bb (List.replicate 5 0) F H rfl fun a F=>nl (cT F rfl (rl (bk [0] F H rfl ⟨fld37_0,trivial⟩ fun a F=>s_st1 wkP F rfl rfl zero33 rfl rfl rfl rfl rfl H 5 rfl rfl fun w H=>?_)))
 replace H:=H.nf 9 rfl
 refine lz ?_
 cases hm
 refine ct ?_
 exact ⟨cs9,none,0,F.sl rfl,(H.pm 9 [0,5,2,7,1,3,4,6,8] rfl:)⟩
 refine bk [4,8004,0,0,0] F H rfl ⟨fld25_4,rfl,plain3,trivial⟩ fun a F=>nl ?_
 refine xm3 9 [4] [1,3,4,6,8] F H hm rfl rfl (fun r100 (cs101:List Value) (p102:Option Addr) (c102:Nat) z=>z) (fun r100 cs101 p102 c102 z=>HP.blk b10 (cs101) 71::HP.blk b5 ([.int .i64 (r100.2.1),.int .i64 (r100.2.2.1),.slice p102 (r100.2.2.2).length c102,.slice none (([]:List (List UInt8))).length 0]) 37::HP.rc R_files_file cs101 r100.1::HP.ow rByte 5 p102 c102 r100.2.2.2::z) (fun r100 hm=>?_) (fun r100 a w hm cs101 p102 c102 F H=>?_)
 refine cPm F rfl hm (fun hg103 hm=>?_) (fun hg103 hm=>?_)
 refine rl (bk [0] F H rfl ⟨fld37_0,trivial⟩ fun a F=>s_st1 wkP F rfl rfl zero33 rfl rfl rfl rfl rfl H 5 rfl rfl fun w H=>?_)
 replace H:=H.nf 9 rfl
 refine lz ?_
 cases hm
 refine ct ?_
 exact ⟨cs9,none,0,F.sl rfl,(H.pm 9 [0,5,2,7,1,3,4,6,8] rfl:)⟩
 refine sr (bk [3,8003,1] F H rfl ⟨fld25_3,rfl,plain3,fld71_1,trivial⟩ fun a F=>?_)
 have G:=F;replace H:=rc_files_file (H.pk 2 rfl);obtain ⟨p104,c105,rfl,J⟩:=H;have H:=J;have F:=G;clear G J
 refine bk [1001,0] F H rfl ⟨rfl,plain23,⟨_,Tryz.underlying23⟩,trivial⟩ fun a F=>sv F rfl (y_min F rfl rfl rfl rfl) fun a F=>bb [0] F H rfl fun a F=>nl (sq ?_)
 obtain ⟨x107,ex107,hm⟩:=ob hm
 have hc106:=H.slCap 0 rfl
 replace H:=H.slSubN 1 rfl 0 rfl ex107
 obtain ⟨x109,ex109,hm⟩:=ob hm
 have hc108:=H.slCap 0 rfl
 replace H:=H.slSubN 1 rfl 0 rfl ex109
 refine mix_regionK [13,15] [15] (scL [0,1001,2,3,4,1005,6,1007,8,9,10,11,12,2013,14,3015]) [] H rfl rfl (by kernel_rfl) (by kernel_rfl) fun w H=>?_
 refine mbk [1,3001,0] F H rfl ⟨fld71_1,rfl,plain23,trivial⟩ fun a F=>?_
 refine m_pure F rfl rfl rfl rfl (fun u hu=>y_slL F elem23 rfl rfl rfl ex107 hc106) fun a F=>?_
 refine mbk [4,10004,1,3001,0,0,0] F H rfl ⟨fld25_4,rfl,plain3,fld71_1,rfl,plain23,⟨_,Tryz.underlying23⟩,trivial⟩ fun a F=>?_
 refine m_pure F rfl rfl rfl rfl (fun u hu=>y_min3 F rfl rfl rfl rfl rfl) fun a F=>?_
 refine m_pure F rfl rfl rfl rfl (fun u hu=>y_slH F elem23 rfl rfl rfl ex109 hc108) fun a F=>?_
 refine m_heavy rfl rfl ?_
 obtain ⟨x110,ex110,hm⟩:=ob hm
 refine sd F rfl ent55 (w_cloneB ex110 (H.pm 11 [0,0,1,2,3,4,5,6,7,8,9,10] rfl:):) ?_;rintro _ w a ⟨p111,c111,rfl,H⟩ F
 refine lz ?_;refine ct ⟨⟨_,H⟩,?_⟩
 refine mbk [2] F H rfl ⟨fld37_2,trivial⟩ fun a F=>m_last rfl rfl (s_st1 wkP F rfl rfl zero23 rfl rfl rfl rfl rfl H 8 rfl rfl fun w H=>?_)
 refine lz ?_;refine ct ?_
 refine m_nil (ct (rl (bk [1,4001,0,1] F H rfl ⟨fld71_1,rfl,plain23,⟨_,Tryz.underlying23⟩,fld37_1,trivial⟩ fun a F=>s_st1 wkP F rfl rfl zero3 rfl rfl rfl rfl rfl H 8 rfl rfl fun w H=>?_)))
 replace H:=H.nf 12 rfl
 refine lz ?_
 cases hm
 refine ct ?_
 replace H:=mk_files_file H x8.1.1 3 rfl
 exact ⟨[.bool (x8.1.1),.slice p104 (x8.1.2).length c105],p111,c111,F.sl rfl,(H.pm 13 [5,9,0,1,6,7,8,10,12] rfl:)⟩
 cases hm
 refine ct ?_
 exact ⟨cs101,p102,c102,F.sl rfl,H⟩
 refine bn ?_
 cases hm
 refine ct ?_
 exact ⟨cs87,p88,c88,F.sl rfl,H⟩
 refine ct (sr (bk [1999] F H rfl ⟨rfl,(aggn agg37 rfl),trivial⟩ fun a F=>s_storeA wkP F rfl rfl agg37 rfl rfl rfl H 1 rfl rfl rfl (fl rfl) fun w H=>?_))
 replace H:=H.nf 9 rfl
 refine nl (wr ?_)
 replace H:=H.frz 3 rfl
 replace H:=H.frz 7 rfl
 replace H:=mk_api_Answer H r60.2.1 r60.2.2.1 1 rfl 0 rfl
 cases hm
 refine x_resC1 F rfl (⟨_,rfl,agg37.run_load (H.blk 4 rfl).row rfl⟩) ?_
 exact ⟨_,rfl,[.int .i64 (r60.2.1),.int .i64 (r60.2.2.1),.slice p62 (r60.2.2.2).length c62,.slice none (([]:List (List UInt8))).length 0],rfl,(H.pm 10 [0,7] rfl:)⟩
end Go.Proofs.YthcjjjnphgopjaaGreatDoor
