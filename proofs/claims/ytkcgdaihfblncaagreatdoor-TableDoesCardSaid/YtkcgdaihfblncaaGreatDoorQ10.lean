/- Texts Mos, FilesC, SnA, SnB, LawA. -/
import Derived.Test.YtkcgdaihfblncaaGreatDoorQ9
import Derived.Shelf.SlMaps.Clone
import Derived.Test.YtkcgdaihfblncaaGreatDoorQ5
set_option linter.unusedSimpArgs false
set_option linter.unusedVariables false
namespace Go.Tri
open Go.RowKit
section
variable {κ:Type} [DecidableEq κ] {P:Program} {w0 w:World} {l ls:List HP} {e:TypeId} {p:Option Nat} {ek:κ->Value} {ok:κ->Prop} {m:κ->Option (List UInt8)} {hm:κ->Option Hdr} {N:Fs} {a:Act} {sl:List (Nat×Value)} {o:Oper} {x y:Operand} {T K E:TypeId}
def HP.mw (e:TypeId) (p:Option Nat) (ek:κ->Value) (ok:κ->Prop) (m:κ->Option (List UInt8)):HP:=HP.ex fun hm:κ->Option Hdr=>[HP.mos e hm m noK,HP.mm p ek false rHdr ok hm]
theorem St.mwNil (H:St w0 w (HP.mm p ek false rHdr ok (bG:κ->Option Hdr)::l)) (e:TypeId):St w0 w (HP.mw e p ek ok (bG:κ->Option (List UInt8))::l):=St.exShut (bG:κ->Option Hdr) (H.mosNil e)
theorem St.mwTake (H:St w0 w (HP.mw e p ek ok m::l)) (k:κ):∃ hm q c,(hm k).getD (none,0,0)=(q,((m k).getD []).length,c)/\St w0 w (HP.ow rByte e q c ((m k).getD [])::HP.mos e hm m (atK k)::HP.mm p ek false rHdr ok hm::l):=by
 obtain ⟨hm,H⟩:=H.exOpen
 obtain ⟨q,c,h,H⟩:=St.mosTake H k
 exact ⟨hm,q,c,h,H⟩
theorem St.mwPut {k:κ} {q:Option Addr} {c:Nat} {x:List UInt8} (H:St w0 w (HP.ow rByte e q c x::HP.mos e hm m (atK k)::HP.mm p ek false rHdr ok (aI k (q,x.length,c) hm)::l)):St w0 w (HP.mw e p ek ok (aI k x m)::l):=St.exShut (aI k (q,x.length,c) hm) H.mosPut
theorem St.mwFrz (H:St w0 w (HP.mw e p ek ok m::l)):St w0 w (HP.mm p ek false (rSl rByte) ok m::l):=by
 obtain ⟨hm,H⟩:=H.exOpen
 exact H.mosFrz
theorem aLy (F:Fr N a sl) (hT:P.underlying T=some (.map K E)) (hK:dS P K ek ok) (hz:∀ w,(zeroValue E).run P w=.ok (.slice none 0 0) w) (ho:o.op=.lookup T x y false) (H:St w0 w ls) (i:Nat) (hi:ls[i]?=some (HP.mm p ek false rHdr ok hm)) (hx:ev sl x=some (.map p)) {k:κ} (hy:ev sl y=some (ek k)) (hkk:ok k) {q:Option Addr} {n c:Nat} (hh:(hm k).getD (none,0,0)=(q,n,c)) :
  (execOp a.eval o).run P w=.ok (.value (.slice q n c)) w:=by
 obtain ⟨es,H1⟩:=H.mmOpen i hi
 have hil:i<ls.length:=(List.getElem?_eq_some_iff.1 hi).1
 have hi':(ls.set i (HP.mx p ek false rHdr ok es hm))[i]?=some (HP.mx p ek false rHdr ok es hm):=by simp [hil]
 obtain ⟨cs,hcs,H2⟩:=H1.mxGet i hi' k (zc:=[.slice none 0 0]) (z0:=((none,0,0):Hdr)) (fun _=>rfl)
 have hr:cs=[jE ((hm k).getD (none,0,0))]:=by
  obtain ⟨_,_,_,h,_⟩:=H2.get 0 rfl
  exact h
 have:=wM (agg:=false) (zc:=[.slice none 0 0]) F hT hK hz ho H1 i hi' hx hy hkk hcs
 rw [hr,hh] at this
 exact this
end
section
variable {κ β:Type} [DecidableEq κ] {R:Rp β} {ek:κ->Value} {agg:Bool} {ok:κ->Prop} {P:Program} {w0 w:World} {ls:List HP} {m:κ->Option β} {p:Option Nat} {es es0:List (κ×(List Value×β))} {raw raw0:Array MapEntry} {c:Nat} {ops:Array Oper} {rest:List Oper} {o:Oper} {a:Act} {W:List Oper->Act->World->Prop} {N:Fs} {sl:List (Nat×Value)} {d:Nat} {x y z:Operand} {T K E:TypeId} {vis:List Nat} {r:Nat}
def HP.mr (p:Option Nat) (ek:κ->Value) (agg:Bool) (R:Rp β) (ok:κ->Prop) (es0:List (κ×(List Value×β))) (raw0:Array MapEntry) (c:Nat) (vis:List Nat) (m:κ->Option β):HP :=
 HP.ex fun (i:List (κ×(List Value×β))×Array MapEntry)=>[HP.mo p i.2 c,HP.es R ok i.1 m,HP.fact (RawUp es0 raw0 vis i.1 i.2/\MRaw ek agg i.1 i.2 c)]
theorem St.mrStart (H:St w0 w (HP.mo p raw c::HP.es R ok es m::ls)) (hM:MRaw ek agg es raw c):St w0 w (HP.mr p ek agg R ok es raw c [] m::ls):=by
 have H1:=(H.addFact (show RawUp es raw [] es raw/\MRaw ek agg es raw c from ⟨RawUp.refl _ _ _,hM⟩)).pm 3 [1,2,0] rfl
 exact St.exShut (es,raw) H1
theorem St.mrOpen (H:St w0 w (HP.mr p ek agg R ok es0 raw0 c vis m::ls)):∃ es raw,RawUp es0 raw0 vis es raw/\MRaw ek agg es raw c/\St w0 w (HP.mo p raw c::HP.es R ok es m::HP.fact (RawUp es0 raw0 vis es raw/\MRaw ek agg es raw c)::ls):=by
 obtain ⟨⟨es,raw⟩,H⟩:=H.exOpen
 have h:=H.factP 2 rfl
 exact ⟨es,raw,h.1,h.2,H⟩
theorem St.mrShut (hU:RawUp es0 raw0 vis es raw) (hM:MRaw ek agg es raw c) (H:St w0 w (HP.mo p raw c::HP.es R ok es m::ls)):St w0 w (HP.mr p ek agg R ok es0 raw0 c vis m::ls) :=
 St.exShut (es,raw) ((H.addFact (show RawUp es0 raw0 vis es raw/\MRaw ek agg es raw c from ⟨hU,hM⟩)).pm 3 [1,2,0] rfl)
theorem St.mrSkip (H:St w0 w (HP.mr p ek agg R ok es0 raw0 c vis m::ls)) (q:Nat):St w0 w (HP.mr p ek agg R ok es0 raw0 c (vis++[q]) m::ls):=by
 obtain ⟨es,raw,hU,hM,H⟩:=H.mrOpen
 exact St.mrShut (hU.next q) hM ((H.pm 3 [0,1,2] rfl).pm 3 [0,1,2] rfl |>.pm 3 [2,0,1] rfl).tail
theorem St.mrMm (H:St w0 w (HP.mr p ek agg R ok es0 raw0 c vis m::ls)):St w0 w (HP.mm p ek agg R ok m::ls):=by
 obtain ⟨es,raw,hU,hM,H⟩:=H.mrOpen
 have H1:=H.moMm 0 1 hM rfl rfl
 exact (H1.pm 3 [1,2,0] rfl).tail.tail
theorem aKu (kw:bN P ops W) (F:Fr N a sl) (hg:o.guard=none) (hd:o.dst=some d) (hN:Nat.blt d N.n=true) (ho:o.op=.next x false) (hx:ev sl x=some (.pointer (some ⟨r,0,none⟩))) (hv:VisOk es0.length vis) (H:St w0 w (HP.obj r (mit p c (bL raw0 vis))::HP.mr p ek agg R ok es0 raw0 c vis m::ls))
  (h0:(∀ q,q<es0.length->q∈vis)->∀ w' a',St w0 w' (HP.obj r (mit p c (bL raw0 vis))::HP.mr p ek agg R ok es0 raw0 c vis m::ls)->Fr N a' ((d,.tuple [.bool false].toArray)::sl)->W rest a' w')
  (h1:∀ q k cs v,es0[q]?=some (k,cs,v)->q ∉ vis->∀ w' a',St w0 w' (HP.obj r (mit p c (bL raw0 (vis++[q])))::HP.mr p ek agg R ok es0 raw0 c vis m::ls)->Fr N a' ((d,.tuple [.bool true,ek k,mkV agg cs].toArray)::sl)->W rest a' w'):W (o::rest) a w:=by
 obtain ⟨es,raw,hU,hM,H1⟩:=(H.pm 2 [1,0] rfl).mrOpen
 have hb:∀ v,bL raw v=bL raw0 v:=fun v=>wX hU.born v
 have H2:=H1.pm 4 [3,0,1,2] rfl
 rw [<- hb] at H2
 refine xL kw F hg hd hN ho hx hM (hU.vok hv) H2 1 0 rfl rfl rfl (fun hall w' a' H' F'=>?_) (fun q k cs v hq hn w' a' H' F'=>?_)
 ·rw [hb] at H'
  exact h0 (fun q hq=>hU.all hall q hq) w' a' ((St.mrShut hU hM ((H'.pm 4 [3,1,2,0] rfl).tail)).pm 2 [1,0] rfl) F'
 ·replace H':St w0 w' (HP.obj r (mit p c (bL raw (vis++[q])))::HP.mo p raw c::HP.es R ok es m::HP.fact (RawUp es0 raw0 vis es raw/\MRaw ek agg es raw c)::ls):=H'
  rw [hb] at H'
  exact h1 q k cs v (hU.at hq hn) hn w' a' ((St.mrShut hU hM ((St.pm (l:=HP.obj r (mit p c (bL raw0 (vis++[q])))::HP.mo p raw c::HP.es R ok es m::HP.fact (RawUp es0 raw0 vis es raw/\MRaw ek agg es raw c)::ls) H' 4 [3,1,2,0] rfl).tail)).pm 2 [1,0] rfl) F'
theorem aJn (F:Fr N a sl) (ho:o.op=.entry x) (hx:ev sl x=some (.pointer (some ⟨r,0,none⟩))) {q:Nat} {k:κ} {cs:List Value} {v:β} (hq:es0[q]?=some (k,cs,v)) (hn:q ∉ vis) (H:St w0 w (HP.obj r (mit p c (bL raw0 (vis++[q])))::HP.mr p ek agg R ok es0 raw0 c vis m::ls)) :
  (execOp a.eval o).run P w=.ok (.value (.tuple [ek k,mkV agg cs].toArray)) w:=by
 obtain ⟨es,raw,hU,hM,H1⟩:=(H.pm 2 [1,0] rfl).mrOpen
 have H2:=H1.pm 4 [3,0,1,2] rfl
 rw [<- wX hU.born] at H2
 exact uU F ho hx hM (by rw [hU.off q hn];exact hq) H2 1 0 rfl rfl rfl
theorem St.mrEl (H:St w0 w (HP.mr p ek agg R ok es0 raw0 c vis m::ls)) {q:Nat} {k:κ} {cs:List Value} {v:β} (hq:es0[q]?=some (k,cs,v)) (hn:q ∉ vis):ok k/\St w0 w (HP.rc R cs v::HP.mr p ek agg R ok es0 raw0 c vis m::ls):=by
 obtain ⟨es,raw,hU,hM,H1⟩:=H.mrOpen
 obtain ⟨h,H2⟩:=H1.esEl 1 rfl (show es[q]?=some (k,cs,v) by rw [hU.off q hn];exact hq)
 exact ⟨h,(St.mrShut hU hM ((H2.pm 4 [3,1,2,0] rfl).tail)).pm 2 [1,0] rfl⟩
theorem aNv (kw:bN P ops W) (F:Fr N a sl) (hg:o.guard=none) (hd:o.dst=none) (hT:P.underlying T=some (.map K E)) (hK:dS P K ek ok) (ho:o.op=.mapUpdate T x y z) {q:Nat} {k:κ} {cs0:List Value} {v0:β} (hq:es0[q]?=some (k,cs0,v0)) (H:St w0 w (HP.mr p ek agg R ok es0 raw0 c (vis++[q]) m::ls))
  (hx:ev sl x=some (.map p)) (hy:ev sl y=some (ek k)) {cs:List Value} (hz:ev sl z=some (mkV agg cs)) {v:β} (hrd:∀ {B:Base},(∀ (j:Nat) (C:HP),ls[j]?=some C->∃ S,C.pr B w S)->R.rd B cs v)
  (hk:∀ w',St w0 w' (HP.mr p ek agg R ok es0 raw0 c (vis++[q]) (aI k v m)::ls)->W rest a w'):W (o::rest) a w:=by
 obtain ⟨es,raw,hU,hM,H1⟩:=H.mrOpen
 have hkq:(es.map (·.1))[q]?=some k:=by rw [hU.key,List.getElem?_map,hq];rfl
 obtain ⟨u,hu,hu1⟩:∃ u,es[q]?=some u/\u.1=k:=by
  rw [List.getElem?_map] at hkq
  cases h:es[q]? with
  | none=>rw [h] at hkq;cases hkq
  | some u=>rw [h] at hkq;exact ⟨u,rfl,Option.some.inj hkq⟩
 obtain ⟨k',cs1,v1⟩:=u
 simp only at hu1
 subst hu1
 cases p with
 | none =>
  have h00:raw=#[]:=by obtain ⟨_,_,_,h,_⟩:=H1.get 0 rfl;exact h
  have hl:=hM.len
  have:=(List.getElem?_eq_some_iff.1 hu).1
  rw [h00] at hl
  simp at hl;omega
 | some b =>
  refine aOf kw F hg hd hT hK ho hM hU hu H1 0 1 rfl rfl rfl hx hy hz (fun gg=>hrd fun j C hj=>gg (j+3) C (by simpa using hj)) fun es' raw' w' hM' hU' _ H'=>hk w' ?_
  exact St.mrShut hU' hM' (St.pm (l:=HP.mo (some b) raw' c::HP.es R ok es' (aI k' v m)::HP.fact (RawUp es0 raw0 (vis++[q]) es raw/\MRaw ek agg es raw c)::ls) H' 3 [2,0,1] rfl).tail
theorem St.mmClone (H:St w0 w (HP.mm p ek agg R ok m::ls)):(p=none/\St w0 w (HP.mm none ek agg R ok m::HP.mm p ek agg R ok m::ls))\/∃ b raw c,p=some b/\w.heap[b]?=some (.map raw c)/\St w0 (w.alloc (.map raw c)) (HP.mm (some w.heap.size) ek agg R ok m::HP.mm p ek agg R ok m::ls):=by
 cases p with
 | none =>
  refine .inl ⟨rfl,H.more fun B hB hp=>?_⟩
  obtain ⟨S,es,hS⟩:=hp 0 _ rfl
  exact ⟨es,hS⟩
 | some b =>
  obtain ⟨raw,c,es,hM,hE,H1⟩:=H.moOpen 0 rfl
  replace H1:St w0 w (HP.es R ok es m::HP.mo (some b) raw c::ls):=H1
  have hh:w.heap[b]?=some (.map raw c):=by obtain ⟨_,_,_,h,_⟩:=H1.get 1 rfl;exact h.1
  refine .inr ⟨b,raw,c,rfl,hh,?_⟩
  have H2:St w0 (w.alloc (.map raw c)) (HP.mo (some w.heap.size) raw c::HP.es R ok es m::HP.mo (some b) raw c::ls):=(H1.newObj (.map raw c)).objMo 0 rfl
  have H3:St w0 (w.alloc (.map raw c)) (HP.mm (some w.heap.size) ek agg R ok m::HP.es R ok es m::HP.mo (some b) raw c::ls):=H2.moMm 0 1 hM rfl rfl
  have H4:St w0 (w.alloc (.map raw c)) (HP.mm (some w.heap.size) ek agg R ok m::HP.es R ok es m::HP.mm (some b) ek agg R ok m::ls):=H3.moMm 2 1 hM rfl rfl
  exact (H4.pm 3 [1,0,2] rfl).tail
end
end Go.Tri
namespace Go.Proofs.YtkcgdaihfblncaaGreatDoor
open Go.RowKit Go.Tri
variable {w0 w:World} {l:List HP}
set_option maxRecDepth 100000
set_option maxHeartbeats 4000000
theorem elem22:ElemT Tryz.prog 22 126 2 48 (.agg [.slice none 0 0,.slice none 0 0].toArray):=⟨Tryz.underlying22,by kernel_rfl,by kernel_rfl,by decide⟩
instance:ElmC Tryz.prog 22 126 2 48 (.agg [.slice none 0 0,.slice none 0 0].toArray):=⟨elem22⟩
theorem agz126:AggT Tryz.prog 126 2 ([.slice none (([]:List UInt8)).length 0,.slice none (([]:List UInt8)).length 0]):=⟨by rw [Tryz.underlying126];rfl,by kernel_rfl,by kernel_rfl⟩
theorem ent102:En Tryz.prog 102:=enters Tryz.func102 (by kernel_rfl) rfl
theorem fld126_1:aM Tryz.prog 126 1 1:=by unfold aM;rw [Tryz.underlying126];kernel_rfl
instance:FldC Tryz.prog 126 1 1:=⟨fld126_1⟩
theorem plain5:Plain Tryz.prog 5:=by unfold Plain;rw [u5];rfl
instance:PlnC Tryz.prog 5:=⟨plain5⟩
theorem aAg {list:List T_api_Pair} {p0:Option Addr} {c0:Nat} {r:((List UInt8)->Option aG)} (hm:lS list=some r) (H:St w0 w (HP.sl R_api_Pair p0 c0 list::l)) :
  Calls Tryz.prog 76 [.slice p0 (list).length c0].toArray w (fun e w'=>∃ v,e=.returned v/\∃ (m2:Nat),v=.map (some m2)/\St w0 w' (HP.mm (some m2) aU true aO (fun _=>True) r::l)):=by
 unfold lS at hm
 refine dM Tryz.func76 rfl rfl rfl ?_
 intro a F
 refine sb [0] F H rfl fun a F=>nl (sr (xS aU true aO (fun _=>True) wkP F rfl rfl rfl rfl H fun m3 w a H F=>bb [0] F H rfl fun a F=>?_))
 replace H:=H.nf 2 rfl
 refine nl (sr (xS aU false rHdr (fun _=>True) wkP F rfl rfl rfl rfl H fun m4 w a H F=>?_))
 replace H:=H.mwNil 5
 refine bb [0] F H rfl fun a F=>?_
 replace H:=H.nf 3 rfl
 refine nl (sq (sr (bk [0,0,0] F H rfl ⟨⟨_,Tryz.underlying22⟩,trivial⟩ fun a F=>?_)))
 refine nl (xm0 3 [3,4] [] F H hm rfl rfl (fun r0 z=>z) (fun r0 z=>HP.mw 5 (some m4) aU (fun _=>True) r0.1::HP.mm (some m3) aU true aO (fun _=>True) r0.2::z) (fun r0 hm=>?_) (fun r0 a w hm F H=>?_))
 refine bl (xl0 3 [3,4,16,17] [2] F H hm rfl rfl (fun (s0:((List UInt8)->Option (List UInt8))×((List UInt8)->Option aG)×Int) z=>(18,.int .i64 (s0.2.2))::z) (fun s0 z=>HP.mw 5 (some m4) aU (fun _=>True) s0.1::HP.mm (some m3) aU true aO (fun _=>True) s0.2.1::z) ⟨F.sl rfl,H⟩ (fun s0 a w o F H hm=>sb [0] F H rfl fun a F=>?_))
 refine nl (sq (cPm F rfl hm (fun hg0 hm=>?_) (fun hg0 hm=>?_)))
 refine sk (ct (sq (xm0 3 [3,4,16,17,18] [2] F H hm rfl rfl (fun r1 z=>z) (fun r1 z=>HP.mw 5 (some m4) aU (fun _=>True) r1.1::HP.mm (some m3) aU true aO (fun _=>True) r1.2::z) (fun r1 hm=>?_) (fun r1 a w hm F H=>?_))))
 refine bl (sr ?_)
 obtain ⟨x0,ex0,hm⟩:=ob hm
 obtain ⟨b0,o0,hp0,cs0,H⟩:=H.slE 2 rfl ex0
 refine sv F rfl (dW F elem22 rfl rfl rfl hp0 ex0) fun a F=>bk [999] F H rfl ⟨rfl,(bY agg126 (H.rL 1 rfl)),trivial⟩ fun a F=>?_
 replace H:=H.oN rByte 5
 replace H:=H.oN rByte 5
 refine bE wkP F rfl rfl rfl agz126 rfl H fun b1 w a H F=>aJ wkP F rfl rfl agg126 rfl rfl rfl H 0 rfl (H.rL 4 rfl) rfl (H.rF 4 rfl) fun w H=>?_
 replace H:=H.nf 8 rfl
 refine nb [0,0] F H rfl fun a F=>nl (sq (sr (bk [0] F H rfl ⟨fld126_0,trivial⟩ fun a F=>?_)))
 have G:=F;replace H:=rc_api_Pair (H.pk 4 rfl);obtain ⟨p1,c1,p2,c2,rfl,J⟩:=H;have H:=J;have F:=G;clear G J
 refine bk [2000,0,0] F H rfl ⟨rfl,plain30,⟨_,u30⟩,trivial⟩ fun a F=>?_
 refine nl (xm0 9 [3,4,6,16,17,18] [0,1,2,3,4,5,6,7,8] F H hm rfl rfl (fun r2 z=>(7,.string (txb (r2.1)))::(8,.string (txb (r2.2)))::z) (fun r2 z=>z) (fun r2 hm=>?_) (fun r2 a w hm F H=>?_))
 refine cPm F rfl hm (fun hg1 hm=>?_) (fun hg1 hm=>?_)
 obtain ⟨x1,ex1,hm⟩:=ob hm
 have hc981:=H.slCap 0 rfl
 replace H:=H.slSubN 1 rfl 0 rfl ex1
 obtain ⟨x2,ex2,hm⟩:=ob hm
 have hc983:=H.slCap 1 rfl
 replace H:=H.slSubN 1 rfl 1 rfl ex2
 refine qr H (by kernel_rfl) (by kernel_rfl) ?_
 refine qbk [0,4000] F rfl ⟨fld126_0,rfl,plain30,trivial⟩ fun a F=>qv F rfl (fun u hu=>nI F elem30 rfl rfl rfl ex1 hc981) fun a F=>qv F rfl (fun u hu=>uV F u30 u9 u5 rfl rfl (hu) 1 rfl) fun a F=>qbk [0,4000] F rfl ⟨fld126_0,rfl,plain30,trivial⟩ fun a F=>qv F rfl (fun u hu=>iS F elem30 rfl rfl rfl ex2 hc983) fun a F=>qv F rfl (fun u hu=>uV F u30 u9 u5 rfl rfl (hu) 0 rfl) fun a F=>qb [0,0] F rfl fun a F=>?_
 refine pT fun w H=>?_
 cases hm
 exact ct ⟨F.sl rfl,(H.pm 11 [2,3,4,5,6,7,8,9,10] rfl:)⟩
 refine sk ?_
 cases hm
 exact ct ⟨F.sl rfl,H⟩
 refine ct (xm0 9 [3,4,16,17,18] [0,1,2,3,4,5,8] F H hm rfl rfl (fun r3 z=>z) (fun r3 z=>HP.mw 5 (some m4) aU (fun _=>True) r3.1::HP.mm (some m3) aU true aO (fun _=>True) r3.2::z) (fun r3 hm=>?_) (fun r3 a w hm F H=>?_))
 refine bl (sb [0] F H rfl fun a F=>sv F rfl (rA (l:=r2.1) (m:=[99]) F rfl rfl rfl) fun a F=>bb [0] F H rfl fun a F=>?_)
 refine nl (xm0 9 [3,4,16,17,18] [0,1,2,3,4,5,8] F H hm rfl rfl (fun r4 z=>z) (fun r4 z=>HP.mw 5 (some m4) aU (fun _=>True) r4.1::HP.mm (some m3) aU true aO (fun _=>True) r4.2::z) (fun r4 hm=>?_) (fun r4 a w hm F H=>?_))
 refine cPm F rfl hm (fun hg2 hm=>?_) (fun hg2 hm=>?_)
 refine sb [0] F H rfl fun a F=>?_
 obtain ⟨x3,ex3,hm⟩:=ob hm
 refine sd F rfl ent102 (xJ ex3 H:) ?_;rintro _ w a ⟨rfl,H⟩ F
 refine bb (List.replicate 7 0) F H rfl fun a F=>?_
 replace H:=H.nf 9 rfl
 refine nl (rl (bb [0,0,0,0] F H rfl fun a F=>?_))
 obtain ⟨hm0,q1038,c3,hh1038,H⟩:=(H.pm 9 [6,0,1,2,3,4,5,7,8] rfl:).mwTake x3.1
 refine sv F rfl (aLy F Tryz.underlying162 (eI u9) (fun w=>zero30.run w) rfl H 2 rfl rfl (k:=x3.1) rfl trivial hh1038) fun a F=>bk [1,5001] F H rfl ⟨fld126_1,rfl,plain30,trivial⟩ fun a F=>?_
 obtain ⟨x4,ex4,hm⟩:=ob hm
 refine cE wkP F rfl rfl rfl rfl rfl rfl elem30 rfl ex4 H 0 4 rfl rfl fun p3 c4 w a H F=>?_
 refine gT wkP F rfl rfl Tryz.underlying162 (eI u9) rfl H 2 rfl rfl (k:=x3.1) rfl (cs:=[.slice p3 (x4).length c4]) rfl trivial (v:=(p3,x4.length,c4)) (fun gg=>rfl) fun w H=>?_
 replace H:=H.mwPut
 replace H:=H.nf 9 rfl
 refine lz ?_
 cases hm
 exact ct ⟨F.sl rfl,(H.pm 9 [0,7,1,2,3,4,5,6,8] rfl:)⟩
 refine sb [0] F H rfl fun a F=>sv F rfl (rA (l:=r2.1) (m:=[110]) F rfl rfl rfl) fun a F=>bb [0] F H rfl fun a F=>?_
 refine nl (xm0 9 [3,4,16,17,18] [0,1,2,3,4,5,6,8] F H hm rfl rfl (fun r5 z=>z) (fun r5 z=>HP.mm (some m3) aU true aO (fun _=>True) r5::z) (fun r5 hm=>?_) (fun r5 a w hm F H=>?_))
 refine cPm F rfl hm (fun hg3 hm=>?_) (fun hg3 hm=>?_)
 refine rl (bk [0,0,1,2001,0,0,0] F H rfl ⟨fld126_1,rfl,plain30,⟨_,u30⟩,trivial⟩ fun a F=>?_)
 rcases spP 60 F rfl hm with ⟨hg4,hm,F⟩ | ⟨hg4,hm,F⟩
 refine bk [1,2001] F H rfl ⟨fld126_1,rfl,plain30,trivial⟩ fun a F=>nE F rfl rfl rfl rfl ?_
 obtain ⟨x5,ex5,hm⟩:=ob hm
 obtain ⟨b2,o1,hp1,cs1,H⟩:=H.slE 1 rfl ex5
 obtain rfl:=H.rcB 1 rfl
 replace H:=H.dp 1 rfl
 refine sv F rfl (dW F elem30 rfl rfl rfl hp1 ex5) fun a F=>bk [0,0,0] F H rfl ⟨rfl,plain5,trivial⟩ fun a F=>?_
 replace H:=H.oN rByte 5
 refine sv F rfl (bU F rfl rfl (cs:=[.bool (decide (((x5).toNat:Int)=100)),.slice none (([]:List UInt8)).length 0]) (by kernel_rfl)) fun a F=>?_
 replace H:=H.frz 0 rfl
 refine gT wkP F rfl rfl fG (eI u9) rfl H 9 rfl rfl (k:=r2.2) rfl (cs:=[.bool (decide (((x5).toNat:Int)=100)),.slice none (([]:List UInt8)).length 0]) rfl trivial (v:=(decide (((x5).toNat:Int)=100),([]:List UInt8))) (fun gg=>⟨_,_,rfl,rfl,⟨_,_,rfl,(gg 0 _ rfl).choose_spec⟩⟩) fun w H=>?_
 replace H:=H.nf 11 rfl
 refine lz ?_
 cases hm
 exact ct ⟨F.sl rfl,(H.pm 11 [9,2,3,4,5,6,7,8,10] rfl:)⟩
 refine bb (List.replicate 6 0) F H rfl fun a F=>?_
 replace H:=H.oN rByte 5
 refine sv F rfl (bU F rfl rfl (cs:=[.bool false,.slice none (([]:List UInt8)).length 0]) (by kernel_rfl)) fun a F=>?_
 replace H:=H.frz 0 rfl
 refine gT wkP F rfl rfl fG (eI u9) rfl H 8 rfl rfl (k:=r2.2) rfl (cs:=[.bool false,.slice none (([]:List UInt8)).length 0]) rfl trivial (v:=(false,([]:List UInt8))) (fun gg=>⟨_,_,rfl,rfl,⟨_,_,rfl,(gg 0 _ rfl).choose_spec⟩⟩) fun w H=>?_
 replace H:=H.nf 10 rfl
 refine lz ?_
 cases hm
 exact ct ⟨F.sl rfl,(H.pm 10 [8,1,2,3,4,5,6,7,9] rfl:)⟩
 refine sk ?_
 cases hm
 exact ct ⟨F.sl rfl,(H.pm 9 [7,0,1,2,3,4,5,6,8] rfl:)⟩
 cases hm
 exact ct ⟨F.sl rfl,(H.pm 9 [7,0,1,2,3,4,5,6,8] rfl:)⟩
 refine bn ?_
 cases hm
 exact ct ⟨F.sl rfl,H⟩
 refine bn ?_
 cases hm
 exact ct ⟨F.sl rfl,(H.pm 9 [0,1,8] rfl:)⟩
 refine ct (rl (bb [0,0] F H rfl fun a F=>?_))
 refine lz (ct ?_);cases hm
 exact ⟨_,rfl,⟨F.sl rfl,H⟩⟩
 refine ex (cx (cx ?_));cases hm;refine ⟨_,rfl,?_⟩;rintro rfl
 refine ch (ct ?_)
 exact ⟨F.sl rfl,(H.pm 3 [0,1] rfl:)⟩
 refine ct (sq (sb [0] F H rfl fun a F=>?_))
 replace H:=H.mwFrz
 obtain ⟨raw1052,cl1052,es0,hM1052,hE1052,H⟩:=H.moOpen 1 rfl
 refine wR wkP F rfl rfl rfl fG rfl H 2 rfl rfl fun r6 w a H F=>?_
 replace H:=((H.pm 4 [3,1,0,2] rfl:)).mrStart hM1052
 replace H:=H.nf 3 rfl
 refine nl (bl ?_)
 have hmM1109:=hm;clear hm
 refine tP es0 hmM1109 (fun (s1:((List UInt8)->Option aG)) vis1109 aa ww=>Fr ⟨86,[]⟩ aa [(3,.map (some m3)),(4,.map (some m4)),(70,.pointer (some ⟨r6,0,none⟩))]/\St w0 ww (HP.mr (some m3) aU true aO (fun _=>True) es0 raw1052 cl1052 (vis1109) s1::HP.obj r6 (mit (some m3) cl1052 (bL raw1052 (vis1109)))::HP.mm (some m4) aU false (rSl rByte) (fun _=>True) r0.1::l)) ⟨F.sl rfl,H⟩ ?_
 clear F H
 rintro s1 vis1109 a w hr1109 ⟨F,H⟩
 refine sr ?_
 replace H:=(H.pm 3 [1,0,2] rfl:)
 refine aKu wkP F rfl rfl rfl rfl rfl hr1109.ok H (fun hall1110 w a H F=>?_) (fun q1110 k1110 cs2 v1110 hq1110 hn1110 w a H F=>?_)
 have hm:=vV (hr1109.done hE1052 hall1110 hmM1109)
 refine bb [0] F H rfl fun a F=>nl (sq (cF F rfl ?_))
 refine ex (cx (cx ?_))
 replace H:=(H.pm 3 [1,0,2] rfl:).mrMm
 refine ch (ct (sb [0,0] F H rfl fun a F=>?_))
 refine nl (wr ?_)
 cases hm
 refine eF F rfl rfl ?_
 exact ⟨_,rfl,m3,rfl,(H.pm 3 [0] rfl:)⟩
 obtain ⟨o2,hm,hs1110,hx0⟩:=hr1109.step hE1052 hq1110 hn1110 hmM1109
 refine bb [0] F H rfl fun a F=>nl (sq (cT F rfl ?_))
 refine sk (ct (xm0 3 [3,4,70] [0,2] F H hm rfl rfl (fun r7 z=>z) (fun r7 z=>HP.mr (some m3) aU true aO (fun _=>True) es0 raw1052 cl1052 (vis1109++[q1110]) r7::z) (fun r7 hm=>?_) (fun r7 a w hm F H=>?_)))
 refine bl (sr ?_)
 obtain ⟨hk1125,H⟩:=(H.pm 3 [1,0,2] rfl:).mrEl hq1110 hn1110
 replace H:=(H.pm 4 [2,1,0,3] rfl:)
 refine sv F rfl (aJn (agg:=true) (ek:=aU) F rfl rfl hq1110 hn1110 H) fun a F=>?_
 replace H:=(H.pm 4 [1,0,2,3] rfl:).mrSkip q1110
 refine bb [0,0] F H rfl fun a F=>?_
 replace H:=H.oN rByte 5
 refine bE wkP F rfl rfl rfl agz142 rfl H fun b3 w a H F=>bb [0] F H rfl fun a F=>aJ wkP F rfl rfl agg142 rfl rfl rfl H 0 rfl (H.rL 4 rfl) rfl (H.rF 4 rfl) fun w H=>?_
 replace H:=H.nf 6 rfl
 refine nl (sr (bk [0] F H rfl ⟨fld142_0,trivial⟩ fun a F=>?_))
 have G:=F;replace H:=lV (H.pk 4 rfl);obtain ⟨p4,c5,rfl,J⟩:=H;have H:=J;have F:=G;clear G J
 refine bk [1000,0] F H rfl ⟨rfl,plain4,trivial⟩ fun a F=>?_
 refine nl (xm0 6 [3,4,70] [0,1,2,4,5] F H hm rfl rfl (fun r8 z=>z) (fun r8 z=>HP.mr (some m3) aU true aO (fun _=>True) es0 raw1052 cl1052 (vis1109++[q1110]) r8::z) (fun r8 hm=>?_) (fun r8 a w hm F H=>?_))
 refine cB F rfl (fun hg5=>?_) (fun hg5=>?_)
 replace hm:=ifT hg5 hm
 refine rl (bb [0,0,0,0] F H rfl fun a F=>?_)
 obtain ⟨es1,H⟩:=H.mmOpen 5 rfl
 obtain ⟨cs3,hcs0,H⟩:=H.mxGet 5 rfl k1110 (zc:=[Value.slice none 0 0]) (z0:=[]) (fun _=>mS _ _)
 have G:=F;obtain ⟨p5,c6,rfl,H⟩:=H.rcSl 0 rfl;have F:=G;clear G
 replace H:=H.dp 1 rfl
 refine sv F rfl (wM (agg:=false) (zc:=[Value.slice none 0 0]) F Tryz.underlying162 (eI u9) (fun w=>zero30.run w) rfl H 6 rfl rfl (k:=k1110) rfl trivial hcs0) fun a F=>sv F rfl (bU F rfl rfl (cs:=[.bool false,.slice p5 (((r0.1 k1110).getD [])).length c6]) (by kernel_rfl)) fun a F=>?_
 replace H:=(H.pm 7 [4,0,1,2,3,5,6] rfl:)
 refine aNv wkP F rfl rfl fG (eI u9) rfl hq1110 H rfl rfl (cs:=[.bool false,.slice p5 (((r0.1 k1110).getD [])).length c6]) rfl (v:=(false,((r0.1 k1110).getD []))) (fun gg=>⟨_,_,rfl,rfl,⟨_,_,rfl,(gg 0 _ rfl).choose_spec⟩⟩) fun w H=>?_
 refine lz ?_
 replace H:=H.mxShut 6 rfl
 cases hm
 exact ct ⟨F.sl rfl,(H.pm 7 [0,2,3,4,5,6] rfl:)⟩
 replace hm:=ifF (nT hg5) hm
 refine sk ?_
 cases hm
 exact ct ⟨F.sl rfl,(H.pm 6 [3,0,1,2,4,5] rfl:)⟩
 refine bn ?_
 cases hm
 exact ct ⟨F.sl rfl,(H.pm 6 [0,4,5] rfl:)⟩
 refine ct ?_;cases hm
 exact ⟨_,q1110,hs1110 _ rfl,⟨F.sl rfl,H⟩⟩
instance:Ctr Tryz.prog 76 0 (type_of% @aAg):=⟨enters Tryz.func76 (by kernel_rfl) rfl,@aAg⟩
theorem zero22:Zero1 Tryz.prog 22 (.slice none 0 0):=⟨by kernel_rfl,rfl⟩
instance:ZerC Tryz.prog 22 (.slice none 0 0):=⟨zero22⟩
theorem jK:Plain Tryz.prog 22:=by unfold Plain;rw [Tryz.underlying22];rfl
instance:PlnC Tryz.prog 22:=⟨jK⟩
theorem ent112:En Tryz.prog 112:=enters Tryz.func112 (by kernel_rfl) rfl
theorem ent87:En Tryz.prog 87:=enters Tryz.func87 (by kernel_rfl) rfl
theorem ent56:En Tryz.prog 56:=enters Tryz.func56 (by kernel_rfl) rfl
theorem ent58:En Tryz.prog 58:=enters Tryz.func58 (by kernel_rfl) rfl
theorem ent111:En Tryz.prog 111:=enters Tryz.func111 (by kernel_rfl) rfl
theorem ent132:En Tryz.prog 132:=enters Tryz.func132 (by kernel_rfl) rfl
theorem aHa {s:(List UInt8)->Option aG} {q1:Option Nat} {r:(List T_api_Pair)} (hm:eJ s=some r) (H:St w0 w (HP.mm q1 aU true aO (fun _=>True) s::l)) :
  Calls Tryz.prog 79 [.map q1].toArray w (fun e w'=>∃ v,e=.returned v/\∃ (p0:Option Addr) (c0:Nat),v=.slice p0 (r).length c0/\St w0 w' (HP.ow R_api_Pair 126 p0 c0 r::HP.mm q1 aU true aO (fun _=>True) s::l)):=by
 unfold eJ at hm
 refine aNi Tryz.func79 rfl rfl rfl ?_
 intro a F
 replace H:=H.mks0
 refine sr ?_
 replace H:=H.oN R_api_Pair 126
 refine sR wkP F rfl rfl rfl zero22 rfl H fun b0 w a H F=>?_
 replace H:=H.nf 4 rfl
 refine nl (sq (sb [0] F H rfl fun a F=>?_))
 obtain ⟨raw4,cl4,es0,hM4,hE4,H⟩:=H.moOpen 3 rfl
 refine wR wkP F rfl rfl rfl fG rfl H 4 rfl rfl fun r0 w a H F=>?_
 replace H:=H.nf 6 rfl
 refine nl (bl ?_)
 have hmM733:=hm;clear hm
 refine tP es0 hmM733 (fun (s0:(List T_api_Pair)) vis733 aa ww=>∃ (Ds734:List Nat) (p1:Option Addr) (c1:Nat),Fr ⟨67,marks Ds734⟩ aa [(2,.pointer (some ⟨b0,0,none⟩)),(10,.pointer (some ⟨r0,0,none⟩))]/\St w0 ww (HP.obj r0 (mit q1 cl4 (bL raw4 (vis733)))::HP.es aO (fun _=>True) es0 s::HP.blk b0 ([.slice p1 (s0).length c1]) 22::HP.mks Ds734::HP.mo q1 raw4 cl4::HP.ow R_api_Pair 126 p1 c1 s0::l)) ⟨[],none,0,F.sl rfl,(H.pm 6 [0,1,2,4,5,3] rfl:)⟩ ?_
 clear F H
 rintro s0 vis733 a w hr733 ⟨Ds734,p1,c1,F,H⟩
 refine sr (xL wkP F rfl rfl rfl rfl rfl hM4 hr733.ok H 4 0 rfl rfl rfl (fun hall736 w a H F=>?_) (fun q736 k736 cs0 v736 hq736 hn736 w a H F=>?_))
 have hm:=vV (hr733.done hE4 hall736 hmM733)
 refine bb [0] F H rfl fun a F=>nl (sq (cF F rfl ?_))
 refine ex (cx (cx ?_))
 replace H:=H.moMm 4 1 hM4 rfl rfl
 refine ch (ct (sr (bk [2000] F H rfl ⟨rfl,jK,trivial⟩ fun a F=>?_)))
 obtain ⟨x737,ex0,hm⟩:=ob hm
 refine sd F rfl ent112 (wQ ex0 (H.pm 6 [5,0,1,2,3,4] rfl:):) ?_;rintro _ w a ⟨rfl,hl0,H⟩ F
 replace H:St w0 w (HP.ow R_api_Pair 126 p1 c1 x737::HP.obj r0 (mit q1 cl4 (bL raw4 (vis733)))::HP.es aO (fun _=>True) es0 s::HP.blk b0 ([.slice p1 (x737).length c1]) 22::HP.mks Ds734::HP.mm q1 aU true aO (fun _=>True) s::l):=(by rw [hl0];exact H)
 replace F:=F.bool (k:=64) (u:=.slice p1 (x737).length c1) rfl (by rw [hl0])
 refine nl (sr (bk [3000] F H rfl ⟨rfl,jK,trivial⟩ fun a F=>cN wkP F rfl rfl zero22 rfl rfl rfl rfl rfl H 3 rfl rfl fun w H=>?_))
 replace H:=H.nf 6 rfl
 refine nl (wr ?_)
 cases hm
 refine aOi F rfl ((H.pm 6 [4,0,1,2,3,5] rfl:)) (fun w H=>⟨_,rfl,ld1 jK ((H.blk 3 rfl).cell _)⟩) fun w H=>?_
 exact ⟨_,rfl,p1,c1,rfl,(H.pm 5 [0,4] rfl:)⟩
 obtain ⟨o0,hm,hs736,hx0⟩:=hr733.step hE4 hq736 hn736 hmM733
 refine bb [0] F H rfl fun a F=>nl (sq (cT F rfl (sk (ct ?_))))
 obtain ⟨r1,er917,hm0⟩:=ob hm;clear hm;revert er917;intro hm
 refine fQ (fun aa ww=>∃ (Ds918:List Nat) (p2:Option Addr) (c2:Nat),Fr ⟨67,marks Ds918⟩ aa [(2,.pointer (some ⟨b0,0,none⟩)),(10,.pointer (some ⟨r0,0,none⟩))]/\St w0 ww (HP.obj r0 (mit q1 cl4 (bL raw4 (vis733++[q736])))::HP.es aO (fun _=>True) es0 s::HP.blk b0 ([.slice p2 (r1).length c2]) 22::HP.mks Ds918::HP.mo q1 raw4 cl4::HP.ow R_api_Pair 126 p2 c2 r1::l)) ?_ ?_
 refine bl (sr ?_)
 obtain ⟨hk920,H⟩:=H.esEl 1 rfl hq736
 refine sv F rfl (uU (agg:=true) (ek:=aU) F rfl rfl hM4 hq736 H 5 1 rfl rfl rfl) fun a F=>bb [0,0] F H rfl fun a F=>sR wkP F rfl rfl rfl zero9 rfl H fun b1 w a H F=>?_
 replace H:=H.oN rByte 5
 refine bE wkP F rfl rfl rfl agz142 rfl H fun b2 w a H F=>cN wkP F rfl rfl zero9 rfl rfl rfl rfl rfl H 2 rfl rfl fun w H=>aJ wkP F rfl rfl agg142 rfl rfl rfl H 0 rfl (H.rL 3 rfl) rfl (H.rF 3 rfl) fun w H=>?_
 replace H:=H.nf 10 rfl
 refine nl (sr (bk [2000] F H rfl ⟨rfl,plain9,trivial⟩ fun a F=>?_))
 obtain ⟨x923,ex1,hm⟩:=ob hm
 refine sv F rfl (mU F rfl rfl rfl ex1) fun a F=>?_
 refine iI (e:=5) (xs:=x923) wkP F rfl rfl rfl u9 u30 u5 rfl rfl H fun b3 c3 w a H F=>?_
 refine bb [0] F H rfl fun a F=>?_
 replace H:=H.nf 11 rfl
 refine nl (sq (sr (bk [0] F H rfl ⟨fld142_0,trivial⟩ fun a F=>?_)))
 have G:=F;replace H:=lV (H.pk 4 rfl);obtain ⟨p3,c4,rfl,J⟩:=H;have H:=J;have F:=G;clear G J
 refine bk [2000] F H rfl ⟨rfl,plain4,trivial⟩ fun a F=>?_
 refine nl (cB F rfl (fun hg0=>?_) (fun hg0=>?_))
 replace hm:=ifT hg0 hm
 refine sr (bk [7000,0] F H rfl ⟨rfl,jK,trivial⟩ fun a F=>?_)
 obtain ⟨x929,ex2,hm⟩:=ob hm
 refine dU wkP F rfl rfl rfl elem30 zero5 rfl rfl rfl rfl (by simp [Value.cells]) (by decide) H fun b4 w a H F=>?_
 replace H:=H.bO (R:=rByte) (x:=x929) (fun gg=>(congrArg (fun z=>[Value.int .u8 z]) (cP ex2).symm))
 refine sv F rfl (bU F rfl rfl (cs:=[.slice (some ⟨b3,0,none⟩) (x923).length c3,.slice (some ⟨b4,0,none⟩) ([x929]).length (([x929]).length)]) (by kernel_rfl)) fun a F=>?_
 replace H:=H.cvFrz 2 rfl
 replace H:=H.frz 1 rfl
 refine gQ wkP F rfl rfl rfl agg126 elem22 rfl rfl rfl (by decide) H fun b5 w a H F=>?_
 replace H:=H.bO (R:=R_api_Pair) (x:=(x923,[x929])) (fun gg=>⟨_,_,rfl,⟨_,_,rfl,(gg 2 _ rfl).choose_spec⟩,⟨_,_,rfl,(gg 1 _ rfl).choose_spec⟩⟩)
 replace H:=H.frz 0 rfl
 obtain ⟨x932,ex3,hm⟩:=ob hm
 refine cE wkP F rfl rfl rfl rfl rfl rfl elem22 rfl ex3 H 12 0 rfl rfl fun p4 c5 w a H F=>?_
 refine cN wkP F rfl rfl zero22 rfl rfl rfl rfl rfl H 9 rfl rfl fun w H=>?_
 replace H:=H.nf 13 rfl
 refine nl (ex (cx (ch ?_)))
 cases hm
 exact ct ⟨Ds734,p4,c5,F.sl rfl,(H.pm 13 [7,8,9,10,11,12] rfl:)⟩
 replace hm:=ifF (nT hg0) hm
 refine sk (ct (sr ?_))
 replace H:=H.oN rByte 5
 refine sv F rfl (bU F rfl rfl (cs:=[.slice none (([]:List UInt8)).length 0]) (by kernel_rfl)) fun a F=>gB wkP F rfl rfl rfl rfl rfl H fun b6 w a H F=>bb [0] F H rfl fun a F=>?_
 replace H:=H.nf 13 rfl
 refine nb [0] F H rfl fun a F=>?_
 obtain ⟨x935,ex4,hm⟩:=ob hm
 refine dU wkP F rfl rfl rfl elem30 zero5 rfl rfl rfl rfl (by simp [Value.cells]) (by decide) H fun b7 w a H F=>?_
 replace H:=H.bO (R:=rByte) (x:=x935) (fun gg=>(congrArg (fun z=>[Value.int .u8 z]) (cP ex4).symm))
 replace H:=O_pack_Pen_s (x0:=([]:List UInt8)) (H.pm 14 [1,2,0,3,4,5,6,7,8,9,10,11,12,13] rfl:)
 replace H:=H.frz 1 rfl
 obtain ⟨x936,ex5,hm⟩:=ob hm
 refine sd F rfl ent87 (w_penRaw ex5 (H.pm 13 [1,0,0,2,3,4,5,6,7,8,9,10,11,12] rfl:):) ?_;rintro _ w a ⟨rfl,H⟩ F
 replace H:=H.nf 13 rfl
 refine nl (sr (bk [0,1,4001,0,2] F H rfl ⟨fld142_1,rfl,plain30,⟨_,u30⟩,u3,Tryz.underlying29,trivial⟩ fun a F=>?_))
 obtain ⟨x937,ex6,hm⟩:=ob hm
 refine sd F rfl ent56 (w_penUint ex6 H:) ?_;rintro _ w a ⟨rfl,H⟩ F
 replace H:=H.nf 13 rfl
 refine nl (sq (eT [3,5,6,7] [7] (scL [0,1,2,2003,4,2005,2006,3007]) [9] H rfl rfl (by kernel_rfl) (by kernel_rfl) fun w H=>?_))
 refine bH F rfl rfl rfl rfl (fun u hu=>bS F jK rfl rfl ((hu.choose_spec.blk 0 rfl).cell _)) fun a F=>?_
 refine mb [0,0] F H rfl fun a F=>aE rfl rfl ?_
 obtain ⟨x938,ex7,hm⟩:=ob hm
 refine sd F rfl ent58 (w_penData ex7 H:) ?_;rintro _ w a ⟨p5,c6,rfl,H⟩ F
 refine lz ?_;refine ct ⟨⟨_,(H.pm 14 [10,0,1,2,3,4,5,6,7,8,9,11,12,13] rfl:)⟩,?_⟩
 refine bH F rfl rfl rfl rfl (fun u hu=>bU F rfl rfl (cs:=[.slice (some ⟨b3,0,none⟩) (x923).length c3,.slice p5 (x938.1).length c6]) (by kernel_rfl)) fun a F=>?_
 refine aE rfl rfl ?_
 replace H:=H.cvFrz 4 rfl
 replace H:=H.frz 1 rfl
 refine gQ wkP F rfl rfl rfl agg126 elem22 rfl rfl rfl (by decide) H fun b8 w a H F=>?_
 replace H:=H.bO (R:=R_api_Pair) (x:=(x923,x938.1)) (fun gg=>⟨_,_,rfl,⟨_,_,rfl,(gg 2 _ rfl).choose_spec⟩,⟨_,_,rfl,(gg 1 _ rfl).choose_spec⟩⟩)
 refine lz ?_;refine ct ⟨⟨_,(H.pm 15 [11,0,1,2,3,4,5,6,7,8,9,10,12,13,14] rfl:)⟩,?_⟩
 refine aE rfl rfl ?_
 replace H:=H.frz 0 rfl
 obtain ⟨x942,ex8,hm⟩:=ob hm
 refine cE wkP F rfl rfl rfl rfl rfl rfl elem22 rfl ex8 H 14 0 rfl rfl fun p6 c7 w a H F=>?_
 refine lz ?_;refine ct ⟨⟨_,(H.pm 15 [11,0,1,2,3,4,5,6,7,8,9,10,12,13,14] rfl:)⟩,?_⟩
 refine dF rfl rfl (cN wkP F rfl rfl zero22 rfl rfl rfl rfl rfl H 11 rfl rfl fun w H=>?_)
 refine lz ?_;refine ct ?_
 refine bR (ct (sr (sR wkP F rfl rfl rfl zero3 rfl H fun b9 w a H F=>cN wkP F rfl rfl zero3 rfl rfl rfl rfl rfl H 0 rfl rfl fun w H=>?_)))
 replace H:=H.nf 16 rfl
 refine nl (sr (bk [1,7001] F H rfl ⟨fld142_1,rfl,plain30,trivial⟩ fun a F=>?_))
 obtain ⟨x945,ex9,hm⟩:=ob hm
 refine rM wkP F rfl rfl rfl rfl (nA F rfl rfl ent111) (uJ p3 _ c4 64 (yV ex9).1 (yV ex9).2.1 w0 _ _ H) ?_;rintro _ w a ⟨b10,b11,rfl,H⟩ F
 replace H:=H.nf 18 rfl
 refine nl (bl ?_)
 obtain ⟨_,hn948,hm1,hq948⟩:=yV ex9
 replace H:=(H.pm 18 [8,0,1,2,3,4,5,6,7,8,9,10,11,12,13,14,15,16,17] rfl:)
 replace H:St w0 w (HP.sl rByte p3 c4 v736.2::HP.blk b11 ([.int .i64 (((x945:Nat):Int))]) 3::HP.blk b10 ([.slice p3 (v736.2).length c4]) 30::HP.blk b9 ([.int .i64 (0)]) 3::HP.sl R_api_Pair (some ⟨b8,0,none⟩) (([(x923,x938.1)]).length) ([(x923,x938.1)])::HP.sl rByte p5 c6 x938.1::HP.sl rByte (some ⟨b3,0,none⟩) c3 x923::O_pack_Pen_1 b6 x938.2::HP.sl rByte (some ⟨b7,0,none⟩) (([x935]).length) ([x935])::HP.sl rByte p3 c4 v736.2::HP.blk b2 ([.bool (v736.1),.slice p3 (v736.2).length c4]) 142::HP.ow rByte 5 none 0 ([]:List UInt8)::HP.blk b1 ([.string (txb (k736))]) 9::HP.obj r0 (mit q1 cl4 (bL raw4 (vis733++[q736])))::HP.es aO (fun _=>True) es0 s::HP.blk b0 ([.slice p6 (x942).length c7]) 22::HP.mks Ds734::HP.mo q1 raw4 cl4::HP.ow R_api_Pair 126 p6 c7 x942::l):=H
 obtain ⟨o1,eo1047,hm2⟩:=ob hm;clear hm
 refine aPf (gf:=132) (lb:=[.pointer (some ⟨b10,0,none⟩),.pointer (some ⟨b11,0,none⟩)]) (ps:=[48]) (zs:=(cQ x945 v736.2)) (enc:=(fun z:Nat×List UInt8=>[.slice (shp p3 (z.1+z.2.length) z.1 1) z.2.length z.2.length])) (l:=[(2,.pointer (some ⟨b0,0,none⟩)),(3,.pointer (some ⟨b1,0,none⟩)),(7,.pointer (some ⟨b9,0,none⟩)),(10,.pointer (some ⟨r0,0,none⟩)),(47,.func (.func 132) #[] [.pointer (some ⟨b10,0,none⟩),.pointer (some ⟨b11,0,none⟩)].toArray)]) (own:=[HP.blk b11 ([.int .i64 (((x945:Nat):Int))]) 3,HP.blk b10 ([.slice p3 (v736.2).length c4]) 30,HP.sl rByte p3 c4 v736.2]) (fr:=l) (fun z=>z.2) (F.cut _ ⟨rfl,rfl,rfl,rfl,rfl,trivial⟩) rfl ent132 (aO6 b10 b11 p3 c4 v736.2 x945 hn948 hm1 hq948) (fun (s1:Int×(List T_api_Pair)) (i1047:(Option Addr)×Nat)=>[HP.blk b9 ([.int .i64 (s1.1)]) 3,O_pack_Pen_1 b6 x938.2,HP.sl rByte p3 c4 v736.2,HP.blk b2 ([.bool (v736.1),.slice p3 (v736.2).length c4]) 142,HP.ow rByte 5 none 0 ([]:List UInt8),HP.blk b1 ([.string (txb (k736))]) 9,HP.obj r0 (mit q1 cl4 (bL raw4 (vis733++[q736]))),HP.es aO (fun _=>True) es0 s,HP.blk b0 ([.slice i1047.1 (s1.2).length i1047.2]) 22,HP.mo q1 raw4 cl4,HP.ow R_api_Pair 126 i1047.1 i1047.2 s1.2]) (fun (_:Empty) (_:Unit)=>[]) (fun _=>Code.skip) _ (0,x942) (p6,c7) (eo1047) ((H.pm 19 [16,3,7,9,10,11,12,13,14,15,17,18,1,2,0,0,4,5,6,8,9] rfl:).keep 15 6) (fun _=>rfl) rfl (fun (s1:Int×(List T_api_Pair)) (i1047:(Option Addr)×Nat) (x1047:Nat×List UInt8) (m1047:Unit)=>[(2,.pointer (some ⟨b0,0,none⟩)),(3,.pointer (some ⟨b1,0,none⟩)),(7,.pointer (some ⟨b9,0,none⟩)),(8,.slice (shp p3 (x1047.1+(x1047.2).length) x1047.1 1) (x1047.2).length ((x1047.2).length)),(10,.pointer (some ⟨r0,0,none⟩)),(47,.func (.func 132) #[] [.pointer (some ⟨b10,0,none⟩),.pointer (some ⟨b11,0,none⟩)].toArray),(48,.slice (shp p3 (x1047.1+(x1047.2).length) x1047.1 1) (x1047.2).length ((x1047.2).length))]) (fun (s1:Int×(List T_api_Pair)) (i1047:(Option Addr)×Nat) (x1047:Nat×List UInt8) (m1047:Unit)=>[HP.sl rByte (shp p3 (x1047.1+(x1047.2).length) x1047.1 1) ((x1047.2).length) x1047.2,HP.blk b9 ([.int .i64 (s1.1)]) 3,O_pack_Pen_1 b6 x938.2,HP.sl rByte p3 c4 v736.2,HP.blk b2 ([.bool (v736.1),.slice p3 (v736.2).length c4]) 142,HP.ow rByte 5 none 0 ([]:List UInt8),HP.blk b1 ([.string (txb (k736))]) 9,HP.obj r0 (mit q1 cl4 (bL raw4 (vis733++[q736]))),HP.es aO (fun _=>True) es0 s,HP.blk b0 ([.slice i1047.1 (s1.2).length i1047.2]) 22,HP.mo q1 raw4 cl4,HP.ow R_api_Pair 126 i1047.1 i1047.2 s1.2]) ?_ ?_ ?_ ?_
 clear F H
 rintro L s1 ⟨p7,c8⟩ ⟨kx948,yx948⟩ a w l hx F H
 replace F:Fr ⟨67,[]⟩ a [(48,.slice (shp p3 (kx948+(yx948).length) kx948 1) (yx948).length ((yx948).length)),(2,.pointer (some ⟨b0,0,none⟩)),(3,.pointer (some ⟨b1,0,none⟩)),(7,.pointer (some ⟨b9,0,none⟩)),(10,.pointer (some ⟨r0,0,none⟩)),(47,.func (.func 132) #[] [.pointer (some ⟨b10,0,none⟩),.pointer (some ⟨b11,0,none⟩)].toArray)]:=F
 replace H:St w0 w (HP.blk b9 ([.int .i64 (s1.1)]) 3::O_pack_Pen_1 b6 x938.2::HP.sl rByte p3 c4 v736.2::HP.blk b2 ([.bool (v736.1),.slice p3 (v736.2).length c4]) 142::HP.ow rByte 5 none 0 ([]:List UInt8)::HP.blk b1 ([.string (txb (k736))]) 9::HP.obj r0 (mit q1 cl4 (bL raw4 (vis733++[q736])))::HP.es aO (fun _=>True) es0 s::HP.blk b0 ([.slice p7 (s1.2).length c8]) 22::HP.mo q1 raw4 cl4::HP.ow R_api_Pair 126 p7 c8 s1.2::l):=H
 replace H:=H.chunkEl 1 rfl 2 rfl hn948 hx
 replace H:St w0 w (HP.sl rByte (shp p3 (kx948+(yx948).length) kx948 1) ((yx948).length) yx948::HP.blk b9 ([.int .i64 (s1.1)]) 3::O_pack_Pen_1 b6 x938.2::HP.sl rByte p3 c4 v736.2::HP.blk b2 ([.bool (v736.1),.slice p3 (v736.2).length c4]) 142::HP.ow rByte 5 none 0 ([]:List UInt8)::HP.blk b1 ([.string (txb (k736))]) 9::HP.obj r0 (mit q1 cl4 (bL raw4 (vis733++[q736])))::HP.es aO (fun _=>True) es0 s::HP.blk b0 ([.slice p7 (s1.2).length c8]) 22::HP.mo q1 raw4 cl4::HP.ow R_api_Pair 126 p7 c8 s1.2::l):=H
 refine rli (bki [0] F H rfl trivial fun a F=>?_)
 refine lzi (ct ?_)
 exact ⟨(),F.cut _ ⟨rfl,rfl,rfl,rfl,rfl,rfl,rfl,trivial⟩,H⟩
 clear F H
 rintro L s1 ⟨p7,c8⟩ ⟨kx948,yx948⟩ _ o a w l hx hm F H
 replace F:Fr ⟨67,[]⟩ a [(2,.pointer (some ⟨b0,0,none⟩)),(3,.pointer (some ⟨b1,0,none⟩)),(7,.pointer (some ⟨b9,0,none⟩)),(8,.slice (shp p3 (kx948+(yx948).length) kx948 1) (yx948).length ((yx948).length)),(10,.pointer (some ⟨r0,0,none⟩)),(47,.func (.func 132) #[] [.pointer (some ⟨b10,0,none⟩),.pointer (some ⟨b11,0,none⟩)].toArray),(48,.slice (shp p3 (kx948+(yx948).length) kx948 1) (yx948).length ((yx948).length))]:=F
 replace H:St w0 w (HP.sl rByte (shp p3 (kx948+(yx948).length) kx948 1) ((yx948).length) yx948::HP.blk b9 ([.int .i64 (s1.1)]) 3::O_pack_Pen_1 b6 x938.2::HP.sl rByte p3 c4 v736.2::HP.blk b2 ([.bool (v736.1),.slice p3 (v736.2).length c4]) 142::HP.ow rByte 5 none 0 ([]:List UInt8)::HP.blk b1 ([.string (txb (k736))]) 9::HP.obj r0 (mit q1 cl4 (bL raw4 (vis733++[q736])))::HP.es aO (fun _=>True) es0 s::HP.blk b0 ([.slice p7 (s1.2).length c8]) 22::HP.mo q1 raw4 cl4::HP.ow R_api_Pair 126 p7 c8 s1.2::l):=H
 refine bli (sqi ?_)
 obtain ⟨r2,er1072,hm3⟩:=ob hm;clear hm;revert er1072;intro hm
 refine aIl (fun aa ww=>∃ (p8:Option Addr) (c9:Nat),Fr ⟨67,[]⟩ aa [(7,.pointer (some ⟨b9,0,none⟩))]/\St w0 ww (HP.blk b9 ([.int .i64 (s1.1)]) 3::O_pack_Pen_1 b6 x938.2::HP.sl rByte p3 c4 v736.2::HP.blk b2 ([.bool (v736.1),.slice p3 (v736.2).length c4]) 142::HP.ow rByte 5 none 0 ([]:List UInt8)::HP.blk b1 ([.string (txb (k736))]) 9::HP.obj r0 (mit q1 cl4 (bL raw4 (vis733++[q736])))::HP.es aO (fun _=>True) es0 s::HP.blk b0 ([.slice p8 (r2).length c9]) 22::HP.mo q1 raw4 cl4::HP.ow R_api_Pair 126 p8 c9 r2::l)) ?_ ?_
 obtain ⟨x1074,ex10,hm⟩:=ob hm
 refine aLc [3,6,7,9,11,12,13] [13] (.step 0 0 (.step 0 1 (.step 0 2 (.step 0 4 (.step 0 5 (.step 0 8 (.fork 3 (.step 2 6 (.step 2 7 (.step 2 9 (.step 0 10 (.step 2 11 (.step 2 12 (.step 3 13 .done))))))) 6 (.step 2 3 (.step 2 7 (.step 2 9 (.step 0 10 (.step 2 11 (.step 2 12 (.step 3 13 .done)))))))))))))) (fun u=>∃ ls,St w0 u (HP.blk b9 ([.int .i64 (s1.1)]) 3::HP.blk b1 ([.string (txb (k736))]) 9::HP.blk b0 ([.slice p7 (s1.2).length c8]) 22::ls)) (by kernel_rfl) (by kernel_rfl) ⟨_,(H.drew.pm 12 [1,6,9,0,2,3,4,5,7,8,10,11] rfl:)⟩ ?_
 replace H:=H.drew
 generalize w.drew=w at H ⊢
 refine bH F rfl rfl rfl rfl (fun u hu=>bS F jK rfl rfl ((hu.choose_spec.blk 2 rfl).cell _)) fun a F=>?_
 refine bH F rfl rfl rfl rfl (fun u hu=>bS F plain9 rfl rfl ((hu.choose_spec.blk 1 rfl).cell _)) fun a F=>?_
 refine bH F rfl rfl rfl rfl (fun u hu=>mU F rfl rfl rfl ex10) fun a F=>?_
 refine bH F rfl rfl rfl rfl (fun u hu=>bS F plain3 rfl rfl ((hu.choose_spec.blk 0 rfl).cell _)) fun a F=>?_
 refine mbk [1,0] F H rfl ⟨u3,u5,trivial⟩ fun a F=>?_
 refine eE rfl rfl rfl rfl ?_ ?_
 refine aE rfl rfl ?_
 refine iI (e:=5) (xs:=x1074) wkP F rfl rfl rfl u9 u30 u5 rfl rfl H fun b12 c10 w a H F=>?_
 refine lz ?_;refine ct ⟨⟨_,(H.pm 13 [2,7,10,0,1,3,4,5,6,8,9,11,12] rfl:)⟩,?_⟩
 refine aE rfl rfl ?_
 obtain ⟨x1077,ex11,hm⟩:=ob hm
 obtain ⟨x1078,ex12,hm⟩:=ob hm
 refine dU wkP F rfl rfl rfl elem30 zero5 rfl rfl rfl rfl (by simp [Value.cells]) (by decide) H fun b13 w a H F=>?_
 replace H:St w0 w (HP.ow rByte 5 (some ⟨b13,0,none⟩) (([x1077,x1078]).length) ([x1077,x1078])::HP.cv 5 b12 c10 x1074::HP.sl rByte (shp p3 (kx948+(yx948).length) kx948 1) ((yx948).length) yx948::HP.blk b9 ([.int .i64 (s1.1)]) 3::O_pack_Pen_1 b6 x938.2::HP.sl rByte p3 c4 v736.2::HP.blk b2 ([.bool (v736.1),.slice p3 (v736.2).length c4]) 142::HP.ow rByte 5 none 0 ([]:List UInt8)::HP.blk b1 ([.string (txb (k736))]) 9::HP.obj r0 (mit q1 cl4 (bL raw4 (vis733++[q736])))::HP.es aO (fun _=>True) es0 s::HP.blk b0 ([.slice p7 (s1.2).length c8]) 22::HP.mo q1 raw4 cl4::HP.ow R_api_Pair 126 p7 c8 s1.2::l):=H.blkOw (R:=rByte) 0 rfl (fun gg=>⟨[[.int .u8 (0)],[.int .u8 (IntKind.u8.wrap (s1.1))]],rfl,(congrArg (fun z=>[Value.int .u8 z]) (cP ex11).symm),(congrArg (fun z=>[Value.int .u8 z]) (cP ex12).symm),trivial⟩) (by simp)
 refine lz ?_;refine ct ⟨⟨_,(H.pm 14 [3,8,11,0,1,2,4,5,6,7,9,10,12,13] rfl:)⟩,?_⟩
 refine aE rfl rfl ?_
 replace H:=H.frz 0 rfl
 obtain ⟨x1080,ex13,hm⟩:=ob hm
 refine qV wkP F rfl rfl rfl rfl rfl rfl elem30 rfl ex13 rfl H 1 0 rfl rfl fun p9 c11 w a H F=>?_
 refine lz ?_;refine ct ⟨⟨_,(H.pm 14 [3,8,11,0,1,2,4,5,6,7,9,10,12,13] rfl:)⟩,?_⟩
 refine aE rfl rfl ?_
 obtain ⟨x1081,ex14,hm⟩:=ob hm
 refine sd F rfl ent88 (w_cloneB ex14 (H.pm 14 [2,0,1,2,3,4,5,6,7,8,9,10,11,12,13] rfl:):) ?_;rintro _ w a ⟨p10,c12,rfl,H⟩ F
 refine lz ?_;refine ct ⟨⟨_,(H.pm 15 [4,9,12,0,1,2,3,5,6,7,8,10,11,13,14] rfl:)⟩,?_⟩
 refine bH F rfl rfl rfl rfl (fun u hu=>bU F rfl rfl (cs:=[.slice p9 (x1080).length c11,.slice p10 (x1081).length c12]) (by kernel_rfl)) fun a F=>?_
 refine aE rfl rfl ?_
 replace H:=H.frz 0 rfl
 refine gQ wkP F rfl rfl rfl agg126 elem22 rfl rfl rfl (by decide) H fun b14 w a H F=>?_
 replace H:=H.bO (R:=R_api_Pair) (x:=(x1080,x1081)) (fun gg=>⟨_,_,rfl,⟨_,_,rfl,(gg 2 _ rfl).choose_spec⟩,⟨_,_,rfl,(gg 1 _ rfl).choose_spec⟩⟩)
 refine lz ?_;refine ct ⟨⟨_,(H.pm 16 [5,10,13,0,1,2,3,4,6,7,8,9,11,12,14,15] rfl:)⟩,?_⟩
 refine aE rfl rfl ?_
 replace H:=H.frz 0 rfl
 obtain ⟨x1085,ex15,hm⟩:=ob hm
 refine cE wkP F rfl rfl rfl rfl rfl rfl elem22 rfl ex15 H 15 0 rfl rfl fun p11 c13 w a H F=>?_
 refine lz ?_;refine ct ⟨⟨_,(H.pm 16 [5,10,13,0,1,2,3,4,6,7,8,9,11,12,14,15] rfl:)⟩,?_⟩
 refine dF rfl rfl (cN wkP F rfl rfl zero22 rfl rfl rfl rfl rfl H 13 rfl rfl fun w H=>?_)
 refine lz ?_;refine ct ?_
 refine bR ?_
 cases hm
 exact ct ⟨p11,c13,F.sl rfl,(H.pm 16 [5,6,7,8,9,10,11,12,13,14,15] rfl:)⟩
 refine aE rfl rfl ?_
 obtain ⟨x1087,ex16,hm⟩:=ob hm
 obtain ⟨x1088,ex17,hm⟩:=ob hm
 refine dU wkP F rfl rfl rfl elem30 zero5 rfl rfl rfl rfl (by simp [Value.cells]) (by decide) H fun b15 w a H F=>?_
 replace H:St w0 w (HP.ow rByte 5 (some ⟨b15,0,none⟩) (([x1087,x1088]).length) ([x1087,x1088])::HP.sl rByte (shp p3 (kx948+(yx948).length) kx948 1) ((yx948).length) yx948::HP.blk b9 ([.int .i64 (s1.1)]) 3::O_pack_Pen_1 b6 x938.2::HP.sl rByte p3 c4 v736.2::HP.blk b2 ([.bool (v736.1),.slice p3 (v736.2).length c4]) 142::HP.ow rByte 5 none 0 ([]:List UInt8)::HP.blk b1 ([.string (txb (k736))]) 9::HP.obj r0 (mit q1 cl4 (bL raw4 (vis733++[q736])))::HP.es aO (fun _=>True) es0 s::HP.blk b0 ([.slice p7 (s1.2).length c8]) 22::HP.mo q1 raw4 cl4::HP.ow R_api_Pair 126 p7 c8 s1.2::l):=H.blkOw (R:=rByte) 0 rfl (fun gg=>⟨[[.int .u8 (0)],[.int .u8 (IntKind.u8.wrap (s1.1))]],rfl,(congrArg (fun z=>[Value.int .u8 z]) (cP ex16).symm),(congrArg (fun z=>[Value.int .u8 z]) (cP ex17).symm),trivial⟩) (by simp)
 refine lz ?_;refine ct ⟨⟨_,(H.pm 13 [2,7,10,0,1,3,4,5,6,8,9,11,12] rfl:)⟩,?_⟩
 refine aE rfl rfl ?_
 refine iI (e:=5) (xs:=x1074) wkP F rfl rfl rfl u9 u30 u5 rfl rfl H fun b16 c14 w a H F=>?_
 refine lz ?_;refine ct ⟨⟨_,(H.pm 14 [3,8,11,0,1,2,4,5,6,7,9,10,12,13] rfl:)⟩,?_⟩
 refine aE rfl rfl ?_
 replace H:=H.frz 1 rfl
 obtain ⟨x1091,ex18,hm⟩:=ob hm
 refine qV wkP F rfl rfl rfl rfl rfl rfl elem30 rfl ex18 rfl H 1 0 rfl rfl fun p12 c15 w a H F=>?_
 refine lz ?_;refine ct ⟨⟨_,(H.pm 14 [3,8,11,0,1,2,4,5,6,7,9,10,12,13] rfl:)⟩,?_⟩
 refine aE rfl rfl ?_
 obtain ⟨x1092,ex19,hm⟩:=ob hm
 refine sd F rfl ent88 (w_cloneB ex19 (H.pm 14 [2,0,1,2,3,4,5,6,7,8,9,10,11,12,13] rfl:):) ?_;rintro _ w a ⟨p13,c16,rfl,H⟩ F
 refine lz ?_;refine ct ⟨⟨_,(H.pm 15 [4,9,12,0,1,2,3,5,6,7,8,10,11,13,14] rfl:)⟩,?_⟩
 refine bH F rfl rfl rfl rfl (fun u hu=>bU F rfl rfl (cs:=[.slice p12 (x1091).length c15,.slice p13 (x1092).length c16]) (by kernel_rfl)) fun a F=>?_
 refine aE rfl rfl ?_
 replace H:=H.frz 0 rfl
 refine gQ wkP F rfl rfl rfl agg126 elem22 rfl rfl rfl (by decide) H fun b17 w a H F=>?_
 replace H:=H.bO (R:=R_api_Pair) (x:=(x1091,x1092)) (fun gg=>⟨_,_,rfl,⟨_,_,rfl,(gg 2 _ rfl).choose_spec⟩,⟨_,_,rfl,(gg 1 _ rfl).choose_spec⟩⟩)
 refine lz ?_;refine ct ⟨⟨_,(H.pm 16 [5,10,13,0,1,2,3,4,6,7,8,9,11,12,14,15] rfl:)⟩,?_⟩
 refine aE rfl rfl ?_
 replace H:=H.frz 0 rfl
 obtain ⟨x1096,ex20,hm⟩:=ob hm
 refine cE wkP F rfl rfl rfl rfl rfl rfl elem22 rfl ex20 H 15 0 rfl rfl fun p14 c17 w a H F=>?_
 refine lz ?_;refine ct ⟨⟨_,(H.pm 16 [5,10,13,0,1,2,3,4,6,7,8,9,11,12,14,15] rfl:)⟩,?_⟩
 refine dF rfl rfl (cN wkP F rfl rfl zero22 rfl rfl rfl rfl rfl H 13 rfl rfl fun w H=>?_)
 refine lz ?_;refine ct ?_
 refine bR ?_
 cases hm
 exact ct ⟨p14,c17,F.sl rfl,(H.pm 16 [5,6,7,8,9,10,11,12,13,14,15] rfl:)⟩
 clear F H hm
 rintro a w ⟨p8,c9,F,H⟩;have hm:=hm3;clear hm3
 refine ct (rli (bki [0,0] F H rfl ⟨rfl,plain3,trivial⟩ fun a F=>cN wkI F rfl rfl zero3 rfl rfl rfl rfl rfl H 0 rfl rfl fun w H=>?_))
 replace H:=H.nf 11 rfl
 refine lzi (bn ?_)
 cases hm;exact rq_n (IntKind.i64.wrap (s1.1+1),r2) (p8,c9) rfl H
 repeat clear F
 rintro s1 ⟨p7,c8⟩ Ds1097 a w ho F H;subst ho;have hm:=vV hm2;clear hm2 eo1047
 replace F:Fr ⟨67,marks Ds1097⟩ a [(2,.pointer (some ⟨b0,0,none⟩)),(3,.pointer (some ⟨b1,0,none⟩)),(7,.pointer (some ⟨b9,0,none⟩)),(10,.pointer (some ⟨r0,0,none⟩)),(47,.func (.func 132) #[] [.pointer (some ⟨b10,0,none⟩),.pointer (some ⟨b11,0,none⟩)].toArray)]:=F
 replace H:St w0 w (HP.mks Ds1097::HP.blk b9 ([.int .i64 (s1.1)]) 3::O_pack_Pen_1 b6 x938.2::HP.sl rByte p3 c4 v736.2::HP.blk b2 ([.bool (v736.1),.slice p3 (v736.2).length c4]) 142::HP.ow rByte 5 none 0 ([]:List UInt8)::HP.blk b1 ([.string (txb (k736))]) 9::HP.obj r0 (mit q1 cl4 (bL raw4 (vis733++[q736])))::HP.es aO (fun _=>True) es0 s::HP.blk b0 ([.slice p7 (s1.2).length c8]) 22::HP.mo q1 raw4 cl4::HP.ow R_api_Pair 126 p7 c8 s1.2::HP.blk b11 ([.int .i64 (((x945:Nat):Int))]) 3::HP.blk b10 ([.slice p3 (v736.2).length c4]) 30::HP.sl rByte p3 c4 v736.2::l):=H
 refine bn (bn ?_)
 cases hm
 exact ct ⟨Ds1097,p7,c8,F.sl rfl,(H.pm 15 [7,8,9,0,10,11] rfl:)⟩
 intro r;exact r.elim
 clear F H hm
 rintro a w ⟨Ds918,p2,c2,F,H⟩;have hm:=hm0;clear hm0
 refine ct ?_;cases hm
 exact ⟨_,q736,hs736 _ rfl,⟨Ds918,p2,c2,F.sl rfl,H⟩⟩
instance:Ctr Tryz.prog 79 0 (type_of% @aHa):=⟨enters Tryz.func79 (by kernel_rfl) rfl,@aHa⟩
theorem aD4 {s:(List UInt8)->Option aG} {m1:Nat} {r:((List UInt8)->Option aG)} (hm:nV s=some r) (H:St w0 w (HP.mm (some m1) aU true aO (fun _=>True) s::l)) :
  Calls Tryz.prog 77 [.map (some m1)].toArray w (fun e w'=>∃ v,e=.returned v/\∃ (m2:Nat),v=.map (some m2)/\St w0 w' (HP.mm (some m2) aU true aO (fun _=>True) r::HP.mm (some m1) aU true aO (fun _=>True) s::l)):=by
 unfold nV at hm
 cases hm
 rcases H.mmClone with ⟨h,_⟩ | ⟨b,raw,c,hb,hh,H2⟩
 · cases h
 cases hb
 exact (AnyW.maps_Clone Tryz.layz77 _ raw c w hh).mono fun e w' ⟨he,hw⟩=>⟨_,he,_,rfl,hw▸H2⟩
instance:Ctr Tryz.prog 77 0 (type_of% @aD4):=⟨enters Tryz.func77 (by kernel_rfl) rfl,@aD4⟩
theorem aBt {files:List T_api_Pair} {o:T_api_Op} {p0:Option Addr} {c0:Nat} {cs0:List Value} {r:(List T_api_Pair)×T_api_Answer} (hm:fDo files o=some r) (H:St w0 w (HP.sl R_api_Pair p0 c0 files::HP.rc R_api_Op cs0 o::l)) :
  Calls Tryz.prog 47 [.slice p0 (files).length c0,.agg cs0.toArray].toArray w (fun e w'=>∃ v,e=.returned v/\∃ (p1:Option Addr) (c1:Nat) (cs1:List Value),v=.tuple [.slice p1 (r.1).length c1,.agg cs1.toArray].toArray/\St w0 w' (HP.sl R_api_Pair p1 c1 r.1::HP.rc R_api_Answer cs1 r.2::l)):=by
 unfold fDo at hm
 have h0:MH 5 [1,4] [4] (scP [(0,0),(0,2),(2,1),(0,3),(3,4)]) [8]:=⟨trivial⟩
 have h1:MH 6 [1,4] [4] (scP [(0,0),(0,2),(2,1),(0,3),(3,4)]) [8]:=⟨trivial⟩
 exact au Tryz.func47
instance:Ctr Tryz.prog 47 0 (type_of% @aBt):=⟨enters Tryz.func47 (by kernel_rfl) rfl,@aBt⟩
theorem aF7 {xs:List UInt8} {ys:List UInt8} {p0:Option Addr} {c0:Nat} {p1:Option Addr} {c1:Nat} {r:Bool} (hm:nR xs ys=some r) (H:St w0 w (HP.sl rByte p0 c0 xs::HP.sl rByte p1 c1 ys::l)) :
  Calls Tryz.prog 118 [.slice p0 (xs).length c0,.slice p1 (ys).length c1].toArray w (fun e w'=>∃ v,e=.returned v/\v=.bool (r)/\St w0 w' (l)):=by
 unfold nR at hm
 exact au Tryz.func118
instance:Ctr Tryz.prog 118 0 (type_of% @aF7):=⟨enters Tryz.func118 (by kernel_rfl) rfl,@aF7⟩
theorem aAl {x0_:T_api_Pair} {x1_:T_api_Pair} {cs0:List Value} {cs1:List Value} {r:Bool} (hm:pZ x0_ x1_=some r) (H:St w0 w (HP.rc R_api_Pair cs0 x0_::HP.rc R_api_Pair cs1 x1_::l)) :
  Calls Tryz.prog 84 [.agg cs0.toArray,.agg cs1.toArray].toArray w (fun e w'=>∃ v,e=.returned v/\v=.bool (r)/\St w0 w' (l)):=by
 unfold pZ at hm
 exact au Tryz.func84
instance:Ctr Tryz.prog 84 0 (type_of% @aAl):=⟨enters Tryz.func84 (by kernel_rfl) rfl,@aAl⟩
theorem aEa {xs:List T_api_Pair} {ys:List T_api_Pair} {p0:Option Addr} {c0:Nat} {p1:Option Addr} {c1:Nat} {r:Bool} (hm:nP xs ys=some r) (H:St w0 w (HP.sl R_api_Pair p0 c0 xs::HP.sl R_api_Pair p1 c1 ys::l)) :
  Calls Tryz.prog 83 [.slice p0 (xs).length c0,.slice p1 (ys).length c1,.func (.func 84) #[] #[]].toArray w (fun e w'=>∃ v,e=.returned v/\v=.bool (r)/\St w0 w' (l)):=by
 unfold nP at hm
 have h0:LH0 4 [1,2,15,16] [] (fun (s0:Int) z=>(17,.int .i64 (s0))::z) (fun s0 z=>z):=⟨trivial⟩
 exact au Tryz.func83
instance:Ctr Tryz.prog 83 0 (type_of% @aEa):=⟨enters Tryz.func83 (by kernel_rfl) rfl,@aEa⟩
theorem aBj {files:List T_api_Pair} {p0:Option Addr} {c0:Nat} {r:Int} (hm:gJ files=some r) (H:St w0 w (HP.sl R_api_Pair p0 c0 files::l)) :
  Calls Tryz.prog 50 [.slice p0 (files).length c0].toArray w (fun e w'=>∃ v,e=.returned v/\v=.int .i64 (r)/\St w0 w' (l)):=by
 unfold gJ at hm
 exact au Tryz.func50
instance:Ctr Tryz.prog 50 0 (type_of% @aBj):=⟨enters Tryz.func50 (by kernel_rfl) rfl,@aBj⟩
theorem aEf   {r:(List T_api_Pair)} (hm:fNew =some r) (H:St w0 w (l)) :
  Calls Tryz.prog 64 [].toArray w (fun e w'=>∃ v,e=.returned v/\∃ (p0:Option Addr) (c0:Nat),v=.slice p0 (r).length c0/\St w0 w' (HP.sl R_api_Pair p0 c0 r::l)):=by
 unfold fNew at hm
 exact au Tryz.func64
instance:Ctr Tryz.prog 64 0 (type_of% @aEf):=⟨enters Tryz.func64 (by kernel_rfl) rfl,@aEf⟩
set_option maxRecDepth 100000
set_option maxHeartbeats 4000000
theorem yC {s:List UInt8} {p0:Option Addr} {c0:Nat} {r:(List UInt8)} (hm:gX s=some r) (H:St w0 w (HP.sl rByte p0 c0 s::l)) :
  Calls Tryz.prog 70 [.slice p0 (s).length c0].toArray w (fun e w'=>∃ v,e=.returned v/\∃ (p1:Option Addr) (c1:Nat),v=.slice p1 (r).length c1/\St w0 w' (HP.ow rByte 5 p1 c1 r::l)):=by
 unfold gX at hm
 exact au Tryz.func70
instance:Ctr Tryz.prog 70 0 (type_of% @yC):=⟨enters Tryz.func70 (by kernel_rfl) rfl,@yC⟩
theorem aKb {P:Program} {w:World} {x y:List UInt8}:(Extern.BytealgCompare.compare #[.string (txb x),.string (txb y)]).run P w=.ok (.int .i64 (Lib.compareBytes x y)) w:=by
 show Sem.run P (do pure (goInt (Extern.BytealgCompare.cmp (<- Extern.Bytes.bytesOf (.string (txb x))) (<- Extern.Bytes.bytesOf (.string (txb y)))))) w=_
 show Result.ok (Value.int .i64 (Extern.BytealgCompare.cmp (txb x) (txb y))) w=_
 rw [show txb x=⟨x.toArray⟩ from rfl,show txb y=⟨y.toArray⟩ from rfl,Lib.cmp_eq]
theorem uM {w:World} {x y:List UInt8}:Calls Tryz.prog 119 [.string (txb x),.string (txb y)].toArray w (fun e w'=>e=.returned (.int .i64 (Lib.compareBytes x y))/\w'=w):=by
 refine dM Tryz.func119 rfl rfl rfl ?_
 intro a F
 replace F:Fr ⟨8,[]⟩ a [(0,.string (txb x)),(1,.string (txb y))]:=F
 refine wp_seq (dI ?_)
 refine sv F rfl (dV F rfl rfl) fun a F=>?_
 refine wpList_nil (cJ ?_)
 refine wp_seq (dI ?_)
 refine sv F rfl (dB F rfl rfl) fun a F=>sv F rfl (dB F rfl rfl) fun a F=>?_
 refine sv F rfl (aFe F rfl rfl (v:=.int .i64 (Lib.compareBytes x y)) (w:=w) (by rw [run_callFunc_extern Tryz.func139 (by kernel_rfl) (by kernel_rfl) (by kernel_rfl) (e:=Extern.BytealgCompare.compare) (by kernel_rfl),aKb];rfl)) fun a F=>?_
 refine sv F rfl (dV F rfl rfl) fun a F=>?_
 refine wpList_nil (cJ ?_)
 refine wp_ret ?_
 refine eF F rfl rfl ?_
 exact ⟨rfl,rfl⟩
instance:Ctr Tryz.prog 119 0 (type_of% @uM):=⟨enters Tryz.func119 (by kernel_rfl) rfl,@uM⟩
theorem aGp {a:List UInt8} {b:List UInt8}  {r:Int} (hm:uE a b=some r) (H:St w0 w (l)) :
  Calls Tryz.prog 119 [.string (txb (a)),.string (txb (b))].toArray w (fun e w'=>∃ v,e=.returned v/\v=.int .i64 (r)/\St w0 w' (l)):=by
 unfold uE at hm
 cases hm
 exact (uM).mono fun e w' h=>⟨_,h.1,rfl,by rw [h.2];exact H⟩
instance:Ctr Tryz.prog 119 1 (type_of% @aGp):=⟨enters Tryz.func119 (by kernel_rfl) rfl,@aGp⟩
theorem aGh {a:List UInt8} {b:List UInt8}  {r:Int} (hm:xA a b=some r) (H:St w0 w (l)) :
  Calls Tryz.prog 85 [.string (txb (a)),.string (txb (b))].toArray w (fun e w'=>∃ v,e=.returned v/\v=.int .i64 (r)/\St w0 w' (l)):=by
 unfold xA at hm
 exact au Tryz.func85
instance:Ctr Tryz.prog 85 0 (type_of% @aGh):=⟨enters Tryz.func85 (by kernel_rfl) rfl,@aGh⟩
theorem aIf:aM Tryz.prog 90 0 0:=by unfold aM;rw [Tryz.underlying90];kernel_rfl
instance:FldC Tryz.prog 90 0 0:=⟨aIf⟩
theorem aDr {a_:T_api_Snap} {b_:T_api_Snap} {cs0:List Value} {cs1:List Value} {r:Int} (hm:lG a_ b_=some r) (H:St w0 w (HP.rc R_api_Snap cs0 a_::HP.rc R_api_Snap cs1 b_::l)) :
  Calls Tryz.prog 52 [.agg cs0.toArray,.agg cs1.toArray].toArray w (fun e w'=>∃ v,e=.returned v/\v=.int .i64 (r)/\St w0 w' (l)):=by
 unfold lG at hm
 exact au Tryz.func52
instance:Ctr Tryz.prog 52 0 (type_of% @aDr):=⟨enters Tryz.func52 (by kernel_rfl) rfl,@aDr⟩
theorem ent70:En Tryz.prog 70:=enters Tryz.func70 (by kernel_rfl) rfl
theorem aCn {list:List T_api_Pair} {p0:Option Addr} {c0:Nat} {r:(List T_api_Pair)} (hm:fY list=some r) (H:St w0 w (HP.sl R_api_Pair p0 c0 list::l)) :
  Calls Tryz.prog 72 [.slice p0 (list).length c0].toArray w (fun e w'=>∃ v,e=.returned v/\∃ (p1:Option Addr) (c1:Nat),v=.slice p1 (r).length c1/\St w0 w' (HP.ow R_api_Pair 126 p1 c1 r::l)):=by
 unfold fY at hm
 have h0:LH2 2 [5,6] [] (fun (s0:(List T_api_Pair)×Int) (p2:Option Addr) (c2:Nat) z=>(2,.slice p2 (s0.1).length c2)::(7,.int .i64 (s0.2))::z) (fun s0 p2 c2 z=>HP.ow R_api_Pair 126 p2 c2 s0.1::z):=⟨trivial⟩
 have h1:MH 4 [3,6,8,9] [] (scP [(0,0),(0,1),(1,2),(0,4),(0,5),(2,3),(2,6),(0,7),(2,8),(2,9),(0,10)]) [4]:=⟨trivial⟩
 exact au Tryz.func72
instance:Ctr Tryz.prog 72 0 (type_of% @aCn):=⟨enters Tryz.func72 (by kernel_rfl) rfl,@aCn⟩
theorem aLd:aM Tryz.prog 25 0 0:=by unfold aM;rw [Tryz.underlying25];kernel_rfl
instance:FldC Tryz.prog 25 0 0:=⟨aLd⟩
theorem aCp:AggT Tryz.prog 25 2 [.slice none 0 0,.slice none 0 0]:=⟨by rw [Tryz.underlying25];rfl,by kernel_rfl,by kernel_rfl⟩
instance:AggC Tryz.prog 25 2 [.slice none 0 0,.slice none 0 0]:=⟨aCp⟩
theorem aKq:aM Tryz.prog 25 1 1:=by unfold aM;rw [Tryz.underlying25];kernel_rfl
instance:FldC Tryz.prog 25 1 1:=⟨aKq⟩
theorem plain23:Plain Tryz.prog 23:=by unfold Plain;rw [Tryz.underlying23];rfl
instance:PlnC Tryz.prog 23:=⟨plain23⟩
theorem gG:ElemT Tryz.prog 23 90 3 48 (.agg [.string ByteArray.empty,.int .u64 0,.slice none 0 0].toArray):=⟨Tryz.underlying23,by kernel_rfl,by kernel_rfl,by decide⟩
instance:ElmC Tryz.prog 23 90 3 48 (.agg [.string ByteArray.empty,.int .u64 0,.slice none 0 0].toArray):=⟨gG⟩
theorem agg90:AggT Tryz.prog 90 3 [.string ByteArray.empty,.int .u64 0,.slice none 0 0]:=⟨by rw [Tryz.underlying90];rfl,by kernel_rfl,by kernel_rfl⟩
instance:AggC Tryz.prog 90 3 [.string ByteArray.empty,.int .u64 0,.slice none 0 0]:=⟨agg90⟩
theorem aKo:aM Tryz.prog 90 2 2:=by unfold aM;rw [Tryz.underlying90];kernel_rfl
instance:FldC Tryz.prog 90 2 2:=⟨aKo⟩
theorem zero23:Zero1 Tryz.prog 23 (.slice none 0 0):=⟨by kernel_rfl,rfl⟩
instance:ZerC Tryz.prog 23 (.slice none 0 0):=⟨zero23⟩
theorem zW {s:T_api_State} {cs0:List Value} {r:T_api_State} (hm:kH s=some r) (H:St w0 w (HP.rc R_api_State cs0 s::l)) :
  Calls Tryz.prog 44 [.agg cs0.toArray].toArray w (fun e w'=>∃ v,e=.returned v/\∃ (p0:Option Addr) (c0:Nat) (p1:Option Addr) (c1:Nat),v=.agg ([.slice p0 (r.1).length c0,.slice p1 (r.2).length c1]).toArray/\St w0 w' (HP.sl R_api_Pair p0 c0 r.1::HP.ow R_api_Snap 90 p1 c1 r.2::l)):=by
 unfold kH at hm
 have h0:∀ (b0:Nat),LH0 3 [2,3,11,12] [(3,b0)] (fun (s0:bX×Int) z=>(13,.int .i64 (s0.2))::z) (fun s0 z=>jW b0 s0.1::z):=fun _=>⟨trivial⟩
 exact au Tryz.func44
instance:Ctr Tryz.prog 44 0 (type_of% @zW):=⟨enters Tryz.func44 (by kernel_rfl) rfl,@zW⟩
theorem zQ   {r:T_api_State} (hm:pN =some r) (H:St w0 w (l)) :
  Calls Tryz.prog 35 [].toArray w (fun e w'=>∃ v,e=.returned v/\∃ (cs0:List Value),v=.agg cs0.toArray/\St w0 w' (HP.rc R_api_State cs0 r::l)):=by
 unfold pN at hm
 exact au Tryz.func35
instance:Ctr Tryz.prog 35 0 (type_of% @zQ):=⟨enters Tryz.func35 (by kernel_rfl) rfl,@zQ⟩
theorem aBr {s:T_api_State} {cs0:List Value} {r:Int} (hm:gR s=some r) (H:St w0 w (HP.rc R_api_State cs0 s::l)) :
  Calls Tryz.prog 48 [.agg cs0.toArray].toArray w (fun e w'=>∃ v,e=.returned v/\v=.int .i64 (r)/\St w0 w' (l)):=by
 unfold gR at hm
 have h0:LH0 3 [10,11] [] (fun (s0:Int×Int) z=>(3,.int .i64 (s0.1))::(12,.int .i64 (s0.2))::z) (fun s0 z=>z):=⟨trivial⟩
 exact au Tryz.func48
instance:Ctr Tryz.prog 48 0 (type_of% @aBr):=⟨enters Tryz.func48 (by kernel_rfl) rfl,@aBr⟩
theorem aGk {s:T_api_State} {cs0:List Value} {r:Int} (hm:jJ s=some r) (H:St w0 w (HP.rc R_api_State cs0 s::l)) :
  Calls Tryz.prog 27 [.agg cs0.toArray].toArray w (fun e w'=>∃ v,e=.returned v/\v=.int .i64 (r)/\St w0 w' (l)):=by
 unfold jJ at hm
 have h0:LH0 3 [1,16,17] [] (fun (s0:Bool×Int) z=>(3,.bool (s0.1))::(18,.int .i64 (s0.2))::z) (fun s0 z=>z):=⟨trivial⟩
 have h1:LH0 3 [1,3,16,17] [] (fun (s1:Int) z=>(18,.int .i64 (s1))::z) (fun s1 z=>z):=⟨trivial⟩
 exact au Tryz.func27
instance:Ctr Tryz.prog 27 0 (type_of% @aGk):=⟨enters Tryz.func27 (by kernel_rfl) rfl,@aGk⟩
theorem plain45:Plain Tryz.prog 45:=by unfold Plain;rw [u45];rfl
instance:PlnC Tryz.prog 45:=⟨plain45⟩
theorem aDe {s:T_api_State} {behind:List UInt8} {cs0:List Value} {r:T_api_Answer} (hm:mT s behind=some r) (H:St w0 w (HP.rc R_api_State cs0 s::l)) :
  Calls Tryz.prog 46 [.agg cs0.toArray,.string (txb (behind))].toArray w (fun e w'=>∃ v,e=.returned v/\∃ (cs1:List Value),v=.agg cs1.toArray/\St w0 w' (HP.rc R_api_Answer cs1 r::l)):=by
 unfold mT at hm
 have h0:∀ (b0:Nat),LH2 3 [1,4,5,13,14] [(5,b0)] (fun (s0:(List (List UInt8))×Int) (p0:Option Addr) (c0:Nat) z=>(15,.int .i64 (s0.2))::z) (fun s0 p0 c0 z=>HP.blk b0 ([.int .i64 (0),.int .i64 (((s.2).length:Int)),.slice none (([]:List UInt8)).length 0,.slice p0 (s0.1).length c0]) 47::HP.ow rStr 9 p0 c0 s0.1::z):=fun _=>⟨trivial⟩
 exact au Tryz.func46
instance:Ctr Tryz.prog 46 0 (type_of% @aDe):=⟨enters Tryz.func46 (by kernel_rfl) rfl,@aDe⟩
set_option maxRecDepth 100000
set_option maxHeartbeats 4000000
theorem aAm {xs:List T_api_Snap} {t_:T_api_Snap} {p0:Option Addr} {c0:Nat} {cs0:List Value} {r:Int×Bool} (hm:iB xs t_=some r) (H:St w0 w (HP.ow R_api_Snap 90 p0 c0 xs::HP.rc R_api_Snap cs0 t_::l)) :
  Calls Tryz.prog 73 [.slice p0 (xs).length c0,.agg cs0.toArray,.func (.func 52) #[] #[]].toArray w (fun e w'=>∃ v,e=.returned v/\v=.tuple [.int .i64 (r.1),.bool (r.2)].toArray/\St w0 w' (HP.ow R_api_Snap 90 p0 c0 xs::l)):=by
 unfold iB at hm
 have h0:LH0 3 [0,2,4,8] [] (fun (s0:Int×Int) z=>(9,.int .i64 (s0.1))::(10,.int .i64 (s0.2))::z) (fun s0 z=>z):=⟨trivial⟩
 have h1:MH 5 [6] [] (scP [(0,0),(0,1),(0,2),(0,3),(1,4),(1,5),(2,6),(0,7)]) []:=⟨trivial⟩
 have h2:MH 8 [11] [] (scP [(0,0),(0,1),(0,2),(0,3),(0,4),(0,5),(0,6),(0,7),(0,8),(1,9),(1,10),(2,11),(0,12),(0,13),(0,14),(0,15)]) []:=⟨trivial⟩
 exact au Tryz.func73
section
open Go.ChangeShapes Go.WideShapes Go.ChangeAt
set_option maxHeartbeats 1000000 in
instance:Ctr Tryz.prog 73 0 (type_of% @aAm):=⟨enters Tryz.func73 (by kernel_rfl) rfl,@aAm⟩
theorem aL1 {w0 w:World} {l:List HP} {s:Value} {n:Nat} {xs:List Value} (H:St w0 w l) (i:Nat) (hi:l[i]?=some (HP.own 90 3 s n xs)) (hn:n<=1000) (bv cv:Nat) (cs:List Value) (hv:Row w bv 0 cs) (hcs:cs.length=3) (hfc:Flat cs) :
  Calls Tryz.prog 74 #[s,.int .i64 n,.slice (some ⟨bv,0,none⟩) 1 (cv+1)] w (fW 90 3 w0 l i n n xs cs):=by
 have hown:=H.owns i hi
 have HS:=Lib.hid (And.intro H hi)
 have hsl:∃ p cap,s=.slice p n cap/\n<=cap/\(p=none->n=0):=by
  obtain ⟨_,⟨rfl,rfl⟩ | ⟨g,cap,cur,rfl,hb,hg,hc,hm,hs,ht⟩⟩:=hown
  ·exact ⟨none,0,rfl,Nat.le_refl _,fun _=>rfl⟩
  ·exact ⟨_,_,rfl,hc,fun h=>by cases h⟩
 have hxl:=hown.1
 clear hown H hi
 obtain ⟨p,cap,rfl,hc,hp⟩:=hsl
 have HV:=Lib.hid (show Sl w (.slice (some ⟨bv,0,none⟩) 1 (cv+1)) 1 cs from .inr (.inr ⟨_,_,_,rfl,by omega,hv⟩))
 have HX:=Lib.hid hxl
 have HCS:=Lib.hid (show cs.length=1*3 from hcs)
 have HP:=Lib.hid hp
 have hc':(n:Int)<=(cap:Int):=by omega
 clear hxl hp hv hcs
 have hne:((n:Int)==(n:Int))=true:=by simp
 by_cases hcn:cap=n
 all_goals
  go_enter Tryz.func74,Tryz.ntmps74
  go_wp2_with ((with_reducible refine aG6 gG rfl ?_ ?_ ?_ HS.out.1 i HS.out.2 HV.out HCS.out hfc (by unfold maxLen;omega) (by omega) ?_);exact rfl;exact rfl;exact rfl;intro v' w2 h2;have H2:=Lib.hid h2;clear h2)
  go_ret
  refine ⟨_,rfl,?_⟩
  rw [<- HX.out,List.take_length,List.drop_length,List.append_nil]
  exact H2.out
set_option maxHeartbeats 2000000 in
theorem aLk {w0 w:World} {l:List HP} {g cap n q:Nat} {xs cur:List Value} (H:St w0 w l) (i:Nat) (hi:l[i]?=some (HP.own 90 3 (.slice (some ⟨g,0,none⟩) n cap) n xs)) (hb:Blk w g cur 90) (hcur:cur.length=cap*3) (hxs:cur.take (n*3)=xs) (hfx:Flat xs) (hm:cap<=maxLen) (hn:n<=1000) (hq:q<n) (hroom:n+1<=cap)
  (bv cv:Nat) (cs cb:List Value) (hv:Blk w bv cb 90) (hvr:Row w bv 0 cs) (hcs:cs.length=3) (hfc:Flat cs) (hcn:cb≠[]) (hne:bv≠g) :
  Calls Tryz.prog 74 #[.slice (some ⟨g,0,none⟩) n cap,.int .i64 q,.slice (some ⟨bv,0,none⟩) 1 (cv+1)] w (fW 90 3 w0 l i n q xs cs):=by
 have HS:=Lib.hid (And.intro H hi)
 have HB:=Lib.hid hb;have HC:=Lib.hid hcur;have HXS:=Lib.hid hxs;have HV:=Lib.hid hv;have HVR:=Lib.hid hvr;have HCS:=Lib.hid hcs;have HM:=Lib.hid hm;have HCN:=Lib.hid hcn
 clear hb hcur hxs hv hvr hcs hm hcn H hi
 have e1:((q:Int)==(n:Int))=false:=by simp;omega
 have e2:decide ((cap:Int)<(n:Int)+1)=false:=by simp;omega
 have hci:¬ cap=q:=by omega
 have hci1:¬ cap=q+1:=by omega
 have hic:(q:Int)<=(n:Int):=by omega
 have hnc:(n:Int)+1<=(cap:Int):=by omega
 go_enter Tryz.func74,Tryz.ntmps74
 go_wp2
 have hun:cur≠[]:=fun h=>by have:=HC.out;rw [h] at this;simp at this;omega
 rw [run_callFunc_extern Tryz.func100 (by kernel_rfl) (by kernel_rfl) (by kernel_rfl) (e:=Extern.SlicesOverlaps.overlaps #[23,23] #[4]) (by kernel_rfl),
  aGu gG HV.out HB.out hne HCN.out hun 4]
 clear hun
 simp only [Result.andThen]
 rw [Oper.upon_value]
 go_wp2
 refine pO 8 (by kernel_rfl) (by kernel_rfl) ?_
 simp only [List.take_succ_cons,List.take_zero,List.drop_succ_cons,List.drop_zero]
 repeat (go_big_quiet_step (fail))
 refine wpQuiet_nil ?_
 intro _ hw'
 obtain ⟨nq,hw''⟩:=hw'
 subst hw''
 have HB1:=Lib.hid (show Blk (w.drewN nq) g cur 90 from HB.out)
 have HV1:=Lib.hid (show Row (w.drewN nq) bv 0 cs from HVR.out)
 have HG:=Lib.hid (Chg.drewN g w nq)
 generalize w.drewN nq=w1 at *
 have hl1:xs.length=n*3:=by rw [<- HXS.out,List.length_take,HC.out];omega
 have hdl:(xs.drop (q*3)).length=(n-q)*3:=by rw [List.length_drop,hl1,Nat.sub_mul]
 have hrow:Row w1 g (q*3) (xs.drop (q*3)):=by
  have h0:Row w1 g 0 (xs.take (q*3)++xs.drop (q*3)):=by
   rw [List.take_append_drop,<- HXS.out]
   have:=HB1.out.row
   rw [<- List.take_append_drop (n*3) cur] at this
   exact this.left
  have h1:=h0.right
  rw [List.length_take,hl1,Nat.min_eq_left (Nat.mul_le_mul_right 3 (by omega)),Nat.zero_add] at h1
  exact h1
 have HL1:=Lib.hid hl1;have HDL:=Lib.hid hdl;have HROW:=Lib.hid hrow
 clear hl1 hdl hrow
 have HSP:=Lib.hid (aBo cur xs cs (q*3) (n*3) 3 HXS.out (by rw [HC.out];omega) (by omega) HCS.out)
 refine iE gG rfl rfl rfl rfl HB1.out HROW.out ?_ ?_ ?_ ?_
 ·rw [HDL.out];congr 1;exact (Nat.min_eq_right (by omega)).symm
 ·rw [HDL.out,HC.out,<- Nat.add_mul];exact Nat.mul_le_mul_right 3 (by omega)
 ·exact fun v hv=>hfx v (List.mem_of_mem_drop hv)
 intro w2 hb2 hc2
 rw [show (q+1)*3=q*3+3 by omega] at hb2
 obtain ⟨C1,hC1⟩:∃ C1,C1=cur.take (q*3+3)++xs.drop (q*3)++cur.drop (q*3+3+(xs.drop (q*3)).length):=⟨_,rfl⟩
 rw [<- hC1] at hb2
 have hsp:=HSP.out
 simp only [<- hC1] at hsp
 have H2:=Lib.hid (And.intro hb2 (And.intro hc2 (HV1.out.chg hc2 hne)))
 have HSP2:=Lib.hid hsp
 have HN2:=Lib.hid (show cs.length=Nat.min 1 (n+1-q)*3 by rw [HCS.out,show Nat.min 1 (n+1-q)=1 from Nat.min_eq_left (by omega)])
 have HF2:=Lib.hid (show q*3+cs.length<=C1.length by rw [hsp.1,HC.out,HCS.out];omega)
 clear hb2 hc2 hsp hC1
 go_wp2_with ((with_reducible refine iE (dCap:=cap-q) (sCap:=cv+1) gG rfl ?_ ?_ ?_ H2.out.1 H2.out.2.2 HN2.out HF2.out hfc ?_);exact rfl;exact rfl;exact rfl;intro w3 hb3 hc3;have H3:=Lib.hid (And.intro hb3 hc3);clear hb3 hc3)
 go_ret
 refine ⟨_,rfl,HS.out.1.chg i HS.out.2 (g:=g) (fun S hA=>hA.2 g rfl) ((HG.out.trans H2.out.2.1).trans H3.out.2) fun S hA=>⟨⟨?_,.inr ⟨g,cap,_,rfl,Nat.zero_le _,H3.out.1,hroom,HM.out,?_,?_⟩⟩,hA.2⟩⟩
 ·simp only [List.length_append,List.length_take,List.length_drop,HL1.out,HCS.out];omega
 ·rw [List.size_toArray,HSP2.out.2.1,HC.out]
 ·rw [show (n+1)*3=n*3+3 by omega];exact HSP2.out.2.2
set_option maxHeartbeats 2000000 in
theorem aIg {w0 w:World} {l:List HP} {g cap q:Nat} {xs:List Value} (H:St w0 w l) (i:Nat) (hi:l[i]?=some (HP.own 90 3 (.slice (some ⟨g,0,none⟩) cap cap) cap xs)) (hrx:Row w g 0 xs) (hxl:xs.length=cap*3) (hfx:Flat xs) (hgw:g<w.heap.size) (hn:cap<=1000) (hq:q<cap)
    (bv cv:Nat) (cs:List Value) (hv:Row w bv 0 cs) (hcs:cs.length=3) (hfc:Flat cs) (hvw:bv<w.heap.size) :
    Calls Tryz.prog 74 #[.slice (some ⟨g,0,none⟩) cap cap,.int .i64 q,.slice (some ⟨bv,0,none⟩) 1 (cv+1)] w (fW 90 3 w0 l i cap q xs cs):=by
  have HS:=Lib.hid (And.intro H hi)
  have hd0:Row w g 0 (xs.take (q*3)):=by
    have:=hrx;rw [<- List.take_append_drop (q*3) xs] at this;exact this.left
  have hd1:Row w g (q*3) (xs.drop (q*3)):=by
    have:=hrx;rw [<- List.take_append_drop (q*3) xs] at this
    have h1:=this.right
    rw [List.length_take,hxl,Nat.min_eq_left (Nat.mul_le_mul_right 3 (by omega)),Nat.zero_add] at h1
    exact h1
  have HD0:=Lib.hid hd0;have HD1:=Lib.hid hd1;have HXL:=Lib.hid hxl;have HV:=Lib.hid hv;have HCS:=Lib.hid hcs
  have HLO:=Lib.hid (show (xs.take (q*3)).length=q*3 by rw [List.length_take,hxl];exact Nat.min_eq_left (Nat.mul_le_mul_right 3 (by omega)))
  have HDL:=Lib.hid (show (xs.drop (q*3)).length=(cap-q)*3 by rw [List.length_drop,hxl,Nat.sub_mul])
  clear hd0 hd1 hxl hv hcs hrx H hi
  have e1:((q:Int)==(cap:Int))=false:=by simp;omega
  have e2:decide ((cap:Int)<(cap:Int)+1)=true:=by simp;omega
  have hci:¬ cap=q:=by omega
  have hc0:¬ cap=0:=by omega
  have hic:(q:Int)<=(cap:Int):=by omega
  go_enter Tryz.func74,Tryz.ntmps74
  go_wp2_with (first
    | ((with_reducible refine aFx (n:=q) (cap:=cap) (k:=cap+1-q) (m:=cap+1) (kk:=(cap:Int)+1-(q:Int)) gG u3 rfl ?_ (by omega) (by omega) ?_ ?_ HD0.out HLO.out (by omega) (by omega) (by unfold maxLen;omega) (by omega) ?_);exact rfl;exact rfl;exact rfl;intro c rs hc1 hc2 hc3;have hci2:¬ c=q:=(by omega);have hci3:¬ c=q+1:=(by omega);have hcc:(q:Int)<=(c:Int):=(by omega);
        have HC:=Lib.hid (And.intro hc2 (aFq xs cs rs (q*3) (cap*3) 3 (c*3) HXL.out (by omega) (by omega) HCS.out hc3));
        have HB0:=Lib.hid (show Blk ((w.alloc (.cells (xs.take (q*3)++rs).toArray 90)).drew) w.heap.size (xs.take (q*3)++rs) 90 from Blk.new w _ _);
        have HVR:=Lib.hid (show Row ((w.alloc (.cells (xs.take (q*3)++rs).toArray 90)).drew) bv 0 cs from HV.out.alloc _);
        have HGR:=Lib.hid (show Row ((w.alloc (.cells (xs.take (q*3)++rs).toArray 90)).drew) g (q*3) (xs.drop (q*3)) from HD1.out.alloc _);
        have HBL:=Lib.hid (show Below w.heap.size w ((w.alloc (.cells (xs.take (q*3)++rs).toArray 90)).drew) from ((Below.refl _ _).alloc (Nat.le_refl _) _).drew);
        have HN2:=Lib.hid (show cs.length=Nat.min 1 (cap+1-q)*3 by rw [HCS.out,show Nat.min 1 (cap+1-q)=1 from Nat.min_eq_left (by omega)]);
        have HF2:=Lib.hid (show q*3+cs.length<=(xs.take (q*3)++rs).length by rw [HC.out.2.1,HCS.out];omega);
        clear hc2 hc3)
    | ((with_reducible refine iE (dCap:=c-q) (sCap:=cv+1) gG rfl ?_ ?_ ?_ HB0.out HVR.out HN2.out HF2.out hfc ?_);exact rfl;exact rfl;exact rfl;intro w2 hb2 hc2;have H2:=Lib.hid (And.intro hb2 (And.intro (HGR.out.chg hc2 (by omega)) (HBL.out.chg hc2 (Nat.le_refl _))));clear hb2 hc2))
  refine pO 8 (by kernel_rfl) (by kernel_rfl) ?_
  simp only [List.take_succ_cons,List.take_zero,List.drop_succ_cons,List.drop_zero]
  repeat (go_big_quiet_step (fail))
  refine wpQuiet_nil ?_
  intro _ hw'
  obtain ⟨nq,hw''⟩:=hw'
  subst hw''
  refine iE gG rfl rfl rfl rfl (show Blk (w2.drewN nq) _ _ _ from H2.out.1) (show Row (w2.drewN nq) _ _ _ from H2.out.2.1) ?_ ?_ ?_ ?_
  · rw [HDL.out];congr 1;exact (Nat.min_eq_left (by omega)).symm
  · rw [HC.out.2.2.1,HDL.out,<- Nat.add_mul];exact Nat.mul_le_mul_right 3 (by omega)
  · exact fun v hv=>hfx v (List.mem_of_mem_drop hv)
  intro w3 hb3 hc3
  rw [show (q+1)*3=q*3+3 by omega] at hb3
  have H3:=Lib.hid (And.intro hb3 ((H2.out.2.2.drewN nq).chg hc3 (Nat.le_refl _)))
  clear hb3 hc3
  go_wp2
  go_ret
  have hlt:=H3.out.1.lt
  refine ⟨_,rfl,HS.out.1.upd i HS.out.2 (fun S hA hS=>⟨fun b=>b=w.heap.size,⟨⟨?_,.inr ⟨w.heap.size,c,_,rfl,Nat.zero_le _,H3.out.1,by omega,HC.out.1,?_,?_⟩⟩,fun b hb=>by simp [Value.ownBlock] at hb;exact hb.symm⟩,fun b hb=>.inr (by omega),fun b hb=>by rw [hb];exact hlt,fun b hb _=>H3.out.2.block b hb⟩) H3.out.2.os H3.out.2.tape H3.out.2.output H3.out.2.size⟩
  · simp only [List.length_append,HLO.out,HDL.out,HCS.out];omega
  · rw [List.size_toArray,HC.out.2.2.2.1]
  · rw [show (cap+1)*3=cap*3+3 by omega];exact HC.out.2.2.2.2
end
theorem aBw {s:List T_api_Snap} {i_:Int} {v:List T_api_Snap} {p0:Option Addr} {c0:Nat} {p1:Option Addr} {c1:Nat} {r:(List T_api_Snap)} (hm:iN s i_ v=some r) (H:St w0 w (HP.ow R_api_Snap 90 p0 c0 s::HP.ow R_api_Snap 90 p1 c1 v::l)) :
  Calls Tryz.prog 74 [.slice p0 (s).length c0,.int .i64 (i_),.slice p1 (v).length c1].toArray w (fun e w'=>∃ v,e=.returned v/\∃ (p2:Option Addr) (c2:Nat),v=.slice p2 (r).length c2/\St w0 w' (HP.ow R_api_Snap 90 p2 c2 r::l)):=by
 unfold iN at hm
 exact zU (k:=3) rfl (by decide) aL1 aLk aIg hm H
section
open Go.ChangeShapes Go.WideShapes Go.ChangeAt
set_option maxHeartbeats 2000000 in
instance:Ctr Tryz.prog 74 0 (type_of% @aBw):=⟨enters Tryz.func74 (by kernel_rfl) rfl,@aBw⟩
theorem del75 {w0 w:World} {l:List HP} {g cap q r:Nat} {xs cur:List Value} (H:St w0 w l) (i:Nat) (hi:l[i]?=some (HP.own 90 3 (.slice (some ⟨g,0,none⟩) (q+1+r) cap) (q+1+r) xs)) (hb:Blk w g cur 90) (hcur:cur.length=cap*3) (hxs:cur.take ((q+1+r)*3)=xs) (hfx:Flat xs) (hm:cap<=maxLen) (hnc:q+1+r<=cap) :
  Calls Tryz.prog 75 #[.slice (some ⟨g,0,none⟩) (q+1+r) cap,.int .i64 (q:Int),.int .i64 ((q+1:Nat):Int)] w (aB0 90 3 w0 l i g cap q r xs):=by
 have HS:=Lib.hid (And.intro H hi)
 have HB:=Lib.hid hb;have HC:=Lib.hid hcur;have HXS:=Lib.hid hxs;have HM:=Lib.hid hm
 clear hb hcur hxs hm H hi
 have e1:((q:Int)==((q+1:Nat):Int))=false:=by simp;omega
 have h1:(q:Int)<=((q+1:Nat):Int):=by omega
 have h2:((q+1:Nat):Int)<=((q+1+r:Nat):Int):=by omega
 have h3:((q+1+r:Nat):Int)<=(cap:Int):=by omega
 have hcq:¬ cap=q:=by omega
 have hcr:¬ cap=q+r:=by omega
 by_cases hcj:cap=q+1
 all_goals
  go_enter Tryz.func75,Tryz.ntmps75
  go_wp2
  refine pO 6 (by kernel_rfl) (by kernel_rfl) ?_
  simp only [List.take_succ_cons,List.take_zero,List.drop_succ_cons,List.drop_zero]
  repeat (go_big_quiet_step (fail))
  refine wpQuiet_nil ?_
  intro _ hw'
  obtain ⟨nq,hw''⟩:=hw'
  subst hw''
  have HB1:=Lib.hid (show Blk (w.drewN nq) g cur 90 from HB.out)
  have HG:=Lib.hid (Chg.drewN g w nq)
  generalize w.drewN nq=w1 at *
  have hl1:xs.length=(q+1+r)*3:=by rw [<- HXS.out,List.length_take,HC.out];omega
  have HL1:=Lib.hid hl1
  have hdl:(xs.drop ((q+1)*3)).length=r*3:=by rw [List.length_drop,hl1];omega
  have hrow:Row w1 g ((q+1)*3) (xs.drop ((q+1)*3)):=by
   have h0:Row w1 g 0 (xs.take ((q+1)*3)++xs.drop ((q+1)*3)):=by
    rw [List.take_append_drop,<- HXS.out]
    have:=HB1.out.row
    rw [<- List.take_append_drop ((q+1+r)*3) cur] at this
    exact this.left
   have h1:=h0.right
   rw [List.length_take,hl1,Nat.min_eq_left (Nat.mul_le_mul_right 3 (by omega)),Nat.zero_add] at h1
   exact h1
  have HDL:=Lib.hid hdl;have HROW:=Lib.hid hrow
  clear hl1 hdl hrow
  refine aNj (m:=r) (news:=xs.drop ((q+1)*3)) gG rfl rfl rfl rfl HB1.out ?_ HDL.out (fun v hv=>hfx v (List.mem_of_mem_drop hv)) (by omega) (by rw [HDL.out,HC.out];omega) ?_
  ·first
    | exact HROW.out
    | (rw [List.eq_nil_of_length_eq_zero (l:=xs.drop ((q+1)*3)) (by rw [HDL.out];omega)];exact fun j v h=>by simp at h)
  intro w2 hb2 hc2
  rw [HDL.out] at hb2
  obtain ⟨C1,hC1⟩:∃ C1,C1=cur.take (q*3)++xs.drop ((q+1)*3)++cur.drop (q*3+r*3):=⟨_,rfl⟩
  rw [<- hC1] at hb2
  have hC1l:C1.length=cap*3:=by rw [hC1];simp only [List.length_append,List.length_take,List.length_drop,HL1.out,HC.out];omega
  have H2:=Lib.hid (And.intro hb2 hc2);have HC1:=Lib.hid hC1;have HC1L:=Lib.hid hC1l
  clear hb2 hc2 hC1 hC1l
  have h5:(q:Int)+(r:Int)<=(q:Int)+1+(r:Int):=by omega
  have h6:(q:Int)+1+(r:Int)<=(cap:Int):=by omega
  go_wp2
  obtain ⟨zs,hzl,hrun⟩:=aIj (P:=Tryz.prog) (off:=(q+r)*3) (n:=q+1+r-(q+r)) gG H2.out.1 (by omega) (fun v hv=>by simp [Value.cells] at hv;rcases hv with rfl | hv<;>(try (rcases hv with rfl | hv))<;>(try subst hv)<;>rfl) (by rw [HC1L.out];omega)
  have hzk:zs.length=3:=by rw [hzl];omega
  have HB3:=H2.out.1.set_same (C1.take ((q+r)*3)++zs++C1.drop ((q+r)*3+zs.length))
  have HG3:=Chg.setRow w2 g (C1.take ((q+r)*3)++zs++C1.drop ((q+r)*3+zs.length)).toArray
  have HCR:=aI2 cur xs zs (q*3) (r*3) 3 (by rw [<- HXS.out];congr 1;omega) (by rw [HC.out];omega) hzk C1 _ (by rw [HC1.out,show (q+1)*3=q*3+3 by omega]) rfl
  rw [show q*3+r*3=(q+r)*3 by omega] at HCR
  have HR3:=Lib.hid hrun;have HBG:=Lib.hid (And.intro HB3 (And.intro HG3 HCR))
  clear hzl hzk HB3 HG3 HCR hrun
  rw [HR3.out]
  simp only [Result.andThen]
  rw [Oper.upon_value]
  generalize w2.setRow g (C1.take ((q+r)*3)++zs++C1.drop ((q+r)*3+zs.length)).toArray=w3 at *
  go_wp2
  go_ret
  try subst hcj
  refine ⟨rfl,HS.out.1.chg i HS.out.2 (g:=g) (fun S hA=>hA.2 g rfl) ((HG.out.trans H2.out.2).trans HBG.out.2.1) fun S hA=>⟨⟨?_,.inr ⟨g,_,_,rfl,Nat.zero_le _,HBG.out.1,by omega,HM.out,?_,?_⟩⟩,hA.2⟩⟩
  ·simp only [List.length_append,List.length_take,HDL.out,HL1.out];omega
  ·rw [List.size_toArray,HBG.out.2.2.2.1,HC.out]
  ·rw [show (q+1)*3=q*3+3 by omega];exact HBG.out.2.2.2.2
end
theorem aA5 {s:List T_api_Snap} {i_:Int} {j_:Int} {p0:Option Addr} {c0:Nat} {r:(List T_api_Snap)} (hm:iD s i_ j_=some r) (H:St w0 w (HP.ow R_api_Snap 90 p0 c0 s::l)) :
  Calls Tryz.prog 75 [.slice p0 (s).length c0,.int .i64 (i_),.int .i64 (j_)].toArray w (fun e w'=>∃ v,e=.returned v/\∃ (p1:Option Addr) (c1:Nat),v=.slice p1 (r).length c1/\St w0 w' (HP.ow R_api_Snap 90 p1 c1 r::l)):=by
 unfold iD at hm
 exact aI8 (k:=3) rfl (by decide) del75 hm H
instance:Ctr Tryz.prog 75 0 (type_of% @aA5):=⟨enters Tryz.func75 (by kernel_rfl) rfl,@aA5⟩
theorem aHj {s:bX} {o:T_api_Op} {gen:Int} {bo0:Nat} {cs0:List Value} {r:Int×bX} (hm:fP s o gen=some r) (H:St w0 w (jW bo0 s::HP.rc R_api_Op cs0 o::l)) :
  Calls Tryz.prog 45 [.pointer (some ⟨bo0,0,none⟩),.agg cs0.toArray,.int .u64 (gen)].toArray w (fun e w'=>∃ v,e=.returned v/\v=.int .i64 (r.1)/\St w0 w' (jW bo0 r.2::l)):=by
 unfold fP at hm
 have h0:MH 3 [7] [] (scP [(0,0),(0,1),(0,2),(1,3),(0,4),(1,5),(0,6),(2,7),(0,8),(0,9),(0,10),(0,11),(0,12)]) []:=⟨trivial⟩
 have h1:MH 8 [13,15,16,19] [19] (scP [(0,0),(0,1),(0,2),(0,3),(0,4),(0,5),(0,6),(0,7),(0,8),(0,9),(0,10),(0,11),(1,12),(2,13),(0,14),(2,15),(2,16),(0,17),(0,18),(3,19)]) [0,4]:=⟨trivial⟩
 exact au Tryz.func45
instance:Ctr Tryz.prog 45 0 (type_of% @aHj):=⟨enters Tryz.func45 (by kernel_rfl) rfl,@aHj⟩
theorem aHn {s:T_api_State} {o:T_api_Op} {gen:Int} {cs0:List Value} {cs1:List Value} {r:T_api_State×T_api_Answer} (hm:nDo s o gen=some r) (H:St w0 w (HP.rc R_api_State cs0 s::HP.rc R_api_Op cs1 o::l)) :
  Calls Tryz.prog 25 [.agg cs0.toArray,.agg cs1.toArray,.int .u64 (gen)].toArray w (fun e w'=>∃ v,e=.returned v/\∃ (cs2:List Value) (cs3:List Value),v=.tuple [.agg cs2.toArray,.agg cs3.toArray].toArray/\St w0 w' (HP.rc R_api_State cs2 r.1::HP.rc R_api_Answer cs3 r.2::l)):=by
 unfold nDo at hm
 have h0:MH 13 [1,3,4] [4] (scP [(1,0),(0,2),(2,1),(2,3),(3,4)]) [9]:=⟨trivial⟩
 have h1:MH 14 [2,3] [3] (scP [(1,0),(0,1),(2,2),(3,3)]) [9]:=⟨trivial⟩
 exact au Tryz.func25
instance:Ctr Tryz.prog 25 0 (type_of% @aHn):=⟨enters Tryz.func25 (by kernel_rfl) rfl,@aHn⟩
set_option maxRecDepth 100000
set_option maxHeartbeats 4000000
theorem aHq {list:List T_api_Pair} {p0:Option Addr} {c0:Nat} {r:(List T_api_Pair)} (hm:kK list=some r) (H:St w0 w (HP.sl R_api_Pair p0 c0 list::l)) :
  Calls Tryz.prog 37 [.slice p0 (list).length c0].toArray w (fun e w'=>∃ v,e=.returned v/\∃ (p1:Option Addr) (c1:Nat),v=.slice p1 (r).length c1/\St w0 w' (HP.ow R_api_Pair 126 p1 c1 r::l)):=by
 unfold kK at hm
 have h0:LH2 3 [0] [] (fun (s0:(List T_api_Pair)×Int) (p2:Option Addr) (c2:Nat) z=>(3,.slice p2 (s0.1).length c2)::(4,.int .i64 (s0.2))::z) (fun s0 p2 c2 z=>HP.ow R_api_Pair 126 p2 c2 s0.1::z):=⟨trivial⟩
 have h1:MH 5 [1,7,8,14,16,17] [] (.step 0 0 (.step 0 2 (.step 0 3 (.step 0 4 (.step 0 5 (.step 0 6 (.step 0 9 (.step 0 10 (.step 0 11 (.step 0 12 (.step 0 13 (.fork 1 (.fork 7 (.step 2 8 (.step 2 14 (.step 0 15 (.step 2 16 (.step 2 17 (.step 0 18 .done)))))) 8 (.step 2 7 (.step 2 14 (.step 0 15 (.step 2 16 (.step 2 17 (.step 0 18 .done))))))) 8 (.step 2 1 (.step 2 7 (.step 2 14 (.step 0 15 (.step 2 16 (.step 2 17 (.step 0 18 .done))))))))))))))))))) []:=⟨trivial⟩
 exact au Tryz.func37
instance:Ctr Tryz.prog 37 0 (type_of% @aHq):=⟨enters Tryz.func37 (by kernel_rfl) rfl,@aHq⟩
theorem aAz {a_:List T_api_Pair} {b_:List T_api_Pair} {p0:Option Addr} {c0:Nat} {p1:Option Addr} {c1:Nat} {r:Bool} (hm:jO a_ b_=some r) (H:St w0 w (HP.sl R_api_Pair p0 c0 a_::HP.sl R_api_Pair p1 c1 b_::l)) :
  Calls Tryz.prog 62 [.slice p0 (a_).length c0,.slice p1 (b_).length c1].toArray w (fun e w'=>∃ v,e=.returned v/\v=.bool (r)/\St w0 w' (l)):=by
 unfold jO at hm
 have h0:LH0 4 [0,1] [] (fun (s0:Int) z=>(5,.int .i64 (s0))::z) (fun s0 z=>z):=⟨trivial⟩
 exact au Tryz.func62
instance:Ctr Tryz.prog 62 0 (type_of% @aAz):=⟨enters Tryz.func62 (by kernel_rfl) rfl,@aAz⟩
theorem aCu {list:List T_api_Pair} {p0:Option Addr} {c0:Nat} {r:Bool} (hm:gC list=some r) (H:St w0 w (HP.sl R_api_Pair p0 c0 list::l)) :
  Calls Tryz.prog 36 [.slice p0 (list).length c0].toArray w (fun e w'=>∃ v,e=.returned v/\v=.bool (r)/\St w0 w' (l)):=by
 unfold gC at hm
 have h0:LH0 3 [0] [] (fun (s0:Int×Int) z=>(3,.int .i64 (s0.1))::(4,.int .i64 (s0.2))::z) (fun s0 z=>z):=⟨trivial⟩
 exact au Tryz.func36
instance:Ctr Tryz.prog 36 0 (type_of% @aCu):=⟨enters Tryz.func36 (by kernel_rfl) rfl,@aCu⟩
theorem w_rGreatOp {o:T_api_Op} {cs0:List Value} {r:Bool} (hm:rGreatOp o=some r) (H:St w0 w (HP.rc R_api_Op cs0 o::l)) :
  Calls Tryz.prog 6 [.agg cs0.toArray].toArray w (fun e w'=>∃ v,e=.returned v/\v=.bool (r)/\St w0 w' (l)):=by
 unfold rGreatOp at hm
 exact au Tryz.func6
instance:Ctr Tryz.prog 6 0 (type_of% @w_rGreatOp):=⟨enters Tryz.func6 (by kernel_rfl) rfl,@w_rGreatOp⟩
theorem aPt:aM Tryz.prog 90 1 1:=by unfold aM;rw [Tryz.underlying90];kernel_rfl
instance:FldC Tryz.prog 90 1 1:=⟨aPt⟩
theorem plain29:Plain Tryz.prog 29:=by unfold Plain;rw [Tryz.underlying29];rfl
instance:PlnC Tryz.prog 29:=⟨plain29⟩
theorem aBh {a_:T_api_State} {b_:T_api_State} {cs0:List Value} {cs1:List Value} {r:Bool} (hm:pW a_ b_=some r) (H:St w0 w (HP.rc R_api_State cs0 a_::HP.rc R_api_State cs1 b_::l)) :
  Calls Tryz.prog 32 [.agg cs0.toArray,.agg cs1.toArray].toArray w (fun e w'=>∃ v,e=.returned v/\v=.bool (r)/\St w0 w' (l)):=by
 unfold pW at hm
 have h0:LH0 4 [2,3] [] (fun (s0:Int) z=>(5,.int .i64 (s0))::z) (fun s0 z=>z):=⟨trivial⟩
 have h1:MH 6 [10,11,12,13] [13] (.step 0 0 (.step 0 1 (.step 0 2 (.step 0 3 (.step 0 4 (.step 0 5 (.step 0 6 (.step 0 7 (.step 0 8 (.step 0 9 (.fork 10 (.step 2 11 (.step 2 12 (.step 3 13 .done))) 11 (.step 2 10 (.step 2 12 (.step 3 13 .done)))))))))))))) [3,2]:=⟨trivial⟩
 exact au Tryz.func32
instance:Ctr Tryz.prog 32 0 (type_of% @aBh):=⟨enters Tryz.func32 (by kernel_rfl) rfl,@aBh⟩
theorem aEi {s:T_api_State} {cs0:List Value} {r:Bool} (hm:iF s=some r) (H:St w0 w (HP.rc R_api_State cs0 s::l)) :
  Calls Tryz.prog 17 [.agg cs0.toArray].toArray w (fun e w'=>∃ v,e=.returned v/\v=.bool (r)/\St w0 w' (l)):=by
 unfold iF at hm
 have h0:LH0 4 [1] [] (fun (s0:Int) z=>(3,.int .i64 (s0))::z) (fun s0 z=>z):=⟨trivial⟩
 exact au Tryz.func17
instance:Ctr Tryz.prog 17 0 (type_of% @aEi):=⟨enters Tryz.func17 (by kernel_rfl) rfl,@aEi⟩
end Go.Proofs.YtkcgdaihfblncaaGreatDoor
