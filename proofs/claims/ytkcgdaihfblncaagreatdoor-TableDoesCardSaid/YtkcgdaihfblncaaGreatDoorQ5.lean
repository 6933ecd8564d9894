/- Texts K, Cv, Str, Srt, Ins. -/
import Derived.Test.YtkcgdaihfblncaaGreatDoorQ4
import Derived.Shelf.SlSortCmp.WholeK
import Derived.ArgAppend
import Derived.Lib.SplitLaws
import Derived.Lib.Join
import Derived.Below
import Derived.Shelf.SlicesE.DeleteFunc
import Derived.Sort.EncStr
import Derived.Shelf.SlSortCmp.NoneTotal
set_option linter.unusedSimpArgs false
set_option linter.unusedVariables false
namespace Go.Tri
open Go.RowKit Go.Sort Go.Proofs
theorem lP:∀ a:List UInt8,Lib.compareBytes a a=0
 | []=>rfl
 | a::as'=>by simp [Lib.compareBytes,lP as']
theorem gY:∀ a b:List UInt8,Lib.compareBytes a b=0->a=b
 | [],[],_=>rfl
 | [],_::_,h=>by simp [Lib.compareBytes] at h
 | _::_,[],h=>by simp [Lib.compareBytes] at h
 | a::as',b::bs,h=>by
  simp only [Lib.compareBytes] at h
  split at h
  ·simp at h
  ·split at h
   ·simp at h
   ·rename_i h1 h2
    have:a=b:=UInt8.le_antisymm (UInt8.not_lt.1 h2) (UInt8.not_lt.1 h1)
    rw [this,gY as' bs h]
theorem fL:∀ a b:List UInt8,Lib.compareBytes b a=- Lib.compareBytes a b
 | [],[]=>rfl
 | [],_::_=>rfl
 | _::_,[]=>rfl
 | a::as',b::bs=>by
  simp only [Lib.compareBytes]
  by_cases h1:a<b
  ·grind
  ·by_cases h2:b<a
   ·grind
   ·simp [h1,h2,fL as' bs]
theorem jG:∀ a b c:List UInt8,Lib.compareBytes a b<0->Lib.compareBytes b c<0->Lib.compareBytes a c<0
 | [],[],c,h,_=>by simp [Lib.compareBytes] at h
 | [],_::_,[],_,h=>by simp [Lib.compareBytes] at h
 | [],_::_,_::_,_,_=>by simp [Lib.compareBytes]
 | _::_,[],_,h,_=>by simp [Lib.compareBytes] at h
 | _::_,_::_,[],_,h=>by simp [Lib.compareBytes] at h
 | a::as',b::bs,c::cs,h1,h2=>by
  simp only [Lib.compareBytes] at *
  by_cases ab:a<b
  ·by_cases bc:b<c
   ·simp [UInt8.lt_trans ab bc]
   ·by_cases cb:c<b
    ·simp [bc,cb] at h2
    ·have:b=c:=UInt8.le_antisymm (UInt8.not_lt.1 cb) (UInt8.not_lt.1 bc)
     subst this;simp [ab]
  ·by_cases ba:b<a
   ·simp [ab,ba] at h1
   ·have:a=b:=UInt8.le_antisymm (UInt8.not_lt.1 ba) (UInt8.not_lt.1 ab)
    subst this
    simp only [UInt8.lt_irrefl,if_false] at h1
    by_cases bc:a<c
    ·simp [bc]
    ·by_cases cb:c<a
     ·simp [bc,cb] at h2
     ·simp only [bc,cb,if_false] at h2 ⊢
      exact jG as' bs cs h1 h2
def ltK (a b:List UInt8):Prop:=Lib.compareBytes a b<0
abbrev H32:={l:List UInt8 // l.length=32}
instance:Inhabited H32:=⟨⟨List.replicate 32 0,by simp⟩⟩
section
variable {w0 w:World} {ls:List HP} {e:TypeId} {b cap:Nat} {xs:List (List UInt8)}
end
theorem aFe {P:Program} {N:Fs} {a:Act} {l:List (Nat×Value)} {o:Oper} {w:World} {v:Value} (F:Fr N a l) {f:FuncId} {xs:List Operand} {ts:Array TypeId} (ho:o.op=.call { callee:=.value (.func f),args:=xs.toArray,argTypes:=ts }) {vs:List Value} (hv:evs l xs=some vs)
  (he:(callFunc f vs.toArray).run P w=.ok (.value v) w):(execOp a.eval o).run P w=.ok (.value v) w:=by
 have:=F.evals hv
 unfold execOp
 simp [ho,resolve,Act.eval,Deferred.ofValue,invoke,he,this]
theorem iP {κ β:Type} [DecidableEq κ] (k:κ):∀ l:List (κ×β),(aZ k l).isSome=true↔k∈l.map (·.1)
 | []=>by simp [aZ]
 | (k',v)::l=>by
  simp only [aZ]
  split
  ·grind
  ·rename_i h
   rw [iP k l];simp [Ne.symm h]
theorem St.owCase {α:Type} {R:Rp α} {w0 w:World} {ls:List HP} {e:TypeId} {p:Option Addr} {cap:Nat} {xs:List α} (H:St w0 w ls) (i:Nat) (hi:ls[i]?=some (HP.ow R e p cap xs)):(p=none/\cap=0/\xs=[])\/∃ b,p=some ⟨b,0,none⟩:=by
 obtain ⟨B,H⟩:=H.out
 obtain ⟨S0,css,c0,⟨hl0,⟨h,h'⟩ | ⟨g,cap',cur,h,hb0,hg,hnc,hm,hsz,ht⟩⟩,hS⟩:=H.at hi<;>grind
theorem AggT.run_szOf {P:Program} {t:TypeId} {n:Nat} {z:List Value} (h:AggT P t n z) (w:World):(Go.sizeOf t).run P w=.ok n w:=by
 obtain ⟨i,hi,he⟩:=Option.map_eq_some_iff.1 h.info
 injection he with h1 _
 subst h1
 simp [Go.sizeOf,typeInfo,hi]
def leK (a b:List UInt8):Bool:=decide (Lib.compareBytes a b<=0)
theorem aLz (a b c:List UInt8) (h1:leK a b=true) (h2:leK b c=true):leK a c=true:=by
 have h1:Lib.compareBytes a b<=0:=of_decide_eq_true h1
 have h2:Lib.compareBytes b c<=0:=of_decide_eq_true h2
 refine decide_eq_true ?_
 by_cases e1:Lib.compareBytes a b=0
 ·rw [gY _ _ e1];exact h2
 ·by_cases e2:Lib.compareBytes b c=0
  ·rw [<- gY _ _ e2];exact h1
  ·have:=jG a b c (by omega) (by omega)
   omega
theorem aJt (a b:List UInt8):(leK a b || leK b a)=true:=by grind [fL,leK]
theorem aGm {β:Type} {m:List UInt8->Option β}:∀ (ks:List (List UInt8)) (m:List UInt8->Option β),ks.Nodup->(∀ k,k∈ks↔(m k).isSome=true)->∃ kv,Enum m kv/\kv.map (·.1)=ks
 | ks,m,hn,hk=>by
  have key:∀ l:List (List UInt8),(∀ k∈l,(m k).isSome=true)->∃ kv:List (List UInt8×β),kv.map (·.1)=l/\∀ k v,(k,v)∈kv->m k=some v:=by
   intro l
   induction l with
   | nil=>intro _;exact ⟨[],rfl,fun k v h=>by cases h⟩
   | cons a l ih =>
    intro h
    obtain ⟨kv,h1,h2⟩:=ih fun k hk=>h k (List.mem_cons_of_mem _ hk)
    obtain ⟨v,hv⟩:=Option.isSome_iff_exists.1 (h a (by simp))
    refine ⟨(a,v)::kv,by simp [h1],fun k v' hm=>?_⟩
    rcases List.mem_cons.1 hm with e | e
    ·cases e;exact hv
    ·exact h2 k v' e
  obtain ⟨kv,h1,h2⟩:=key ks fun k h=>(hk k).1 h
  refine ⟨kv,⟨by rw [h1];exact hn,fun k=>?_⟩,h1⟩
  by_cases hi:k∈ks
  ·have h3:=(iP k kv).2 (by rw [h1];exact hi)
   obtain ⟨v,hv⟩:=Option.isSome_iff_exists.1 h3
   rw [hv];exact h2 k v (dT hv)
  ·have h3:(aZ k kv)=none:=by
    rcases hx:aZ k kv with _ | v
    ·rfl
    ·exact absurd (by rw [<- h1];exact (iP k kv).1 (by rw [hx];rfl)) hi
   have h4:m k=none:=by
    rcases hx:m k with _ | v
    ·rfl
    ·exact absurd ((hk k).2 (by rw [hx];rfl)) hi
   rw [h3,h4]
end Go.Tri
namespace Go.Tri
open Go.RowKit
theorem aC0 (b:Nat):∀ (vs:List Value) (o:Nat) (w:World),Chg b w (w.setCells b o vs)
 | [],o,w=>⟨rfl,rfl,rfl,rfl,fun _ _=>rfl⟩
 | v::r,o,w=>by
  have ih:=aC0 b r (o+1) (w.setCell ⟨b,o,none⟩ v)
  have h1:(w.setCell ⟨b,o,none⟩ v).heap.size=w.heap.size:=by simp [World.setCell]
  refine ⟨ih.os,ih.tape,ih.output,ih.size.trans h1,fun k hk=>(ih.oth k hk).trans ?_⟩
  simp [World.setCell,Array.getElem?_modify,Ne.symm hk]
theorem setCells_at (b:Nat) {e:TypeId} {fr:Nat×Nat}:∀ (vs:List Value) (o:Nat) (w:World) (cur:Array Value),w.heap[b]?=some (.cells cur e fr)->o+vs.length<=cur.size ->
  ∃ cur':Array Value,(w.setCells b o vs).heap[b]?=some (.cells cur' e fr)/\cur'.size=cur.size/\cur'.toList=cur.toList.take o++vs++cur.toList.drop (o+vs.length)
 | [],o,w,cur,h,_=>⟨cur,h,rfl,by simp⟩
 | v::r,o,w,cur,h,hl=>by
  simp only [List.length_cons] at hl
  have h1:(w.setCell ⟨b,o,none⟩ v).heap[b]?=some (.cells (cur.setIfInBounds o v) e fr):=by
   simp [World.setCell,Array.getElem?_modify,h]
  obtain ⟨cur',h2,h3,h4⟩:=setCells_at b r (o+1) _ _ h1 (by simp;omega)
  refine ⟨cur',h2,by simpa using h3,?_⟩
  rw [h4]
  have hlt:o<cur.toList.length:=by simp;omega
  simp only [Array.toList_setIfInBounds,List.length_cons]
  rw [List.take_set,List.take_add_one,List.getElem?_eq_getElem hlt,List.drop_set_of_lt (by omega),show o+1+r.length=o+(r.length+1) by omega]
  simp only [Option.toList_some]
  rw [List.set_append_right _ _ (by simp;omega),List.length_take,Nat.min_eq_left (by omega),Nat.sub_self,List.set_cons_zero]
  simp
def HP.cv (e:TypeId) (b c:Nat) (xs:List UInt8):HP :=
 HP.of (fun _ w S=>(∃ cur:Array Value,w.heap[b]?=some (.cells cur e (cur.size,cur.size+1))/\cur.size=c/\xs.length<=c/\cur.toList.take xs.length=aQ xs)/\S b)
  (fun {_ w w' S} ⟨⟨cur,h1,h2⟩,hS⟩ hw=>⟨⟨cur,by rw [hw b hS];exact h1,h2⟩,hS⟩) (fun h _=>h)
section
variable {P:Program} {w0 w:World} {ls:List HP} {e:TypeId} {b c:Nat} {xs ys:List UInt8}
theorem aDw {B:Base} {S:Nat->Prop} (h:(HP.cv e b c xs).pr B w S):Row w b 0 (aQ xs):=by
 obtain ⟨⟨cur,h1,h2,h3,h4⟩,_⟩:=h
 intro j v hj
 have hj':j<xs.length:=by have:=(List.getElem?_eq_some_iff.1 hj).1;rwa [aR] at this
 rw [<- h4,List.getElem?_take_of_lt hj'] at hj
 unfold World.cell?
 simp only [h1]
 simpa using hj
theorem St.cvFrz (H:St w0 w ls) (i:Nat) (hi:ls[i]?=some (HP.cv e b c xs)):St w0 w (HP.sl rByte (some ⟨b,0,none⟩) c xs::ls.eraseIdx i) :=
 (H.mv i hi).freezeH fun {B B'} S h hle hw=>⟨_,gK B' xs,fun w' hw'=>by
  have h':=HP.loc _ h (w':=w') (fun b hb=>hw w' hw' b hb)
  rw [qL];exact .inr (.inr ⟨b,0,c,rfl,by obtain ⟨⟨cur,_,_,h3,_⟩,_⟩:=h;exact h3,aDw h'⟩)⟩
variable {ops:Array Oper} {rest:List Oper} {o:Oper} {a:Act} {W:List Oper->Act->World->Prop} {N:Fs} {sl:List (Nat×Value)} {d:Nat} {x y:Operand} {t t':TypeId}
theorem iI (k:bN P ops W) (F:Fr N a sl) (hg:o.guard=none) (hd:o.dst=some d) (hN:Nat.blt d N.n=true) (hs:P.underlying t=some .string) (hD:P.underlying t'=some (.slice e)) (he:P.underlying e=some (.int .u8)) (ho:o.op=.convert t t' x) (hx:ev sl x=some (.string (txb xs))) (H:St w0 w ls)
  (hk:∀ b c w' a',St w0 w' (HP.cv e b c xs::ls)->Fr N a' ((d,.slice (some ⟨b,0,none⟩) xs.length c)::sl)->W rest a' w'):W (o::rest) a w:=by
 have hr:=run_bytes_of_string (P:=P) w t t' e (txb xs) hs hD he
 have hge:=grownCap_ge w (txb xs).size 0 e
 generalize hc:grownCap w (txb xs).size 0 e=c at hr hge
 rw [jH] at hge
 have hsz:(bytesRow (txb xs) c).size=c:=by simp [bytesRow,txb,ByteArray.size];omega
 have hlist:(bytesRow (txb xs) c).toList.take xs.length=aQ xs:=by
  have h1:(bytesRow (txb xs) c).toList=aQ xs++List.replicate (c-(txb xs).size) (Value.int .u8 0):=by simp [bytesRow,txb,aQ]
  rw [h1,List.take_left' (aR _)]
 have H1:=H.drew.add (.cells (bytesRow (txb xs) c) e ((bytesRow (txb xs) c).size,(bytesRow (txb xs) c).size+1)) (HP.cv e w.heap.size c xs) fun S hS=>⟨⟨_,iR w.drew _,hsz,hge,hlist⟩,hS⟩
 refine bD (v:=.slice (some ⟨w.heap.size,0,none⟩) (txb xs).size c) (w':=w.drew.alloc (.cells (bytesRow (txb xs) c) e ((bytesRow (txb xs) c).size,(bytesRow (txb xs) c).size+1))) k F hg hd hN (by rw [ho];rfl) ?_ fun a' F'=>hk w.heap.size c _ a' H1 (by rw [jH] at F';exact F')
 unfold execOp
 simp only [ho,F.eval hx]
 rw [Sem.run_bind,hr]
 rfl
theorem qV (k:bN P ops W) (F:Fr N a sl) (hg:o.guard=none) (hd:o.dst=some d) (hN:Nat.blt d N.n=true) (ho:o.op=.call { callee:=.builtin .append,args:=#[x,y],argTypes:=#[t,t] }) {q:Option Addr} {cc:Nat} (hx:ev sl x=some (.slice (some ⟨b,0,none⟩) xs.length c)) (hy:ev sl y=some (.slice q ys.length cc))
  {bytes:Nat} {z:Value} (hE:ElemT P t e 1 bytes z) (hb:Nat.ble (Cap.cap UInt8*bytes) 140737488355328=true) {zs:List UInt8} (hz:aL xs ys=some zs) (hpos:Nat.blt 0 ys.length=true) (H:St w0 w ls) (i j:Nat) (hi:ls[i]?=some (HP.cv e b c xs)) (hj:ls[j]?=some (HP.sl rByte q cc ys))
  (hk:∀ p' c' w' a',St w0 w' (HP.sl rByte p' c' zs::ls.eraseIdx i)->Fr N a' ((d,.slice p' zs.length c')::sl)->W rest a' w'):W (o::rest) a w:=by
 obtain ⟨hr,rfl⟩:=tJ hz
 have hcl:=Cap.lt (α:=UInt8)
 have hbb:=Nat.le_of_ble_eq_true hb
 have h0:0<ys.length:=by simpa using hpos
 have hmul:(xs.length+ys.length)*bytes<=140737488355328:=Nat.le_trans (Nat.mul_le_mul_right _ hr) hbb
 obtain ⟨ti,hj1,hz0,hs1,hs2⟩:=info_parts hE.hi
 obtain ⟨B,f,hs,h1,h2,h3⟩:=H.own
 have hil:i<ls.length:=(List.getElem?_eq_some_iff.1 hi).1
 have hcv:=h1 i _ hi
 have hrow:=aDw hcv
 obtain ⟨⟨cur,c1,c2,c3,c4⟩,c5⟩:=hcv
 obtain ⟨css,d1,d2⟩:=h1 j _ hj
 have hsl:=d2 w hs
 rw [gA d1] at hsl
 obtain ⟨b2,off,hq,hrow2⟩:=hsl.rowAt (c:=0) rfl h0
 subst hq
 have holds:∀ (j:Nat) u,(aQ xs)[j]?=some u->w.cell? ((⟨b,0,none⟩:Addr).add j)=some u:=fun j u hj=>by rw [dQ];exact hrow j u hj
 have hnews:∀ (j:Nat) u,(aQ ys)[j]?=some u->w.cell? ((⟨b2,off,none⟩:Addr).add j)=some u:=fun j u hj=>by rw [dQ];exact hrow2 j u hj
 have hone:∀ u∈aQ ys,u.oneCell'=true:=wT ys
 have hlx:(aQ xs).length=xs.length*1:=by rw [aR,Nat.mul_one]
 have hly:(aQ ys).length=ys.length*1:=by rw [aR,Nat.mul_one]
 by_cases hroom:xs.length+ys.length<=c
 ·have hcell:∀ j,j<(aQ ys).length->(w.cell? ⟨b,0+xs.length*ti.size+j,none⟩).isSome=true:=fun j hj=>by
   rw [aR] at hj
   unfold World.cell?
   simp only [c1,hs1,Nat.mul_one,Nat.zero_add]
   rw [Array.getElem?_eq_getElem (by omega)];rfl
  have hfz:∀ j,j<(aQ ys).length->w.frozen? ⟨b,0+xs.length*ti.size+j,none⟩=false:=fun j hj=>by
   rw [aR] at hj
   unfold World.frozen?
   simp only [c1,hs1,Nat.mul_one,Nat.zero_add]
   simp;omega
  have hrun:=run_append_room_cells (P:=P) w t o.type e ti hE.ht hj1 b 0 xs.length c ⟨b2,off,none⟩ ys.length cc (aQ ys) (by rw [hs1];exact hly) hnews hone hroom hcell hfz
  rw [hs1,Nat.mul_one,Nat.zero_add] at hrun
  obtain ⟨cur',e1,e2,e3⟩:=setCells_at b (aQ ys) xs.length w cur c1 (by rw [aR];omega)
  have hbc:aQ (xs++ys)=aQ xs++aQ ys:=by simp [aQ]
  have h5:cur'.toList.take (xs++ys).length=aQ (xs++ys):=by
   rw [e3,c4,hbc,List.take_left' (by simp [aR])]
  have H1:=H.chg i hi (A':=HP.cv e b c (xs++ys)) (g:=b) (fun S hA=>hA.2) (aC0 b (aQ ys) xs.length w) fun S hA=>⟨⟨cur',by rw [e2];exact e1,by omega,by simpa using hroom,h5⟩,hA.2⟩
  have H2:=H1.cvFrz i (e:=e) (b:=b) (c:=c) (xs:=xs++ys) (by simp [List.getElem?_set,hil])
  rw [List.eraseIdx_set_eq] at H2
  refine bD (v:=.slice (some ⟨b,0,none⟩) (xs.length+ys.length) c) (w':=_) k F hg hd hN (by rw [ho];rfl) ?_ fun a' F'=>hk (some ⟨b,0,none⟩) c _ a' H2 (by rw [List.length_append];exact F')
  unfold execOp
  simp [ho,resolve,invoke,builtin,F.eval hx,F.eval hy,hrun]
 ·have hrun:=run_append_grow (P:=P) w t o.type e ti z hE.ht hj1 hz0 ⟨b,0,none⟩ xs.length c (aQ xs) (by rw [hs1];exact hlx) holds ⟨b2,off,none⟩ ys.length cc (aQ ys) (by rw [hs1];exact hly) hnews (by omega) (by omega) (growslice_fits (by omega) (by rw [hs2];exact hmul))
  have hge:=grownCap_ge w (xs.length+ys.length) c e
  have hcm:=grownCap_le_maxLen w (xs.length+ys.length) c e (by unfold maxLen;omega)
  have hlen:(aQ xs++aQ ys).length=xs.length+ys.length:=by simp [aR]
  have hbc:aQ (xs++ys)=aQ xs++aQ ys:=by simp [aQ]
  generalize hX:(Obj.cells _ e:Obj)=X at hrun
  have H1:=H.upd i hi (w':=w.drew.alloc X) (A':=HP.ow rByte e (some ⟨w.heap.size,0,none⟩) (grownCap w (xs.length+ys.length) c e) (xs++ys)) (fun {B} S hA hS=>⟨fun b=>b=w.heap.size,⟨_,gK B (xs++ys),⟨by rw [qL,aR];show _=(xs++ys).length*1;rw [Nat.mul_one],.inr ⟨w.heap.size,_,_,by rw [List.length_append],Nat.zero_le _,by rw [<- hX];exact heap_alloc_new w.drew _,by rw [List.length_append];exact hge,hcm,by
    simp only [Array.size_append,List.size_toArray,size_zeroCells,hE.hz,aR,List.length_append,rByte,Rp.enc]
    omega,by
    rw [qL,hbc]
    simp only [Array.toList_append,List.append_assoc]
    rw [<- List.append_assoc,List.take_left' (by simp [aR,rByte,Rp.enc])]⟩⟩,fun b hb=>by simp [Value.ownBlock] at hb;exact hb.symm⟩,fun b hb=>.inr (by omega),fun b hb=>by rw [hb];simp,fun b hb _=>gZ w.drew _ b hb⟩) rfl rfl rfl (by simp)
  have H2:=H1.frz i (R:=rByte) (e:=e) (xs:=xs++ys) (p:=some ⟨w.heap.size,0,none⟩) (cap:=grownCap w (xs.length+ys.length) c e) (by simp [List.getElem?_set,hil])
  rw [List.eraseIdx_set_eq] at H2
  refine bD (v:=.slice (some ⟨w.heap.size,0,none⟩) (xs.length+ys.length) (grownCap w (xs.length+ys.length) c e)) (w':=w.drew.alloc X) k F hg hd hN (by rw [ho];rfl) ?_ fun a' F'=>hk (some ⟨w.heap.size,0,none⟩) _ _ a' H2 (by rw [List.length_append];exact F')
  unfold execOp
  simp [ho,resolve,invoke,builtin,F.eval hx,F.eval hy,hrun]
end
def sp:List UInt8->List (List UInt8)
 | []=>[[]]
 | c::r=>if c=47 then []::sp r else match sp r with | h::t=>(c::h)::t | []=>[[c]]
theorem aEq:∀ s:List UInt8,Lib.splitK [47] 0 (Lib.count s [47]) s=sp s
 | []=>by rw [Lib.count_miss (by simp [Lib.index])];rfl
 | c::r=>by
  have ih:=aEq r
  by_cases h:c=47
  ·subst h
   rw [Lib.count_cons_eq,Nat.add_comm,Lib.splitK]
   have hix:Lib.index (47::r) [47]=0:=by rw [Lib.index];simp [List.isPrefixOf]
   rw [hix]
   simp only [sp,if_true]
   rw [if_neg (by decide)]
   simpa using ih
  ·have hp:([47]:List UInt8).isPrefixOf (c::r)=false:=by simp [List.isPrefixOf,Ne.symm h]
   have hix:Lib.index (c::r) [47]=if Lib.index r [47]==-1 then -1 else Lib.index r [47]+1:=by rw [Lib.index,hp];simp
   rw [Lib.count_cons_ne c 47 r h]
   simp only [sp,h,if_false]
   by_cases hm:Lib.index r [47]=-1
   ·rw [Lib.count_miss hm] at ih ⊢
    rw [<- ih];rfl
   ·have hge:=Lib.index_ge r [47]
    obtain ⟨j,hj⟩:∃ j:Nat,Lib.index r [47]=j:=⟨(Lib.index r [47]).toNat,by omega⟩
    rw [Lib.count_hit (by simp) hj,Nat.add_comm] at ih ⊢
    rw [Lib.splitK,hj,if_neg (by simp)] at ih
    rw [Lib.splitK,hix,hj,if_neg (show ¬ (((j:Int)==-1)=true) by simp),if_neg (by simp;omega),<- ih]
    simp only [Int.toNat_natCast,Nat.add_zero]
    rw [show ((j:Int)+1).toNat=j+1 by omega]
    rfl
def jn (xs:List (List UInt8)):List UInt8:=Lib.join xs [47]
def rR (s sep:List UInt8) (sv n:Int):Option (List (List UInt8)):=if sep=[47]/\sv=0/\n=-1/\s.length<=2000000000 then some (sp s) else none
theorem aJx {s sep:List UInt8} {sv n:Int} {r:List (List UInt8)} (h:rR s sep sv n=some r):sep=[47]/\sv=0/\n=-1/\s.length<=2000000000/\r=sp s:=by
 unfold rR at h
 split at h
 ·rename_i h0;cases h;exact ⟨h0.1,h0.2.1,h0.2.2.1,h0.2.2.2,rfl⟩
 ·cases h
def rO (xs:List (List UInt8)) (sep:List UInt8):Option (List UInt8):=if sep=[47]/\xs.length<=2000000000/\(jn xs).length<=2000000000 then some (jn xs) else none
theorem aOk {xs:List (List UInt8)} {sep r:List UInt8} (h:rO xs sep=some r):sep=[47]/\xs.length<=2000000000/\(jn xs).length<=2000000000/\r=jn xs:=by
 unfold rO at h
 split at h
 ·rename_i h0;cases h;exact ⟨h0.1,h0.2.1,h0.2.2,rfl⟩
 ·cases h
def rN (s sub:List UInt8):Option Int:=match sub with
 | [c]=>some (Lib.indexByte s c)
 | _=>none
theorem aKc {s sub:List UInt8} {r:Int} (h:rN s sub=some r):∃ c,sub=[c]/\r=Lib.indexByte s c:=by
 unfold rN at h
 split at h
 ·rename_i c;cases h;exact ⟨c,rfl,rfl⟩
 ·cases h
theorem St.below {w0 w w':World} {l:List HP} (H:St w0 w l) (hb:Below w.heap.size w w'):St w0 w' l:=by
 obtain ⟨hv,B,f,hs,h1,h2,h3⟩:=H
 have hold:∀ b,b<w.heap.size->w'.heap[b]?=w.heap[b]?:=fun b hlt=>hb.block b hlt
 refine ⟨⟨hb.os.trans hv.1,hb.tape.trans hv.2.1,hb.output.trans hv.2.2.1,Nat.le_trans hv.2.2.2 hb.size⟩,B,f,fun b o h=>?_,fun i A hi=>A.loc (h1 i A hi) fun b hf=>hold b (h3 i b (List.getElem?_eq_some_iff.1 hi).1 hf).1,h2,fun i b hi hf=>?_⟩
 ·rw [hold b (hs.lt h)];exact hs b o h
 ·have:=h3 i b hi hf
  exact ⟨Nat.lt_of_lt_of_le this.1 hb.size,this.2⟩
theorem St.newTexts {w0 w:World} {l:List HP} (H:St w0 w l) (e:TypeId) (xs:List (List UInt8)) (hm:xs.length<=maxLen):St w0 (w.alloc (.cells (xs.map fun x=>Value.string (txb x)).toArray e)) (HP.ow rStr e (some ⟨w.heap.size,0,none⟩) xs.length xs::l):=by
 have hf:(xs.map fun x=>[Value.string (txb x)]).flatten=xs.map fun x=>Value.string (txb x):=by
  induction xs with
  | nil=>rfl
  | cons x xs ih=>simp only [List.length_cons] at hm;simp [ih (by omega)]
 have hr:∀ B:Base,RdL rStr B (xs.map fun x=>[Value.string (txb x)]) xs:=fun B=>by
  clear hm hf
  induction xs with
  | nil=>trivial
  | cons x xs ih=>exact ⟨rfl,ih⟩
 refine H.add _ _ fun {B} S hS=>⟨_,hr B,?_⟩
 rw [hf]
 exact ⟨⟨by simp [rStr,Rp.enc],.inr ⟨_,xs.length,_,rfl,Nat.zero_le _,iR w _,Nat.le_refl _,hm,by simp [rStr,Rp.enc],by simp only [rStr,Rp.enc,Nat.mul_one];rw [List.take_of_length_le];simp⟩⟩,fun b hb=>by simp [Value.ownBlock] at hb;exact hb▸hS⟩
end Go.Tri
namespace Go.Tri
open Go.RowKit Go.Sort Go.Proofs
theorem zX {B:Base}:∀ {css:List (List Value)} {xs:List (List UInt8)},RdL rStr B css xs->css.flatten=xs.map encStr
 | [],[],_=>rfl
 | [],_::_,h=>h.elim
 | _::_,[],h=>h.elim
 | c::css,x::xs,⟨h1,h2⟩=>by
  have h1:c=[.string (txb x)]:=h1
  rw [List.flatten_cons,zX h2,h1];rfl
theorem aF4 {B:Base}:∀ xs:List (List UInt8),RdL rStr B (xs.map fun x=>[encStr x]) xs
 | []=>trivial
 | x::xs=>⟨rfl,aF4 xs⟩
theorem aFd (xs:List (List UInt8)):(xs.map fun x=>[encStr x]).flatten=xs.map encStr:=by
 induction xs with
 | nil=>rfl
 | cons x xs ih=>simp [ih]
section
variable {w0 w:World} {ls:List HP} {e:TypeId} {b cap:Nat} {xs:List (List UInt8)}
theorem St.putStr (H:St w0 w ls) (i:Nat) (hi:ls[i]?=some (HP.ow rStr e (some ⟨b,0,none⟩) cap xs)):Holds encStr w b 0 xs.toArray/\b<w.heap.size/\xs.length<=cap /\
  ∀ (d':List (List UInt8)) (k n:Nat) (os:Array Obj),d'.length=xs.length->k<=d'.length->St w0 (grow (putRow encStr (Sort.ahead w n) b 0 d'.toArray) os) (ls.set i (HP.ow rStr e (some ⟨b,0,none⟩) cap (d'.take k))):=by
 obtain ⟨B,H⟩:=H.out
 obtain ⟨S0,css,c0,⟨hl0,⟨h,h'⟩ | ⟨g,cap',cur,h,hb0,hg,hnc,hm,hsz,ht⟩⟩,hS⟩:=H.at hi
 ·cases h
 cases h
 have h1:rStr.n=1:=rfl
 have hbl:b<w.heap.size:=(Array.getElem?_eq_some_iff.1 hg).1
 rw [zX c0,h1,Nat.mul_one] at ht
 have hF:∀ t (hx:t<xs.length),cur[t]?=some (encStr xs[t]):=by
  intro t hx
  have e3:(xs.map encStr)[t]?=some (encStr xs[t]):=by simp [hx]
  rw [<- ht,List.getElem?_take_of_lt hx] at e3
  simpa using e3
 refine ⟨fun t h5=>?_,hbl,hnc,fun d' k n os hd hk=>?_⟩
 ·have h2:t<xs.length:=by simpa using h5
  refine ⟨?_,?_⟩
  ·unfold World.cell?
   simp only [hg,Nat.zero_add]
   rw [hF t h2]
   simp [getElem!_pos,h2]
  ·unfold World.frozen?
   simp only [hg]
   simp
 ·have hw:(grow (putRow encStr (Sort.ahead w n) b 0 d'.toArray) os).heap=(w.heap.modify b (onCells (putCells encStr 0 d'.toArray)))++os:=rfl
  have hold:∀ k,k<w.heap.size->k≠b->(grow (putRow encStr (Sort.ahead w n) b 0 d'.toArray) os).heap[k]?=w.heap[k]?:=by
   intro k hk hne
   rw [hw,Array.getElem?_append_left (by simpa using hk),Array.getElem?_modify,if_neg (Ne.symm hne)]
  have hnew:(grow (putRow encStr (Sort.ahead w n) b 0 d'.toArray) os).heap[b]?=some (.cells (putCells encStr 0 d'.toArray cur) e (0,0)):=by
   rw [hw,Array.getElem?_append_left (by simpa using hbl),Array.getElem?_modify,if_pos rfl,hg];rfl
  have hsz2:w.heap.size<=(grow (putRow encStr (Sort.ahead w n) b 0 d'.toArray) os).heap.size:=by rw [hw];simp
  have hpc:((putCells encStr 0 d'.toArray cur).toList).take k=(d'.take k).map encStr:=by
   apply List.ext_getElem?
   intro t
   by_cases h:t<k
   ·have hts:t<cur.size:=by rw [hsz,h1];omega
    have hfs:t<d'.length:=by omega
    rw [List.getElem?_take_of_lt h]
    simp only [Array.getElem?_toList,List.getElem?_map,List.getElem?_take_of_lt h]
    unfold putCells
    rw [Array.getElem?_mapIdx,Array.getElem?_eq_getElem hts,Option.map_some,if_pos ⟨Nat.zero_le _,by simpa using hfs⟩,List.getElem?_eq_getElem hfs]
    simp [getElem!_pos,hfs]
   ·rw [List.getElem?_eq_none (by simp;omega),List.getElem?_eq_none (by simp;omega)]
  refine (H.st).upd i hi (fun {B} S hA hb=>?_) rfl rfl rfl hsz2
  obtain ⟨css1,c1,hA1,hA2⟩:=hA
  have hSb:S b:=hA2 b rfl
  have hkl:(d'.take k).length=k:=by rw [List.length_take,Nat.min_eq_left hk]
  refine ⟨S,⟨_,aF4 (d'.take k),⟨?_,.inr ⟨b,cap,_,rfl,Nat.zero_le _,hnew,?_,hm,?_,?_⟩⟩,fun b' hb'=>hA2 b' hb'⟩,fun k hk=>.inl hk,fun k hk=>Nat.lt_of_lt_of_le (hb k hk).1 hsz2,fun k hk hn=>hold k hk (fun e=>hn (e▸hSb))⟩
  ·rw [aFd];simp [h1]
  ·rw [hkl];omega
  ·rw [<- hsz];simp [putCells]
  ·rw [aFd,hkl,h1,Nat.mul_one];exact hpc
end
abbrev PE (B:Base):={p:List Value×(List UInt8×List UInt8) // rP2.rd B p.1 p.2}
instance (B:Base):Inhabited (PE B):=⟨⟨([.slice none 0 0,.slice none 0 0],([],[])),⟨[.slice none 0 0],[.slice none 0 0],rfl,mS _ _,mS _ _⟩⟩⟩
def bQ {B:Base} (x:PE B):List Value:=x.1.1
def kT {B:Base} (x y:PE B):Int:=Lib.compareBytes x.1.2.1 y.1.2.1
theorem rU {B:Base} (x:PE B):(bQ x).length=2:=rP2.len x.2
theorem aOu {B:Base} (x:PE B):∀ v∈bQ x,v.oneCell'=true:=fun v hv=>rP2.flat x.2 v hv
theorem aMv {B:Base}:SWO (ltOf (kT (B:=B))) where
 irrefl x:=by simp [ltOf,kT,lP]
 trans x y z h1 h2:=decide_eq_true (jG _ _ _ (of_decide_eq_true h1) (of_decide_eq_true h2))
 ntrans x y z h1 h2:=by
  replace h1:¬ Lib.compareBytes x.1.2.1 y.1.2.1<0:=of_decide_eq_false h1
  replace h2:¬ Lib.compareBytes y.1.2.1 z.1.2.1<0:=of_decide_eq_false h2
  refine decide_eq_false fun h3=>?_
  replace h3:Lib.compareBytes x.1.2.1 z.1.2.1<0:=h3
  by_cases hz:Lib.compareBytes y.1.2.1 x.1.2.1=0
  ·rw [gY _ _ hz] at h2;exact h2 h3
  ·have:Lib.compareBytes y.1.2.1 x.1.2.1<0:=by rw [fL];rw [fL] at hz;omega
   exact h2 (jG _ _ _ this h3)
theorem aEc {B:Base}:∀ {css:List (List Value)} {xs:List (List UInt8×List UInt8)},RdL rP2 B css xs->∃ d:List (PE B),d.map (·.1.2)=xs/\css=d.map bQ
 | [],[],_=>⟨[],rfl,rfl⟩
 | c::css,x::xs,h=>by
  obtain ⟨d,h1,h2⟩:=aEc h.2
  exact ⟨⟨(c,x),h.1⟩::d,by simp [h1],by simp [h2,bQ]⟩
 | [],_::_,h=>h.elim
 | _::_,[],h=>h.elim
theorem aAu {B:Base}:∀ d:List (PE B),RdL rP2 B (d.map bQ) (d.map (·.1.2))
 | []=>trivial
 | x::d=>⟨x.2,aAu d⟩
theorem aB4 {B:Base} (d:List (PE B)):(d.map bQ).flatten.length=d.length*2:=by
 induction d with
 | nil=>rfl
 | cons x d ih=>simp only [List.map_cons,List.flatten_cons,List.length_append,rU,ih,List.length_cons];omega
theorem aMa {B:Base} (d:List (PE B)) (t:Nat) (h:t<d.length*2):(d.map bQ).flatten[t]?=(bQ ((d.toArray)[t / 2]!))[t % 2]?:=by
 have hj:t / 2<d.length:=by omega
 have hc:(d.map bQ)[t / 2]?=some (bQ (d[t / 2]'hj)):=by simp [List.getElem?_eq_getElem hj]
 have h1:=aA0 (K:=2) (css:=d.map bQ) (fun c hc=>by obtain ⟨x,_,rfl⟩:=List.mem_map.1 hc;exact rU x) hc
 have e1:(d.toArray)[t / 2]! = d[t / 2]'hj:=by simp [getElem!_pos,hj]
 rw [e1,<- h1,List.getElem?_take_of_lt (by omega),List.getElem?_drop]
 congr 1;omega
theorem aA6 {B:Base} (d:List (PE B)):(flatK bQ 2 d.toArray).toList=(d.map bQ).flatten:=by
 apply List.ext_getElem?
 intro t
 by_cases h:t<d.length*2
 ·have e2:t<(flatK bQ 2 d.toArray).size:=by simpa using h
  rw [aMa d t h]
  have e3:=get_flatK bQ 2 d.toArray t (by simpa using h)
  rw [getElem!_pos (flatK bQ 2 d.toArray) t e2] at e3
  rw [Array.getElem?_toList,Array.getElem?_eq_getElem e2,e3]
  have e4:t % 2<(bQ (d.toArray[t / 2]!)).length:=by rw [rU];omega
  rw [List.getElem?_eq_getElem e4,getElem!_pos (bQ (d.toArray[t / 2]!)) _ e4]
 ·rw [List.getElem?_eq_none (by simpa using h),List.getElem?_eq_none (by rw [aB4];omega)]
section
variable {w0 w:World} {ls:List HP} {e:TypeId} {b cap:Nat} {xs:List (List UInt8×List UInt8)}
theorem St.sortP (H:St w0 w ls) (i:Nat) (hi:ls[i]?=some (HP.ow rP2 e (some ⟨b,0,none⟩) cap xs)):∃ (B:Base) (d:List (PE B)),d.map (·.1.2)=xs/\HoldsK bQ 2 w b 0 d.toArray/\b<w.heap.size /\
  (∀ (d':Array (PE B)) (n:Nat) (os:Array Obj),Sub B (sortWorldK bQ 2 w b 0 n d' os)) /\
  ∀ (d':Array (PE B)) (n:Nat) (os:Array Obj),d'.size=d.length->St w0 (sortWorldK bQ 2 w b 0 n d' os) (ls.set i (HP.ow rP2 e (some ⟨b,0,none⟩) cap (d'.toList.map (·.1.2)))):=by
 obtain ⟨hv,B,f,hs,g1,g2,g3⟩:=H
 obtain ⟨css,c0,⟨hl0,⟨h,h'⟩ | ⟨g,cap',cur,h,hb0,hg,hnc,hm,hsz,ht⟩⟩,hS⟩:=g1 i _ hi
 ·cases h
 cases h
 have hil:i<ls.length:=(List.getElem?_eq_some_iff.1 hi).1
 obtain ⟨d,hd,rfl⟩:=aEc c0
 have hlen:d.length=xs.length:=by rw [<- hd];simp
 have hn2:rP2.n=2:=rfl
 have hbl:b<w.heap.size:=(Array.getElem?_eq_some_iff.1 hg).1
 have hBb:B b=none:=(g3 i b hil (hS b rfl)).2.1
 have hF:∀ t,t<d.length*2->cur[t]?=some ((flatK bQ 2 d.toArray)[t]!):=by
  intro t h1
  have e2:t<(flatK bQ 2 d.toArray).size:=by simpa using h1
  have e3:(flatK bQ 2 d.toArray).toList[t]?=some ((flatK bQ 2 d.toArray)[t]!):=by
   rw [Array.getElem?_toList,Array.getElem?_eq_getElem e2,getElem!_pos _ t e2]
  rw [aA6,<- ht,List.getElem?_take_of_lt (by rw [hn2,<- hlen];exact h1)] at e3
  simpa using e3
 have hold:∀ (d':Array (PE B)) (n:Nat) (os:Array Obj) k,k<w.heap.size->k≠b->(sortWorldK bQ 2 w b 0 n d' os).heap[k]?=w.heap[k]?:=by
  intro d' n os k hk hne
  have hw:(sortWorldK bQ 2 w b 0 n d' os).heap=(w.heap.modify b (onCells (putCells id 0 (flatK bQ 2 d'))))++os:=rfl
  rw [hw,Array.getElem?_append_left (by simpa using hk),Array.getElem?_modify,if_neg (Ne.symm hne)]
 refine ⟨B,d,hd,fun t h1=>?_,hbl,fun d' n os b' o hb'=>?_,fun d' n os hs2=>?_⟩
 ·have h2:=hF t (by simpa using h1)
  refine ⟨?_,?_⟩
  ·unfold World.cell?
   simp only [hg,Nat.zero_add]
   exact h2
  ·unfold World.frozen?
   simp only [hg]
   simp
 ·rw [hold d' n os b' (hs.lt hb') (fun e=>by rw [e,hBb] at hb';cases hb')];exact hs b' o hb'
 ·have hw:(sortWorldK bQ 2 w b 0 n d' os).heap=(w.heap.modify b (onCells (putCells id 0 (flatK bQ 2 d'))))++os:=rfl
  have hnew:(sortWorldK bQ 2 w b 0 n d' os).heap[b]?=some (.cells (putCells id 0 (flatK bQ 2 d') cur) e (0,0)):=by
   rw [hw,Array.getElem?_append_left (by simpa using hbl),Array.getElem?_modify,if_pos rfl,hg];rfl
  have hsz2:w.heap.size<=(sortWorldK bQ 2 w b 0 n d' os).heap.size:=by rw [hw];simp
  have hcap:xs.length*2<=cap*2:=Nat.mul_le_mul_right _ hnc
  have hpc:((putCells id 0 (flatK bQ 2 d') cur).toList).take (xs.length*2)=(d'.toList.map bQ).flatten:=by
   rw [<- aA6,Array.toArray_toList]
   apply List.ext_getElem?
   intro t
   by_cases h:t<xs.length*2
   ·have hts:t<cur.size:=by rw [hsz,hn2];omega
    have hfs:t<(flatK bQ 2 d').size:=by simp;rw [hs2,hlen];exact h
    rw [List.getElem?_take_of_lt h]
    simp only [Array.getElem?_toList]
    unfold putCells
    rw [Array.getElem?_mapIdx,Array.getElem?_eq_getElem hts,Option.map_some,if_pos ⟨Nat.zero_le _,by omega⟩,Array.getElem?_eq_getElem hfs]
    rw [Nat.sub_zero,getElem!_pos (flatK bQ 2 d') t hfs];rfl
   ·rw [List.getElem?_eq_none (by simp;omega),List.getElem?_eq_none (by simp;rw [hs2,hlen];omega)]
  have hSb:f i b:=hS b rfl
  have hA':(HP.ow rP2 e (some ⟨b,0,none⟩) cap (d'.toList.map (·.1.2))).pr B (sortWorldK bQ 2 w b 0 n d' os) (f i):=by
   refine ⟨d'.toList.map bQ,aAu _,⟨?_,.inr ⟨b,cap,_,?_,Nat.zero_le _,hnew,?_,hm,?_,?_⟩⟩,fun b' hb'=>hS b' hb'⟩
   ·rw [aB4];simp [hn2]
   ·simp [hs2,hlen]
   ·simp [hs2,hlen];exact hnc
   ·rw [<- hsz];simp [putCells]
   ·rw [hn2,show (d'.toList.map (·.1.2)).length=xs.length by simp [hs2,hlen]];exact hpc
  refine ⟨⟨hv.1,hv.2.1,hv.2.2.1,Nat.le_trans hv.2.2.2 hsz2⟩,B,f,fun b' o hb'=>?_,fun j C hj=>?_,fun j k b' hj hk=>g2 j k b' (by simpa using hj) (by simpa using hk),fun j b' hj hf=>?_⟩
  ·rw [hold d' n os b' (hs.lt hb') (fun e=>by rw [e,hBb] at hb';cases hb')];exact hs b' o hb'
  ·rw [List.getElem?_set] at hj
   by_cases e1:i=j
   ·subst e1;rw [if_pos rfl,if_pos hil] at hj;cases hj;exact hA'
   ·rw [if_neg e1] at hj
    have hjl:=(List.getElem?_eq_some_iff.1 hj).1
    exact C.loc (g1 j C hj) fun b' hb'=>hold d' n os b' (g3 j b' hjl hb').1 fun e=>e1 (g2 i j b hil hjl hSb (e▸hb'))
  ·have:=g3 j b' (by simpa using hj) hf
   exact ⟨Nat.lt_of_lt_of_le this.1 hsz2,this.2⟩
end
theorem tG {B:Base} {w:World} (hs:Sub B w) (x:PE B):∃ q c v,x.1.1=[.slice q x.1.2.1.length c,v]/\Sl w (.slice q x.1.2.1.length c) x.1.2.1.length (aQ x.1.2.1):=by
 obtain ⟨c1,d1,h1,⟨q,c,h2,css,h3,h4⟩,⟨q2,c2,h5,_⟩⟩:=x.2
 refine ⟨q,c,.slice q2 x.1.2.2.length c2,by rw [h1,h2,h5];rfl,?_⟩
 have:=h4 w hs
 rwa [gA h3] at this
abbrev P2:=List UInt8×List UInt8
def leP (a b:P2):Bool:=decide (Lib.compareBytes a.1 b.1<=0)
def eW (xs:List P2):List P2:=xs.mergeSort leP
def qK (xs:List P2):Option (List P2):=if (xs.map (·.1)).Nodup/\xs.length<=100000000 then some (eW xs) else none
theorem aN5 {xs r:List P2} (h:qK xs=some r):(xs.map (·.1)).Nodup/\xs.length<=100000000/\r=eW xs:=by
 unfold qK at h
 split at h
 ·rename_i h0;cases h;exact ⟨h0.1,h0.2,rfl⟩
 ·cases h
def ltP (a b:P2):Prop:=ltK a.1 b.1
theorem sD:∀ {l l':List P2},l.Pairwise ltP->l'.Pairwise ltP->(∀ k,k∈l↔k∈l')->l=l'
 | [],[],_,_,_=>rfl
 | [],b::l',_,_,h=>absurd ((h b).2 (by simp)) (by simp)
 | a::l,[],_,_,h=>absurd ((h a).1 (by simp)) (by simp)
 | a::l,b::l',h1,h2,h=>by
  obtain ⟨h3,h4⟩:=List.pairwise_cons.1 h1
  obtain ⟨h5,h6⟩:=List.pairwise_cons.1 h2
  have hirr:∀ x,¬ ltP x x:=fun x hx=>by unfold ltP ltK at hx;rw [lP] at hx;omega
  have hab:a=b:=by
   rcases List.mem_cons.1 ((h a).1 (by simp)) with e | e
   ·exact e
   ·rcases List.mem_cons.1 ((h b).2 (by simp)) with e2 | e2
    ·exact e2.symm
    ·exact absurd (show ltP a a from jG _ _ _ (h3 b e2) (h5 a e)) (hirr a)
  subst hab
  rw [sD h4 h6 fun k=>?_]
  constructor
  ·intro hk
   rcases List.mem_cons.1 ((h k).1 (List.mem_cons_of_mem _ hk)) with e | e
   ·subst e;exact absurd (h3 k hk) (hirr k)
   ·exact e
  ·intro hk
   rcases List.mem_cons.1 ((h k).2 (List.mem_cons_of_mem _ hk)) with e | e
   ·subst e;exact absurd (h5 k hk) (hirr k)
   ·exact e
theorem aBp {l:List P2} (hn:(l.map (·.1)).Nodup) (h:l.Pairwise (fun a b=>¬ ltK b.1 a.1)):l.Pairwise ltP:=by
 have hn':l.Pairwise (fun a b=>a.1≠b.1):=by rw [List.nodup_iff_pairwise_ne,List.pairwise_map] at hn;exact hn
 refine (h.and hn').imp fun {a b} h=>?_
 obtain ⟨h1,h2⟩:=h
 unfold ltP
 unfold ltK at *
 have h3:=gY a.1 b.1
 have h4:=fL a.1 b.1
 have:Lib.compareBytes a.1 b.1≠0:=fun e=>h2 (h3 e)
 omega
theorem aQi (a b c:P2) (h1:leP a b=true) (h2:leP b c=true):leP a c=true:=aLz a.1 b.1 c.1 h1 h2
theorem aI7 (a b:P2):(leP a b || leP b a)=true:=aJt a.1 b.1
theorem oE {xs:List P2} (hn:(xs.map (·.1)).Nodup):(eW xs).Pairwise ltP:=by
 have hp:=List.mergeSort_perm xs leP
 refine aBp ((hp.map _).nodup_iff.2 hn) ?_
 refine (List.pairwise_mergeSort (fun a b c=>aQi a b c) (fun a b=>aI7 a b) xs).imp fun {a b} h=>?_
 have h:Lib.compareBytes a.1 b.1<=0:=of_decide_eq_true h
 have:=fL a.1 b.1
 unfold ltK;omega
theorem aHl {xs ks:List P2} (hn:(xs.map (·.1)).Nodup) (hp:ks.Perm xs) (hs:ks.Pairwise (fun a b=>¬ ltK b.1 a.1)):ks=eW xs :=
 sD (aBp ((hp.map _).nodup_iff.2 hn) hs) (oE hn) fun k=>(hp.trans (List.mergeSort_perm xs leP).symm).mem_iff
theorem aJj {B:Base} {d:List (PE B)} {d':Array (PE B)} (hp:PermIn 0 d.toArray.size d.toArray d') (hs:SortedIn (ltOf kT) 0 d.toArray.size d'):d'.size=d.length/\(d'.toList.map (·.1.2)).Perm (d.map (·.1.2))/\(d'.toList.map (·.1.2)).Pairwise (fun a b=>¬ ltK b.1 a.1):=by
 obtain ⟨h1,_,h2⟩:=hp
 have hsz:d'.size=d.length:=by simpa using h1
 have e1:(d'.extract 0 d.toArray.size).toList=d'.toList:=by simp [<- hsz]
 have e2:(d.toArray.extract 0 d.toArray.size).toList=d:=by simp
 rw [e1,e2] at h2
 refine ⟨hsz,h2.map _,?_⟩
 rw [List.pairwise_map,List.pairwise_iff_getElem]
 intro i j hi hj hij
 have hi':i<d'.size:=by simpa using hi
 have hj':j<d'.size:=by simpa using hj
 have:=hs i j (Nat.zero_le _) hij (by simpa [hsz] using hj')
 rw [getElem!_pos d' j hj',getElem!_pos d' i hi'] at this
 have h5:¬ (Lib.compareBytes (d'[j]).1.2.1 (d'[i]).1.2.1<0):=of_decide_eq_false this
 show ¬ ltK _ _
 simpa [ltK] using h5
def tD (xs:List (List UInt8)):Option (List (List UInt8)):=if xs.length<=100000000 then some (xs.mergeSort fun x y=>decide (x<=y)) else none
theorem aM5 {xs r:List (List UInt8)} (h:tD xs=some r):xs.length<=100000000/\r=xs.mergeSort fun x y=>decide (x<=y):=by
 unfold tD at h
 split at h
 ·rename_i h0;cases h;exact ⟨h0,rfl⟩
 ·cases h
def pL (xs:List (List UInt8)) (tgt:List UInt8):Option (List (List UInt8)):=if xs.length<=100000000 then some (xs.filter fun x=>!cA x tgt) else none
theorem aKs {xs r:List (List UInt8)} {tgt:List UInt8} (h:pL xs tgt=some r):xs.length<=100000000/\r=xs.filter fun x=>!cA x tgt:=by
 unfold pL at h
 split at h
 ·rename_i h0;cases h;exact ⟨h0,rfl⟩
 ·cases h
theorem St.apart {w0 w:World} {ls:List HP} {e:TypeId} {b b3 cap:Nat} {xs:List (List UInt8)} {cs:List Value} {t:TypeId} (H:St w0 w ls) (i j:Nat) (hi:ls[i]?=some (HP.ow rStr e (some ⟨b,0,none⟩) cap xs)) (hj:ls[j]?=some (HP.blk b3 cs t)) (hij:i≠j):Blk w b3 cs t/\b3<w.heap.size/\b3≠b:=by
 obtain ⟨_,B,f,hs,g1,g2,g3⟩:=H
 have hil:=(List.getElem?_eq_some_iff.1 hi).1
 have hjl:=(List.getElem?_eq_some_iff.1 hj).1
 obtain ⟨css,c0,_,hS⟩:=g1 i _ hi
 obtain ⟨k1,k2⟩:=g1 j _ hj
 exact ⟨k1,(g3 j b3 hjl k2).1,fun e=>hij (g2 i j b hil hjl (hS b rfl) (e▸k2))⟩
end Go.Tri
namespace Go.Tri
open Go.RowKit Go.WideShapes
section
variable {P:Program} {t e:TypeId} {size bytes:Nat} {z:Value} {ops:Array Oper} {rest:List Oper} {o:Oper} {a:Act} {w0 w:World} {Q:Exit->Act->World->Prop} {ls:List HP}
theorem aG6 (hE:ElemT P t e size bytes z) {s x:Operand} (ho:o.op=.call { callee:=.builtin .append,args:=#[s,x],argTypes:=#[t,t] }) (hgd:Region.wanted o (yielded ops a.tmps)=true) {v u:Value} (hs:a.eval s=v) (hx:a.eval x=u)
  (H:St w0 w ls) (i:Nat) {n m:Nat} {xs news:List Value} (hi:ls[i]?=some (HP.own e size v n xs)) (hsrc:Sl w u m news) (hl:news.length=m*size) (h1:Flat news) (h63:n+m<=maxLen) (hbytes:(n+m)*bytes<=140737488355328)
  (hk:∀ v' w',St w0 w' (ls.set i (HP.own e size v' (n+m) (xs++news)))->wpList P ops Q rest (a.put o.dst v') w'):wpList P ops Q (o::rest) a w:=by
 refine BigFrame.wpList_want hgd fun K' hK'=>?_
 obtain ⟨v',w',hrun,H2⟩:=aAs (P:=P) H i hi hE hsrc hl h1 h63 hbytes o.type
 have ex:execOp a.eval o=(do pure (.value (<- Builtin.append_ #[t,t] o.type #[v,u]))):=by
  unfold execOp;rw [ho];simp [resolve,invoke,Go.builtin,hs,hx]
 unfold Oper.wp
 rw [ex,Sem.run_bind,hrun]
 exact hK' _ _ (hk v' w' H2)
theorem aLh (hE:ElemT P t e size bytes z) {b n cap bo so m c:Nat} {cur news:List Value} {u ty:TypeId} (hb:Blk w b cur u) (hr:Row w bo so news) (hn:news.length=m*size) (hf:Flat news) (hroom:n+m<=cap) (hfit:n*size+news.length<=cur.length) :
  (Builtin.append_ #[t,t] ty #[.slice (some ⟨b,0,none⟩) n cap,.slice (some ⟨bo,so,none⟩) m c]).run P w =
   .ok (.slice (some ⟨b,0,none⟩) (n+m) cap) (w.setRow b (cur.take (n*size)++news++cur.drop (n*size+news.length)).toArray):=by
 obtain ⟨i,hi,_,hs,_⟩:=hE.parts
 have hfc:=run_firstCells_some (P:=P) w size m ⟨bo,so,none⟩ m c news hn (fun j v hj=>by rw [dQ];exact hr j v hj)
 have hst:=run_storeCells_at (P:=P) b (n*size) u news 0 cur.toArray w hb (by simpa using hfit) hf
 simp only [Nat.add_zero] at hst
 simp [Builtin.append_,Go.run_underlying hE.ht,sizeOf,typeInfo,hi,hs,Builtin.lenOf,hroom,hfc,Addr.add_lit,hst]
theorem aNj (hE:ElemT P t e size bytes z) {s x:Operand} (ho:o.op=.call { callee:=.builtin .append,args:=#[s,x],argTypes:=#[t,t] }) (hgd:Region.wanted o (yielded ops a.tmps)=true) {b n cap:Nat} (hs:a.eval s=.slice (some ⟨b,0,none⟩) n cap)
  {bo so m c:Nat} (hx:a.eval x=.slice (some ⟨bo,so,none⟩) m c) {cur news:List Value} {u:TypeId} (hb:Blk w b cur u) (hr:Row w bo so news) (hn:news.length=m*size) (hf:Flat news) (hroom:n+m<=cap) (hfit:n*size+news.length<=cur.length)
  (hk:∀ w',Blk w' b (cur.take (n*size)++news++cur.drop (n*size+news.length)) u->Chg b w w'->wpList P ops Q rest (a.put o.dst (.slice (some ⟨b,0,none⟩) (n+m) cap)) w'):wpList P ops Q (o::rest) a w:=by
 refine BigFrame.wpList_want hgd fun K' hK'=>?_
 have ex:execOp a.eval o=(do pure (.value (<- Builtin.append_ #[t,t] o.type #[.slice (some ⟨b,0,none⟩) n cap,.slice (some ⟨bo,so,none⟩) m c]))):=by
  unfold execOp;rw [ho];simp [resolve,invoke,Go.builtin,hs,hx]
 unfold Oper.wp
 rw [ex,Sem.run_bind,aLh hE hb hr hn hf hroom hfit]
 exact hK' _ _ (hk _ (hb.set_same _) (Chg.setRow w b _))
theorem aIj (hE:ElemT P t e size bytes z) {b off n:Nat} {cur:List Value} {u:TypeId} (hb:Blk w b cur u) (hn:0<n) (hfl:Flat z.cells.toList) (hfit:off+n*size<=cur.length) :
  ∃ zs:List Value,zs.length=n*size/\∀ (c:Nat) (ty:TypeId),(Builtin.clear_ #[t] ty #[.slice (some ⟨b,off,none⟩) n c]).run P w=.ok (.tuple #[]) (w.setRow b (cur.take off++zs++cur.drop (off+zs.length)).toArray):=by
 obtain ⟨i,hi,hz,hs,_⟩:=hE.parts
 have hzl:(Builtin.zeroCells z.cells n).toList.length=n*size:=by
  rw [Array.length_toList,size_zeroCells,hE.hz]
 have hzf:Flat (Builtin.zeroCells z.cells n).toList:=by
  intro v hv
  simp only [Builtin.zeroCells,Array.toList_map,List.mem_map,Array.toList_range,List.mem_range] at hv
  obtain ⟨q,hq,rfl⟩:=hv
  have h0:0<z.cells.size:=Nat.pos_of_ne_zero fun h=>by rw [h,Nat.mul_zero] at hq;omega
  exact hfl _ (by rw [getElem!_pos z.cells _ (Nat.mod_lt _ h0)];exact Array.getElem_mem_toList _)
 refine ⟨_,hzl,fun c ty=>?_⟩
 have hst:=run_storeCells_at (P:=P) b off u (Builtin.zeroCells z.cells n).toList 0 cur.toArray w hb (by rw [hzl];simpa using hfit) hzf
 simp only [Nat.add_zero] at hst
 have hv:∀ w,(zeroValue e).run P w=.ok z w:=fun w=>by unfold zeroValue;rw [Sem.run_bind,run_typeInfo hi];show Sem.run P (match i.zero with | some v=>pure v | none=>_) w=_;rw [hz];rfl
 obtain ⟨m,rfl⟩:∃ m,n=m+1:=⟨n-1,by omega⟩
 simp [Builtin.clear_,Go.run_underlying hE.ht,hv,hst]
end
theorem Chg.trans {g:Nat} {w1 w2 w3:World} (h:Chg g w1 w2) (k:Chg g w2 w3):Chg g w1 w3 :=
 ⟨k.os.trans h.os,k.tape.trans h.tape,k.output.trans h.output,k.size.trans h.size,fun q hq=>(k.oth q hq).trans (h.oth q hq)⟩
theorem Chg.drewN (g:Nat) (w:World) (n:Nat):Chg g w (w.drewN n):=⟨rfl,rfl,rfl,rfl,fun _ _=>rfl⟩
theorem aI2 (cur xs zs:List Value) (a b k:Nat) (hx:cur.take (a+k+b)=xs) (hl:a+k+b<=cur.length) (hz:zs.length=k) (C1 C2:List Value) (h1:C1=cur.take a++xs.drop (a+k)++cur.drop (a+b)) (h2:C2=C1.take (a+b)++zs++C1.drop (a+b+zs.length)) :
  C1.length=cur.length/\C2.length=cur.length/\C2.take (a+b)=xs.take a++xs.drop (a+k):=by
 have hxl:xs.length=a+k+b:=by rw [<- hx,List.length_take];omega
 have e1:C1.length=cur.length:=by rw [h1];simp only [List.length_append,List.length_take,List.length_drop];omega
 have e2:C1.take (a+b)=xs.take a++xs.drop (a+k):=by
  rw [h1,List.take_append_of_le_length (by simp only [List.length_append,List.length_take,List.length_drop];omega),List.take_of_length_le (by simp only [List.length_append,List.length_take,List.length_drop];omega),<- hx,List.take_take,Nat.min_eq_left (by omega)]
 refine ⟨e1,?_,?_⟩
 ·rw [h2];simp only [List.length_append,List.length_take,List.length_drop];omega
 ·rw [h2,List.append_assoc,List.take_append_of_le_length (by simp only [List.length_take];omega),List.take_take,Nat.min_self,e2]
def fW (e size:Nat) (w0:World) (l:List HP) (i n q:Nat) (xs cs:List Value) (en:Ending) (w':World):Prop :=
 ∃ v',en=.returned v'/\St w0 w' (l.set i (HP.own e size v' (n+1) (xs.take (q*size)++cs++xs.drop (q*size))))
def aB0 (e size:Nat) (w0:World) (l:List HP) (i g cap q r:Nat) (xs:List Value) (en:Ending) (w':World):Prop :=
 en=.returned (.slice (some ⟨g,0,none⟩) (q+r) cap)/\St w0 w' (l.set i (HP.own e size (.slice (some ⟨g,0,none⟩) (q+r) cap) (q+r) (xs.take (q*size)++xs.drop ((q+1)*size))))
def iM {α:Type} (xs:List α) (i:Int) (vs:List α):Option (List α):=if 0<=i/\i<=xs.length/\xs.length<=1000/\vs.length=1 then some (xs.take i.toNat++vs++xs.drop i.toNat) else none
def pX {α:Type} (xs:List α) (i j:Int):Option (List α):=if 0<=i/\j=i+1/\j<=xs.length then some (xs.take i.toNat++xs.drop (i.toNat+1)) else none
theorem zU {P:Program} {f:FuncId} {e k:Nat} {α:Type} {R:Rp α} (hk:R.n=k) (hp:0<k)
  (hEnd:∀ {w0 w:World} {l:List HP} {s:Value} {n:Nat} {xs:List Value} (_:St w0 w l) (i:Nat) (_:l[i]?=some (HP.own e k s n xs)) (_:n<=1000) (bv cv:Nat) (cs:List Value) (_:Row w bv 0 cs) (_:cs.length=k) (_:Flat cs),
   Calls P f #[s,.int .i64 n,.slice (some ⟨bv,0,none⟩) 1 (cv+1)] w (fW e k w0 l i n n xs cs))
  (hRoom:∀ {w0 w:World} {l:List HP} {g cap n q:Nat} {xs cur:List Value} (_:St w0 w l) (i:Nat) (_:l[i]?=some (HP.own e k (.slice (some ⟨g,0,none⟩) n cap) n xs)) (_:Blk w g cur e) (_:cur.length=cap*k) (_:cur.take (n*k)=xs) (_:Flat xs) (_:cap<=maxLen) (_:n<=1000) (_:q<n) (_:n+1<=cap)
   (bv cv:Nat) (cs cb:List Value) (_:Blk w bv cb e) (_:Row w bv 0 cs) (_:cs.length=k) (_:Flat cs) (_:cb≠[]) (_:bv≠g),
   Calls P f #[.slice (some ⟨g,0,none⟩) n cap,.int .i64 q,.slice (some ⟨bv,0,none⟩) 1 (cv+1)] w (fW e k w0 l i n q xs cs))
  (hGrow:∀ {w0 w:World} {l:List HP} {g n q:Nat} {xs:List Value} (_:St w0 w l) (i:Nat) (_:l[i]?=some (HP.own e k (.slice (some ⟨g,0,none⟩) n n) n xs)) (_:Row w g 0 xs) (_:xs.length=n*k) (_:Flat xs) (_:g<w.heap.size) (_:n<=1000) (_:q<n)
   (bv cv:Nat) (cs:List Value) (_:Row w bv 0 cs) (_:cs.length=k) (_:Flat cs) (_:bv<w.heap.size),
   Calls P f #[.slice (some ⟨g,0,none⟩) n n,.int .i64 q,.slice (some ⟨bv,0,none⟩) 1 (cv+1)] w (fW e k w0 l i n q xs cs))
  {p q:Option Addr} {cap c2:Nat} {xs vs zs:List α} {i:Int} (em:iM xs i vs=some zs) {w0 w:World} {l:List HP} (H:St w0 w (HP.ow R e p cap xs::HP.ow R e q c2 vs::l)) :
  Calls P f [.slice p xs.length cap,.int .i64 i,.slice q vs.length c2].toArray w fun en w'=>∃ v,en=.returned v/\∃ (p':Option Addr) (c':Nat),v=.slice p' zs.length c'/\St w0 w' (HP.ow R e p' c' zs::l):=by
 subst hk
 unfold iM at em
 split at em
 ·rename_i hc
  obtain ⟨hi0,hil,hn,hv1⟩:=hc
  cases em
  obtain ⟨x,rfl⟩:∃ x,vs=[x]:=List.length_eq_one_iff.1 hv1
  obtain ⟨k,rfl⟩:=Int.eq_ofNat_of_zero_le hi0
  simp only [Int.toNat_natCast]
  obtain ⟨css,c1,H1⟩:=H.owOpen 0 rfl
  obtain ⟨dss,d1,H2⟩:=H1.owOpen 2 rfl
  simp only [List.set_cons_succ,List.set_cons_zero] at H2
  have o1:=H2.owns 2 rfl
  have o2:=H2.owns 3 rfl
  have hfx:Flat css.flatten:=by obtain ⟨B,S,hs,h,_⟩:=H2.get 1 (A:=HP.rdl R css xs) rfl;exact RdL.flat h
  have hfd:Flat dss.flatten:=by obtain ⟨B,S,hs,h,_⟩:=H2.get 0 (A:=HP.rdl R dss [x]) rfl;exact RdL.flat h
  have hdl:dss.flatten.length=R.n:=by rw [d1];simp
  have hne:∀ b,(Value.slice p xs.length cap).ownBlock=some b->(Value.slice q [x].length c2).ownBlock=some b->False:=by
   obtain ⟨hv,B,f,hs,h1,h2,h3⟩:=H2
   intro b hb hb'
   have a1:=(h1 2 _ rfl).2 b hb
   have a2:=(h1 3 _ rfl).2 b hb'
   have:=h2 2 3 b (by simp) (by simp) a1 a2
   omega
  obtain ⟨_,⟨h,h'⟩ | ⟨g2,cap2,cur2,h,_,hg2,hc2,hm2,hs2,ht2⟩⟩:=o2
  ·simp at h'
  cases h
  obtain ⟨cv,rfl⟩:∃ cv,c2=cv+1:=⟨c2-1,by simp at hc2;omega⟩
  have hb2:Blk w g2 cur2.toList e:=by unfold Blk;simpa using hg2
  have hrow2:Row w g2 0 dss.flatten:=by
   have:=hb2.row
   rw [<- List.take_append_drop ([x].length*R.n) cur2.toList,ht2] at this
   exact this.left
  have hcb:∀ (cur2:Array Value) (cv:Nat),cur2.size=(cv+1)*R.n->cur2.toList≠[]:=fun cur2 cv hs h0=>by
   have h1:cur2.size=0:=by rw [<- Array.length_toList,h0];rfl
   rw [h1] at hs
   exact absurd hs (Nat.ne_of_lt (Nat.mul_pos (Nat.succ_pos cv) hp))
  have key:Calls P f #[.slice p xs.length cap,.int .i64 (k:Int),.slice (some ⟨g2,0,none⟩) 1 (cv+1)] w (fW e R.n w0 (HP.rdl R dss [x]::HP.rdl R css xs::HP.own e R.n (.slice p xs.length cap) xs.length css.flatten::HP.own e R.n (.slice (some ⟨g2,0,none⟩) [x].length (cv+1)) [x].length dss.flatten::l) 2 xs.length k css.flatten dss.flatten):=by
   by_cases hk:k=xs.length
   ·subst hk
    exact hEnd H2 2 rfl hn g2 cv _ hrow2 hdl hfd
   ·obtain ⟨_,⟨h,h'⟩ | ⟨g,cap',cur,h,_,hg,hc,hm,hs,ht⟩⟩:=o1
    ·simp only [h',Int.ofNat_zero] at hil;omega
    cases h
    have hbk:Blk w g cur.toList e:=by unfold Blk;simpa using hg
    have hgb:g2≠g:=fun he=>hne g rfl (by rw [he];rfl)
    by_cases hr:xs.length+1<=cap
    ·exact hRoom H2 2 rfl hbk (by simpa using hs) ht hfx hm hn (by omega) hr g2 cv _ cur2.toList hb2 hrow2 hdl hfd (hcb cur2 cv hs2) hgb
    ·obtain rfl:cap=xs.length:=by omega
     have hrow:Row w g 0 css.flatten:=by
      have:=hbk.row
      rw [<- List.take_append_drop (xs.length*R.n) cur.toList,ht] at this
      exact this.left
     exact hGrow H2 2 rfl hrow c1 hfx hbk.lt hn (by omega) g2 cv _ hrow2 hdl hfd hb2.lt
  refine key.mono ?_
  rintro en w' ⟨v',rfl,H3⟩
  simp only [List.set_cons_succ,List.set_cons_zero] at H3
  obtain ⟨p',c',rfl,_,_⟩:=H3.ownForm 2 rfl
  have hzl:(xs.take k++[x]++xs.drop k).length=xs.length+1:=by simp;omega
  refine ⟨_,rfl,p',c',by rw [hzl],?_⟩
  obtain ⟨B,H4⟩:=H3.out
  obtain ⟨_,r1⟩:=H4.at (i:=0) (A:=HP.rdl R dss [x]) rfl
  obtain ⟨_,r2⟩:=H4.at (i:=1) (A:=HP.rdl R css xs) rfl
  have r3:RdL R B (css.take k++dss++css.drop k) (xs.take k++[x]++xs.drop k):=(RdL.append (RdL.append (RdL.take k r2) r1) (RdL.drop k r2))
  have hfl:(css.take k++dss++css.drop k).flatten=css.flatten.take (k*R.n)++dss.flatten++css.flatten.drop (k*R.n):=by
   rw [List.flatten_append,List.flatten_append,pK k r2,nL k r2]
  have H5:=(H4.set 2 (C:=HP.ow R e p' c' (xs.take k++[x]++xs.drop k)) rfl fun S h=>⟨_,r3,by rw [hfl,hzl];exact h⟩).st
  simp only [List.set_cons_succ,List.set_cons_zero] at H5
  exact H5.pm 4 [2] rfl
 ·cases em
theorem aI8 {P:Program} {f:FuncId} {e k:Nat} {α:Type} {R:Rp α} (hk:R.n=k) (hp:0<k)
  (hDel:∀ {w0 w:World} {l:List HP} {g cap q r:Nat} {xs cur:List Value} (_:St w0 w l) (i:Nat) (_:l[i]?=some (HP.own e k (.slice (some ⟨g,0,none⟩) (q+1+r) cap) (q+1+r) xs)) (_:Blk w g cur e) (_:cur.length=cap*k) (_:cur.take ((q+1+r)*k)=xs) (_:Flat xs) (_:cap<=maxLen) (_:q+1+r<=cap),
   Calls P f #[.slice (some ⟨g,0,none⟩) (q+1+r) cap,.int .i64 (q:Int),.int .i64 ((q+1:Nat):Int)] w (aB0 e k w0 l i g cap q r xs))
  {p:Option Addr} {cap:Nat} {xs zs:List α} {i j:Int} (em:pX xs i j=some zs) {w0 w:World} {l:List HP} (H:St w0 w (HP.ow R e p cap xs::l)) :
  Calls P f [.slice p xs.length cap,.int .i64 i,.int .i64 j].toArray w fun en w'=>∃ v,en=.returned v/\∃ (p':Option Addr) (c':Nat),v=.slice p' zs.length c'/\St w0 w' (HP.ow R e p' c' zs::l):=by
 subst hk
 unfold pX at em
 split at em
 ·rename_i hc
  obtain ⟨hi0,rfl,hjl⟩:=hc
  cases em
  obtain ⟨q,rfl⟩:=Int.eq_ofNat_of_zero_le hi0
  simp only [Int.toNat_natCast]
  obtain ⟨r,hr⟩:∃ r,xs.length=q+1+r:=⟨xs.length-(q+1),by omega⟩
  obtain ⟨css,c1,H1⟩:=H.owOpen 0 rfl
  simp only [List.set_cons_zero] at H1
  have o1:=H1.owns 1 rfl
  have hfx:Flat css.flatten:=by obtain ⟨B,S,hs,h,_⟩:=H1.get 0 (A:=HP.rdl R css xs) rfl;exact RdL.flat h
  obtain ⟨_,⟨h,h'⟩ | ⟨g,cap',cur,h,_,hg,hc,hm,hs,ht⟩⟩:=o1
  ·omega
  cases h
  have hbk:Blk w g cur.toList e:=by unfold Blk;simpa using hg
  have key:=hDel (q:=q) (r:=r) (cap:=cap) H1 1 (by rw [<- hr];rfl) hbk (by simpa using hs) (by rw [<- hr];exact ht) hfx hm (by omega)
  rw [<- hr] at key
  have hz:(xs.take q++xs.drop (q+1)).length=q+r:=by simp;omega
  refine key.mono ?_
  rintro en w' ⟨rfl,H3⟩
  simp only [List.set_cons_succ,List.set_cons_zero] at H3
  refine ⟨_,rfl,_,cap,by rw [hz],?_⟩
  obtain ⟨B,H4⟩:=H3.out
  obtain ⟨_,r2⟩:=H4.at (i:=0) (A:=HP.rdl R css xs) rfl
  have r3:RdL R B (css.take q++css.drop (q+1)) (xs.take q++xs.drop (q+1)):=RdL.append (RdL.take q r2) (RdL.drop (q+1) r2)
  have hfl:(css.take q++css.drop (q+1)).flatten=css.flatten.take (q*R.n)++css.flatten.drop ((q+1)*R.n):=by
   rw [List.flatten_append,pK q r2,nL (q+1) r2]
  have H5:=(H4.set 1 (C:=HP.ow R e (some ⟨g,0,none⟩) cap (xs.take q++xs.drop (q+1))) rfl fun S h=>⟨_,r3,by rw [hfl,hz];exact h⟩).st
  simp only [List.set_cons_succ,List.set_cons_zero] at H5
  exact H5.tail
 ·cases em
end Go.Tri
