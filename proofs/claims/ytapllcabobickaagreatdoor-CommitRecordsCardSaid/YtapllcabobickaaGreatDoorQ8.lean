/- Texts S2, Mos, FilesC, SnA. -/
import Derived.Test.YtapllcabobickaaGreatDoorQ4
import Derived.Shelf.SlMaps.Clone
import Derived.Test.YtapllcabobickaaGreatDoorQ7
set_option linter.unusedSimpArgs false
set_option linter.unusedVariables false
namespace Go.Tri
open Go.RowKit
abbrev Hdr:Type:=Option Addr×Nat×Nat
def hdrV (h:Hdr):Value:=.slice h.1 h.2.1 h.2.2
def rHdr:Rp Hdr:=Rp.enc 1 (fun h=>[hdrV h]) (fun _=>rfl) (fun _ v hv=>by simp at hv;subst hv;rfl)
def noK {κ:Type}:κ→Prop:=fun _=>False
section
variable {κ:Type} [DecidableEq κ]
def HP.mos (e:TypeId) (hm:κ→Option Hdr) (m:κ→Option (List UInt8)) (h:κ→Prop):HP :=
 HP.of (fun B w S=>∃ f:κ→Nat→Prop,(∀ k,(hm k).isSome=(m k).isSome)∧(∀ k v x,hm k=some v→m k=some x→v.2.1=x.length∧(¬ h k→(HP.ow rByte e v.1 v.2.2 x).pr B w (f k)))∧(∀ i j b,f i b→f j b→i=j)∧∀ i b,f i b→S b)
  (fun ⟨f,h0,h1,h2,h3⟩ hS=>⟨f,h0,fun k v x hv hx=>⟨(h1 k v x hv hx).1,fun hn=>HP.loc _ ((h1 k v x hv hx).2 hn) fun b hb=>hS b (h3 k b hb)⟩,h2,h3⟩)
  (fun ⟨f,h0,h1,h2⟩ hl=>⟨f,h0,fun k v x hv hx=>⟨(h1 k v x hv hx).1,fun hn=>HP.mono _ ((h1 k v x hv hx).2 hn) hl⟩,h2⟩)
variable {w0 w:World} {l:List HP} {e:TypeId} {hm:κ→Option Hdr} {m:κ→Option (List UInt8)}
omit [DecidableEq κ] in
theorem St.mosNil (H:St w0 w l) (e:TypeId):St w0 w (HP.mos e (fnil:κ→Option Hdr) (fnil:κ→Option (List UInt8)) noK::l) :=
 H.more fun B _ _=>⟨fun _ _=>False,fun _=>rfl,fun k v x h=>by simp [fnil] at h,by simp,by simp⟩
theorem mm_ofHdr {p:Option Nat} {ek:κ→Value} {ok:κ→Prop} {R:Rp (List UInt8)} {B:Base} {S:Nat→Prop} (hd:∀ k,(hm k).isSome=(m k).isSome) (hp:∀ k v x,hm k=some v→m k=some x→R.rd B [hdrV v] x) (h:(HP.mm p ek false rHdr ok hm).pr B w S):(HP.mm p ek false R ok m).pr B w S:=by
 obtain ⟨es,hes,hmp⟩:=h
 have hex:∀ es:List (κ×(List Value×Hdr)),(es.map (·.1)).Nodup→(∀ q∈es,rHdr.rd B q.2.1 q.2.2∧hm q.1=some q.2.2)→∃ es':List (κ×(List Value×List UInt8)),es'.map (fun q=>(q.1,q.2.1))=es.map (fun q=>(q.1,q.2.1))∧∀ q∈es',R.rd B q.2.1 q.2.2∧m q.1=some q.2.2:=by
  intro es
  induction es with
  | nil=>exact fun _ _=>⟨[],rfl,by simp⟩
  | cons q es ih =>
   intro hn hq
   simp only [List.map_cons,List.nodup_cons] at hn
   obtain ⟨es',e1,e2⟩:=ih hn.2 fun q hq'=>hq q (List.mem_cons_of_mem _ hq')
   obtain ⟨k,cs,v⟩:=q
   obtain ⟨g1,g2⟩:=hq (k,cs,v) List.mem_cons_self
   simp only at g1 g2
   obtain ⟨x,hx⟩:∃ x,m k=some x:=by have:=hd k;rw [g2] at this;exact Option.isSome_iff_exists.1 this.symm
   have g3:cs=[hdrV v]:=g1
   refine ⟨(k,cs,x)::es',by simp [e1],fun q' hq'=>?_⟩
   rcases List.mem_cons.1 hq' with rfl | hq'
   ·exact ⟨by rw [g3];exact hp k v x g2 hx,hx⟩
   ·exact e2 q' hq'
 have hget:∀ q∈es,hm q.1=some q.2.2:=fun q hq=>by
  rw [hes.get q.1,aget_of_mem hes.nodup (v:=q.2) (by obtain ⟨a,b⟩:=q;exact hq)];rfl
 obtain ⟨es',e1,e2⟩:=hex es hes.nodup fun q hq=>⟨hes.rd q hq,hget q hq⟩
 have hk:es'.map (·.1)=es.map (·.1):=by
  have:=congrArg (List.map (·.1)) e1
  rw [List.map_map,List.map_map] at this
  exact this
 have hment:ment ek false es'=ment ek false es:=by
  have:=congrArg (List.map fun q:κ×List Value=>(ek q.1,mkV false q.2)) e1
  simpa [ment,mkv,List.map_map,Function.comp_def] using this
 refine ⟨es',⟨by rw [hk];exact hes.nodup,fun q hq=>?_,fun q hq=>(e2 q hq).1,fun k=>?_⟩,?_⟩
 ·have:q.1∈es'.map (·.1):=List.mem_map.2 ⟨q,hq,rfl⟩
  rw [hk] at this
  obtain ⟨r,hr,h9⟩:=List.mem_map.1 this
  rw [← h9];exact hes.ok r hr
 ·cases h5:aget k es' with
  | some u =>
   rw [(e2 (k,u) (aget_mem' h5)).2];rfl
  | none =>
   have hnone:hm k=none:=by
    rw [hes.get k]
    cases h6:aget k es with
    | none=>rfl
    | some u =>
     have:k∈es.map (·.1):=List.mem_map.2 ⟨(k,u),aget_mem' h6,rfl⟩
     rw [← hk] at this
     obtain ⟨r,hr,h9⟩:=List.mem_map.1 this
     have hn':(es'.map (·.1)).Nodup:=by rw [hk];exact hes.nodup
     rw [aget_of_mem hn' (v:=r.2) (by rw [← h9];exact hr)] at h5;cases h5
   have:=hd k
   rw [hnone] at this
   cases h:m k with
   | none=>rfl
   | some x=>rw [h] at this;cases this
 ·cases p with
  | none =>
   simp only at hmp ⊢
   subst hmp
   have:=congrArg List.length hk
   exact List.eq_nil_of_length_eq_zero (by simpa using this)
  | some b=>exact ⟨by rw [hment];exact hmp.1,hmp.2⟩
theorem St.mosFrz {p:Option Nat} {ek:κ→Value} {ok:κ→Prop} (H:St w0 w (HP.mos e hm m noK::HP.mm p ek false rHdr ok hm::l)):St w0 w (HP.mm p ek false (rSl rByte) ok m::l):=by
 have H1:St w0 w (HP.pe (fun B=>(∀ k,(hm k).isSome=(m k).isSome)∧∀ k v x,hm k=some v→m k=some x→(rSl rByte).rd B [hdrV v] x) (fun h hl=>⟨h.1,fun k v x hv hx=>(rSl rByte).mono (h.2 k v x hv hx) hl⟩)::HP.mm p ek false rHdr ok hm::l):=by
  refine H.freezeH fun {B B'} S h hle hw=>?_
  obtain ⟨f,h0,h1,h2,h3⟩:=h
  refine ⟨h0,fun k v x hv hx=>?_⟩
  obtain ⟨hn,ho⟩:=h1 k v x hv hx
  obtain ⟨cs0,r1,r2⟩:=ho (fun h=>h)
  exact ⟨v.1,v.2.2,by unfold hdrV;rw [hn],cs0,r1.mono hle,fun w' hw'=>ownsRow_sl (HP.loc _ r2 (fun b hb=>hw w' hw' b (h3 k b hb))).1⟩
 obtain ⟨B,HB⟩:=H1.out
 obtain ⟨_,hp⟩:=HB.at (i:=0) rfl
 obtain ⟨hd,hp⟩:(∀ k,(hm k).isSome=(m k).isSome)∧∀ k v x,hm k=some v→m k=some x→(rSl rByte).rd B [hdrV v] x:=hp
 exact (HB.set 1 (A:=HP.mm p ek false rHdr ok hm) (C:=HP.mm p ek false (rSl rByte) ok m) rfl fun S h=>mm_ofHdr hd hp h).st.tail
end
section
variable {κ β:Type} [DecidableEq κ]
theorem findI_of {k:κ}:∀ {l:List (κ×Value)} {i q:Nat} {u:Value},(l.map (·.1)).Nodup→l[q]?=some (k,u)→findI k l i=some (i+q,u)
 | [],_,_,_,_,h=>by simp at h
 | (k',v)::r,i,0,u,hn,h=>by
  simp only [List.getElem?_cons_zero,Option.some.injEq,Prod.mk.injEq] at h
  unfold findI
  rw [if_pos h.1,h.2];rfl
 | (k',v)::r,i,q+1,u,hn,h=>by
  simp only [List.getElem?_cons_succ] at h
  simp only [List.map_cons,List.nodup_cons] at hn
  have hne:¬ k'=k:=fun e=>hn.1 (by rw [e];exact List.mem_map.2 ⟨(k,u),List.mem_of_getElem? h,rfl⟩)
  unfold findI
  rw [if_neg hne,findI_of hn.2 h]
  congr 2;omega
structure RawUp (es:List (κ×(List Value×β))) (raw:Array MapEntry) (vis:List Nat) (es':List (κ×(List Value×β))) (raw':Array MapEntry):Prop where
 key:es'.map (·.1)=es.map (·.1)
 born:raw'.toList.map (·.born)=raw.toList.map (·.born)
 off:∀ q,q ∉ vis→es'[q]?=es[q]?
omit [DecidableEq κ] in
theorem RawUp.refl (es:List (κ×(List Value×β))) (raw:Array MapEntry) (vis:List Nat):RawUp es raw vis es raw:=⟨rfl,rfl,fun _ _=>rfl⟩
omit [DecidableEq κ] in
theorem RawUp.at {es es':List (κ×(List Value×β))} {raw raw':Array MapEntry} {vis:List Nat} (h:RawUp es raw vis es' raw') {q:Nat} {x:κ×(List Value×β)} (hq:es'[q]?=some x) (hn:q ∉ vis):es[q]?=some x:=by
 rw [← h.off q hn];exact hq
omit [DecidableEq κ] in
theorem RawUp.next {es es':List (κ×(List Value×β))} {raw raw':Array MapEntry} {vis:List Nat} (h:RawUp es raw vis es' raw') (q:Nat):RawUp es raw (vis++[q]) es' raw' :=
 ⟨h.key,h.born,fun i hi=>h.off i fun hh=>hi (List.mem_append_left _ hh)⟩
omit [DecidableEq κ] in
theorem RawUp.len {es es':List (κ×(List Value×β))} {raw raw':Array MapEntry} {vis:List Nat} (h:RawUp es raw vis es' raw'):es'.length=es.length:=by
 have:=congrArg List.length h.key;simpa using this
omit [DecidableEq κ] in
theorem RawUp.all {es es':List (κ×(List Value×β))} {raw raw':Array MapEntry} {vis:List Nat} (h:RawUp es raw vis es' raw') (ha:∀ q,q<es'.length→q∈vis):∀ q,q<es.length→q∈vis:=fun q hq=>ha q (by rw [h.len];exact hq)
omit [DecidableEq κ] in
theorem RawUp.vok {es es':List (κ×(List Value×β))} {raw raw':Array MapEntry} {vis:List Nat} (h:RawUp es raw vis es' raw') (hv:VisOk es.length vis):VisOk es'.length vis:=by rw [h.len];exact hv
omit [DecidableEq κ] in
theorem borns_eq {raw raw':Array MapEntry} (h:raw'.toList.map (·.born)=raw.toList.map (·.born)) (vis:List Nat):bornsOf raw' vis=bornsOf raw vis:=by
 unfold bornsOf
 congr 1
 refine List.map_congr_left fun i _=>?_
 have:=congrArg (fun l=>l[i]?) h
 simp only [List.getElem?_map,Array.getElem?_toList] at this
 rw [this]
end
section
variable {κ β:Type} [DecidableEq κ] {R:Rp β} {ek:κ→Value} {agg:Bool} {ok:κ→Prop} {P:Program} {w0 w:World} {ls:List HP} {m:κ→Option β} {b:Nat} {es es0:List (κ×(List Value×β))} {raw raw0:Array MapEntry} {c:Nat} {ops:Array Oper} {rest:List Oper} {o:Oper} {a:Act} {W:List Oper→Act→World→Prop} {N:Fs} {sl:List (Nat×Value)} {d:Nat} {x y z:Operand} {T K E:TypeId} {vis:List Nat}
theorem s_moSet (kw:Walk P ops W) (F:Fr N a sl) (hg:o.guard=none) (hd:o.dst=none) (hT:P.underlying T=some (.map K E)) (hK:KeyT P K ek ok) (ho:o.op=.mapUpdate T x y z) (hM:MRaw ek agg es raw c) {q:Nat} (hU:RawUp es0 raw0 (vis++[q]) es raw)
  {k:κ} {cs0:List Value} {v0:β} (hq:es[q]?=some (k,cs0,v0)) (H:St w0 w ls) (i j:Nat) (hi:ls[i]?=some (HP.mo (some b) raw c)) (hj:ls[j]?=some (HP.es R ok es m)) (hij:Nat.beq i j=false)
  (hx:ev sl x=some (.map (some b))) (hy:ev sl y=some (ek k)) {cs:List Value} (hz:ev sl z=some (mkV agg cs)) {v:β} (hrd:∀ {B:Base},(∀ (j:Nat) (C:HP),ls[j]?=some C→∃ S,C.pr B w S)→R.rd B cs v)
  (hk:∀ es' raw' w',MRaw ek agg es' raw' c→RawUp es0 raw0 (vis++[q]) es' raw'→bornsOf raw' (vis++[q])=bornsOf raw (vis++[q])→St w0 w' ((ls.set i (HP.mo (some b) raw' c)).set j (HP.es R ok es' (fset k v m)))→W rest a w'):W (o::rest) a w:=by
 have hne:i≠j:=Nat.ne_of_beq_eq_false hij
 obtain ⟨B,HB⟩:=H.out
 obtain ⟨S1,hmo⟩:=HB.at hi
 obtain ⟨S2,hes⟩:=HB.at hj
 replace hes:EsOk R ok B es m:=hes
 have hil:i<ls.length:=(List.getElem?_eq_some_iff.1 hi).1
 have hjl:j<ls.length:=(List.getElem?_eq_some_iff.1 hj).1
 obtain ⟨hb,hfb⟩:=hmo
 have hbl:b<w.heap.size:=(Array.getElem?_eq_some_iff.1 hb).1
 have hql:=(List.getElem?_eq_some_iff.1 hq).1
 have hl:=hM.len
 have hkk:ok k:=hes.ok _ (List.mem_of_getElem? hq)
 let l:List (κ×Value):=es.map fun p=>(p.1,mkV agg p.2.1)
 have hlk:l.map (·.1)=es.map (·.1):=by simp [l]
 have hlq:l[q]?=some (k,mkV agg cs0):=by simp [l,hq]
 have hfI:findI k l 0=some (q,mkV agg cs0):=by
  have:=findI_of (i:=0) (by rw [hlk];exact hes.nodup) hlq
  simpa using this
 have hf:=hK.find k raw.toList l w hkk (es_ok hes.ok) hM.ent
 rw [hfI] at hf
 obtain ⟨e,he,hek,hev⟩:=hM.at hq
 have hrun:(Instr.mapUpdate T (.map (some b)) (ek k) (mkV agg cs)).run P w=.ok () (w.putObj b (.map (raw.modify q fun e=>{ e with key:=ek k,val:=mkV agg cs }) c)):=by
  unfold Instr.mapUpdate
  rw [Sem.run_bind,Go.run_underlying hT]
  simp only [Result.andThen_ok]
  rw [Sem.run_bind,run_getObj w b raw c hb]
  simp only [Result.andThen_ok]
  rw [Sem.run_bind,hK.check false k w hkk]
  simp only [Result.andThen_ok]
  rw [Sem.run_bind,hf]
  simp only [Result.andThen_ok]
  have hkey:((raw[q]?).map (·.key)).getD (ek k)=ek k:=by rw [he];exact hek
  rw [hkey,Sem.run_bind,hK.stays k w hkk]
  simp only [Result.andThen_ok]
  exact run_setObj w b raw c _ hb
 let es':=es.set q (k,cs,v)
 let raw':=raw.modify q fun e=>{ e with key:=ek k,val:=mkV agg cs }
 have hent:raw'.toList.map (fun e=>(e.key,e.val))=ment ek agg es':=by
  have h0:=hM.ent
  show (raw.modify q _).toList.map _=mkv ek ((es.set q (k,cs,v)).map _)
  simp only [Array.toList_modify,ment,mkv,List.map_set] at h0 ⊢
  apply List.ext_getElem?
  intro t
  have ht:=congrArg (fun l=>l[t]?) h0
  simp only [List.getElem?_map,List.getElem?_modify,List.getElem?_set,List.length_map] at ht ⊢
  by_cases e1:q=t
  ·subst e1
   have:raw.toList[q]?=some e:=by rw [Array.getElem?_toList];exact he
   simp [this,hql]
  ·simp only [e1,if_false]
   cases h5:raw.toList[t]? with
   | none=>rw [h5] at ht;simp at ht ⊢;exact ht
   | some e5=>rw [h5] at ht;simp at ht ⊢;exact ht
 have hborn:raw'.toList.map (·.born)=raw.toList.map (·.born):=by
  show (raw.modify q _).toList.map _=_
  rw [Array.toList_modify]
  apply List.ext_getElem?
  intro t
  simp only [List.getElem?_map,List.getElem?_modify]
  by_cases e1:q=t
  ·subst e1
   cases raw.toList[q]?<;>simp
  ·simp only [e1,if_false]
   cases raw.toList[t]?<;>simp
 have hM':MRaw ek agg es' raw' c:=by
  refine ⟨hent,by rw [hborn];exact hM.nd,fun e5 h5=>?_⟩
  have h6:e5.born∈raw'.toList.map (·.born):=List.mem_map.2 ⟨e5,h5,rfl⟩
  rw [hborn] at h6
  obtain ⟨e7,h7,h8⟩:=List.mem_map.1 h6
  rw [← h8];exact hM.lt e7 h7
 have hkeys:es'.map (·.1)=es.map (·.1):=by
  show (es.set q (k,cs,v)).map _=_
  rw [List.map_set]
  refine set_self ?_
  rw [List.getElem?_map,hq];rfl
 have hU':RawUp es0 raw0 (vis++[q]) es' raw':=by
  refine ⟨hkeys.trans hU.key,hborn.trans hU.born,fun t ht=>?_⟩
  have hqt:q≠t:=fun e=>ht (by rw [← e];simp)
  show (es.set q _)[t]?=_
  rw [List.getElem?_set_ne hqt];exact hU.off t ht
 have hcs:R.rd B cs v:=hrd (B:=B) fun j C hj=>HB.at hj
 have hes':EsOk R ok B es' (fset k v m):=by
  refine ⟨by rw [hkeys];exact hes.nodup,fun p hp=>?_,fun p hp=>?_,fun k'=>?_⟩
  ·have:p.1∈es'.map (·.1):=List.mem_map.2 ⟨p,hp,rfl⟩
   rw [hkeys] at this
   obtain ⟨r,hr,h9⟩:=List.mem_map.1 this
   rw [← h9];exact hes.ok r hr
  ·rcases List.mem_or_eq_of_mem_set hp with hp | rfl
   ·exact hes.rd p hp
   ·exact hcs
  ·have hnd':(es'.map (·.1)).Nodup:=by rw [hkeys];exact hes.nodup
   by_cases e1:k'=k
   ·subst e1
    have:(k',cs,v)∈es':=List.mem_of_getElem? (i:=q) (by show (es.set q _)[q]?=_;simp [hql])
    rw [aget_of_mem hnd' this];simp [fset]
   ·simp only [fset,e1,if_false]
    rw [hes.get k']
    congr 1
    cases h5:aget k' es with
    | some u =>
     have hmem:=aget_mem' h5
     obtain ⟨t,ht1,ht2⟩:=List.getElem_of_mem hmem
     have hqt:q≠t:=fun e=>by subst e;rw [List.getElem?_eq_getElem ht1,ht2] at hq;injection hq with hq;injection hq with hq _;exact e1 hq
     have:(k',u)∈es':=List.mem_of_getElem? (i:=t) (by show (es.set q _)[t]?=_;rw [List.getElem?_set_ne hqt,List.getElem?_eq_getElem ht1,ht2])
     exact (aget_of_mem hnd' this).symm
    | none =>
     cases h6:aget k' es' with
     | none=>rfl
     | some u =>
      have hmem:=aget_mem' h6
      rcases List.mem_or_eq_of_mem_set hmem with hm' | hm'
      ·rw [aget_of_mem hes.nodup hm'] at h5;cases h5
      ·injection hm' with hm' _;exact absurd hm' e1
 have hexec:(execOp a.eval o).run P w=.ok .skip (w.putObj b (.map raw' c)):=by
  unfold execOp
  simp only [ho,F.eval hx,F.eval hy,F.eval hz,Sem.run_bind,hrun,Result.andThen_ok,Sem.run_pure]
  rfl
 refine s_none kw F hg hd (by rw [ho];rfl) hexec (hk es' raw' _ hM' hU' (borns_eq hborn _) ?_)
 have H1:=HB.chg i hi (A':=HP.mo (some b) raw' c) (g:=b) (fun S hA=>hA.2) (chg_putObj _ _ _) fun S hA=>⟨World.putObj_heap_same hbl,hA.2⟩
 exact (H1.set j (C:=HP.es R ok es' (fset k v m)) (by rw [List.getElem?_set_ne hne];exact hj) fun S _=>hes').st
end
section
variable {κ:Type} [DecidableEq κ] {P:Program} {w0 w:World} {l ls:List HP} {e:TypeId} {p:Option Nat} {ek:κ→Value} {ok:κ→Prop} {m:κ→Option (List UInt8)} {hm:κ→Option Hdr} {N:Fs} {a:Act} {sl:List (Nat×Value)} {o:Oper} {x y:Operand} {T K E:TypeId}
def HP.mw (e:TypeId) (p:Option Nat) (ek:κ→Value) (ok:κ→Prop) (m:κ→Option (List UInt8)):HP:=HP.ex fun hm:κ→Option Hdr=>[HP.mos e hm m noK,HP.mm p ek false rHdr ok hm]
theorem St.mwNil (H:St w0 w (HP.mm p ek false rHdr ok (fnil:κ→Option Hdr)::l)) (e:TypeId):St w0 w (HP.mw e p ek ok (fnil:κ→Option (List UInt8))::l):=St.exShut (fnil:κ→Option Hdr) (H.mosNil e)
theorem St.mwFrz (H:St w0 w (HP.mw e p ek ok m::l)):St w0 w (HP.mm p ek false (rSl rByte) ok m::l):=by
 obtain ⟨hm,H⟩:=H.exOpen
 exact H.mosFrz
end
section
variable {κ β:Type} [DecidableEq κ] {R:Rp β} {ek:κ→Value} {agg:Bool} {ok:κ→Prop} {P:Program} {w0 w:World} {ls:List HP} {m:κ→Option β} {p:Option Nat} {es es0:List (κ×(List Value×β))} {raw raw0:Array MapEntry} {c:Nat} {ops:Array Oper} {rest:List Oper} {o:Oper} {a:Act} {W:List Oper→Act→World→Prop} {N:Fs} {sl:List (Nat×Value)} {d:Nat} {x y z:Operand} {T K E:TypeId} {vis:List Nat} {r:Nat}
def HP.mr (p:Option Nat) (ek:κ→Value) (agg:Bool) (R:Rp β) (ok:κ→Prop) (es0:List (κ×(List Value×β))) (raw0:Array MapEntry) (c:Nat) (vis:List Nat) (m:κ→Option β):HP :=
 HP.ex fun (i:List (κ×(List Value×β))×Array MapEntry)=>[HP.mo p i.2 c,HP.es R ok i.1 m,HP.fact (RawUp es0 raw0 vis i.1 i.2∧MRaw ek agg i.1 i.2 c)]
theorem St.mrStart (H:St w0 w (HP.mo p raw c::HP.es R ok es m::ls)) (hM:MRaw ek agg es raw c):St w0 w (HP.mr p ek agg R ok es raw c [] m::ls):=by
 have H1:=(H.addFact (show RawUp es raw [] es raw∧MRaw ek agg es raw c from ⟨RawUp.refl _ _ _,hM⟩)).pm 3 [1,2,0] rfl
 exact St.exShut (es,raw) H1
theorem St.mrOpen (H:St w0 w (HP.mr p ek agg R ok es0 raw0 c vis m::ls)):∃ es raw,RawUp es0 raw0 vis es raw∧MRaw ek agg es raw c∧St w0 w (HP.mo p raw c::HP.es R ok es m::HP.fact (RawUp es0 raw0 vis es raw∧MRaw ek agg es raw c)::ls):=by
 obtain ⟨⟨es,raw⟩,H⟩:=H.exOpen
 have h:=H.factP 2 rfl
 exact ⟨es,raw,h.1,h.2,H⟩
theorem St.mrShut (hU:RawUp es0 raw0 vis es raw) (hM:MRaw ek agg es raw c) (H:St w0 w (HP.mo p raw c::HP.es R ok es m::ls)):St w0 w (HP.mr p ek agg R ok es0 raw0 c vis m::ls) :=
 St.exShut (es,raw) ((H.addFact (show RawUp es0 raw0 vis es raw∧MRaw ek agg es raw c from ⟨hU,hM⟩)).pm 3 [1,2,0] rfl)
theorem St.mrSkip (H:St w0 w (HP.mr p ek agg R ok es0 raw0 c vis m::ls)) (q:Nat):St w0 w (HP.mr p ek agg R ok es0 raw0 c (vis++[q]) m::ls):=by
 obtain ⟨es,raw,hU,hM,H⟩:=H.mrOpen
 exact St.mrShut (hU.next q) hM ((H.pm 3 [0,1,2] rfl).pm 3 [0,1,2] rfl |>.pm 3 [2,0,1] rfl).tail
theorem St.mrMm (H:St w0 w (HP.mr p ek agg R ok es0 raw0 c vis m::ls)):St w0 w (HP.mm p ek agg R ok m::ls):=by
 obtain ⟨es,raw,hU,hM,H⟩:=H.mrOpen
 have H1:=H.moMm 0 1 hM rfl rfl
 exact (H1.pm 3 [1,2,0] rfl).tail.tail
theorem s_nxtR (kw:Walk P ops W) (F:Fr N a sl) (hg:o.guard=none) (hd:o.dst=some d) (hN:Nat.blt d N.n=true) (ho:o.op=.next x false) (hx:ev sl x=some (.pointer (some ⟨r,0,none⟩))) (hv:VisOk es0.length vis) (H:St w0 w (HP.obj r (mit p c (bornsOf raw0 vis))::HP.mr p ek agg R ok es0 raw0 c vis m::ls))
  (h0:(∀ q,q<es0.length→q∈vis)→∀ w' a',St w0 w' (HP.obj r (mit p c (bornsOf raw0 vis))::HP.mr p ek agg R ok es0 raw0 c vis m::ls)→Fr N a' ((d,.tuple [.bool false].toArray)::sl)→W rest a' w')
  (h1:∀ q k cs v,es0[q]?=some (k,cs,v)→q ∉ vis→∀ w' a',St w0 w' (HP.obj r (mit p c (bornsOf raw0 (vis++[q])))::HP.mr p ek agg R ok es0 raw0 c vis m::ls)→Fr N a' ((d,.tuple [.bool true,ek k,mkV agg cs].toArray)::sl)→W rest a' w'):W (o::rest) a w:=by
 obtain ⟨es,raw,hU,hM,H1⟩:=(H.pm 2 [1,0] rfl).mrOpen
 have hb:∀ v,bornsOf raw v=bornsOf raw0 v:=fun v=>borns_eq hU.born v
 have H2:=H1.pm 4 [3,0,1,2] rfl
 rw [← hb] at H2
 refine s_nxtM kw F hg hd hN ho hx hM (hU.vok hv) H2 1 0 rfl rfl rfl (fun hall w' a' H' F'=>?_) (fun q k cs v hq hn w' a' H' F'=>?_)
 ·rw [hb] at H'
  exact h0 (fun q hq=>hU.all hall q hq) w' a' ((St.mrShut hU hM ((H'.pm 4 [3,1,2,0] rfl).tail)).pm 2 [1,0] rfl) F'
 ·replace H':St w0 w' (HP.obj r (mit p c (bornsOf raw (vis++[q])))::HP.mo p raw c::HP.es R ok es m::HP.fact (RawUp es0 raw0 vis es raw∧MRaw ek agg es raw c)::ls):=H'
  rw [hb] at H'
  exact h1 q k cs v (hU.at hq hn) hn w' a' ((St.mrShut hU hM ((St.pm (l:=HP.obj r (mit p c (bornsOf raw0 (vis++[q])))::HP.mo p raw c::HP.es R ok es m::HP.fact (RawUp es0 raw0 vis es raw∧MRaw ek agg es raw c)::ls) H' 4 [3,1,2,0] rfl).tail)).pm 2 [1,0] rfl) F'
theorem y_entR (F:Fr N a sl) (ho:o.op=.entry x) (hx:ev sl x=some (.pointer (some ⟨r,0,none⟩))) {q:Nat} {k:κ} {cs:List Value} {v:β} (hq:es0[q]?=some (k,cs,v)) (hn:q ∉ vis) (H:St w0 w (HP.obj r (mit p c (bornsOf raw0 (vis++[q])))::HP.mr p ek agg R ok es0 raw0 c vis m::ls)) :
  (execOp a.eval o).run P w=.ok (.value (.tuple [ek k,mkV agg cs].toArray)) w:=by
 obtain ⟨es,raw,hU,hM,H1⟩:=(H.pm 2 [1,0] rfl).mrOpen
 have H2:=H1.pm 4 [3,0,1,2] rfl
 rw [← borns_eq hU.born] at H2
 exact y_entM F ho hx hM (by rw [hU.off q hn];exact hq) H2 1 0 rfl rfl rfl
theorem St.mrEl (H:St w0 w (HP.mr p ek agg R ok es0 raw0 c vis m::ls)) {q:Nat} {k:κ} {cs:List Value} {v:β} (hq:es0[q]?=some (k,cs,v)) (hn:q ∉ vis):ok k∧St w0 w (HP.rc R cs v::HP.mr p ek agg R ok es0 raw0 c vis m::ls):=by
 obtain ⟨es,raw,hU,hM,H1⟩:=H.mrOpen
 obtain ⟨h,H2⟩:=H1.esEl 1 rfl (show es[q]?=some (k,cs,v) by rw [hU.off q hn];exact hq)
 exact ⟨h,(St.mrShut hU hM ((H2.pm 4 [3,1,2,0] rfl).tail)).pm 2 [1,0] rfl⟩
theorem s_mrSet (kw:Walk P ops W) (F:Fr N a sl) (hg:o.guard=none) (hd:o.dst=none) (hT:P.underlying T=some (.map K E)) (hK:KeyT P K ek ok) (ho:o.op=.mapUpdate T x y z) {q:Nat} {k:κ} {cs0:List Value} {v0:β} (hq:es0[q]?=some (k,cs0,v0)) (H:St w0 w (HP.mr p ek agg R ok es0 raw0 c (vis++[q]) m::ls))
  (hx:ev sl x=some (.map p)) (hy:ev sl y=some (ek k)) {cs:List Value} (hz:ev sl z=some (mkV agg cs)) {v:β} (hrd:∀ {B:Base},(∀ (j:Nat) (C:HP),ls[j]?=some C→∃ S,C.pr B w S)→R.rd B cs v)
  (hk:∀ w',St w0 w' (HP.mr p ek agg R ok es0 raw0 c (vis++[q]) (fset k v m)::ls)→W rest a w'):W (o::rest) a w:=by
 obtain ⟨es,raw,hU,hM,H1⟩:=H.mrOpen
 have hkq:(es.map (·.1))[q]?=some k:=by rw [hU.key,List.getElem?_map,hq];rfl
 obtain ⟨u,hu,hu1⟩:∃ u,es[q]?=some u∧u.1=k:=by
  rw [List.getElem?_map] at hkq
  cases h:es[q]? with
  | none=>rw [h] at hkq;cases hkq
  | some u=>rw [h] at hkq;exact ⟨u,rfl,Option.some.inj hkq⟩
 obtain ⟨k',cs1,v1⟩:=u
 simp only at hu1
 subst hu1
 cases p with
 | none =>
  have h00:raw=#[]:=by obtain ⟨_,_,_,h,_⟩:=H1.get 0 rfl;exact h
  have hl:=hM.len
  have:=(List.getElem?_eq_some_iff.1 hu).1
  rw [h00] at hl
  simp at hl;omega
 | some b =>
  refine s_moSet kw F hg hd hT hK ho hM hU hu H1 0 1 rfl rfl rfl hx hy hz (fun gg=>hrd fun j C hj=>gg (j+3) C (by simpa using hj)) fun es' raw' w' hM' hU' _ H'=>hk w' ?_
  exact St.mrShut hU' hM' (St.pm (l:=HP.mo (some b) raw' c::HP.es R ok es' (fset k' v m)::HP.fact (RawUp es0 raw0 (vis++[q]) es raw∧MRaw ek agg es raw c)::ls) H' 3 [2,0,1] rfl).tail
theorem St.mmClone (H:St w0 w (HP.mm p ek agg R ok m::ls)):(p=none∧St w0 w (HP.mm none ek agg R ok m::HP.mm p ek agg R ok m::ls))∨∃ b raw c,p=some b∧w.heap[b]?=some (.map raw c)∧St w0 (w.alloc (.map raw c)) (HP.mm (some w.heap.size) ek agg R ok m::HP.mm p ek agg R ok m::ls):=by
 cases p with
 | none =>
  refine .inl ⟨rfl,H.more fun B hB hp=>?_⟩
  obtain ⟨S,es,hS⟩:=hp 0 _ rfl
  exact ⟨es,hS⟩
 | some b =>
  obtain ⟨raw,c,es,hM,hE,H1⟩:=H.moOpen 0 rfl
  replace H1:St w0 w (HP.es R ok es m::HP.mo (some b) raw c::ls):=H1
  have hh:w.heap[b]?=some (.map raw c):=by obtain ⟨_,_,_,h,_⟩:=H1.get 1 rfl;exact h.1
  refine .inr ⟨b,raw,c,rfl,hh,?_⟩
  have H2:St w0 (w.alloc (.map raw c)) (HP.mo (some w.heap.size) raw c::HP.es R ok es m::HP.mo (some b) raw c::ls):=(H1.newObj (.map raw c)).objMo 0 rfl
  have H3:St w0 (w.alloc (.map raw c)) (HP.mm (some w.heap.size) ek agg R ok m::HP.es R ok es m::HP.mo (some b) raw c::ls):=H2.moMm 0 1 hM rfl rfl
  have H4:St w0 (w.alloc (.map raw c)) (HP.mm (some w.heap.size) ek agg R ok m::HP.es R ok es m::HP.mm (some b) ek agg R ok m::ls):=H3.moMm 2 1 hM rfl rfl
  exact (H4.pm 3 [1,0,2] rfl).tail
end
end Go.Tri
namespace Go.Proofs.YtapllcabobickaaGreatDoor
open Go.RowKit Go.Tri
set_option maxRecDepth 100000
set_option maxHeartbeats 4000000
theorem w_fRead {list:List T_api_Pair} {p1:Option Addr} {c1:Nat} {w0 w:World} {l:List HP}  {r:((List UInt8)→Option T_files_file)} (hm:fRead list=some r) (H:St w0 w (HP.sl R_api_Pair p1 c1 list::l)) :
  Calls Tryz.prog 135 [.slice p1 (list).length c1].toArray w (fun e w'=>∃ v,e=.returned v∧∃ (m2:Nat),v=.map (some m2)∧St w0 w' (HP.mm (some m2) ekStr true R_files_file (fun _=>True) r::l)):=by
 unfold fRead at hm
 refine x_enter Tryz.func135 rfl rfl rfl ?_
 intro a F
 refine sb [0] F H rfl fun a F=>nl (sr (s_mmNew ekStr true R_files_file (fun _=>True) wkP F rfl rfl rfl rfl H fun m3 w a H F=>bb [0] F H rfl fun a F=>?_))
 replace H:=H.nf 2 rfl
 refine nl (sr (s_mmNew ekStr false rHdr (fun _=>True) wkP F rfl rfl rfl rfl H fun m4 w a H F=>?_))
 replace H:=H.mwNil 5
 refine bb [0] F H rfl fun a F=>?_
 replace H:=H.nf 3 rfl
 refine nl (sq (sr (bk [0,0,0] F H rfl ⟨⟨_,Tryz.underlying61⟩,trivial⟩ fun a F=>?_)))
 refine nl (xm0 3 [3,4] [0] F H hm rfl rfl (fun r432 z=>z) (fun r432 z=>HP.mm (some m3) ekStr true R_files_file (fun _=>True) r432::z) (fun r432 hm=>?_) (fun r432 a w hm F H=>?_))
 refine bl (xl0 3 [3,4,16,17] [0,2] F H hm rfl rfl (fun (s717:((List UInt8)→Option T_files_file)×Int) z=>(18,.int .i64 (s717.2))::z) (fun s717 z=>HP.mm (some m3) ekStr true R_files_file (fun _=>True) s717.1::z) ⟨F.sl rfl,(H.pm 3 [1,0,2] rfl:)⟩ (fun s717 a w o F H hm=>sb [0] F H rfl fun a F=>?_))
 refine nl (sq (cPm F rfl hm (fun hg718 hm=>?_) (fun hg718 hm=>?_)))
 refine sk (ct (sq (xm0 3 [3,4,16,17,18] [1,2] F H hm rfl rfl (fun r789 z=>z) (fun r789 z=>HP.mm (some m3) ekStr true R_files_file (fun _=>True) r789::z) (fun r789 hm=>?_) (fun r789 a w hm F H=>?_))))
 refine bl (sr ?_)
 obtain ⟨x790,ex790,hm⟩:=ob hm
 obtain ⟨b791,o791,hp791,cs792,H⟩:=H.slE 2 rfl ex790
 refine sv F rfl (y_idxS F elem61 rfl rfl rfl hp791 ex790) fun a F=>bk [999] F H rfl ⟨rfl,(aggn agg129 (H.rcLen 1 rfl)),trivial⟩ fun a F=>?_
 replace H:=H.owNil rByte 5
 replace H:=H.owNil rByte 5
 refine s_allocA wkP F rfl rfl rfl agz129 rfl H fun b793 w a H F=>s_storeA wkP F rfl rfl agg129 rfl rfl rfl H 0 rfl (H.rcLen 4 rfl) rfl (H.rcFlat 4 rfl) fun w H=>?_
 replace H:=H.nf 8 rfl
 refine nb [0,0] F H rfl fun a F=>nl (sq (sr (bk [0] F H rfl ⟨fld129_0,trivial⟩ fun a F=>?_)))
 have G:=F;replace H:=rc_api_Pair (H.pk 4 rfl);obtain ⟨p794,c795,p796,c797,rfl,J⟩:=H;have H:=J;have F:=G;clear G J
 refine bk [2000,0,0] F H rfl ⟨rfl,plain25,⟨_,Tryz.underlying25⟩,trivial⟩ fun a F=>?_
 refine nl (xm0 9 [3,4,6,16,17,18] [0,1,2,3,4,5,6,7,8] F H hm rfl rfl (fun r803 z=>(7,.string (txb (r803.1)))::(8,.string (txb (r803.2)))::z) (fun r803 z=>z) (fun r803 hm=>?_) (fun r803 a w hm F H=>?_))
 refine cPm F rfl hm (fun hg804 hm=>?_) (fun hg804 hm=>?_)
 obtain ⟨x806,ex806,hm⟩:=ob hm
 have hc805:=H.slCap 0 rfl
 replace H:=H.slSubN 1 rfl 0 rfl ex806
 obtain ⟨x808,ex808,hm⟩:=ob hm
 have hc807:=H.slCap 1 rfl
 replace H:=H.slSubN 1 rfl 1 rfl ex808
 refine qr H (by kernel_rfl) (by kernel_rfl) ?_
 refine qbk [0,4000] F rfl ⟨fld129_0,rfl,plain25,trivial⟩ fun a F=>qv F rfl (fun u hu=>y_slH F elem25 rfl rfl rfl ex806 hc805) fun a F=>qv F rfl (fun u hu=>y_b2s F Tryz.underlying25 Tryz.underlying9 Tryz.underlying5 rfl rfl (hu) 1 rfl) fun a F=>qbk [0,4000] F rfl ⟨fld129_0,rfl,plain25,trivial⟩ fun a F=>qv F rfl (fun u hu=>y_slL F elem25 rfl rfl rfl ex808 hc807) fun a F=>qv F rfl (fun u hu=>y_b2s F Tryz.underlying25 Tryz.underlying9 Tryz.underlying5 rfl rfl (hu) 0 rfl) fun a F=>qb [0,0] F rfl fun a F=>?_
 refine q_nil fun w H=>?_
 cases hm
 refine ct ?_
 exact ⟨F.sl rfl,(H.pm 11 [2,3,4,5,6,7,8,9,10] rfl:)⟩
 refine sk ?_
 cases hm
 refine ct ?_
 exact ⟨F.sl rfl,H⟩
 refine ct (xm0 9 [3,4,16,17,18] [0,1,2,3,4,5,7,8] F H hm rfl rfl (fun r834 z=>z) (fun r834 z=>HP.mm (some m3) ekStr true R_files_file (fun _=>True) r834::z) (fun r834 hm=>?_) (fun r834 a w hm F H=>?_))
 refine bl (sb [0] F H rfl fun a F=>sv F rfl (y_eqT (l:=r803.1) (m:=[99]) F rfl rfl rfl) fun a F=>bb [0] F H rfl fun a F=>?_)
 refine nl (xm0 9 [3,4,16,17,18] [0,1,2,3,4,5,7,8] F H hm rfl rfl (fun r847 z=>z) (fun r847 z=>HP.mm (some m3) ekStr true R_files_file (fun _=>True) r847::z) (fun r847 hm=>?_) (fun r847 a w hm F H=>?_))
 refine cPm F rfl hm (fun hg848 hm=>?_) (fun hg848 hm=>?_)
 cases hm
 refine sb [0] F H rfl fun a F=>sv F rfl (y_eqT (l:=r803.1) (m:=[110]) F rfl rfl rfl) fun a F=>bb [0] F H rfl fun a F=>?_
 refine nl (xm0 9 [3,4,16,17,18] [0,1,2,3,4,5,7,8] F H hm rfl rfl (fun r854 z=>z) (fun r854 z=>HP.mm (some m3) ekStr true R_files_file (fun _=>True) r854::z) (fun r854 hm=>?_) (fun r854 a w hm F H=>?_))
 refine cPm F rfl hm (fun hg855 hm=>?_) (fun hg855 hm=>?_)
 refine rl (bk [0,0,1,2001,0,0,0] F H rfl ⟨fld129_1,rfl,plain25,⟨_,Tryz.underlying25⟩,trivial⟩ fun a F=>?_)
 rcases spP 60 F rfl hm with ⟨hg856,hm,F⟩ | ⟨hg856,hm,F⟩
 refine bk [1,2001] F H rfl ⟨fld129_1,rfl,plain25,trivial⟩ fun a F=>g_onP F rfl rfl rfl rfl ?_
 obtain ⟨x857,ex857,hm⟩:=ob hm
 obtain ⟨b858,o858,hp858,cs859,H⟩:=H.slE 1 rfl ex857
 obtain rfl:=H.rcB 1 rfl
 replace H:=H.dp 1 rfl
 refine sv F rfl (y_idxS F elem25 rfl rfl rfl hp858 ex857) fun a F=>bk [0,0,0] F H rfl ⟨rfl,plain5,trivial⟩ fun a F=>?_
 replace H:=H.owNil rByte 5
 refine sv F rfl (y_build F rfl rfl (cs:=[.bool (decide (((x857).toNat:Int)=100)),.slice none (([]:List UInt8)).length 0]) (by kernel_rfl)) fun a F=>?_
 replace H:=H.frz 0 rfl
 refine s_mmSet wkP F rfl rfl Tryz.underlying239 (keyStr Tryz.underlying9) rfl H 8 rfl rfl (k:=r803.2) rfl (cs:=[.bool (decide (((x857).toNat:Int)=100)),.slice none (([]:List UInt8)).length 0]) rfl trivial (v:=(decide (((x857).toNat:Int)=100),([]:List UInt8))) (fun gg=>⟨_,_,rfl,rfl,⟨_,_,rfl,(gg 0 _ rfl).choose_spec⟩⟩) fun w H=>?_
 replace H:=H.nf 11 rfl
 refine lz ?_
 cases hm
 refine ct ?_
 exact ⟨F.sl rfl,(H.pm 11 [8,2,3,4,5,6,7,9,10] rfl:)⟩
 refine bb (List.replicate 6 0) F H rfl fun a F=>?_
 replace H:=H.owNil rByte 5
 refine sv F rfl (y_build F rfl rfl (cs:=[.bool false,.slice none (([]:List UInt8)).length 0]) (by kernel_rfl)) fun a F=>?_
 replace H:=H.frz 0 rfl
 refine s_mmSet wkP F rfl rfl Tryz.underlying239 (keyStr Tryz.underlying9) rfl H 7 rfl rfl (k:=r803.2) rfl (cs:=[.bool false,.slice none (([]:List UInt8)).length 0]) rfl trivial (v:=(false,([]:List UInt8))) (fun gg=>⟨_,_,rfl,rfl,⟨_,_,rfl,(gg 0 _ rfl).choose_spec⟩⟩) fun w H=>?_
 replace H:=H.nf 10 rfl
 refine lz ?_
 cases hm
 refine ct ?_
 exact ⟨F.sl rfl,(H.pm 10 [7,1,2,3,4,5,6,8,9] rfl:)⟩
 refine sk ?_
 cases hm
 refine ct ?_
 exact ⟨F.sl rfl,(H.pm 9 [6,0,1,2,3,4,5,7,8] rfl:)⟩
 cases hm
 refine ct ?_
 exact ⟨F.sl rfl,H⟩
 refine bn ?_
 cases hm
 refine ct ?_
 exact ⟨F.sl rfl,H⟩
 refine bn ?_
 cases hm
 refine ct ?_
 exact ⟨F.sl rfl,(H.pm 9 [0,7,8] rfl:)⟩
 refine ct (rl (bb [0,0] F H rfl fun a F=>?_))
 refine lz (ct ?_);cases hm
 exact ⟨_,rfl,⟨F.sl rfl,H⟩⟩
 refine ex (cx (cx ?_));cases hm;refine ⟨_,rfl,?_⟩;rintro rfl
 refine ch (ct ?_)
 exact ⟨F.sl rfl,(H.pm 3 [0,1] rfl:)⟩
 refine ct (sq (sb [0] F H rfl fun a F=>?_))
 replace H:=(H.pm 2 [1,0] rfl:).mwFrz
 obtain ⟨raw860,cl860,es860,hM860,hE860,H⟩:=H.moOpen 1 rfl
 refine s_rngM wkP F rfl rfl rfl Tryz.underlying239 rfl H 2 rfl rfl fun r860 w a H F=>?_
 replace H:=((H.pm 4 [3,1,0,2] rfl:)).mrStart hM860
 replace H:=H.nf 3 rfl
 refine nl (bl ?_)
 have hmM917:=hm;clear hm
 refine x_loopM es860 hmM917 (fun (s917:((List UInt8)→Option T_files_file)) vis917 aa ww=>Fr ⟨86,[]⟩ aa [(3,.map (some m3)),(4,.map (some m4)),(70,.pointer (some ⟨r860,0,none⟩))]∧St w0 ww (HP.mr (some m3) ekStr true R_files_file (fun _=>True) es860 raw860 cl860 (vis917) s917::HP.obj r860 (mit (some m3) cl860 (bornsOf raw860 (vis917)))::HP.mm (some m4) ekStr false (rSl rByte) (fun _=>True) (fnil:(List UInt8)→Option (List UInt8))::l)) ⟨F.sl rfl,H⟩ ?_
 clear F H
 rintro s917 vis917 a w hr917 ⟨F,H⟩
 refine sr ?_
 replace H:=(H.pm 3 [1,0,2] rfl:)
 refine s_nxtR wkP F rfl rfl rfl rfl rfl hr917.ok H (fun hall918 w a H F=>?_) (fun q918 k918 cs918 v918 hq918 hn918 w a H F=>?_)
 have hm:=elimL (hr917.done hE860 hall918 hmM917)
 refine bb [0] F H rfl fun a F=>nl (sq (cF F rfl ?_))
 refine ex (cx (cx ?_))
 replace H:=(H.pm 3 [1,0,2] rfl:).mrMm
 refine ch (ct (sb [0,0] F H rfl fun a F=>?_))
 refine nl (wr ?_)
 cases hm
 refine x_ret1 F rfl rfl ?_
 exact ⟨_,rfl,m3,rfl,(H.pm 3 [0] rfl:)⟩
 obtain ⟨o918,hm,hs918,hx918⟩:=hr917.step hE860 hq918 hn918 hmM917
 refine bb [0] F H rfl fun a F=>nl (sq (cT F rfl ?_))
 refine sk (ct (xm0 3 [3,4,70] [0,2] F H hm rfl rfl (fun r932 z=>z) (fun r932 z=>HP.mr (some m3) ekStr true R_files_file (fun _=>True) es860 raw860 cl860 (vis917++[q918]) r932::z) (fun r932 hm=>?_) (fun r932 a w hm F H=>?_)))
 refine bl (sr ?_)
 obtain ⟨hk933,H⟩:=(H.pm 3 [1,0,2] rfl:).mrEl hq918 hn918
 replace H:=(H.pm 4 [2,1,0,3] rfl:)
 refine sv F rfl (y_entR (agg:=true) (ek:=ekStr) F rfl rfl hq918 hn918 H) fun a F=>?_
 replace H:=(H.pm 4 [1,0,2,3] rfl:).mrSkip q918
 refine bb [0,0] F H rfl fun a F=>?_
 replace H:=H.owNil rByte 5
 refine s_allocA wkP F rfl rfl rfl agz237 rfl H fun b934 w a H F=>bb [0] F H rfl fun a F=>s_storeA wkP F rfl rfl agg237 rfl rfl rfl H 0 rfl (H.rcLen 4 rfl) rfl (H.rcFlat 4 rfl) fun w H=>?_
 replace H:=H.nf 6 rfl
 refine nl (sr (bk [0] F H rfl ⟨fld237_0,trivial⟩ fun a F=>?_))
 have G:=F;replace H:=rc_files_file (H.pk 4 rfl);obtain ⟨p935,c936,rfl,J⟩:=H;have H:=J;have F:=G;clear G J
 refine bk [1000,0] F H rfl ⟨rfl,plain4,trivial⟩ fun a F=>?_
 refine nl (xm0 6 [3,4,70] [0,1,2,4,5] F H hm rfl rfl (fun r941 z=>z) (fun r941 z=>HP.mr (some m3) ekStr true R_files_file (fun _=>True) es860 raw860 cl860 (vis917++[q918]) r941::z) (fun r941 hm=>?_) (fun r941 a w hm F H=>?_))
 refine cB F rfl (fun hg942=>?_) (fun hg942=>?_)
 replace hm:=ifT hg942 hm
 refine rl (bb [0,0,0,0] F H rfl fun a F=>?_)
 obtain ⟨es943,H⟩:=H.mmOpen 5 rfl
 obtain ⟨cs944,hcs944,H⟩:=H.mxGet 5 rfl k918 (zc:=[Value.slice none 0 0]) (z0:=[]) (fun _=>rSl_nil _ _)
 have G:=F;obtain ⟨p945,c945,rfl,H⟩:=H.rcSl 0 rfl;have F:=G;clear G
 replace H:=H.dp 1 rfl
 refine sv F rfl (y_mxGet (agg:=false) (zc:=[Value.slice none 0 0]) F Tryz.underlying276 (keyStr Tryz.underlying9) (fun w=>zero25.run w) rfl H 6 rfl rfl (k:=k918) rfl trivial hcs944) fun a F=>sv F rfl (y_build F rfl rfl (cs:=[.bool false,.slice p945 ((((fnil:(List UInt8)→Option (List UInt8)) k918).getD [])).length c945]) (by kernel_rfl)) fun a F=>?_
 replace H:=(H.pm 7 [4,0,1,2,3,5,6] rfl:)
 refine s_mrSet wkP F rfl rfl Tryz.underlying239 (keyStr Tryz.underlying9) rfl hq918 H rfl rfl (cs:=[.bool false,.slice p945 ((((fnil:(List UInt8)→Option (List UInt8)) k918).getD [])).length c945]) rfl (v:=(false,(((fnil:(List UInt8)→Option (List UInt8)) k918).getD []))) (fun gg=>⟨_,_,rfl,rfl,⟨_,_,rfl,(gg 0 _ rfl).choose_spec⟩⟩) fun w H=>?_
 refine lz ?_
 replace H:=H.mxShut 6 rfl
 cases hm
 refine ct ?_
 exact ⟨F.sl rfl,(H.pm 7 [0,2,3,4,5,6] rfl:)⟩
 replace hm:=ifF (nT hg942) hm
 refine sk ?_
 cases hm
 refine ct ?_
 exact ⟨F.sl rfl,(H.pm 6 [3,0,1,2,4,5] rfl:)⟩
 refine bn ?_
 cases hm
 refine ct ?_
 exact ⟨F.sl rfl,(H.pm 6 [0,4,5] rfl:)⟩
 refine ct ?_;cases hm
 exact ⟨_,q918,hs918 _ rfl,⟨F.sl rfl,H⟩⟩
theorem ent152:En Tryz.prog 152:=enters Tryz.func152 (by kernel_rfl) rfl
theorem ent151:En Tryz.prog 151:=enters Tryz.func151 (by kernel_rfl) rfl
theorem ent178:En Tryz.prog 178:=enters Tryz.func178 (by kernel_rfl) rfl
theorem w_sPairs {s:(List UInt8)→Option T_files_file} {q1:Option Nat} {w0 w:World} {l:List HP}  {r:(List T_api_Pair)} (hm:sPairs s=some r) (H:St w0 w (HP.mm q1 ekStr true R_files_file (fun _=>True) s::l)) :
  Calls Tryz.prog 123 [.map q1].toArray w (fun e w'=>∃ v,e=.returned v∧∃ (p2:Option Addr) (c2:Nat),v=.slice p2 (r).length c2∧St w0 w' (HP.ow R_api_Pair 129 p2 c2 r::HP.mm q1 ekStr true R_files_file (fun _=>True) s::l)):=by
 unfold sPairs at hm
 refine xk_enter Tryz.func123 rfl rfl rfl ?_
 intro a F
 replace H:=H.mks0
 refine sr ?_
 replace H:=H.owNil R_api_Pair 129
 refine s_alloc1 wkP F rfl rfl rfl zero61 rfl H fun b3 w a H F=>?_
 replace H:=H.nf 4 rfl
 refine nl (sq (sb [0] F H rfl fun a F=>?_))
 obtain ⟨raw4,cl4,es4,hM4,hE4,H⟩:=H.moOpen 3 rfl
 refine s_rngM wkP F rfl rfl rfl Tryz.underlying239 rfl H 4 rfl rfl fun r4 w a H F=>?_
 replace H:=H.nf 6 rfl
 refine nl (bl ?_)
 have hmM145:=hm;clear hm
 refine x_loopM es4 hmM145 (fun (s145:(List T_api_Pair)) vis145 aa ww=>∃ (Ds146:List Nat) (p147:Option Addr) (c147:Nat),Fr ⟨67,marks Ds146⟩ aa [(2,.pointer (some ⟨b3,0,none⟩)),(10,.pointer (some ⟨r4,0,none⟩))]∧St w0 ww (HP.obj r4 (mit q1 cl4 (bornsOf raw4 (vis145)))::HP.es R_files_file (fun _=>True) es4 s::HP.blk b3 ([.slice p147 (s145).length c147]) 61::HP.mks Ds146::HP.mo q1 raw4 cl4::HP.ow R_api_Pair 129 p147 c147 s145::l)) ⟨[],none,0,F.sl rfl,(H.pm 6 [0,1,2,4,5,3] rfl:)⟩ ?_
 clear F H
 rintro s145 vis145 a w hr145 ⟨Ds146,p147,c147,F,H⟩
 refine sr (s_nxtM wkP F rfl rfl rfl rfl rfl hM4 hr145.ok H 4 0 rfl rfl rfl (fun hall148 w a H F=>?_) (fun q148 k148 cs148 v148 hq148 hn148 w a H F=>?_))
 have hm:=elimL (hr145.done hE4 hall148 hmM145)
 refine bb [0] F H rfl fun a F=>nl (sq (cF F rfl ?_))
 refine ex (cx (cx ?_))
 replace H:=H.moMm 4 1 hM4 rfl rfl
 refine ch (ct (sr (bk [2000] F H rfl ⟨rfl,plain61,trivial⟩ fun a F=>?_)))
 obtain ⟨x149,ex149,hm⟩:=ob hm
 refine sd F rfl ent152 (w_sortPs ex149 (H.pm 6 [5,0,1,2,3,4] rfl:):) ?_;rintro _ w a ⟨rfl,hl150,H⟩ F
 replace H:St w0 w (HP.ow R_api_Pair 129 p147 c147 x149::HP.obj r4 (mit q1 cl4 (bornsOf raw4 (vis145)))::HP.es R_files_file (fun _=>True) es4 s::HP.blk b3 ([.slice p147 (x149).length c147]) 61::HP.mks Ds146::HP.mm q1 ekStr true R_files_file (fun _=>True) s::l):=(by rw [hl150];exact H)
 replace F:=F.bool (k:=64) (u:=.slice p147 (x149).length c147) rfl (by rw [hl150])
 refine nl (sr (bk [3000] F H rfl ⟨rfl,plain61,trivial⟩ fun a F=>s_st1 wkP F rfl rfl zero61 rfl rfl rfl rfl rfl H 3 rfl rfl fun w H=>?_))
 replace H:=H.nf 6 rfl
 refine nl (wr ?_)
 cases hm
 refine xk_resC1 F rfl ((H.pm 6 [4,0,1,2,3,5] rfl:)) (fun w H=>⟨_,rfl,ld1 plain61 ((H.blk 3 rfl).cell _)⟩) fun w H=>?_
 exact ⟨_,rfl,p147,c147,rfl,(H.pm 5 [0,4] rfl:)⟩
 obtain ⟨o148,hm,hs148,hx148⟩:=hr145.step hE4 hq148 hn148 hmM145
 refine bb [0] F H rfl fun a F=>nl (sq (cT F rfl (sk (ct ?_))))
 obtain ⟨r182,er182,hm182⟩:=ob hm;clear hm;revert er182;intro hm
 refine x_mid (fun aa ww=>∃ (Ds183:List Nat) (p184:Option Addr) (c184:Nat),Fr ⟨67,marks Ds183⟩ aa [(2,.pointer (some ⟨b3,0,none⟩)),(10,.pointer (some ⟨r4,0,none⟩))]∧St w0 ww (HP.obj r4 (mit q1 cl4 (bornsOf raw4 (vis145++[q148])))::HP.es R_files_file (fun _=>True) es4 s::HP.blk b3 ([.slice p184 (r182).length c184]) 61::HP.mks Ds183::HP.mo q1 raw4 cl4::HP.ow R_api_Pair 129 p184 c184 r182::l)) ?_ ?_
 refine bl (sr ?_)
 obtain ⟨hk185,H⟩:=H.esEl 1 rfl hq148
 refine sv F rfl (y_entM (agg:=true) (ek:=ekStr) F rfl rfl hM4 hq148 H 5 1 rfl rfl rfl) fun a F=>bb [0,0] F H rfl fun a F=>s_alloc1 wkP F rfl rfl rfl zero9 rfl H fun b186 w a H F=>?_
 replace H:=H.owNil rByte 5
 refine s_allocA wkP F rfl rfl rfl agz237 rfl H fun b187 w a H F=>s_st1 wkP F rfl rfl zero9 rfl rfl rfl rfl rfl H 2 rfl rfl fun w H=>s_storeA wkP F rfl rfl agg237 rfl rfl rfl H 0 rfl (H.rcLen 3 rfl) rfl (H.rcFlat 3 rfl) fun w H=>?_
 replace H:=H.nf 10 rfl
 refine nl (sr (bk [2000] F H rfl ⟨rfl,plain9,trivial⟩ fun a F=>?_))
 obtain ⟨x188,ex188,hm⟩:=ob hm
 refine sv F rfl (y_addO F rfl rfl rfl ex188) fun a F=>?_
 refine s_cvT (e:=5) (xs:=x188) wkP F rfl rfl rfl Tryz.underlying9 Tryz.underlying25 Tryz.underlying5 rfl rfl H fun b189 c189 w a H F=>?_
 refine bb [0] F H rfl fun a F=>?_
 replace H:=H.nf 11 rfl
 refine nl (sq (sr (bk [0] F H rfl ⟨fld237_0,trivial⟩ fun a F=>?_)))
 have G:=F;replace H:=rc_files_file (H.pk 4 rfl);obtain ⟨p190,c191,rfl,J⟩:=H;have H:=J;have F:=G;clear G J
 refine bk [2000] F H rfl ⟨rfl,plain4,trivial⟩ fun a F=>?_
 refine nl (cB F rfl (fun hg192=>?_) (fun hg192=>?_))
 replace hm:=ifT hg192 hm
 refine sr (bk [7000,0] F H rfl ⟨rfl,plain61,trivial⟩ fun a F=>?_)
 obtain ⟨x194,ex194,hm⟩:=ob hm
 refine s_buildC wkP F rfl rfl rfl elem25 zero5 rfl rfl rfl rfl (by simp [Value.cells]) (by decide) H fun b193 w a H F=>?_
 replace H:=H.blkOw1 (R:=rByte) (x:=x194) (fun gg=>(congrArg (fun z=>[Value.int .u8 z]) (u8O_some ex194).symm))
 refine sv F rfl (y_build F rfl rfl (cs:=[.slice (some ⟨b189,0,none⟩) (x188).length c189,.slice (some ⟨b193,0,none⟩) ([x194]).length (([x194]).length)]) (by kernel_rfl)) fun a F=>?_
 replace H:=H.cvFrz 2 rfl
 replace H:=H.frz 1 rfl
 refine s_build1 wkP F rfl rfl rfl agg129 elem61 rfl rfl rfl (by decide) H fun b195 w a H F=>?_
 replace H:=H.blkOw1 (R:=R_api_Pair) (x:=(x188,[x194])) (fun gg=>⟨_,_,rfl,⟨_,_,rfl,(gg 2 _ rfl).choose_spec⟩,⟨_,_,rfl,(gg 1 _ rfl).choose_spec⟩⟩)
 replace H:=H.frz 0 rfl
 obtain ⟨x197,ex197,hm⟩:=ob hm
 refine s_app wkP F rfl rfl rfl rfl rfl rfl elem61 rfl ex197 H 12 0 rfl rfl fun p196 c196 w a H F=>?_
 refine s_st1 wkP F rfl rfl zero61 rfl rfl rfl rfl rfl H 9 rfl rfl fun w H=>?_
 replace H:=H.nf 13 rfl
 refine nl (ex (cx (ch ?_)))
 cases hm
 refine ct ?_
 exact ⟨Ds146,p196,c196,F.sl rfl,(H.pm 13 [7,8,9,10,11,12] rfl:)⟩
 replace hm:=ifF (nT hg192) hm
 refine sk (ct (sr ?_))
 replace H:=H.owNil rByte 5
 refine sv F rfl (y_build F rfl rfl (cs:=[.slice none (([]:List UInt8)).length 0]) (by kernel_rfl)) fun a F=>s_boxA wkP F rfl rfl rfl rfl rfl H fun b198 w a H F=>bb [0] F H rfl fun a F=>?_
 replace H:=H.nf 13 rfl
 refine nb [0] F H rfl fun a F=>?_
 obtain ⟨x200,ex200,hm⟩:=ob hm
 refine s_buildC wkP F rfl rfl rfl elem25 zero5 rfl rfl rfl rfl (by simp [Value.cells]) (by decide) H fun b199 w a H F=>?_
 replace H:=H.blkOw1 (R:=rByte) (x:=x200) (fun gg=>(congrArg (fun z=>[Value.int .u8 z]) (u8O_some ex200).symm))
 replace H:=O_pack_Pen_s (x0:=([]:List UInt8)) (H.pm 14 [1,2,0,3,4,5,6,7,8,9,10,11,12,13] rfl:)
 replace H:=H.frz 1 rfl
 obtain ⟨x201,ex201,hm⟩:=ob hm
 refine sd F rfl ent18 (w_penRaw ex201 (H.pm 13 [1,0,0,2,3,4,5,6,7,8,9,10,11,12] rfl:):) ?_;rintro _ w a ⟨rfl,H⟩ F
 replace H:=H.nf 13 rfl
 refine nl (sr (bk [0,1,4001,0,2] F H rfl ⟨fld237_1,rfl,plain25,⟨_,Tryz.underlying25⟩,Tryz.underlying3,Tryz.underlying22,trivial⟩ fun a F=>?_))
 obtain ⟨x202,ex202,hm⟩:=ob hm
 refine sd F rfl ent19 (w_penUint ex202 H:) ?_;rintro _ w a ⟨rfl,H⟩ F
 replace H:=H.nf 13 rfl
 refine nl (sq (mix_regionK [3,5,6,7] [7] (scL [0,1,2,2003,4,2005,2006,3007]) [9] H rfl rfl (by kernel_rfl) (by kernel_rfl) fun w H=>?_))
 refine m_pure F rfl rfl rfl rfl (fun u hu=>y_load1 F plain61 rfl rfl ((hu.choose_spec.blk 0 rfl).cell _)) fun a F=>?_
 refine mb [0,0] F H rfl fun a F=>m_heavy rfl rfl ?_
 obtain ⟨x203,ex203,hm⟩:=ob hm
 refine sd F rfl ent21 (w_penData ex203 H:) ?_;rintro _ w a ⟨p204,c204,rfl,H⟩ F
 refine lz ?_;refine ct ⟨⟨_,(H.pm 14 [10,0,1,2,3,4,5,6,7,8,9,11,12,13] rfl:)⟩,?_⟩
 refine m_pure F rfl rfl rfl rfl (fun u hu=>y_build F rfl rfl (cs:=[.slice (some ⟨b189,0,none⟩) (x188).length c189,.slice p204 (x203.1).length c204]) (by kernel_rfl)) fun a F=>?_
 refine m_heavy rfl rfl ?_
 replace H:=H.cvFrz 4 rfl
 replace H:=H.frz 1 rfl
 refine s_build1 wkP F rfl rfl rfl agg129 elem61 rfl rfl rfl (by decide) H fun b205 w a H F=>?_
 replace H:=H.blkOw1 (R:=R_api_Pair) (x:=(x188,x203.1)) (fun gg=>⟨_,_,rfl,⟨_,_,rfl,(gg 2 _ rfl).choose_spec⟩,⟨_,_,rfl,(gg 1 _ rfl).choose_spec⟩⟩)
 refine lz ?_;refine ct ⟨⟨_,(H.pm 15 [11,0,1,2,3,4,5,6,7,8,9,10,12,13,14] rfl:)⟩,?_⟩
 refine m_heavy rfl rfl ?_
 replace H:=H.frz 0 rfl
 obtain ⟨x207,ex207,hm⟩:=ob hm
 refine s_app wkP F rfl rfl rfl rfl rfl rfl elem61 rfl ex207 H 14 0 rfl rfl fun p206 c206 w a H F=>?_
 refine lz ?_;refine ct ⟨⟨_,(H.pm 15 [11,0,1,2,3,4,5,6,7,8,9,10,12,13,14] rfl:)⟩,?_⟩
 refine m_last rfl rfl (s_st1 wkP F rfl rfl zero61 rfl rfl rfl rfl rfl H 11 rfl rfl fun w H=>?_)
 refine lz ?_;refine ct ?_
 refine m_nil (ct (sr (s_alloc1 wkP F rfl rfl rfl zero3 rfl H fun b208 w a H F=>s_st1 wkP F rfl rfl zero3 rfl rfl rfl rfl rfl H 0 rfl rfl fun w H=>?_)))
 replace H:=H.nf 16 rfl
 refine nl (sr (bk [1,7001] F H rfl ⟨fld237_1,rfl,plain25,trivial⟩ fun a F=>?_))
 obtain ⟨x210,ex210,hm⟩:=ob hm
 refine s_call wkP F rfl rfl rfl rfl (y_call F rfl rfl ent151) (w_mk151 p190 _ c191 64 (chunkN_some ex210).1 (chunkN_some ex210).2.1 w0 _ _ H) ?_;rintro _ w a ⟨b211,b212,rfl,H⟩ F
 replace H:=H.nf 18 rfl
 refine nl (bl ?_)
 obtain ⟨_,hn213,hm213,hq213⟩:=chunkN_some ex210
 replace H:=(H.pm 18 [8,0,1,2,3,4,5,6,7,8,9,10,11,12,13,14,15,16,17] rfl:)
 replace H:St w0 w (HP.sl rByte p190 c191 v148.2::HP.blk b212 ([.int .i64 (((x210:Nat):Int))]) 3::HP.blk b211 ([.slice p190 (v148.2).length c191]) 25::HP.blk b208 ([.int .i64 (0)]) 3::HP.sl R_api_Pair (some ⟨b205,0,none⟩) (([(x188,x203.1)]).length) ([(x188,x203.1)])::HP.sl rByte p204 c204 x203.1::HP.sl rByte (some ⟨b189,0,none⟩) c189 x188::O_pack_Pen_1 b198 x203.2::HP.sl rByte (some ⟨b199,0,none⟩) (([x200]).length) ([x200])::HP.sl rByte p190 c191 v148.2::HP.blk b187 ([.bool (v148.1),.slice p190 (v148.2).length c191]) 237::HP.ow rByte 5 none 0 ([]:List UInt8)::HP.blk b186 ([.string (txb (k148))]) 9::HP.obj r4 (mit q1 cl4 (bornsOf raw4 (vis145++[q148])))::HP.es R_files_file (fun _=>True) es4 s::HP.blk b3 ([.slice p206 (x207).length c206]) 61::HP.mks Ds146::HP.mo q1 raw4 cl4::HP.ow R_api_Pair 129 p206 c206 x207::l):=H
 obtain ⟨o214,eo214,hm214⟩:=ob hm;clear hm
 refine x_range (gf:=178) (lb:=[.pointer (some ⟨b211,0,none⟩),.pointer (some ⟨b212,0,none⟩)]) (ps:=[48]) (zs:=(chunkZ x210 v148.2)) (enc:=(fun z:Nat×List UInt8=>[.slice (shp p190 (z.1+z.2.length) z.1 1) z.2.length z.2.length])) (l:=[(2,.pointer (some ⟨b3,0,none⟩)),(3,.pointer (some ⟨b186,0,none⟩)),(7,.pointer (some ⟨b208,0,none⟩)),(10,.pointer (some ⟨r4,0,none⟩)),(47,.func (.func 178) #[] [.pointer (some ⟨b211,0,none⟩),.pointer (some ⟨b212,0,none⟩)].toArray)]) (own:=[HP.blk b212 ([.int .i64 (((x210:Nat):Int))]) 3,HP.blk b211 ([.slice p190 (v148.2).length c191]) 25,HP.sl rByte p190 c191 v148.2]) (fr:=l) (fun z=>z.2) (F.cut _ ⟨rfl,rfl,rfl,rfl,rfl,trivial⟩) rfl ent178 (seq178 b211 b212 p190 c191 v148.2 x210 hn213 hm213 hq213) (fun (s214:Unit) (i214:Unit)=>[HP.blk b208 ([.int .i64 (0)]) 3,O_pack_Pen_1 b198 x203.2,HP.sl rByte p190 c191 v148.2,HP.blk b187 ([.bool (v148.1),.slice p190 (v148.2).length c191]) 237,HP.ow rByte 5 none 0 ([]:List UInt8),HP.blk b186 ([.string (txb (k148))]) 9,HP.obj r4 (mit q1 cl4 (bornsOf raw4 (vis145++[q148]))),HP.es R_files_file (fun _=>True) es4 s,HP.blk b3 ([.slice p206 (x207).length c206]) 61,HP.mo q1 raw4 cl4,HP.ow R_api_Pair 129 p206 c206 x207]) (fun (_:Empty) (_:Unit)=>[]) (fun _=>Code.skip) _ () () (eo214) ((H.pm 19 [16,3,7,9,10,11,12,13,14,15,17,18,1,2,0,0,4,5,6,8,9] rfl:).keep 15 6) (fun _=>rfl) rfl (fun (s214:Unit) (i214:Unit) (x214:Nat×List UInt8) (m214:Unit)=>[(2,.pointer (some ⟨b3,0,none⟩)),(3,.pointer (some ⟨b186,0,none⟩)),(7,.pointer (some ⟨b208,0,none⟩)),(8,.slice (shp p190 (x214.1+(x214.2).length) x214.1 1) (x214.2).length ((x214.2).length)),(10,.pointer (some ⟨r4,0,none⟩)),(47,.func (.func 178) #[] [.pointer (some ⟨b211,0,none⟩),.pointer (some ⟨b212,0,none⟩)].toArray),(48,.slice (shp p190 (x214.1+(x214.2).length) x214.1 1) (x214.2).length ((x214.2).length))]) (fun (s214:Unit) (i214:Unit) (x214:Nat×List UInt8) (m214:Unit)=>[HP.sl rByte (shp p190 (x214.1+(x214.2).length) x214.1 1) ((x214.2).length) x214.2,HP.blk b208 ([.int .i64 (0)]) 3,O_pack_Pen_1 b198 x203.2,HP.sl rByte p190 c191 v148.2,HP.blk b187 ([.bool (v148.1),.slice p190 (v148.2).length c191]) 237,HP.ow rByte 5 none 0 ([]:List UInt8),HP.blk b186 ([.string (txb (k148))]) 9,HP.obj r4 (mit q1 cl4 (bornsOf raw4 (vis145++[q148]))),HP.es R_files_file (fun _=>True) es4 s,HP.blk b3 ([.slice p206 (x207).length c206]) 61,HP.mo q1 raw4 cl4,HP.ow R_api_Pair 129 p206 c206 x207]) ?_ ?_ ?_ ?_
 clear F H
 rintro L s214 _ ⟨kx213,yx213⟩ a w l hx F H
 replace F:Fr ⟨67,[]⟩ a [(48,.slice (shp p190 (kx213+(yx213).length) kx213 1) (yx213).length ((yx213).length)),(2,.pointer (some ⟨b3,0,none⟩)),(3,.pointer (some ⟨b186,0,none⟩)),(7,.pointer (some ⟨b208,0,none⟩)),(10,.pointer (some ⟨r4,0,none⟩)),(47,.func (.func 178) #[] [.pointer (some ⟨b211,0,none⟩),.pointer (some ⟨b212,0,none⟩)].toArray)]:=F
 replace H:St w0 w (HP.blk b208 ([.int .i64 (0)]) 3::O_pack_Pen_1 b198 x203.2::HP.sl rByte p190 c191 v148.2::HP.blk b187 ([.bool (v148.1),.slice p190 (v148.2).length c191]) 237::HP.ow rByte 5 none 0 ([]:List UInt8)::HP.blk b186 ([.string (txb (k148))]) 9::HP.obj r4 (mit q1 cl4 (bornsOf raw4 (vis145++[q148])))::HP.es R_files_file (fun _=>True) es4 s::HP.blk b3 ([.slice p206 (x207).length c206]) 61::HP.mo q1 raw4 cl4::HP.ow R_api_Pair 129 p206 c206 x207::l):=H
 replace H:=H.chunkEl 1 rfl 2 rfl hn213 hx
 replace H:St w0 w (HP.sl rByte (shp p190 (kx213+(yx213).length) kx213 1) ((yx213).length) yx213::HP.blk b208 ([.int .i64 (0)]) 3::O_pack_Pen_1 b198 x203.2::HP.sl rByte p190 c191 v148.2::HP.blk b187 ([.bool (v148.1),.slice p190 (v148.2).length c191]) 237::HP.ow rByte 5 none 0 ([]:List UInt8)::HP.blk b186 ([.string (txb (k148))]) 9::HP.obj r4 (mit q1 cl4 (bornsOf raw4 (vis145++[q148])))::HP.es R_files_file (fun _=>True) es4 s::HP.blk b3 ([.slice p206 (x207).length c206]) 61::HP.mo q1 raw4 cl4::HP.ow R_api_Pair 129 p206 c206 x207::l):=H
 refine rli (bki [0] F H rfl trivial fun a F=>?_)
 refine lzi (ct ?_)
 exact ⟨(),F.cut _ ⟨rfl,rfl,rfl,rfl,rfl,rfl,rfl,trivial⟩,H⟩
 clear F H
 rintro L s214 _ ⟨kx213,yx213⟩ _ o a w l hx hm F H
 replace F:Fr ⟨67,[]⟩ a [(2,.pointer (some ⟨b3,0,none⟩)),(3,.pointer (some ⟨b186,0,none⟩)),(7,.pointer (some ⟨b208,0,none⟩)),(8,.slice (shp p190 (kx213+(yx213).length) kx213 1) (yx213).length ((yx213).length)),(10,.pointer (some ⟨r4,0,none⟩)),(47,.func (.func 178) #[] [.pointer (some ⟨b211,0,none⟩),.pointer (some ⟨b212,0,none⟩)].toArray),(48,.slice (shp p190 (kx213+(yx213).length) kx213 1) (yx213).length ((yx213).length))]:=F
 replace H:St w0 w (HP.sl rByte (shp p190 (kx213+(yx213).length) kx213 1) ((yx213).length) yx213::HP.blk b208 ([.int .i64 (0)]) 3::O_pack_Pen_1 b198 x203.2::HP.sl rByte p190 c191 v148.2::HP.blk b187 ([.bool (v148.1),.slice p190 (v148.2).length c191]) 237::HP.ow rByte 5 none 0 ([]:List UInt8)::HP.blk b186 ([.string (txb (k148))]) 9::HP.obj r4 (mit q1 cl4 (bornsOf raw4 (vis145++[q148])))::HP.es R_files_file (fun _=>True) es4 s::HP.blk b3 ([.slice p206 (x207).length c206]) 61::HP.mo q1 raw4 cl4::HP.ow R_api_Pair 129 p206 c206 x207::l):=H
 refine bli ?_
 cases hm
 repeat clear F
 rintro s214 _ Ds215 a w ho F H;subst ho;have hm:=elimL hm214;clear hm214 eo214
 replace F:Fr ⟨67,marks Ds215⟩ a [(2,.pointer (some ⟨b3,0,none⟩)),(3,.pointer (some ⟨b186,0,none⟩)),(7,.pointer (some ⟨b208,0,none⟩)),(10,.pointer (some ⟨r4,0,none⟩)),(47,.func (.func 178) #[] [.pointer (some ⟨b211,0,none⟩),.pointer (some ⟨b212,0,none⟩)].toArray)]:=F
 replace H:St w0 w (HP.mks Ds215::HP.blk b208 ([.int .i64 (0)]) 3::O_pack_Pen_1 b198 x203.2::HP.sl rByte p190 c191 v148.2::HP.blk b187 ([.bool (v148.1),.slice p190 (v148.2).length c191]) 237::HP.ow rByte 5 none 0 ([]:List UInt8)::HP.blk b186 ([.string (txb (k148))]) 9::HP.obj r4 (mit q1 cl4 (bornsOf raw4 (vis145++[q148])))::HP.es R_files_file (fun _=>True) es4 s::HP.blk b3 ([.slice p206 (x207).length c206]) 61::HP.mo q1 raw4 cl4::HP.ow R_api_Pair 129 p206 c206 x207::HP.blk b212 ([.int .i64 (((x210:Nat):Int))]) 3::HP.blk b211 ([.slice p190 (v148.2).length c191]) 25::HP.sl rByte p190 c191 v148.2::l):=H
 refine bn (bn ?_)
 cases hm
 refine ct ?_
 exact ⟨Ds215,p206,c206,F.sl rfl,(H.pm 15 [7,8,9,0,10,11] rfl:)⟩
 intro r;exact r.elim
 clear F H hm
 rintro a w ⟨Ds183,p184,c184,F,H⟩;have hm:=hm182;clear hm182
 refine ct ?_;cases hm
 exact ⟨_,q148,hs148 _ rfl,⟨Ds183,p184,c184,F.sl rfl,H⟩⟩
theorem w_mClone {s:(List UInt8)→Option T_files_file} {m1:Nat} {w0 w:World} {l:List HP}  {r:((List UInt8)→Option T_files_file)} (hm:mClone s=some r) (H:St w0 w (HP.mm (some m1) ekStr true R_files_file (fun _=>True) s::l)) :
  Calls Tryz.prog 136 [.map (some m1)].toArray w (fun e w'=>∃ v,e=.returned v∧∃ (m2:Nat),v=.map (some m2)∧St w0 w' (HP.mm (some m2) ekStr true R_files_file (fun _=>True) r::HP.mm (some m1) ekStr true R_files_file (fun _=>True) s::l)):=by
 unfold mClone at hm
 cases hm
 rcases H.mmClone with ⟨h,_⟩ | ⟨b,raw,c,hb,hh,H2⟩
 · cases h
 cases hb
 exact (AnyW.maps_Clone Tryz.layz136 _ raw c w hh).mono fun e w' ⟨he,hw⟩=>⟨_,he,_,rfl,hw▸H2⟩
theorem ent135:En Tryz.prog 135:=enters Tryz.func135 (by kernel_rfl) rfl
theorem ent136:En Tryz.prog 136:=enters Tryz.func136 (by kernel_rfl) rfl
theorem agg27:AggT Tryz.prog 27 6 [.int .i64 0,.string ByteArray.empty,.string ByteArray.empty,.int .i64 0,.int .i64 0,.slice none 0 0]:=⟨by rw [Tryz.underlying27];rfl,by kernel_rfl,by kernel_rfl⟩
theorem ent137:En Tryz.prog 137:=enters Tryz.func137 (by kernel_rfl) rfl
theorem ent123:En Tryz.prog 123:=enters Tryz.func123 (by kernel_rfl) rfl
theorem w_fDo {files:List T_api_Pair} {o:T_api_Op} {p1:Option Addr} {c1:Nat} {cs2:List Value} {w0 w:World} {l:List HP}  {r:(List T_api_Pair)×T_api_Answer} (hm:fDo files o=some r) (H:St w0 w (HP.sl R_api_Pair p1 c1 files::HP.rc R_api_Op cs2 o::l)) :
  Calls Tryz.prog 107 [.slice p1 (files).length c1,.agg cs2.toArray].toArray w (fun e w'=>∃ v,e=.returned v∧∃ (p3:Option Addr) (c3:Nat) (cs4:List Value),v=.tuple [.slice p3 (r.1).length c3,.agg cs4.toArray].toArray∧St w0 w' (HP.sl R_api_Pair p3 c3 r.1::HP.rc R_api_Answer cs4 r.2::l)):=by
 unfold fDo at hm
 refine x_enter Tryz.func107 rfl rfl rfl ?_
 intro a F
 refine sr (s_boxA wkP F rfl rfl rfl rfl rfl H fun b5 w a H F=>bb [0] F H rfl fun a F=>?_)
 replace H:=H.owNil rByte 5
 replace H:=H.owNil rStr 9
 refine s_allocA wkP F rfl rfl rfl agz58 rfl H fun b6 w a H F=>?_
 replace H:=H.nf 6 rfl
 refine nb [0] F H rfl fun a F=>?_
 obtain ⟨x7,ex7,hm⟩:=ob hm
 refine sd F rfl ent135 (w_fRead ex7 (H.pm 6 [4,0,1,2,3,4,5] rfl:):) ?_;rintro _ w a ⟨m8,rfl,H⟩ F
 refine bb [0] F H rfl fun a F=>?_
 replace H:=H.nf 7 rfl
 refine nb [0] F H rfl fun a F=>?_
 obtain ⟨x9,ex9,hm⟩:=ob hm
 refine sd F rfl ent136 (w_mClone ex9 H:) ?_;rintro _ w a ⟨m10,rfl,H⟩ F
 refine bb [0] F H rfl fun a F=>?_
 replace H:=H.nf 8 rfl
 refine nl (sr (bk [0,5999] F H rfl ⟨rfl,(aggn agg27 (H.rcLen 7 rfl)),trivial⟩ fun a F=>?_))
 obtain ⟨x11,ex11,hm⟩:=ob hm
 refine sd F rfl ent137 (w_sDo ex11 (H.pm 8 [1,7,0,2,3,4,5,6,7] rfl:):) ?_;rintro _ w a ⟨cs12,rfl,H⟩ F
 replace H:=H.owNil rByte 5
 replace H:=H.owNil rStr 9
 refine s_allocA wkP F rfl rfl rfl agz58 rfl H fun b13 w a H F=>s_storeA wkP F rfl rfl agg58 rfl rfl rfl H 0 rfl (H.rcLen 3 rfl) rfl (H.rcFlat 3 rfl) fun w H=>?_
 replace H:=H.nf 12 rfl
 refine nl (sq (sr (bk [0] F H rfl ⟨fld58_0,trivial⟩ fun a F=>?_)))
 have G:=F;replace H:=rc_api_Answer (H.pk 3 rfl);obtain ⟨p14,c15,p16,c17,rfl,J⟩:=H;have H:=J;have F:=G;clear G J
 refine bk [2000,0] F H rfl ⟨rfl,plain34,trivial⟩ fun a F=>?_
 refine nl (cNm F rfl hm (fun hg18 hm=>?_) (fun hg18 hm=>?_))
 cases hm
 refine sk (ct (sq (mix_regionK [1,4] [4] (scL [0,2,2001,3,3004]) [2] H rfl rfl (by kernel_rfl) (by kernel_rfl) fun w H=>mb [0] F H rfl fun a F=>?_)))
 refine m_pure F rfl rfl rfl rfl (fun u hu=>y_loadA F agg58 rfl rfl ((hu.choose_spec.blk 0 rfl).row) rfl) fun a F=>?_
 refine m_heavy rfl rfl ?_
 obtain ⟨x19,ex19,hm⟩:=ob hm
 refine sd F rfl ent123 (w_sPairs ex19 (H.pm 13 [5,0,1,2,3,4,6,7,8,9,10,11,12] rfl:):) ?_;rintro _ w a ⟨p20,c20,rfl,H⟩ F
 refine lz ?_;refine ct ⟨⟨_,(H.pm 14 [4,0,1,2,3,5,6,7,8,9,10,11,12,13] rfl:)⟩,?_⟩
 refine mb [0] F H rfl fun a F=>m_last rfl rfl (s_storeA wkP F rfl rfl agg58 rfl rfl rfl H 8 rfl rfl rfl (fl rfl) fun w H=>?_)
 refine lz ?_;refine ct ?_
 refine m_nil (ct (wr ?_))
 replace H:=H.frz 0 rfl
 replace H:=mk_api_Answer H x11.1.1 x11.1.2.1 2 rfl 3 rfl
 cases hm
 refine x_resC2 F rfl rfl (⟨_,rfl,agg58.run_load (H.blk 9 rfl).row rfl⟩) ?_
 exact ⟨_,rfl,p20,c20,[.int .i64 (x11.1.1),.int .i64 (x11.1.2.1),.slice p14 (x11.1.2.2.1).length c15,.slice p16 (x11.1.2.2.2).length c17],rfl,(H.pm 15 [1,0] rfl:)⟩
theorem w_bEqual {xs:List UInt8} {ys:List UInt8} {p1:Option Addr} {c1:Nat} {p2:Option Addr} {c2:Nat} {w0 w:World} {l:List HP}  {r:Bool} (hm:bEqual xs ys=some r) (H:St w0 w (HP.sl rByte p1 c1 xs::HP.sl rByte p2 c2 ys::l)) :
  Calls Tryz.prog 174 [.slice p1 (xs).length c1,.slice p2 (ys).length c2].toArray w (fun e w'=>∃ v,e=.returned v∧v=.bool (r)∧St w0 w' (l)):=by
 unfold bEqual at hm
 refine x_enter Tryz.func174 rfl rfl rfl ?_
 intro a F
 refine sb [0] F H rfl fun a F=>nb [0] F H rfl fun a F=>sv F rfl (y_b2s F Tryz.underlying25 Tryz.underlying9 Tryz.underlying5 rfl rfl (H) 0 rfl) fun a F=>bb [0] F H rfl fun a F=>sv F rfl (y_b2s F Tryz.underlying25 Tryz.underlying9 Tryz.underlying5 rfl rfl (H) 1 rfl) fun a F=>sv F rfl (y_eqT (l:=xs) (m:=ys) F rfl rfl rfl) fun a F=>bb [0] F H rfl fun a F=>nl (wr ?_)
 cases hm
 refine x_ret1 F rfl rfl ?_
 exact ⟨_,rfl,rfl,(H.pm 2 [] rfl:)⟩
theorem ent174:En Tryz.prog 174:=enters Tryz.func174 (by kernel_rfl) rfl
theorem w_m_files_same {x0_:T_api_Pair} {x1_:T_api_Pair} {cs1:List Value} {cs2:List Value} {w0 w:World} {l:List HP}  {r:Bool} (hm:m_files_same x0_ x1_=some r) (H:St w0 w (HP.rc R_api_Pair cs1 x0_::HP.rc R_api_Pair cs2 x1_::l)) :
  Calls Tryz.prog 143 [.agg cs1.toArray,.agg cs2.toArray].toArray w (fun e w'=>∃ v,e=.returned v∧v=.bool (r)∧St w0 w' (l)):=by
 unfold m_files_same at hm
 refine x_enter Tryz.func143 rfl rfl rfl ?_
 intro a F
 refine sr (s_boxA wkP F rfl rfl rfl rfl rfl H fun b3 w a H F=>s_boxA wkP F rfl rfl rfl rfl rfl H fun b4 w a H F=>bb [0] F H rfl fun a F=>?_)
 replace H:=H.nf 4 rfl
 refine nl (sr (bk [0] F H rfl ⟨fld129_0,trivial⟩ fun a F=>?_))
 have G:=F;replace H:=rc_api_Pair (H.pk 2 rfl);obtain ⟨p5,c6,p7,c8,rfl,J⟩:=H;have H:=J;have F:=G;clear G J
 refine bk [3000,0] F H rfl ⟨rfl,plain25,fld129_0,trivial⟩ fun a F=>?_
 have G:=F;replace H:=rc_api_Pair (H.pk 4 rfl);obtain ⟨p9,c10,p11,c12,rfl,J⟩:=H;have H:=J;have F:=G;clear G J
 refine bk [4000] F H rfl ⟨rfl,plain25,trivial⟩ fun a F=>?_
 obtain ⟨x13,ex13,hm⟩:=ob hm
 refine sd F rfl ent174 (w_bEqual ex13 (H.pm 6 [2,0,0,1,2,3,4,5] rfl:):) ?_;rintro _ w a ⟨rfl,H⟩ F
 refine bb [0] F H rfl fun a F=>?_
 by_cases hg14:x13=true
 replace hm:=ifT hg14 hm
 replace F:=F.vT 10 hg14 rfl
 refine bk [1,5001,1,4001] F H rfl ⟨fld129_1,rfl,plain25,fld129_1,rfl,plain25,trivial⟩ fun a F=>g_onP F rfl rfl rfl rfl ?_
 obtain ⟨x15,ex15,hm⟩:=ob hm
 refine sd F rfl ent174 (w_bEqual ex15 (H.pm 6 [3,1,0,1,2,3,4,5] rfl:):) ?_;rintro _ w a ⟨rfl,H⟩ F
 refine bb [0,0] F H rfl fun a F=>?_
 replace H:=H.nf 6 rfl
 refine nl (wr ?_)
 cases hm
 refine x_ret1 F rfl rfl ?_
 exact ⟨_,rfl,rfl,(H.pm 6 [] rfl:)⟩
 replace hm:=ifF hg14 hm
 replace F:=F.vF 10 hg14 rfl
 refine bb (List.replicate 7 0) F H rfl fun a F=>?_
 replace H:=H.nf 6 rfl
 refine nl (wr ?_)
 cases hm
 refine x_ret1 F rfl rfl ?_
 exact ⟨_,rfl,rfl,(H.pm 6 [] rfl:)⟩
theorem ent143:En Tryz.prog 143:=enters Tryz.func143 (by kernel_rfl) rfl
theorem w_eqPairs {xs:List T_api_Pair} {ys:List T_api_Pair} {p1:Option Addr} {c1:Nat} {p2:Option Addr} {c2:Nat} {w0 w:World} {l:List HP}  {r:Bool} (hm:eqPairs xs ys=some r) (H:St w0 w (HP.sl R_api_Pair p1 c1 xs::HP.sl R_api_Pair p2 c2 ys::l)) :
  Calls Tryz.prog 142 [.slice p1 (xs).length c1,.slice p2 (ys).length c2,.func (.func 143) #[] #[]].toArray w (fun e w'=>∃ v,e=.returned v∧v=.bool (r)∧St w0 w' (l)):=by
 unfold eqPairs at hm
 refine x_enter Tryz.func142 rfl rfl rfl ?_
 intro a F
 refine sb [0] F H rfl fun a F=>nl (sq (sr (bk (List.replicate 5 0) F H rfl ⟨⟨_,Tryz.underlying61⟩,⟨_,Tryz.underlying61⟩,trivial⟩ fun a F=>?_)))
 refine nl (cNm F rfl hm (fun hg3 hm=>?_) (fun hg3 hm=>?_))
 refine sb [0] F H rfl fun a F=>nl (wr (tr ?_))
 cases hm
 refine x_ret1 F rfl rfl ?_
 exact ⟨_,rfl,rfl,(H.pm 2 [] rfl:)⟩
 refine sk (ct (sq (sr (bk [0,0,0] F H rfl ⟨⟨_,Tryz.underlying61⟩,trivial⟩ fun a F=>?_))))
 refine nl (xr0 2 [] [] F H hm rfl rfl (fun r38 z=>z) (fun r38 z=>z) (fun o38 hm hm38=>?_) (fun r38 a w hm F H=>?_))
 refine bl (xl0 2 [1,2,15,16] [0,1] F H hm rfl rfl (fun (s61:Int) z=>(17,.int .i64 (s61))::z) (fun s61 z=>z) ⟨F.sl rfl,H⟩ (fun s61 a w o F H hm=>sb [0] F H rfl fun a F=>?_))
 refine nl (sq (cPm F rfl hm (fun hg62 hm=>?_) (fun hg62 hm=>?_)))
 refine sk (ct (sq (bl (sb [0] F H rfl fun a F=>?_))))
 obtain ⟨x63,ex63,hm⟩:=ob hm
 obtain ⟨b64,o64,hp64,cs65,H⟩:=H.slE 0 rfl ex63
 refine sv F rfl (y_idxS F elem61 rfl rfl rfl hp64 ex63) fun a F=>bk [999] F H rfl ⟨rfl,(aggn agg129 (H.rcLen 1 rfl)),trivial⟩ fun a F=>?_
 replace H:=H.owNil rByte 5
 replace H:=H.owNil rByte 5
 refine s_allocA wkP F rfl rfl rfl agz129 rfl H fun b66 w a H F=>bb [0] F H rfl fun a F=>s_storeA wkP F rfl rfl agg129 rfl rfl rfl H 0 rfl (H.rcLen 4 rfl) rfl (H.rcFlat 4 rfl) fun w H=>?_
 replace H:=H.nf 7 rfl
 refine nb [0,0] F H rfl fun a F=>?_
 obtain ⟨x67,ex67,hm⟩:=ob hm
 obtain ⟨b68,o68,hp68,cs69,H⟩:=H.slE 6 rfl ex67
 refine sv F rfl (y_idxS F elem61 rfl rfl rfl hp68 ex67) fun a F=>bk [999] F H rfl ⟨rfl,(aggn agg129 (H.rcLen 1 rfl)),trivial⟩ fun a F=>?_
 replace H:=H.owNil rByte 5
 replace H:=H.owNil rByte 5
 refine s_allocA wkP F rfl rfl rfl agz129 rfl H fun b70 w a H F=>s_storeA wkP F rfl rfl agg129 rfl rfl rfl H 0 rfl (H.rcLen 4 rfl) rfl (H.rcFlat 4 rfl) fun w H=>?_
 replace H:=H.nf 12 rfl
 refine nl (sr (bk [0,5999,999] F H rfl ⟨rfl,(aggn agg129 (H.rcLen 9 rfl)),rfl,(aggn agg129 (H.rcLen 4 rfl)),trivial⟩ fun a F=>?_))
 obtain ⟨x71,ex71,hm⟩:=ob hm
 refine s_call wkP F rfl rfl rfl rfl (y_callV0 F rfl rfl rfl ent143) (w_m_files_same ex71 (H.pm 12 [9,4,0,1,2,3,4,5,6,7,8,9,10,11] rfl:):) ?_;rintro _ w a ⟨rfl,H⟩ F
 refine bb [0] F H rfl fun a F=>?_
 replace H:=H.nf 12 rfl
 refine nl (cB F rfl (fun hg72=>?_) (fun hg72=>?_))
 replace hm:=ifT hg72 hm
 refine sb [0] F H rfl fun a F=>?_
 refine nl (wr (br (tr (tr ?_))));cases hm;refine ⟨_,rfl,?_⟩;rintro rfl
 refine br (tr ?_)
 replace hm:=elimR hm38
 refine tr ?_
 cases hm
 refine x_ret1 F rfl rfl ?_
 exact ⟨_,rfl,rfl,(H.pm 12 [] rfl:)⟩
 replace hm:=ifF (nT hg72) hm
 refine sk (bn (ct (rl (bb [0,0] F H rfl fun a F=>?_))))
 refine lz (ct ?_);cases hm
 exact ⟨_,rfl,⟨F.sl rfl,(H.pm 12 [10,11] rfl:)⟩⟩
 refine ex (cx (cx ?_));cases hm;refine ⟨_,rfl,?_⟩;rintro rfl
 refine ch (ct ?_)
 exact ⟨_,rfl,F.cut _ trivial,(H.pm 2 [] rfl:)⟩
 refine ct (sb [0] F H rfl fun a F=>nl (wr ?_))
 cases hm
 refine x_ret1 F rfl rfl ?_
 exact ⟨_,rfl,rfl,H⟩
theorem ent141:En Tryz.prog 141:=enters Tryz.func141 (by kernel_rfl) rfl
theorem ent142:En Tryz.prog 142:=enters Tryz.func142 (by kernel_rfl) rfl
theorem w_fCheck {files:List T_api_Pair} {p1:Option Addr} {c1:Nat} {w0 w:World} {l:List HP}  {r:Int} (hm:fCheck files=some r) (H:St w0 w (HP.sl R_api_Pair p1 c1 files::l)) :
  Calls Tryz.prog 111 [.slice p1 (files).length c1].toArray w (fun e w'=>∃ v,e=.returned v∧v=.int .i64 (r)∧St w0 w' (l)):=by
 unfold fCheck at hm
 refine x_enter Tryz.func111 rfl rfl rfl ?_
 intro a F
 refine sb [0] F H rfl fun a F=>nb [0] F H rfl fun a F=>?_
 obtain ⟨x2,ex2,hm⟩:=ob hm
 refine sd F rfl ent135 (w_fRead ex2 (H.pm 1 [0,0] rfl:):) ?_;rintro _ w a ⟨m3,rfl,H⟩ F
 refine bb [0] F H rfl fun a F=>?_
 replace H:=H.nf 2 rfl
 refine nl (sq (sb [0] F H rfl fun a F=>?_))
 obtain ⟨x4,ex4,hm⟩:=ob hm
 refine sd F rfl ent141 (w_sSound ex4 H:) ?_;rintro _ w a ⟨rfl,H⟩ F
 refine bb [0,0] F H rfl fun a F=>?_
 by_cases hg5:(!x4)=true
 replace hm:=ifT hg5 hm
 replace F:=F.vT 9 hg5 rfl
 refine bb (List.replicate 6 0) F H rfl fun a F=>?_
 replace H:=H.nf 2 rfl
 refine nl (cT F rfl ?_)
 cases hm
 replace hm:=ifF hg5 hm
 replace F:=F.vF 9 hg5 rfl
 refine bb [0] F H rfl fun a F=>g_onP F rfl rfl rfl rfl ?_
 obtain ⟨x6,ex6,hm⟩:=ob hm
 refine sd F rfl ent123 (w_sPairs ex6 H:) ?_;rintro _ w a ⟨p7,c7,rfl,H⟩ F
 refine bb [0] F H rfl fun a F=>g_onP F rfl rfl rfl rfl ?_
 replace H:=H.frz 0 rfl
 obtain ⟨x8,ex8,hm⟩:=ob hm
 refine sd F rfl ent142 (w_eqPairs ex8 (H.pm 3 [0,2,0,1,2] rfl:):) ?_;rintro _ w a ⟨rfl,H⟩ F
 refine bb [0,0] F H rfl fun a F=>?_
 replace H:=H.nf 3 rfl
 refine nl (cB F rfl (fun hg9=>?_) (fun hg9=>?_))
 replace hm:=ifT hg9 hm
 cases hm
 replace hm:=ifF (nT hg9) hm
 refine sk (ct (sb [0] F H rfl fun a F=>nl (wr ?_)))
 cases hm
 refine x_ret1 F rfl rfl ?_
 exact ⟨_,rfl,rfl,(H.pm 3 [] rfl:)⟩
theorem w_fNew   {w0 w:World} {l:List HP}  {r:(List T_api_Pair)} (hm:fNew =some r) (H:St w0 w (l)) :
  Calls Tryz.prog 93 [].toArray w (fun e w'=>∃ v,e=.returned v∧∃ (p1:Option Addr) (c1:Nat),v=.slice p1 (r).length c1∧St w0 w' (HP.sl R_api_Pair p1 c1 r::l)):=by
 unfold fNew at hm
 refine x_enter Tryz.func93 rfl rfl rfl ?_
 intro a F
 refine sb [0] F H rfl fun a F=>nl (sr (s_mmNew ekStr true R_files_file (fun _=>True) wkP F rfl rfl rfl rfl H fun m2 w a H F=>?_))
 replace H:=H.owNil rByte 5
 refine sv F rfl (y_build F rfl rfl (cs:=[.bool true,.slice none (([]:List UInt8)).length 0]) (by kernel_rfl)) fun a F=>?_
 replace H:=H.frz 0 rfl
 refine s_mmIns wkP F rfl rfl Tryz.underlying239 (keyStr Tryz.underlying9) rfl H 1 rfl rfl (k:=[47]) rfl (cs:=[.bool true,.slice none (([]:List UInt8)).length 0]) rfl trivial (v:=(true,([]:List UInt8))) (fun gg=>⟨_,_,rfl,rfl,⟨_,_,rfl,(gg 0 _ rfl).choose_spec⟩⟩) fun w H=>?_
 refine bb [0] F H rfl fun a F=>?_
 obtain ⟨x3,ex3,hm⟩:=ob hm
 refine sd F rfl ent123 (w_sPairs ex3 (H.pm 2 [1,0] rfl:):) ?_;rintro _ w a ⟨p4,c4,rfl,H⟩ F
 refine bb [0] F H rfl fun a F=>?_
 replace H:=H.nf 3 rfl
 refine nl (wr ?_)
 replace H:=H.frz 0 rfl
 cases hm
 refine x_ret1 F rfl rfl ?_
 exact ⟨_,rfl,p4,c4,rfl,(H.pm 3 [0] rfl:)⟩
set_option maxRecDepth 100000
set_option maxHeartbeats 4000000
theorem w_cloneBy {s:List UInt8} {p1:Option Addr} {c1:Nat} {w0 w:World} {l:List HP}  {r:(List UInt8)} (hm:cloneBy s=some r) (H:St w0 w (HP.sl rByte p1 c1 s::l)) :
  Calls Tryz.prog 44 [.slice p1 (s).length c1].toArray w (fun e w'=>∃ v,e=.returned v∧∃ (p2:Option Addr) (c2:Nat),v=.slice p2 (r).length c2∧St w0 w' (HP.ow rByte 5 p2 c2 r::l)):=by
 unfold cloneBy at hm
 refine x_enter Tryz.func44 rfl rfl rfl ?_
 intro a F
 refine sb [0] F H rfl fun a F=>nl (sq (sb [0] F H rfl fun a F=>?_))
 obtain _ | ad:=p1
 obtain ⟨hx0,hc0⟩:=H.slNone 0 rfl;subst hc0;try subst hx0
 replace H:=H.dp 0 rfl
 refine sv F rfl (y_eqNil F rfl Tryz.underlying25 rfl rfl (by simp)) fun a F=>nl (cT F rfl (sb [0] F H rfl fun a F=>nl (wr (tr ?_))))
 replace H:=H.owNil rByte 5
 cases hm
 refine x_ret1 F rfl rfl ?_
 exact ⟨_,rfl,none,0,rfl,H⟩
 refine sv F rfl (y_eqSome F rfl Tryz.underlying25 rfl rfl (by simp)) fun a F=>nl (cF F rfl (sk (ct (sr (s_build0O (R:=rByte) wkP F rfl rfl rfl elem25 rfl H fun b3 w a H F=>bb [0] F H rfl fun a F=>?_)))))
 obtain ⟨x5,ex5,hm⟩:=ob hm
 refine s_app wkP F rfl rfl rfl rfl rfl rfl elem25 rfl ex5 H 0 1 rfl rfl fun p4 c4 w a H F=>?_
 refine bb [0] F H rfl fun a F=>?_
 replace H:=H.nf 2 rfl
 refine nl (wr ?_)
 cases hm
 refine x_ret1 F rfl rfl ?_
 exact ⟨_,rfl,p4,c4,rfl,(H.pm 2 [0] rfl:)⟩
theorem ent44:En Tryz.prog 44:=enters Tryz.func44 (by kernel_rfl) rfl
theorem w_nPairs {list:List T_api_Pair} {p1:Option Addr} {c1:Nat} {w0 w:World} {l:List HP}  {r:(List T_api_Pair)} (hm:nPairs list=some r) (H:St w0 w (HP.sl R_api_Pair p1 c1 list::l)) :
  Calls Tryz.prog 131 [.slice p1 (list).length c1].toArray w (fun e w'=>∃ v,e=.returned v∧∃ (p2:Option Addr) (c2:Nat),v=.slice p2 (r).length c2∧St w0 w' (HP.ow R_api_Pair 129 p2 c2 r::l)):=by
 unfold nPairs at hm
 refine x_enter Tryz.func131 rfl rfl rfl ?_
 intro a F
 refine sb [0] F H rfl fun a F=>nl (sq (sr (bk [0,0,0] F H rfl ⟨⟨_,Tryz.underlying61⟩,trivial⟩ fun a F=>?_)))
 refine nl (xm2 1 [] [] F H hm rfl rfl (fun r55 (p56:Option Addr) (c56:Nat) z=>(2,.slice p56 (r55).length c56)::z) (fun r55 p56 c56 z=>HP.ow R_api_Pair 129 p56 c56 r55::z) (fun r55 hm=>?_) (fun r55 a w hm p56 c56 F H=>?_))
 refine bl ?_
 replace H:=H.owNil R_api_Pair 129
 refine xl2 2 [5,6] [1] F H hm rfl rfl (fun (s91:(List T_api_Pair)×Int) (p92:Option Addr) (c92:Nat) z=>(2,.slice p92 (s91.1).length c92)::(7,.int .i64 (s91.2))::z) (fun s91 p92 c92 z=>HP.ow R_api_Pair 129 p92 c92 s91.1::z) ⟨none,0,F.sl rfl,H⟩ (fun s91 a w o p92 c92 F H hm=>?_)
 refine sb [0] F H rfl fun a F=>?_
 refine nl (sq (cPm F rfl hm (fun hg93 hm=>?_) (fun hg93 hm=>?_)))
 refine sk (ct (sq (bl (sr ?_))))
 obtain ⟨x94,ex94,hm⟩:=ob hm
 obtain ⟨b95,o95,hp95,cs96,H⟩:=H.slE 1 rfl ex94
 refine sv F rfl (y_idxS F elem61 rfl rfl rfl hp95 ex94) fun a F=>bk [999] F H rfl ⟨rfl,(aggn agg129 (H.rcLen 1 rfl)),trivial⟩ fun a F=>?_
 replace H:=H.owNil rByte 5
 replace H:=H.owNil rByte 5
 refine s_allocA wkP F rfl rfl rfl agz129 rfl H fun b97 w a H F=>s_storeA wkP F rfl rfl agg129 rfl rfl rfl H 0 rfl (H.rcLen 4 rfl) rfl (H.rcFlat 4 rfl) fun w H=>?_
 replace H:=H.nf 7 rfl
 refine nl ?_
 have G:=F;replace H:=rc_api_Pair (H.pk 4 rfl);obtain ⟨p98,c99,p100,c101,rfl,J⟩:=H;have H:=J;have F:=G;clear G J
 refine mix_regionK [3,6,8,9] [] (scL [0,1,1002,4,5,2003,2006,7,2008,2009,10]) [2] H rfl rfl (by kernel_rfl) (by kernel_rfl) fun w H=>?_
 refine mbk [0,0,2000,1] F H rfl ⟨fld129_0,rfl,plain25,fld129_1,trivial⟩ fun a F=>?_
 refine m_pure F rfl rfl rfl rfl (fun u hu=>y_load1 F plain25 rfl rfl (row_at (v:=.slice p100 (x94.2).length c101) ((hu.choose_spec.blk 0 rfl).row) rfl)) fun a F=>?_
 refine m_heavy rfl rfl ?_
 obtain ⟨x102,ex102,hm⟩:=ob hm
 refine sd F rfl ent44 (w_cloneBy ex102 (H.pm 8 [0,0,1,2,3,4,5,6,7] rfl:):) ?_;rintro _ w a ⟨p103,c103,rfl,H⟩ F
 refine lz ?_;refine ct ⟨⟨_,(H.pm 9 [3,0,1,2,4,5,6,7,8] rfl:)⟩,?_⟩
 refine m_heavy rfl rfl ?_
 obtain ⟨x104,ex104,hm⟩:=ob hm
 refine sd F rfl ent44 (w_cloneBy ex104 (H.pm 9 [2,0,1,2,3,4,5,6,7,8] rfl:):) ?_;rintro _ w a ⟨p105,c105,rfl,H⟩ F
 refine lz ?_;refine ct ⟨⟨_,(H.pm 10 [4,0,1,2,3,5,6,7,8,9] rfl:)⟩,?_⟩
 refine m_pure F rfl rfl rfl rfl (fun u hu=>y_build F rfl rfl (cs:=[.slice p103 (x102).length c103,.slice p105 (x104).length c105]) (by kernel_rfl)) fun a F=>?_
 refine m_heavy rfl rfl ?_
 replace H:=H.frz 1 rfl
 replace H:=H.frz 1 rfl
 refine s_build1 wkP F rfl rfl rfl agg129 elem61 rfl rfl rfl (by decide) H fun b106 w a H F=>?_
 replace H:=H.blkOw1 (R:=R_api_Pair) (x:=(x102,x104)) (fun gg=>⟨_,_,rfl,⟨_,_,rfl,(gg 2 _ rfl).choose_spec⟩,⟨_,_,rfl,(gg 1 _ rfl).choose_spec⟩⟩)
 refine lz ?_;refine ct ⟨⟨_,(H.pm 11 [5,0,1,2,3,4,6,7,8,9,10] rfl:)⟩,?_⟩
 refine m_heavy rfl rfl ?_
 replace H:=H.frz 0 rfl
 obtain ⟨x108,ex108,hm⟩:=ob hm
 refine s_app wkP F rfl rfl rfl rfl rfl rfl elem61 rfl ex108 H 9 0 rfl rfl fun p107 c107 w a H F=>?_
 refine lz ?_;refine ct ⟨⟨_,(H.pm 11 [5,0,1,2,3,4,6,7,8,9,10] rfl:)⟩,?_⟩
 refine mb [0] F H rfl fun a F=>m_nil (bn (ct (rl (bb [0,0] F H rfl fun a F=>?_))))
 replace H:=H.nf 11 rfl
 refine lz (ct ?_);cases hm
 exact ⟨_,rfl,⟨p107,c107,F.sl rfl,(H.pm 11 [9,10] rfl:)⟩⟩
 refine ex (cx (cx ?_));cases hm;refine ⟨_,rfl,?_⟩;rintro rfl
 refine ch (ct ?_)
 exact ⟨p92,c92,F.sl rfl,(H.pm 2 [0] rfl:)⟩
 refine ct (sb [0,0] F H rfl fun a F=>nl (wr ?_))
 cases hm
 refine x_ret1 F rfl rfl ?_
 exact ⟨_,rfl,p56,c56,rfl,H⟩
theorem agz64:AggT Tryz.prog 64 2 ([.slice none (([]:List T_api_Pair)).length 0,.slice none (([]:List T_api_Snap)).length 0]):=⟨by rw [Tryz.underlying64];rfl,by kernel_rfl,by kernel_rfl⟩
theorem fld64_0:FieldT Tryz.prog 64 0 0:=by unfold FieldT;rw [Tryz.underlying64];kernel_rfl
theorem ent131:En Tryz.prog 131:=enters Tryz.func131 (by kernel_rfl) rfl
theorem agg64:AggT Tryz.prog 64 2 [.slice none 0 0,.slice none 0 0]:=⟨by rw [Tryz.underlying64];rfl,by kernel_rfl,by kernel_rfl⟩
theorem fld64_1:FieldT Tryz.prog 64 1 1:=by unfold FieldT;rw [Tryz.underlying64];kernel_rfl
theorem plain62:Plain Tryz.prog 62:=by unfold Plain;rw [Tryz.underlying62];rfl
theorem elem62:ElemT Tryz.prog 62 131 3 48 (.agg [.string ByteArray.empty,.int .u64 0,.slice none 0 0].toArray):=⟨Tryz.underlying62,by kernel_rfl,by kernel_rfl,by decide⟩
theorem agg131:AggT Tryz.prog 131 3 [.string ByteArray.empty,.int .u64 0,.slice none 0 0]:=⟨by rw [Tryz.underlying131];rfl,by kernel_rfl,by kernel_rfl⟩
theorem agz131:AggT Tryz.prog 131 3 ([.string (txb ([])),.int .u64 (0),.slice none (([]:List T_api_Pair)).length 0]):=⟨by rw [Tryz.underlying131];rfl,by kernel_rfl,by kernel_rfl⟩
theorem w_nCopied {s:T_api_State} {cs1:List Value} {w0 w:World} {l:List HP}  {r:T_api_State} (hm:nCopied s=some r) (H:St w0 w (HP.rc R_api_State cs1 s::l)) :
  Calls Tryz.prog 104 [.agg cs1.toArray].toArray w (fun e w'=>∃ v,e=.returned v∧∃ (p2:Option Addr) (c2:Nat) (p3:Option Addr) (c3:Nat),v=.agg ([.slice p2 (r.1).length c2,.slice p3 (r.2).length c3]).toArray∧St w0 w' (HP.sl R_api_Pair p2 c2 r.1::HP.ow R_api_Snap 131 p3 c3 r.2::l)):=by
 unfold nCopied at hm
 refine x_enter Tryz.func104 rfl rfl rfl ?_
 intro a F
 refine sr (s_boxA wkP F rfl rfl rfl rfl rfl H fun b4 w a H F=>?_)
 replace H:=H.owNil R_api_Pair 129
 replace H:=H.owNil R_api_Snap 131
 refine s_allocA wkP F rfl rfl rfl agz64 rfl H fun b5 w a H F=>?_
 replace H:=H.nf 5 rfl
 refine nl (sr (bk [0] F H rfl ⟨fld64_0,trivial⟩ fun a F=>?_))
 have G:=F;replace H:=rc_api_State (H.pk 4 rfl);obtain ⟨p6,c7,p8,c9,rfl,J⟩:=H;have H:=J;have F:=G;clear G J
 refine bk [5000] F H rfl ⟨rfl,plain61,trivial⟩ fun a F=>?_
 obtain ⟨x10,ex10,hm⟩:=ob hm
 refine sd F rfl ent131 (w_nPairs ex10 (H.pm 6 [0,0,1,2,3,4,5] rfl:):) ?_;rintro _ w a ⟨p11,c11,rfl,H⟩ F
 replace H:=H.owNil R_api_Snap 131
 refine sv F rfl (y_build F rfl rfl (cs:=[.slice p11 (x10).length c11,.slice none (([]:List T_api_Snap)).length 0]) (by kernel_rfl)) fun a F=>?_
 replace H:=H.owNil R_api_Pair 129
 replace H:=H.owNil R_api_Snap 131
 refine s_allocA wkP F rfl rfl rfl agz64 rfl H fun b12 w a H F=>s_storeA wkP F rfl rfl agg64 rfl rfl rfl H 0 rfl rfl rfl (fl rfl) fun w H=>?_
 replace H:=H.nf 11 rfl
 refine nl (sq (sr (bk [1,10001,0,0] F H rfl ⟨fld64_1,rfl,plain62,⟨_,Tryz.underlying62⟩,trivial⟩ fun a F=>nl ?_)))
 replace H:=H.frz 4 rfl
 replace H:=O_api_State_s (x1:=([]:List T_api_Snap)) (H.pm 11 [1,0,4,0,2,3,5,6,7,8,9,10] rfl:)
 replace H:=H.frz 8 rfl
 replace H:=O_api_State_s (x0:=([]:List T_api_Pair)) (x1:=([]:List T_api_Snap)) (H.pm 10 [7,0,8,0,1,2,3,4,5,6,9] rfl:)
 refine xm0 9 [2,3] [0,2,4,5,6,7,8] F H hm rfl rfl (fun r29 z=>z) (fun r29 z=>z) (fun r29 hm=>?_) (fun r29 a w hm F H=>?_)
 refine bl (xl0 9 [2,3,11,12,13] [0,2,4,5,6,7,8] F H hm rfl rfl (fun (s40:Unit) z=>z) (fun s40 z=>z) ⟨F.sl rfl,(H.pm 9 [0,2,4,5,6,7,8] rfl:)⟩ (fun s40 a w o F H hm=>sb [0] F H rfl fun a F=>?_))
 replace H:=H.nf 7 rfl
 refine nl (sq (cPm F rfl hm (fun hg41 hm=>?_) (fun hg41 hm=>?_)))
 refine sk (ct (sq (bl (sr ?_))))
 obtain ⟨x42,ex42,hm⟩:=ob hm
 obtain ⟨b43,o43,hp43,cs44,H⟩:=H.slE 5 rfl ex42
 refine sv F rfl (y_idxS F elem62 rfl rfl rfl hp43 ex42) fun a F=>bk [999] F H rfl ⟨rfl,(aggn agg131 (H.rcLen 1 rfl)),trivial⟩ fun a F=>?_
 replace H:=H.owNil R_api_Pair 129
 refine s_allocA wkP F rfl rfl rfl agz131 rfl H fun b45 w a H F=>s_storeA wkP F rfl rfl agg131 rfl rfl rfl H 0 rfl (H.rcLen 3 rfl) rfl (H.rcFlat 3 rfl) fun w H=>?_
 replace H:=H.nf 11 rfl
 refine nl ?_
 cases hm
 refine ex (cx (cx ?_));cases hm;refine ⟨_,rfl,?_⟩;rintro rfl
 refine ch (ct ?_)
 exact ⟨F.sl rfl,H⟩
 refine ct (sr ?_)
 obtain ⟨p46,c47,p48,c49,H⟩:=O_api_State_o (H.pk 1 rfl)
 refine bk [999] F H rfl ⟨rfl,(aggn agg64 rfl),trivial⟩ fun a F=>?_
 obtain ⟨p50,c51,p52,c53,H⟩:=O_api_State_o (H.pk 3 rfl)
 refine s_storeA wkP F rfl rfl agg64 rfl rfl rfl H 0 rfl rfl rfl (fl rfl) fun w H=>?_
 replace H:=H.nf 11 rfl
 refine nl (wr ?_)
 cases hm
 refine x_resC1 F rfl (⟨_,rfl,agg64.run_load (H.blk 0 rfl).row rfl⟩) ?_
 exact ⟨_,rfl,p46,c47,p48,c49,rfl,(H.pm 11 [4,5] rfl:)⟩
theorem ent93:En Tryz.prog 93:=enters Tryz.func93 (by kernel_rfl) rfl
theorem w_nNew   {w0 w:World} {l:List HP}  {r:T_api_State} (hm:nNew =some r) (H:St w0 w (l)) :
  Calls Tryz.prog 68 [].toArray w (fun e w'=>∃ v,e=.returned v∧∃ (cs1:List Value),v=.agg cs1.toArray∧St w0 w' (HP.rc R_api_State cs1 r::l)):=by
 unfold nNew at hm
 refine x_enter Tryz.func68 rfl rfl rfl ?_
 intro a F
 refine sr ?_
 replace H:=H.owNil R_api_Pair 129
 replace H:=H.owNil R_api_Snap 131
 refine s_allocA wkP F rfl rfl rfl agz64 rfl H fun b2 w a H F=>?_
 replace H:=H.nf 3 rfl
 refine nl (sr ?_)
 obtain ⟨x3,ex3,hm⟩:=ob hm
 refine sd F rfl ent93 (w_fNew ex3 H:) ?_;rintro _ w a ⟨p4,c4,rfl,H⟩ F
 replace H:=H.owNil R_api_Snap 131
 refine sv F rfl (y_build F rfl rfl (cs:=[.slice p4 (x3).length c4,.slice none (([]:List T_api_Snap)).length 0]) (by kernel_rfl)) fun a F=>s_storeA wkP F rfl rfl agg64 rfl rfl rfl H 2 rfl rfl rfl (fl rfl) fun w H=>?_
 replace H:=H.nf 5 rfl
 refine nl (wr ?_)
 replace H:=H.frz 0 rfl
 replace H:=mk_api_State H 1 rfl 0 rfl
 cases hm
 refine x_resC1 F rfl (⟨_,rfl,agg64.run_load (H.blk 3 rfl).row rfl⟩) ?_
 exact ⟨_,rfl,[.slice p4 (x3).length c4,.slice none (([]:List T_api_Snap)).length 0],rfl,(H.pm 6 [0] rfl:)⟩
theorem w_nUnits {s:T_api_State} {cs1:List Value} {w0 w:World} {l:List HP}  {r:Int} (hm:nUnits s=some r) (H:St w0 w (HP.rc R_api_State cs1 s::l)) :
  Calls Tryz.prog 108 [.agg cs1.toArray].toArray w (fun e w'=>∃ v,e=.returned v∧v=.int .i64 (r)∧St w0 w' (l)):=by
 unfold nUnits at hm
 refine x_enter Tryz.func108 rfl rfl rfl ?_
 intro a F
 refine sr (s_boxA wkP F rfl rfl rfl rfl rfl H fun b2 w a H F=>bb [0] F H rfl fun a F=>?_)
 replace H:=H.nf 2 rfl
 refine nl (sr (bk [0] F H rfl ⟨fld64_0,trivial⟩ fun a F=>?_))
 have G:=F;replace H:=rc_api_State (H.pk 1 rfl);obtain ⟨p3,c4,p5,c6,rfl,J⟩:=H;have H:=J;have F:=G;clear G J
 refine bk [2000,0,0] F H rfl ⟨rfl,plain61,⟨_,Tryz.underlying61⟩,trivial⟩ fun a F=>nl (sq (sr (bk [1,2001,0,0] F H rfl ⟨fld64_1,rfl,plain62,⟨_,Tryz.underlying62⟩,trivial⟩ fun a F=>?_)))
 refine nl (xm0 3 [3] [0,1,2] F H hm rfl rfl (fun r23 z=>z) (fun r23 z=>z) (fun r23 hm=>?_) (fun r23 a w hm F H=>?_))
 refine bl (xl0 3 [3,10,11,12] [0,1,2] F H hm rfl rfl (fun (s34:Unit) z=>z) (fun s34 z=>z) ⟨F.sl rfl,H⟩ (fun s34 a w o F H hm=>sb [0] F H rfl fun a F=>?_))
 refine nl (sq (cPm F rfl hm (fun hg35 hm=>?_) (fun hg35 hm=>?_)))
 refine sk (ct (sq (bl (sr ?_))))
 obtain ⟨x36,ex36,hm⟩:=ob hm
 obtain ⟨b37,o37,hp37,cs38,H⟩:=H.slE 1 rfl ex36
 refine sv F rfl (y_idxS F elem62 rfl rfl rfl hp37 ex36) fun a F=>bk [999] F H rfl ⟨rfl,(aggn agg131 (H.rcLen 1 rfl)),trivial⟩ fun a F=>?_
 replace H:=H.owNil R_api_Pair 129
 refine s_allocA wkP F rfl rfl rfl agz131 rfl H fun b39 w a H F=>s_storeA wkP F rfl rfl agg131 rfl rfl rfl H 0 rfl (H.rcLen 3 rfl) rfl (H.rcFlat 3 rfl) fun w H=>?_
 replace H:=H.nf 7 rfl
 refine nl ?_
 cases hm
 refine ex (cx (cx ?_));cases hm;refine ⟨_,rfl,?_⟩;rintro rfl
 refine ch (ct ?_)
 exact ⟨F.sl rfl,H⟩
 refine ct (sb [0,0] F H rfl fun a F=>nl (wr ?_))
 cases hm
 refine x_ret1 F rfl rfl ?_
 exact ⟨_,rfl,rfl,(H.pm 3 [] rfl:)⟩
theorem ent111:En Tryz.prog 111:=enters Tryz.func111 (by kernel_rfl) rfl
theorem ent108:En Tryz.prog 108:=enters Tryz.func108 (by kernel_rfl) rfl
theorem w_nCheck {s:T_api_State} {cs1:List Value} {w0 w:World} {l:List HP}  {r:Int} (hm:nCheck s=some r) (H:St w0 w (HP.rc R_api_State cs1 s::l)) :
  Calls Tryz.prog 83 [.agg cs1.toArray].toArray w (fun e w'=>∃ v,e=.returned v∧v=.int .i64 (r)∧St w0 w' (l)):=by
 unfold nCheck at hm
 refine x_enter Tryz.func83 rfl rfl rfl ?_
 intro a F
 refine sr (s_boxA wkP F rfl rfl rfl rfl rfl H fun b2 w a H F=>bb [0] F H rfl fun a F=>?_)
 replace H:=H.nf 2 rfl
 refine nl (sr (bk [0] F H rfl ⟨fld64_0,trivial⟩ fun a F=>?_))
 have G:=F;replace H:=rc_api_State (H.pk 1 rfl);obtain ⟨p3,c4,p5,c6,rfl,J⟩:=H;have H:=J;have F:=G;clear G J
 refine bk [2000] F H rfl ⟨rfl,plain61,trivial⟩ fun a F=>?_
 obtain ⟨x7,ex7,hm⟩:=ob hm
 refine sd F rfl ent111 (w_fCheck ex7 (H.pm 3 [0,0,1,2] rfl:):) ?_;rintro _ w a ⟨rfl,H⟩ F
 refine bb [0,0] F H rfl fun a F=>?_
 rcases spN 10 F rfl hm with ⟨hg8,hm,F⟩ | ⟨hg8,hm,F⟩
 refine bk [2999] F H rfl ⟨rfl,(aggn agg64 rfl),trivial⟩ fun a F=>g_onP F rfl rfl rfl rfl ?_
 replace H:=mk_api_State H 0 rfl 1 rfl
 obtain ⟨x9,ex9,hm⟩:=ob hm
 refine sd F rfl ent108 (w_nUnits ex9 (H.pm 4 [0,0,1,2,3] rfl:):) ?_;rintro _ w a ⟨rfl,H⟩ F
 refine bb [0,0,0] F H rfl fun a F=>?_
 replace H:=H.nf 4 rfl
 refine nl (sq (sr (bk [1,3001,0,0] F H rfl ⟨fld64_1,rfl,plain62,⟨_,Tryz.underlying62⟩,trivial⟩ fun a F=>?_)))
 refine nl (xm0 4 [3] [1,2,3] F H hm rfl rfl (fun r26 z=>z) (fun r26 z=>z) (fun r26 hm=>?_) (fun r26 a w hm F H=>?_))
 refine bl (xl0 4 [1,3,16,17,18] [1,2,3] F H hm rfl rfl (fun (s37:Unit) z=>z) (fun s37 z=>z) ⟨F.sl rfl,(H.pm 4 [1,2,3] rfl:)⟩ (fun s37 a w o F H hm=>sb [0] F H rfl fun a F=>?_))
 refine nl (sq (cPm F rfl hm (fun hg38 hm=>?_) (fun hg38 hm=>?_)))
 refine sk (ct (sq (bl (sb [0] F H rfl fun a F=>?_))))
 obtain ⟨x39,ex39,hm⟩:=ob hm
 obtain ⟨b40,o40,hp40,cs41,H⟩:=H.slE 1 rfl ex39
 refine sv F rfl (y_idxS F elem62 rfl rfl rfl hp40 ex39) fun a F=>bk [999] F H rfl ⟨rfl,(aggn agg131 (H.rcLen 1 rfl)),trivial⟩ fun a F=>?_
 replace H:=H.owNil R_api_Pair 129
 refine s_allocA wkP F rfl rfl rfl agz131 rfl H fun b42 w a H F=>bb [0] F H rfl fun a F=>s_storeA wkP F rfl rfl agg131 rfl rfl rfl H 0 rfl (H.rcLen 3 rfl) rfl (H.rcFlat 3 rfl) fun w H=>?_
 replace H:=H.nf 7 rfl
 refine nl ?_
 cases hm
 refine ex (cx (cx ?_));cases hm;refine ⟨_,rfl,?_⟩;rintro rfl
 refine ch (ct ?_)
 exact ⟨F.sl rfl,H⟩
 refine ct (sq (sb [0] F H rfl fun a F=>?_))
 refine nl (cPm F rfl hm (fun hg43 hm=>?_) (fun hg43 hm=>?_))
 cases hm
 refine sk (ct (sb [0] F H rfl fun a F=>nl (wr ?_)))
 cases hm
 refine x_ret1 F rfl rfl ?_
 exact ⟨_,rfl,rfl,(H.pm 3 [] rfl:)⟩
 refine bb (List.replicate 5 0) F H rfl fun a F=>?_
 replace H:=H.nf 3 rfl
 refine nl (sq (sr (bk [1,2001,0,0] F H rfl ⟨fld64_1,rfl,plain62,⟨_,Tryz.underlying62⟩,trivial⟩ fun a F=>?_)))
 refine nl (xm0 3 [3] [0,1,2] F H hm rfl rfl (fun r60 z=>z) (fun r60 z=>z) (fun r60 hm=>?_) (fun r60 a w hm F H=>?_))
 refine bl (xl0 3 [1,3,16,17,18] [0,1,2] F H hm rfl rfl (fun (s71:Unit) z=>z) (fun s71 z=>z) ⟨F.sl rfl,H⟩ (fun s71 a w o F H hm=>sb [0] F H rfl fun a F=>?_))
 refine nl (sq (cPm F rfl hm (fun hg72 hm=>?_) (fun hg72 hm=>?_)))
 refine sk (ct (sq (bl (sb [0] F H rfl fun a F=>?_))))
 obtain ⟨x73,ex73,hm⟩:=ob hm
 obtain ⟨b74,o74,hp74,cs75,H⟩:=H.slE 1 rfl ex73
 refine sv F rfl (y_idxS F elem62 rfl rfl rfl hp74 ex73) fun a F=>bk [999] F H rfl ⟨rfl,(aggn agg131 (H.rcLen 1 rfl)),trivial⟩ fun a F=>?_
 replace H:=H.owNil R_api_Pair 129
 refine s_allocA wkP F rfl rfl rfl agz131 rfl H fun b76 w a H F=>bb [0] F H rfl fun a F=>s_storeA wkP F rfl rfl agg131 rfl rfl rfl H 0 rfl (H.rcLen 3 rfl) rfl (H.rcFlat 3 rfl) fun w H=>?_
 replace H:=H.nf 7 rfl
 refine nl ?_
 cases hm
 refine ex (cx (cx ?_));cases hm;refine ⟨_,rfl,?_⟩;rintro rfl
 refine ch (ct ?_)
 exact ⟨F.sl rfl,H⟩
 refine ct (sq (sb [0] F H rfl fun a F=>nl (cT F rfl ?_)))
 cases hm
theorem ent104:En Tryz.prog 104:=enters Tryz.func104 (by kernel_rfl) rfl
theorem ent107:En Tryz.prog 107:=enters Tryz.func107 (by kernel_rfl) rfl
theorem w_nDo {s:T_api_State} {o:T_api_Op} {gen:Int} {cs1:List Value} {cs2:List Value} {w0 w:World} {l:List HP}  {r:T_api_State×T_api_Answer} (hm:nDo s o gen=some r) (H:St w0 w (HP.rc R_api_State cs1 s::HP.rc R_api_Op cs2 o::l)) :
  Calls Tryz.prog 79 [.agg cs1.toArray,.agg cs2.toArray,.int .u64 (gen)].toArray w (fun e w'=>∃ v,e=.returned v∧∃ (cs3:List Value) (cs4:List Value),v=.tuple [.agg cs3.toArray,.agg cs4.toArray].toArray∧St w0 w' (HP.rc R_api_State cs3 r.1::HP.rc R_api_Answer cs4 r.2::l)):=by
 unfold nDo at hm
 refine x_enter Tryz.func79 rfl rfl rfl ?_
 intro a F
 refine sr (s_boxA wkP F rfl rfl rfl rfl rfl H fun b5 w a H F=>s_boxA wkP F rfl rfl rfl rfl rfl H fun b6 w a H F=>?_)
 replace H:=H.owNil R_api_Pair 129
 replace H:=H.owNil R_api_Snap 131
 refine s_allocA wkP F rfl rfl rfl agz64 rfl H fun b7 w a H F=>?_
 replace H:=H.owNil rByte 5
 replace H:=H.owNil rStr 9
 refine s_allocA wkP F rfl rfl rfl agz58 rfl H fun b8 w a H F=>?_
 replace H:=H.nf 10 rfl
 refine nl (sr (bk [7999] F H rfl ⟨rfl,(aggn agg64 (H.rcLen 8 rfl)),trivial⟩ fun a F=>?_))
 obtain ⟨x9,ex9,hm⟩:=ob hm
 refine sd F rfl ent104 (w_nCopied ex9 (H.pm 10 [8,0,1,2,3,4,5,6,7,8,9] rfl:):) ?_;rintro _ w a ⟨p10,c10,p11,c11,rfl,H⟩ F
 replace H:=H.owNil rByte 5
 replace H:=H.owNil rStr 9
 refine sv F rfl (y_build F rfl rfl (cs:=[.int .i64 (0),.int .i64 (0),.slice none (([]:List UInt8)).length 0,.slice none (([]:List (List UInt8))).length 0]) (by kernel_rfl)) fun a F=>?_
 replace H:=H.owNil R_api_Pair 129
 replace H:=H.owNil R_api_Snap 131
 refine s_allocA wkP F rfl rfl rfl agz64 rfl H fun b12 w a H F=>?_
 replace H:=H.owNil rByte 5
 replace H:=H.owNil rStr 9
 refine s_allocA wkP F rfl rfl rfl agz58 rfl H fun b13 w a H F=>s_storeA wkP F rfl rfl agg64 rfl rfl rfl H 3 rfl rfl rfl (fl rfl) fun w H=>s_storeA wkP F rfl rfl agg58 rfl rfl rfl H 0 rfl rfl rfl (fl rfl) fun w H=>?_
 replace H:=H.nf 20 rfl
 refine nl (sq (sr (bk [0] F H rfl ⟨fld27_0,trivial⟩ fun a F=>?_)))
 have G:=F;replace H:=rc_api_Op (H.pk 19 rfl);obtain ⟨p14,c15,rfl,J⟩:=H;have H:=J;have F:=G;clear G J
 refine bk [17000] F H rfl ⟨rfl,plain3,trivial⟩ fun a F=>nl ?_
 replace H:=O_api_State_s (H.pm 20 [4,9,10,0,1,2,3,5,6,7,8,9,11,12,13,14,15,16,17,18,19] rfl:)
 replace H:=H.frz 15 rfl
 replace H:=O_api_State_s (x0:=([]:List T_api_Pair)) (x1:=([]:List T_api_Snap)) (H.pm 19 [14,0,15,0,1,2,3,4,5,6,7,8,9,10,11,12,13,16,17,18] rfl:)
 refine xm2 18 [3,6,7,8,9] [0,3,5,6,7,8,12,13,14,15] F H hm rfl rfl (fun r38 (cs39:List Value) (cs40:List Value) z=>z) (fun r38 cs39 cs40 z=>O_api_State b12 r38.1::HP.blk b13 (cs39) 58::HP.blk b5 (cs40) 64::HP.rc R_api_Answer cs39 r38.2.1::HP.rc R_api_State cs40 r38.2.2::z) (fun r38 hm=>?_) (fun r38 a w hm cs39 cs40 F H=>?_)
 refine bl (sq (sb [0,0] F H rfl fun a F=>?_))
 replace H:=H.nf 18 rfl
 refine nl (xm0 18 [2,3,4,6,7,8,9,14] [0,2,3,4,5,6,7,8,9,10,12,13,14,15,16,17] F H hm rfl rfl (fun r45 z=>(23,.bool (r45))::z) (fun r45 z=>z) (fun r45 hm=>?_) (fun r45 a w hm F H=>?_))
 refine cPm F rfl hm (fun hg46 hm=>?_) (fun hg46 hm=>?_)
 refine sk ?_
 cases hm
 refine ct ?_
 exact ⟨F.sl rfl,(H.pm 18 [0,2,3,4,5,6,7,8,9,10,12,13,14,15,16,17] rfl:)⟩
 refine sb [0,0] F H rfl fun a F=>?_
 refine nl (xm0 18 [2,3,4,6,7,8,9,14] [0,2,3,4,5,6,7,8,9,10,12,13,14,15,16,17] F H hm rfl rfl (fun r48 z=>(23,.bool (r48))::z) (fun r48 z=>z) (fun r48 hm=>?_) (fun r48 a w hm F H=>?_))
 refine cPm F rfl hm (fun hg49 hm=>?_) (fun hg49 hm=>?_)
 refine sk ?_
 cases hm
 refine ct ?_
 exact ⟨F.sl rfl,(H.pm 18 [0,2,3,4,5,6,7,8,9,10,12,13,14,15,16,17] rfl:)⟩
 refine rl (bb [0,0] F H rfl fun a F=>lz ?_)
 cases hm
 refine ct ?_
 exact ⟨F.sl rfl,(H.pm 18 [0,2,3,4,5,6,7,8,9,10,12,13,14,15,16,17] rfl:)⟩
 cases hm
 refine ct ?_
 exact ⟨F.sl rfl,H⟩
 refine ct (cB F rfl (fun hg50=>?_) (fun hg50=>?_))
 replace hm:=ifT hg50 hm
 cases hm
 replace hm:=ifF (nT hg50) hm
 refine sb [0,0] F H rfl fun a F=>?_
 refine nl (cPm F rfl hm (fun hg51 hm=>?_) (fun hg51 hm=>?_))
 cases hm
 refine rl (bk [0] F H rfl ⟨fld64_0,trivial⟩ fun a F=>?_)
 have G:=F;replace H:=rc_api_State (H.pk 15 rfl);obtain ⟨p52,c53,p54,c55,rfl,J⟩:=H;have H:=J;have F:=G;clear G J
 refine bk [16000,15999] F H rfl ⟨rfl,plain61,rfl,(aggn agg27 rfl),trivial⟩ fun a F=>?_
 replace H:=mk_api_Op H o.1 o.2.1 o.2.2.1 o.2.2.2.1 o.2.2.2.2.1 4 rfl
 obtain ⟨x56,ex56,hm⟩:=ob hm
 refine sd F rfl ent107 (w_fDo ex56 (H.pm 18 [1,0,0,1,2,3,4,5,6,7,8,9,10,11,12,13,14,15,16,17] rfl:):) ?_;rintro _ w a ⟨p57,c57,cs58,rfl,H⟩ F
 refine bk [0,0,0,0] F H rfl ⟨fld64_0,trivial⟩ fun a F=>?_
 obtain ⟨p59,c60,p61,c62,H⟩:=O_api_State_o (H.pk 6 rfl)
 refine s_st1 wkP F rfl rfl zero61 rfl rfl rfl rfl rfl H 0 rfl rfl fun w H=>s_storeA wkP F rfl rfl agg58 rfl rfl rfl H 10 rfl (H.rcLen 4 rfl) rfl (H.rcFlat 4 rfl) fun w H=>?_
 replace H:=H.nf 22 rfl
 refine lz (bn ?_)
 replace H:=O_api_State_s (x1:=(x9.1,x9.2).2) (H.pm 22 [0,3,2,1,3,4,5,6,7,8,9,10,11,12,13,14,15,16,17,18,19,20,21] rfl:)
 cases hm
 refine ct ?_
 replace H:=mk_api_State H 5 rfl 6 rfl
 exact ⟨cs58,[.slice p52 (s.1).length c53,.slice p54 (s.2).length c55],F.sl rfl,(H.pm 22 [1,10,21,4,0,8,9,11,12,13,14,17,18,19,20] rfl:)⟩
 refine ct (sq (sr (bk [0] F H rfl ⟨fld58_0,trivial⟩ fun a F=>?_)))
 have G:=F;replace H:=rc_api_Answer (H.pk 3 rfl);obtain ⟨p63,c64,p65,c66,rfl,J⟩:=H;have H:=J;have F:=G;clear G J
 refine bk [3000,0,0] F H rfl ⟨rfl,plain34,trivial⟩ fun a F=>?_
 rcases spP 40 F rfl hm with ⟨hg67,hm,F⟩ | ⟨hg67,hm,F⟩
 refine g_onP F rfl rfl rfl rfl ?_
 obtain ⟨p68,c69,p70,c71,H⟩:=O_api_State_o (H.pk 2 rfl)
 refine bk [999] F H rfl ⟨rfl,(aggn agg64 rfl),trivial⟩ fun a F=>g_onP F rfl rfl rfl rfl ?_
 replace H:=H.frz 2 rfl
 replace H:=mk_api_State H 2 rfl 0 rfl
 obtain ⟨x72,ex72,hm⟩:=ob hm
 refine sd F rfl ent108 (w_nUnits ex72 (H.pm 19 [0,0,1,2,3,4,5,6,7,8,9,10,11,12,13,14,15,16,17,18] rfl:):) ?_;rintro _ w a ⟨rfl,H⟩ F
 refine bb [0,0] F H rfl fun a F=>?_
 replace H:=H.nf 19 rfl
 refine nl (cPm F rfl hm (fun hg73 hm=>?_) (fun hg73 hm=>?_))
 cases hm
 refine sk (ct (sq (sr (bk [0,6000,0] F H rfl ⟨fld58_0,rfl,plain34,trivial⟩ fun a F=>?_))))
 refine nl (cNm F rfl hm (fun hg74 hm=>?_) (fun hg74 hm=>?_))
 cases hm
 refine sk (ct (sq (mix_regionK [2,3] [3] (scL [1000,1,2002,3003]) [6] H rfl rfl (by kernel_rfl) (by kernel_rfl) fun w H=>mbk [2999] F H rfl ⟨rfl,(aggn agg64 rfl),trivial⟩ fun a F=>?_)))
 refine m_pure F rfl rfl rfl rfl (fun u hu=>y_loadA F agg58 rfl rfl ((hu.choose_spec.blk 0 rfl).row) rfl) fun a F=>?_
 refine m_heavy rfl rfl ?_
 obtain ⟨p75,c76,p77,c78,H⟩:=O_api_State_o (H.pk 9 rfl)
 refine s_storeA wkP F rfl rfl agg64 rfl rfl rfl H 0 rfl rfl rfl (fl rfl) fun w H=>?_
 refine lz ?_;refine ct ⟨⟨_,(H.pm 21 [9,0,1,2,3,4,5,6,7,8,10,11,12,13,14,15,16,17,18,19,20] rfl:)⟩,?_⟩
 refine m_last rfl rfl (s_storeA wkP F rfl rfl agg58 rfl rfl rfl H 17 rfl rfl rfl (fl rfl) fun w H=>?_)
 refine lz ?_;refine ct ?_
 refine m_nil (ct (wr ?_))
 replace H:=mk_api_State H 6 rfl 4 rfl
 replace H:=mk_api_Answer H r38.2.1.1 r38.2.1.2.1 8 rfl 9 rfl
 cases hm
 refine x_resC2 F rfl (⟨_,rfl,agg64.run_load (H.blk 2 rfl).row rfl⟩) (⟨_,rfl,agg58.run_load (H.blk 19 rfl).row rfl⟩) ?_
 exact ⟨_,rfl,[.slice p68 (r38.1.1).length c69,.slice p70 (r38.1.2).length c71],[.int .i64 (r38.2.1.1),.int .i64 (r38.2.1.2.1),.slice p63 (r38.2.1.2.2.1).length c64,.slice p65 (r38.2.1.2.2.2).length c66],rfl,(H.pm 23 [1,0] rfl:)⟩
 refine bb [0,0,0,0] F H rfl fun a F=>?_
 replace H:=H.nf 16 rfl
 refine nl (cF F rfl (sk (ct (sq (sr (bk [0,3000,0] F H rfl ⟨fld58_0,rfl,plain34,trivial⟩ fun a F=>?_))))))
 refine nl (cNm F rfl hm (fun hg79 hm=>?_) (fun hg79 hm=>?_))
 cases hm
 refine sk (ct (sq ?_))
 obtain ⟨p80,c81,p82,c83,H⟩:=O_api_State_o (H.pk 2 rfl)
 refine mix_regionK [2,3] [3] (scL [1000,1,2002,3003]) [5] H rfl rfl (by kernel_rfl) (by kernel_rfl) fun w H=>?_
 refine mbk [999] F H rfl ⟨rfl,(aggn agg64 rfl),trivial⟩ fun a F=>?_
 refine m_pure F rfl rfl rfl rfl (fun u hu=>y_loadA F agg58 rfl rfl ((hu.choose_spec.blk 0 rfl).row) rfl) fun a F=>?_
 refine m_heavy rfl rfl ?_
 obtain ⟨p84,c85,p86,c87,H⟩:=O_api_State_o (H.pk 8 rfl)
 refine s_storeA wkP F rfl rfl agg64 rfl rfl rfl H 0 rfl rfl rfl (fl rfl) fun w H=>?_
 refine lz ?_;refine ct ⟨⟨_,(H.pm 20 [8,0,1,2,3,4,5,6,7,9,10,11,12,13,14,15,16,17,18,19] rfl:)⟩,?_⟩
 refine m_last rfl rfl (s_storeA wkP F rfl rfl agg58 rfl rfl rfl H 16 rfl rfl rfl (fl rfl) fun w H=>?_)
 refine lz ?_;refine ct ?_
 refine m_nil (ct (wr ?_))
 replace H:=H.frz 5 rfl
 replace H:=mk_api_State H 5 rfl 0 rfl
 replace H:=mk_api_Answer H r38.2.1.1 r38.2.1.2.1 7 rfl 8 rfl
 cases hm
 refine x_resC2 F rfl (⟨_,rfl,agg64.run_load (H.blk 3 rfl).row rfl⟩) (⟨_,rfl,agg58.run_load (H.blk 18 rfl).row rfl⟩) ?_
 exact ⟨_,rfl,[.slice p80 (r38.1.1).length c81,.slice p82 (r38.1.2).length c83],[.int .i64 (r38.2.1.1),.int .i64 (r38.2.1.2.1),.slice p63 (r38.2.1.2.2.1).length c64,.slice p65 (r38.2.1.2.2.2).length c66],rfl,(H.pm 22 [1,0] rfl:)⟩
end Go.Proofs.YtapllcabobickaaGreatDoor
