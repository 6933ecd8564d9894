/- Texts Del, LawA, Spk, Beg. -/
import Derived.Test.YtapllcabobickaaGreatDoorQ8
import Derived.Test.YtapllcabobickaaGreatDoorQ6
import Derived.Test.YtapllcabobickaaGreatDoorQ13
import Derived.Test.YtapllcabobickaaGreatDoorQ5
import Derived.Test.YtapllcabobickaaGreatDoorQ4
set_option linter.unusedSimpArgs false
set_option linter.unusedVariables false
namespace Go.Tri
open Go.RowKit
section
variable {κ β:Type} [DecidableEq κ] {R:Rp β} {P:Program} {T K E:TypeId} {ek:κ→Value} {ok:κ→Prop} {agg:Bool} {w0 w:World} {b r:Nat} {m m0:κ→Option β} {p:κ→Bool} {es:List (κ×(List Value×β))} {raw:Array MapEntry} {c n:Nat} {seen:Array Nat} {ls:List HP} {ops:Array Oper} {rest:List Oper} {o:Oper} {a:Act} {W:List Oper→Act→World→Prop} {N:Fs} {sl:List (Nat×Value)} {d:Nat} {x y:Operand}
theorem run_deleteR {l:List (κ×Value)} {t':TypeId} (hT:P.underlying T=some (.map K E)) (hK:KeyT P K ek ok) (hb:w.heap[b]?=some (.map raw c)) (he:raw.toList.map (fun e=>(e.key,e.val))=mkv ek l) (hok:∀ p∈l,ok p.1) (k:κ) (hk:ok k) (ty:TypeId) :
  ∃ raw',(Builtin.delete_ #[T,t'] ty #[.map (some b),ek k]).run P w=.ok (.tuple #[]) (w.putObj b (.map raw' c))∧raw'.toList.map (fun e=>(e.key,e.val))=mkv ek (adel k l)∧raw'.toList.Sublist raw.toList:=by
 have hf:=hK.find k raw.toList l w hk hok he
 have hpre:(Builtin.delete_ #[T,t'] ty #[.map (some b),ek k]).run P w=((match findI k l 0 with
   | some (i,_)=>do
    setObj b (.map (raw.eraseIdxIfInBounds i) c)
    pure (.tuple #[])
   | none=>do
    setObj b (.map raw c)
    pure (.tuple #[]):Sem Value)).run P w:=by
  unfold Builtin.delete_
  simp only [List.getElem?_toArray,List.getElem?_cons_zero,List.getElem?_cons_succ]
  rw [Sem.run_bind,run_underlying hT]
  simp only [Result.andThen_ok]
  rw [Sem.run_bind,run_getObj w b raw c hb]
  simp only [Result.andThen_ok]
  rw [Sem.run_bind,hK.check _ k w hk]
  simp only [Result.andThen_ok]
  rw [Sem.run_bind,hf]
  simp only [Result.andThen_ok]
  rcases findI k l 0 with _ | ⟨i,u⟩<;>rfl
 obtain ⟨d1,d2⟩:=findI_del k l 0
 cases hg:findI k l 0 with
 | none =>
  refine ⟨raw,?_,by rw [d2 hg];exact he,List.Sublist.refl _⟩
  rw [hpre,hg];show Sem.run P (do setObj b (.map raw c);pure (Value.tuple #[])) w=_;rw [Sem.run_bind,run_setObj w b raw c _ hb];rfl
 | some q =>
  obtain ⟨j,u⟩:=q
  obtain ⟨_,h4⟩:=d1 j u hg
  rw [Nat.sub_zero] at h4
  have hto:(raw.eraseIdxIfInBounds j).toList=raw.toList.eraseIdx j:=by simp
  refine ⟨raw.eraseIdxIfInBounds j,?_,?_,?_⟩
  ·rw [hpre,hg];show Sem.run P (do setObj b (.map (raw.eraseIdxIfInBounds j) c);pure (Value.tuple #[])) w=_;rw [Sem.run_bind,run_setObj w b raw c _ hb];rfl
  ·rw [hto,h4]
   simp only [mkv,map_eraseIdx]
   rw [he];rfl
  ·rw [hto];exact List.eraseIdx_sublist _ _
structure DF (p:κ→Bool) (m0:κ→Option β) (ek:κ→Value) (agg:Bool) (ok:κ→Prop) (es:List (κ×(List Value×β))) (raw:Array MapEntry) (c:Nat) (seen:Array Nat) (n:Nat) (m:κ→Option β):Prop where
 hM:MRaw ek agg es raw c
 sn:∀ e∈raw.toList,seen.contains e.born=true→∀ k,ok k→e.key=ek k→p k=false
 ms:(raw.toList.filter fun e=>!seen.contains e.born).length≤n
 k0:∀ k,p k=false→m k=m0 k
 k1:∀ k,m k=none∨m k=m0 k
def HP.dl (p:κ→Bool) (m0:κ→Option β) (b r:Nat) (ek:κ→Value) (agg:Bool) (R:Rp β) (ok:κ→Prop) (n:Nat) (m:κ→Option β):HP :=
 HP.ex fun (i:List (κ×(List Value×β))×Array MapEntry×Nat×Array Nat)=>[HP.obj r (.mapIter (some b) i.2.2.1 i.2.2.2 i.2.2.1),HP.mo (some b) i.2.1 i.2.2.1,HP.es R ok i.1 m,HP.fact (DF p m0 ek agg ok i.1 i.2.1 i.2.2.1 i.2.2.2 n m)]
def HP.dk (p:κ→Bool) (m0:κ→Option β) (b r:Nat) (ek:κ→Value) (agg:Bool) (R:Rp β) (ok:κ→Prop) (n:Nat) (k:κ) (cs:List Value) (v:β) (m:κ→Option β):HP :=
 HP.ex fun (i:List (κ×(List Value×β))×Array MapEntry×Nat×Array Nat×MapEntry)=>[HP.obj r (.mapIter (some b) i.2.2.1 (i.2.2.2.1.push i.2.2.2.2.born) i.2.2.1),HP.mo (some b) i.2.1 i.2.2.1,HP.es R ok i.1 m,HP.fact (DF p m0 ek agg ok i.1 i.2.1 i.2.2.1 i.2.2.2.1 (n+1) m∧i.2.2.2.2∈i.2.1.toList∧i.2.2.2.1.contains i.2.2.2.2.born=false∧i.2.2.2.2.key=ek k∧i.2.2.2.2.val=mkV agg cs∧(k,cs,v)∈i.1)]
theorem St.dlStart (H:St w0 w (HP.mo (some b) raw c::HP.es R ok es m::HP.obj r (mit (some b) c (bornsOf raw []))::ls)) (hM:MRaw ek agg es raw c):St w0 w (HP.dl p m b r ek agg R ok raw.size m::ls):=by
 have hf:DF p m ek agg ok es raw c #[] raw.size m:=⟨hM,fun e _ h=>by simp at h,by
  have:=List.length_filter_le (fun e:MapEntry=>!(#[]:Array Nat).contains e.born) raw.toList
  simpa using this,fun _ _=>rfl,fun _=>.inr rfl⟩
 have H1:=(H.addFact hf).pm 4 [3,1,2,0] rfl
 exact St.exShut (es,raw,c,#[]) H1
theorem St.dlOpen (H:St w0 w (HP.dl p m0 b r ek agg R ok n m::ls)):∃ es raw c seen,DF p m0 ek agg ok es raw c seen n m∧St w0 w (HP.obj r (.mapIter (some b) c seen c)::HP.mo (some b) raw c::HP.es R ok es m::ls):=by
 obtain ⟨⟨es,raw,c,seen⟩,H⟩:=H.exOpen
 have h:=H.factP 3 rfl
 exact ⟨es,raw,c,seen,h,(H.pm 4 [3,0,1,2] rfl).tail⟩
theorem St.dkOpen {k:κ} {cs:List Value} {v:β} (H:St w0 w (HP.dk p m0 b r ek agg R ok n k cs v m::ls)):∃ es raw c seen e,DF p m0 ek agg ok es raw c seen (n+1) m∧e∈raw.toList∧seen.contains e.born=false∧e.key=ek k∧e.val=mkV agg cs∧(k,cs,v)∈es∧St w0 w (HP.obj r (.mapIter (some b) c (seen.push e.born) c)::HP.mo (some b) raw c::HP.es R ok es m::ls):=by
 obtain ⟨⟨es,raw,c,seen,e⟩,H⟩:=H.exOpen
 obtain ⟨h1,h2,h3,h4,h5,h6⟩:=H.factP 3 rfl
 exact ⟨es,raw,c,seen,e,h1,h2,h3,h4,h5,h6,(H.pm 4 [3,0,1,2] rfl).tail⟩
theorem St.dkShut {k:κ} {cs:List Value} {v:β} {e:MapEntry} (h1:DF p m0 ek agg ok es raw c seen (n+1) m) (h2:e∈raw.toList) (h3:seen.contains e.born=false) (h4:e.key=ek k) (h5:e.val=mkV agg cs) (h6:(k,cs,v)∈es) (H:St w0 w (HP.obj r (.mapIter (some b) c (seen.push e.born) c)::HP.mo (some b) raw c::HP.es R ok es m::ls)):St w0 w (HP.dk p m0 b r ek agg R ok n k cs v m::ls) :=
 St.exShut (es,raw,c,seen,e) ((H.addFact (show DF p m0 ek agg ok es raw c seen (n+1) m∧e∈raw.toList∧seen.contains e.born=false∧e.key=ek k∧e.val=mkV agg cs∧(k,cs,v)∈es from ⟨h1,h2,h3,h4,h5,h6⟩)).pm 4 [1,2,3,0] rfl)
theorem s_nxtD (kw:Walk P ops W) (F:Fr N a sl) (hg:o.guard=none) (hd:o.dst=some d) (hN:Nat.blt d N.n=true) (ho:o.op=.next x false) (hx:ev sl x=some (.pointer (some ⟨r,0,none⟩))) (H:St w0 w (HP.dl p m0 b r ek agg R ok n m::ls))
  (h0:(∀ k,m k=if p k=true then none else m0 k)→∀ w' a',St w0 w' (HP.mm (some b) ek agg R ok m::ls)→Fr N a' ((d,.tuple [.bool false].toArray)::sl)→W rest a' w')
  (h1:∀ n' k cs v,n=n'+1→∀ w' a',St w0 w' (HP.dk p m0 b r ek agg R ok n' k cs v m::ls)→Fr N a' ((d,.tuple [.bool true,ek k,mkV agg cs].toArray)::sl)→W rest a' w'):W (o::rest) a w:=by
 obtain ⟨es,raw,c,seen,hD,H⟩:=H.dlOpen
 have hes:EsOk R ok (baseOf w) es m:=by
  obtain ⟨B,S,hs,h,_⟩:=H.get 2 rfl
  exact EsOk.mono h (sub_le hs)
 have H1:=H.moObj 1 rfl
 replace H1:St w0 w (HP.obj r (.mapIter (some b) c seen c)::HP.obj b (.map raw c)::HP.es R ok es m::ls):=H1
 refine s_next kw F hg hd hN ho hx H1 1 0 rfl rfl hD.hM.lt (fun hall w' a' H' F'=>?_) (fun e he hnot w' a' H' F'=>?_)
 ·have H2:St w0 w' (HP.obj r (.mapIter (some b) c seen c)::HP.mo (some b) raw c::HP.es R ok es m::ls):=H'.objMo 1 rfl
  refine h0 (fun k=>?_) w' a' ((H2.moMm 1 2 hD.hM rfl rfl).pm 3 [0,2,1] rfl).tail.tail F'
  by_cases hp:p k=true
  ·rw [if_pos hp]
   cases hm:m k with
   | none=>rfl
   | some v =>
    exfalso
    have hg:=hes.get k
    rw [hm] at hg
    cases ha:aget k es with
    | none=>rw [ha] at hg;cases hg
    | some u =>
     have hmem:=aget_mem' ha
     obtain ⟨q,hq⟩:=List.getElem?_of_mem hmem
     obtain ⟨e,he1,he2,_⟩:=hD.hM.at hq
     have hein:e∈raw.toList:=by simpa using Array.mem_of_getElem? he1
     have:=hD.sn e hein (hall e hein) k (hes.ok _ hmem) he2
     rw [hp] at this;cases this
  ·rw [if_neg hp]
   exact hD.k0 k (by simpa using hp)
 ·obtain ⟨q,hq⟩:=List.getElem?_of_mem he
  have hent:=congrArg (fun l=>l[q]?) hD.hM.ent
  simp only [List.getElem?_map,hq,ment,mkv,Option.map_some] at hent
  cases hu:es[q]? with
  | none=>rw [hu] at hent;simp at hent
  | some u =>
   obtain ⟨k,cs,v⟩:=u
   rw [hu] at hent
   simp only [Option.map_some,Option.some.injEq,Prod.mk.injEq] at hent
   obtain ⟨hk,hv⟩:=hent
   have hin:e∈raw.toList.filter fun e=>!seen.contains e.born:=List.mem_filter.2 ⟨he,by simp only [hnot,Bool.not_false]⟩
   have hpos:=List.length_pos_of_mem hin
   obtain ⟨n',hn⟩:∃ n',n=n'+1:=⟨n - 1,by have:=hD.ms;omega⟩
   subst hn
   have H2:St w0 w' (HP.obj r (.mapIter (some b) c (seen.push e.born) c)::HP.mo (some b) raw c::HP.es R ok es m::ls):=H'.objMo 1 rfl
   rw [hk,hv] at F'
   exact h1 n' k cs v rfl w' a' (St.dkShut hD he hnot hk hv (List.mem_of_getElem? hu) H2) F'
theorem y_entD {k:κ} {cs:List Value} {v:β} (F:Fr N a sl) (ho:o.op=.entry x) (hx:ev sl x=some (.pointer (some ⟨r,0,none⟩))) (H:St w0 w (HP.dk p m0 b r ek agg R ok n k cs v m::ls)) :
  (execOp a.eval o).run P w=.ok (.value (.tuple [ek k,mkV agg cs].toArray)) w:=by
 obtain ⟨es,raw,c,seen,e,hD,he,_,hk,hv,_,H⟩:=H.dkOpen
 have H1:St w0 w (HP.obj r (.mapIter (some b) c (seen.push e.born) c)::HP.obj b (.map raw c)::HP.es R ok es m::ls):=H.moObj 1 rfl
 have:=y_entry (P:=P) F ho hx H1 1 0 rfl rfl he hD.hM.nd
 rwa [hk,hv] at this
theorem St.dkEl {k:κ} {cs:List Value} {v:β} (H:St w0 w (HP.dk p m0 b r ek agg R ok n k cs v m::ls)):ok k∧St w0 w (HP.rc R cs v::HP.dk p m0 b r ek agg R ok n k cs v m::ls):=by
 obtain ⟨es,raw,c,seen,e,h1,h2,h3,h4,h5,h6,H⟩:=H.dkOpen
 obtain ⟨q,hq⟩:=List.getElem?_of_mem h6
 obtain ⟨hk,H1⟩:=H.esEl 2 rfl hq
 exact ⟨hk,(St.dkShut h1 h2 h3 h4 h5 h6 (H1.pm 4 [1,2,3,0] rfl)).pm 2 [1,0] rfl⟩
theorem filter_less {raw raw':List MapEntry} {seen:Array Nat} {e:MapEntry} {n:Nat} (hs:raw'.Sublist raw) (he:e∈raw) (hn:seen.contains e.born=false) (hl:(raw.filter fun e=>!seen.contains e.born).length≤n+1):(raw'.filter fun x=>!(seen.push e.born).contains x.born).length≤n:=by
 have e1:(raw'.filter fun x=>!(seen.push e.born).contains x.born)=(raw'.filter fun x=>!seen.contains x.born).filter fun x=>!(x.born==e.born):=by
  rw [List.filter_filter]
  refine List.filter_congr fun x _=>?_
  rw [Array.contains_push]
  cases seen.contains x.born<;>cases (x.born==e.born)<;>rfl
 have e2:(raw'.filter fun x=>!(seen.push e.born).contains x.born).Sublist (raw.filter fun x=>!seen.contains x.born):=by
  rw [e1];exact List.filter_sublist.trans (hs.filter _)
 have e3:e∈raw.filter fun x=>!seen.contains x.born:=List.mem_filter.2 ⟨he,by simp only [hn,Bool.not_false]⟩
 have e4:e ∉ raw'.filter fun x=>!(seen.push e.born).contains x.born:=fun h=>by
  have:=(List.mem_filter.1 h).2
  rw [Array.contains_push] at this
  simp at this
 have e5:=e2.length_le
 by_cases h:(raw'.filter fun x=>!(seen.push e.born).contains x.born).length=(raw.filter fun x=>!seen.contains x.born).length
 ·exact absurd (e2.eq_of_length h▸e3) e4
 ·omega
theorem seen_push {e x:MapEntry} (hnd:(raw.toList.map (·.born)).Nodup) (he:e∈raw.toList) (hx:x∈raw.toList) (h:(seen.push e.born).contains x.born=true):seen.contains x.born=true∨x=e:=by
 rw [Array.contains_push,Bool.or_eq_true] at h
 rcases h with h | h
 ·exact .inl h
 ·refine .inr ?_
  have hb:x.born=e.born:=by simpa using h
  obtain ⟨i,hi⟩:=List.getElem?_of_mem hx
  obtain ⟨j,hj⟩:=List.getElem?_of_mem he
  have h1:(raw.toList.map (·.born))[i]?=some e.born:=by rw [List.getElem?_map,hi,← hb];rfl
  have h2:(raw.toList.map (·.born))[j]?=some e.born:=by rw [List.getElem?_map,hj];rfl
  have hlt:=(List.getElem?_eq_some_iff.1 h1).1
  have:=(List.getElem?_inj hlt hnd).1 (h1.trans h2.symm)
  subst this
  rw [hi] at hj;exact Option.some.inj hj
theorem St.dkKeep {k:κ} {cs:List Value} {v:β} (hi:∀ j j',ok j→ok j'→ek j=ek j'→j=j') (hp:p k=false) (H:St w0 w (HP.dk p m0 b r ek agg R ok n k cs v m::ls)):St w0 w (HP.dl p m0 b r ek agg R ok n m::ls):=by
 obtain ⟨hk,_⟩:=H.dkEl
 obtain ⟨es,raw,c,seen,e,h1,h2,h3,h4,h5,h6,H⟩:=H.dkOpen
 have hf:DF p m0 ek agg ok es raw c (seen.push e.born) n m:=⟨h1.hM,fun x hx hc j hj hkx=>by
  rcases seen_push h1.hM.nd h2 hx hc with h | rfl
  ·exact h1.sn x hx h j hj hkx
  ·rw [hi j k hj hk (hkx.symm.trans h4)];exact hp,filter_less (List.Sublist.refl _) h2 h3 h1.ms,h1.k0,h1.k1⟩
 exact St.exShut (es,raw,c,seen.push e.born) ((H.addFact hf).pm 4 [1,2,3,0] rfl)
theorem s_delD {k:κ} {cs:List Value} {v:β} {t':TypeId} (kw:Walk P ops W) (F:Fr N a sl) (hg:o.guard=none) (hd:o.dst=none) (hi:∀ j j',ok j→ok j'→ek j=ek j'→j=j') (hp:p k=true) (hT:P.underlying T=some (.map K E)) (hK:KeyT P K ek ok) (ho:o.op=.call { callee:=.builtin .delete,args:=#[x,y],argTypes:=#[T,t'] })
  (H:St w0 w (HP.dk p m0 b r ek agg R ok n k cs v m::ls)) (hx:ev sl x=some (.map (some b))) (hy:ev sl y=some (ek k))
  (hk:∀ w',St w0 w' (HP.dl p m0 b r ek agg R ok n (fdel k m)::ls)→W rest a w'):W (o::rest) a w:=by
 obtain ⟨hkk,_⟩:=H.dkEl
 obtain ⟨es,raw,c,seen,e,h1,h2,h3,h4,h5,h6,H⟩:=H.dkOpen
 have H1:St w0 w (HP.obj r (.mapIter (some b) c (seen.push e.born) c)::HP.obj b (.map raw c)::HP.es R ok es m::ls):=H.moObj 1 rfl
 have hb:=H1.objAt 1 rfl
 have hes:EsOk R ok (baseOf w) es m:=by
  obtain ⟨B,S,hs,h,_⟩:=H.get 2 rfl
  exact EsOk.mono h (sub_le hs)
 have hent:raw.toList.map (fun e=>(e.key,e.val))=mkv ek (es.map fun p=>(p.1,mkV agg p.2.1)):=h1.hM.ent
 obtain ⟨raw',hr,hent',hsub⟩:=run_deleteR (t':=t') hT hK hb hent (fun q hq=>by
  obtain ⟨u,hu,rfl⟩:=List.mem_map.1 hq;exact hes.ok u hu) k hkk o.type
 have H2:St w0 (w.putObj b (.map raw' c)) (HP.obj r (.mapIter (some b) c (seen.push e.born) c)::HP.obj b (.map raw' c)::HP.es R ok es m::ls):=H1.putObj 1 rfl _
 have H3:St w0 (w.putObj b (.map raw' c)) (HP.obj r (.mapIter (some b) c (seen.push e.born) c)::HP.mo (some b) raw' c::HP.es R ok es m::ls):=H2.objMo 1 rfl
 have H4:St w0 (w.putObj b (.map raw' c)) (HP.es R ok (adel k es) (fdel k m)::HP.obj r (.mapIter (some b) c (seen.push e.born) c)::HP.mo (some b) raw' c::HP.es R ok es m::ls):=H3.more fun B hB hp=>by
  obtain ⟨S,hS⟩:=hp 2 _ rfl
  refine ⟨?_,fun q hq=>hS.ok q (adel_sub k es q hq),fun q hq=>hS.rd q (adel_sub k es q hq),fun j=>?_⟩
  ·rw [adel_keys];exact hS.nodup.erase k
  ·show fdel k m j=_
   rw [aget_adel j k es hS.nodup]
   unfold fdel
   split
   ·rfl
   ·exact hS.get j
 have hM':MRaw ek agg (adel k es) raw' c:=⟨by
  rw [hent']
  unfold ment;rw [← adel_map (vv:=fun q:List Value×β=>mkV agg q.1) k es],h1.hM.nd.sublist (hsub.map _),fun x hx=>h1.hM.lt x (hsub.subset hx)⟩
 have hf:DF p m0 ek agg ok (adel k es) raw' c (seen.push e.born) n (fdel k m):=⟨hM',fun x hx hc j hj hkx=>by
   rcases seen_push h1.hM.nd h2 (hsub.subset hx) hc with h | rfl
   ·exact h1.sn x (hsub.subset hx) h j hj hkx
   ·exfalso
    have hin:ek k∈(raw'.toList.map fun e=>(e.key,e.val)).map (·.1):=by
     rw [List.map_map];exact List.mem_map.2 ⟨x,hx,h4⟩
    rw [hM'.ent] at hin
    simp only [ment,mkv,List.map_map,List.mem_map] at hin
    obtain ⟨u,hu,hku⟩:=hin
    have hue:=hes.ok u (adel_sub k es u hu)
    have:u.1=k:=hi _ _ hue hkk hku
    have hmem:k∈(adel k es).map (·.1):=List.mem_map.2 ⟨u,hu,this⟩
    rw [adel_keys] at hmem
    exact (List.Nodup.mem_erase_iff hes.nodup).1 hmem |>.1 rfl,
  filter_less hsub h2 h3 h1.ms,fun j hj=>by
   unfold fdel
   rw [if_neg (fun e=>by rw [e,hp] at hj;cases hj)];exact h1.k0 j hj,fun j=>by
   unfold fdel
   split
   ·exact .inl rfl
   ·exact h1.k1 j⟩
 have H5:St w0 (w.putObj b (.map raw' c)) (HP.obj r (.mapIter (some b) c (seen.push e.born) c)::HP.mo (some b) raw' c::HP.es R ok (adel k es) (fdel k m)::ls):=((H4.pm 4 [3,1,2,0] rfl).tail)
 refine s_valN (v:=.tuple #[]) (w':=_) kw F hg hd (by rw [ho];rfl) ?_ (hk _ (St.exShut (adel k es,raw',c,seen.push e.born) ((H5.addFact hf).pm 4 [1,2,3,0] rfl)))
 unfold execOp
 simp [ho,resolve,invoke,builtin,F.eval hx,F.eval hy,hr]
end
end Go.Tri
namespace Go.Proofs.YtapllcabobickaaGreatDoor
open Go.RowKit Go.Tri
theorem ent46:En Tryz.prog 46:=enters Tryz.func46 (by kernel_rfl) rfl
set_option maxRecDepth 100000
set_option maxHeartbeats 4000000
theorem w_nxThere {h:List UInt8} {b:List UInt8} {bag:((List UInt8)→Option (List UInt8))} {p2:Option Addr} {c2:Nat} {bo2:Nat} {bo2_0:Option Nat} {w0 w:World} {l:List HP} (hl1:(h).length=32) {r:Bool} (hm:nxThere h b bag=some r) (H:St w0 w (HP.sl rByte p2 c2 b::O_api_Bag bo2 bo2_0 ()::HP.fm bo2_0 hv false (rSl rByte) (fun l=>l.length=32) bag::l)) :
  Calls Tryz.prog 46 [.agg (bcells h).toArray,.slice p2 (b).length c2,.pointer (some ⟨bo2,0,none⟩)].toArray w (fun e w'=>∃ v,e=.returned v∧v=.bool (r)∧St w0 w' (O_api_Bag bo2 bo2_0 ()::l)):=by
 unfold nxThere at hm
 refine x_enter Tryz.func46 rfl rfl rfl ?_
 intro a F
 refine sr (s_boxA wkP F rfl rfl rfl rfl rfl H fun b3 w a H F=>bb [0] F H rfl fun a F=>?_)
 replace H:=H.nf 4 rfl
 refine nl (sr ?_)
 replace H:=O_api_Bag_o (H.pk 2 rfl)
 refine bk [0,1999] F H rfl ⟨rfl,plain46,rfl,(aggn agg24 ((bcells_length _).trans hl1)),trivial⟩ fun a F=>?_
 obtain ⟨es4,H⟩:=H.fmOpen 3 rfl
 obtain ⟨cs4,hcs4,H⟩:=H.fmGet 0 rfl h (zc:=[Value.slice none 0 0]) (z0:=[]) (fun _=>rSl_nil _ _)
 have G:=F;obtain ⟨p5,c5,rfl,H⟩:=H.rcSl 0 rfl;have F:=G;clear G
 replace H:=H.dp 1 rfl
 refine sv F rfl (y_fmGet2 (agg:=false) (zc:=[Value.slice none 0 0]) F Tryz.underlying46 (keyH key24) (fun w=>zero25.run w) rfl H 1 rfl rfl (k:=h) rfl hl1 hcs4) fun a F=>bb (List.replicate 5 0) F H rfl fun a F=>nb [0,0] F H rfl fun a F=>nl (wr ?_)
 replace H:=O_api_Bag_s (H.pm 6 [2,0,1,3,4,5] rfl:)
 cases hm
 refine x_ret1 F rfl rfl ?_
 exact ⟨_,rfl,rfl,(H.pm 6 [0] rfl:)⟩
theorem w_mapDel {m_:(List UInt8)→Option (List UInt8)} {bag:((List UInt8)→Option (List UInt8))} {m1:Nat} {bo1:Nat} {bo1_0:Option Nat} {w0 w:World} {l:List HP}  {r:((List UInt8)→Option (List UInt8))} (hm:mapDel m_ bag=some r) (H:St w0 w (HP.mm (some m1) hv false (rSlN w0.heap.size rByte) (fun l=>l.length=32) m_::O_api_Bag bo1 bo1_0 ()::HP.fm bo1_0 hv false (rSl rByte) (fun l=>l.length=32) bag::l)) :
  Calls Tryz.prog 45 [.map (some m1),.func (.func 46) #[] [.pointer (some ⟨bo1,0,none⟩)].toArray].toArray w (fun e w'=>∃ v,e=.returned v∧v=.tuple [].toArray∧St w0 w' (HP.mm (some m1) hv false (rSlN w0.heap.size rByte) (fun l=>l.length=32) r::O_api_Bag bo1 bo1_0 ()::l)):=by
 unfold mapDel at hm
 refine x_enter Tryz.func45 rfl rfl rfl ?_
 intro a F
 refine sb [0] F H rfl fun a F=>?_
 obtain ⟨raw2,cl2,es2,hM2,hE2,H⟩:=H.moOpen 0 rfl
 refine s_rngM wkP F rfl rfl rfl Tryz.underlying46 rfl H 1 rfl rfl fun r2 w a H F=>?_
 replace H:=(H.pm 5 [2,1,0,3,4] rfl:).dlStart (p:=fun h=>(bag h).isSome) hM2
 replace H:=H.nf 3 rfl
 refine nl (bl ?_)
 cases hm
 refine x_loop (fun (g:((List UInt8)→Option (List UInt8))×Nat) aa ww=>Fr ⟨19,[]⟩ aa [(0,.map (some m1)),(1,.func (.func 46) #[] [.pointer (some ⟨bo1,0,none⟩)].toArray),(7,.pointer (some ⟨r2,0,none⟩))]∧St w0 ww (HP.dl (fun h=>(bag h).isSome) m_ m1 r2 hv false (rSlN w0.heap.size rByte) (fun l=>l.length=32) g.2 g.1::O_api_Bag bo1 bo1_0 ()::HP.fm bo1_0 hv false (rSl rByte) (fun l=>l.length=32) bag::l)) (fun g=>g.2) (m_,raw2.size) ⟨F.sl rfl,H⟩ ?_
 clear F H
 rintro ⟨m,n⟩ a w ⟨F,H⟩
 refine sr ?_
 refine s_nxtD wkP F rfl rfl rfl rfl rfl H (fun hall w a H F=>?_) (fun n' k cs v hn w a H F=>?_)
 · refine bb [0] F H rfl fun a F=>?_
   refine nl (sq (cF F rfl ?_))
   refine ex (cx (cx ?_))
   refine ch ?_
   refine x_end0 F rfl ?_
   rw [show m=fun k=>if (bag k).isSome=true then none else m_ k from funext hall] at H
   exact ⟨_,rfl,rfl,(H.pm 3 [0,1] rfl:)⟩
 · refine bb [0] F H rfl fun a F=>?_
   refine nl (sq (cT F rfl ?_))
   refine sk (ct (bl (sr ?_)))
   obtain ⟨hk,H⟩:=H.dkEl
   have G:=F;obtain ⟨p46,c46,rfl,H⟩:=H.rcSlN 0 rfl;have F:=G;clear G
   replace H:=H.dp 1 rfl
   refine sv F rfl (y_entD F rfl rfl (H.pm 4 [1,0,2,3] rfl:)) fun a F=>?_
   refine bb [0,0] F H rfl fun a F=>?_
   refine s_allocA wkP F rfl rfl rfl agz24 rfl H fun b47 w a H F=>?_
   refine s_storeA wkP F rfl rfl agg24 rfl rfl rfl H 0 rfl ((bcells_length _).trans hk) ((bcells_length _).trans (List.length_replicate (n:=32))) (bcells_flat _) fun w H=>?_
   refine bb [0] F H rfl fun a F=>?_
   replace H:=H.nf 5 rfl
   refine nl (sr (bk [0,999,0] F H rfl ⟨rfl,(aggn agg24 ((bcells_length _).trans hk)),trivial⟩ fun a F=>?_))
   replace H:=H.nslSl 1 rfl
   refine s_call wkP F rfl rfl rfl rfl (y_callV F rfl rfl rfl ent46) (w_nxThere hk rfl (H.pm 6 [0,4,5,0,1,2,3,5] rfl:):) ?_;rintro _ w a ⟨rfl,H⟩ F
   replace H:=H.nf 6 rfl
   refine nl (cB F rfl (fun hg=>?_) (fun hg=>?_))
   · refine rl (bk [0,2999] F H rfl ⟨rfl,(aggn agg24 ((bcells_length _).trans hk)),trivial⟩ fun a F=>?_)
     refine s_delD wkP F rfl rfl inj_hv hg Tryz.underlying46 (keyH key24) rfl (H.pm 6 [4,0,1,2,3,5] rfl:) rfl rfl fun w H=>?_
     refine lz (bn (ct ?_))
     exact ⟨(fdel k m,n'),⟨F.sl rfl,(H.pm 6 [0,1,5] rfl:)⟩,by subst hn;exact Nat.lt_succ_self _⟩
   · refine sk (bn (ct ?_))
     exact ⟨(m,n'),⟨F.sl rfl,(H.pm 6 [4,0,5] rfl:).dkKeep inj_hv hg⟩,by subst hn;exact Nat.lt_succ_self _⟩
theorem ent16:En Tryz.prog 16:=enters Tryz.func16 (by kernel_rfl) rfl
theorem ent43:En Tryz.prog 43:=enters Tryz.func43 (by kernel_rfl) rfl
theorem build_31_0_1_2_6:∀ (n0:Int) (n1:Int) (s2:List UInt8) (h2:s2.length=32) (n6_0:Int) (n6_1:Int) (n6_2_0:Int) (l6_2_1:List UInt8) (l6_2_2:List UInt8) (n6_2_3:Int) (n6_2_4:Int) (p6_2_5:Option Addr) (x6_2_5:List UInt8) (c6_2_5:Nat),Tryz.prog.built 31 [(0,.int .u64 (n0)),(1,.int .u64 (n1)),(2,.agg (bcells s2).toArray),(6,.agg ([.int .i64 (n6_0),.int .u64 (n6_1),.int .i64 (n6_2_0),.string (txb (l6_2_1)),.string (txb (l6_2_2)),.int .i64 (n6_2_3),.int .i64 (n6_2_4),.slice p6_2_5 (x6_2_5).length c6_2_5]).toArray)]=some (([Value.int .u64 (n0),Value.int .u64 (n1)]++(bcells s2++(bcells (List.replicate 32 0)++(bcells (List.replicate 32 0)++(bcells (List.replicate 32 0)++([Value.int .i64 (n6_0),Value.int .u64 (n6_1),Value.int .i64 (n6_2_0),Value.string (txb (l6_2_1)),Value.string (txb (l6_2_2)),Value.int .i64 (n6_2_3),Value.int .i64 (n6_2_4),Value.slice p6_2_5 (x6_2_5).length c6_2_5]))))):List Value)).toArray:=fun n0 n1 s2 h2 n6_0 n6_1 n6_2_0 l6_2_1 l6_2_2 n6_2_3 n6_2_4 p6_2_5 x6_2_5 c6_2_5=>match s2,h2 with | [a0_0,a0_1,a0_2,a0_3,a0_4,a0_5,a0_6,a0_7,a0_8,a0_9,a0_10,a0_11,a0_12,a0_13,a0_14,a0_15,a0_16,a0_17,a0_18,a0_19,a0_20,a0_21,a0_22,a0_23,a0_24,a0_25,a0_26,a0_27,a0_28,a0_29,a0_30,a0_31],_=>by kernel_rfl
theorem ent45:En Tryz.prog 45:=enters Tryz.func45 (by kernel_rfl) rfl
theorem w_cNext {bag:(List UInt8)→Option (List UInt8)} {head:List UInt8} {view:Int} {c:T_api_Call} {q1:Option Nat} {cs3:List Value} {w0 w:World} {l:List HP} (hl2:(head).length=32) {r:(List UInt8)×((List UInt8)→Option (List UInt8))×(Int×Int)×Int} (hm:cNext bag head view c=some r) (H:St w0 w (HP.row 0 (0) (icells .u32 shaStart)::HP.row 1 (0) (icells .u32 shaRounds)::HP.fm q1 hv false (rSl rByte) (fun l=>l.length=32) bag::HP.rc R_api_Call cs3 c::l)) :
  Calls Tryz.prog 15 [.map q1,.agg (bcells head).toArray,.int .u64 (view),.agg cs3.toArray].toArray w (fun e w'=>∃ v,e=.returned v∧∃ (q5:Option Nat) (p6:Option Addr) (n6:Nat) (c6:Nat) (p7:Option Addr) (n7:Nat) (c7:Nat),v=.tuple [.agg (bcells r.1).toArray,.map q5,.agg ([.int .i64 (r.2.2.1.1),.int .i64 (r.2.2.1.2),.slice p6 n6 c6,.slice p7 n7 c7]).toArray,.int .i64 (r.2.2.2)].toArray∧((r.1).length=32)∧St w0 w' (HP.mm q5 hv false (rSlN w0.heap.size rByte) (fun l=>l.length=32) r.2.1::l)):=by
 unfold cNext at hm
 refine x_enter Tryz.func15 rfl rfl rfl ?_
 intro a F
 refine sr (s_box1 wkP F rfl rfl rfl rfl rfl rfl H fun b8 w a H F=>s_boxA wkP F rfl rfl rfl rfl rfl H fun b9 w a H F=>s_boxA wkP F rfl rfl rfl rfl rfl H fun b10 w a H F=>s_allocA wkP F rfl rfl rfl agz24 rfl H fun b11 w a H F=>bb [0] F H rfl fun a F=>?_)
 replace H:=H.owNil rByte 5
 replace H:=H.owNil rStr 9
 refine s_allocA wkP F rfl rfl rfl agz58 rfl H fun b12 w a H F=>bb [0] F H rfl fun a F=>?_
 replace H:=H.nf 11 rfl
 refine nl (sr (bk [6000,5999] F H rfl ⟨rfl,plain46,rfl,(aggn agg24 ((bcells_length _).trans hl2)),trivial⟩ fun a F=>?_))
 obtain ⟨x13,ex13,hm⟩:=ob hm
 refine sd F rfl ent16 (w_cLoad hl2 ex13 (H.pm 11 [7,8,9,0,1,2,3,4,5,6,7,8,9,10] rfl:):) ?_;rintro _ w a ⟨cs14,cs15,rfl,H⟩ F
 refine bb [0,0,0,0] F H rfl fun a F=>?_
 replace H:=H.owNil rByte 5
 refine s_allocA wkP F rfl rfl rfl agz31 rfl H fun b16 w a H F=>?_
 replace H:=H.owNil R_api_Pair 129
 replace H:=H.owNil R_api_Snap 131
 replace H:=H.owNil R_api_Seat 110
 refine s_allocA wkP F rfl rfl rfl agz67 rfl H fun b17 w a H F=>s_storeA wkP F rfl rfl agg31 rfl rfl rfl H 4 rfl (H.rcLen 6 rfl) (by simp only [List.length_append,List.length_cons,List.length_nil,icells_length,bcells_length,(List.length_replicate (n:=32)),(List.length_replicate (n:=32)),(List.length_replicate (n:=32)),(List.length_replicate (n:=32))]) (H.rcFlat 6 rfl) fun w H=>s_storeA wkP F rfl rfl agg67 rfl rfl rfl H 0 rfl (H.rcLen 7 rfl) rfl (H.rcFlat 7 rfl) fun w H=>bb [0] F H rfl fun a F=>?_
 replace H:=H.nf 19 rfl
 refine nl (sq (sb [0,0] F H rfl fun a F=>?_))
 refine nl (cNm F rfl hm (fun hg18 hm=>?_) (fun hg18 hm=>?_))
 cases hm
 refine sk (ct (sr (bk [2] F H rfl ⟨fld29_2,trivial⟩ fun a F=>?_)))
 have G:=F;replace H:=rc_api_Call (H.pk 18 rfl);obtain ⟨v19,rfl,J⟩:=H;have H:=J;have F:=G;clear G J
 refine sv F rfl (y_loadA F agg27 rfl rfl (row_midE (A:=[.int .i64 (c.1),.int .u64 (c.2.1)]) (X:=v19) (w:=_) ((H.blk 13 rfl).row) (by simp only [List.length_append,List.length_cons,List.length_nil,icells_length,bcells_length])) (H.rcLen 0 rfl)) fun a F=>?_
 obtain ⟨x20,ex20,hm⟩:=ob hm
 refine sd F rfl ent42 (w_oWrite ex20 (H.pm 19 [0,0,1,2,3,4,5,6,7,8,9,10,11,12,13,14,15,16,17,18] rfl:):) ?_;rintro _ w a ⟨p21,c21,rfl,H⟩ F
 refine bb [0,0,0,0] F H rfl fun a F=>?_
 replace H:=H.nf 20 rfl
 refine nl (sr (bk [2999,14999,0] F H rfl ⟨rfl,(aggn agg67 (H.rcLen 9 rfl)),rfl,(aggn agg29 (by simp only [List.length_append,List.length_cons,List.length_nil,icells_length,bcells_length,H.rcLen 1 rfl]<;>rfl)),fld31_0,trivial⟩ fun a F=>?_))
 have G:=F;replace H:=rc_api_Record (H.pk 8 rfl);obtain ⟨v22,hl23,hl24,hl25,hl26,rfl,J⟩:=H;have H:=J;have F:=G;clear G J
 refine bk [7000,0] F H rfl ⟨rfl,plain22,trivial⟩ fun a F=>?_
 replace H:=H.mkRc (R:=R_api_Call) (cs:=[Value.int .i64 (c.1),Value.int .u64 (c.2.1)]++(v19)) (x:=(c.1,c.2.1,c.2.2)) (fun gg=>⟨[Value.int .i64 (c.1)],_,rfl,rfl,⟨[Value.int .u64 (c.2.1)],_,rfl,rfl,(gg 2 _ rfl).choose_spec⟩⟩)
 obtain ⟨x27,ex27,hm⟩:=ob hm
 refine sd F rfl ent43 (w_tDo ex27 (H.pm 21 [10,0,0,1,2,3,4,5,6,7,8,9,10,11,12,13,14,15,16,17,18,19,20] rfl:):) ?_;rintro _ w a ⟨cs28,cs29,rfl,H⟩ F
 refine bb [0,0,0,0] F H rfl fun a F=>?_
 replace H:=H.owNil R_api_Pair 129
 replace H:=H.owNil R_api_Snap 131
 replace H:=H.owNil R_api_Seat 110
 refine s_allocA wkP F rfl rfl rfl agz67 rfl H fun b30 w a H F=>?_
 replace H:=H.owNil rByte 5
 replace H:=H.owNil rStr 9
 refine s_allocA wkP F rfl rfl rfl agz58 rfl H fun b31 w a H F=>s_storeA wkP F rfl rfl agg67 rfl rfl rfl H 3 rfl (H.rcLen 7 rfl) rfl (H.rcFlat 7 rfl) fun w H=>s_storeA wkP F rfl rfl agg58 rfl rfl rfl H 0 rfl (H.rcLen 8 rfl) rfl (H.rcFlat 8 rfl) fun w H=>bb [0] F H rfl fun a F=>?_
 replace H:=H.nf 30 rfl
 refine nl (sq (sb [0,0,0] F H rfl fun a F=>?_))
 rcases spN 50 F rfl hm with ⟨hg32,hm,F⟩ | ⟨hg32,hm,F⟩
 refine bb [0,0,0,0] F H rfl fun a F=>?_
 rcases spN 54 F rfl hm with ⟨hg33,hm,F⟩ | ⟨hg33,hm,F⟩
 refine bk [0,17000,0,0] F H rfl ⟨fld31_0,rfl,plain22,trivial⟩ fun a F=>?_
 refine nl (cPm F rfl hm (fun hg34 hm=>?_) (fun hg34 hm=>?_))
 cases hm
 refine sk (ct (sr (bk [2,5] F H rfl ⟨fld29_2,fld27_5,trivial⟩ fun a F=>?_)))
 have G:=F;replace H:=rc_api_Op (H.pk 12 rfl);obtain ⟨p35,c36,rfl,J⟩:=H;have H:=J;have F:=G;clear G J
 refine bk [24007] F H rfl ⟨rfl,plain25,trivial⟩ fun a F=>?_
 obtain ⟨x37,ex37,hm⟩:=ob hm
 refine sd F rfl ent44 (w_cloneBy ex37 (H.pm 30 [0,0,1,2,3,4,5,6,7,8,9,10,11,12,13,14,15,16,17,18,19,20,21,22,23,24,25,26,27,28,29] rfl:):) ?_;rintro _ w a ⟨p38,c38,rfl,H⟩ F
 refine bk [2,5] F H rfl ⟨fld29_2,fld27_5,trivial⟩ fun a F=>s_st1 wkP F rfl rfl zero25 rfl rfl rfl rfl rfl H 25 rfl rfl fun w H=>?_
 replace H:=H.nf 31 rfl
 refine nl (sr (s_mmNew hv false (rSlN w0.heap.size rByte) (fun l=>l.length=32) wkP F rfl rfl rfl rfl H fun m39 w a H F=>sv F rfl (y_build F rfl rfl (cs:=[.map (some m39)]) (by kernel_rfl)) fun a F=>s_allocA wkP F rfl rfl rfl agz101 rfl H fun b40 w a H F=>s_storeA wkP F rfl rfl agg101 rfl rfl rfl H 0 rfl rfl rfl (fl rfl) fun w H=>?_))
 replace H:=H.nf 33 rfl
 refine nl (sr (bk [999,0,20000,0,0,28999,27999] F H rfl ⟨rfl,(aggn agg101 rfl),fld31_0,rfl,plain22,rfl,(aggn agg24 ((bcells_length _).trans hl2)),rfl,(aggn agg29 rfl),trivial⟩ fun a F=>sv F rfl (y_build F rfl rfl (cs:=[Value.int .u64 (IntKind.u64.wrap (x13.1.1+1)),Value.int .u64 (view)]++(bcells head++(bcells (List.replicate 32 0)++(bcells (List.replicate 32 0)++(bcells (List.replicate 32 0)++([Value.int .i64 (c.1),Value.int .u64 (c.2.1),Value.int .i64 (c.2.2.1),Value.string (txb (c.2.2.2.1)),Value.string (txb (c.2.2.2.2.1)),Value.int .i64 (c.2.2.2.2.2.1),Value.int .i64 (c.2.2.2.2.2.2.1),Value.slice p38 (x37).length c38])))))) (build_31_0_1_2_6 (IntKind.u64.wrap (x13.1.1+1)) view head hl2 c.1 c.2.1 c.2.2.1 c.2.2.2.1 c.2.2.2.2.1 c.2.2.2.2.2.1 c.2.2.2.2.2.2.1 p38 x37 c38)) fun a F=>bk [7999] F H rfl ⟨rfl,(aggn agg67 (H.rcLen 11 rfl)),trivial⟩ fun a F=>?_))
 replace H:=H.frzNB 2 rfl
 replace H:=H.nslSl 0 rfl
 replace H:=H.mkRc (R:=R_api_Record) (cs:=[Value.int .u64 (IntKind.u64.wrap (x13.1.1+1)),Value.int .u64 (view)]++(bcells head++(bcells (List.replicate 32 0)++(bcells (List.replicate 32 0)++(bcells (List.replicate 32 0)++([Value.int .i64 (c.1),Value.int .u64 (c.2.1),Value.int .i64 (c.2.2.1),Value.string (txb (c.2.2.2.1)),Value.string (txb (c.2.2.2.2.1)),Value.int .i64 (c.2.2.2.2.2.1),Value.int .i64 (c.2.2.2.2.2.2.1),Value.slice p38 (x37).length c38])))))) (x:=(IntKind.u64.wrap (x13.1.1+1),view,head,(List.replicate 32 0),(List.replicate 32 0),(List.replicate 32 0),(c.1,c.2.1,(c.2.2.1,c.2.2.2.1,c.2.2.2.2.1,c.2.2.2.2.2.1,c.2.2.2.2.2.2.1,x37)))) (fun gg=>⟨[Value.int .u64 (IntKind.u64.wrap (x13.1.1+1))],_,rfl,rfl,⟨[Value.int .u64 (view)],_,rfl,rfl,⟨bcells head,_,rfl,⟨rfl,hl2⟩,⟨bcells (List.replicate 32 0),_,rfl,⟨rfl,(List.length_replicate (n:=32))⟩,⟨bcells (List.replicate 32 0),_,rfl,⟨rfl,(List.length_replicate (n:=32))⟩,⟨bcells (List.replicate 32 0),_,rfl,⟨rfl,(List.length_replicate (n:=32))⟩,⟨[Value.int .i64 (c.1)],_,rfl,rfl,⟨[Value.int .u64 (c.2.1)],_,rfl,rfl,⟨[Value.int .i64 (c.2.2.1)],_,rfl,rfl,⟨[Value.string (txb (c.2.2.2.1))],_,rfl,rfl,⟨[Value.string (txb (c.2.2.2.2.1))],_,rfl,rfl,⟨[Value.int .i64 (c.2.2.2.2.2.1)],_,rfl,rfl,⟨[Value.int .i64 (c.2.2.2.2.2.2.1)],_,rfl,rfl,⟨_,_,rfl,(gg 0 _ rfl).choose_spec⟩⟩⟩⟩⟩⟩⟩⟩⟩⟩⟩⟩⟩⟩)
 obtain ⟨x41,ex41,hm⟩:=ob hm
 refine sd F rfl ent36 (w_mkWhole ex41 (H.pm 35 [32,33,4,0,13,0,1,2,3,5,6,7,8,9,10,11,12,13,14,15,16,17,18,19,20,21,22,23,24,25,26,27,28,29,30,31,32,33,34] rfl:):) ?_;rintro _ w a ⟨rfl,hl42,H⟩ F
 refine s_allocA wkP F rfl rfl rfl agz24 rfl H fun b43 w a H F=>s_storeA wkP F rfl rfl agg24 rfl rfl rfl H 0 rfl ((bcells_length _).trans hl42) ((bcells_length _).trans (List.length_replicate (n:=32))) (bcells_flat _) fun w H=>?_
 replace H:=H.nf 36 rfl
 refine nl (sr (bk [0,5000] F H rfl ⟨fld101_0,rfl,plain46,trivial⟩ fun a F=>sv F rfl (y_makeFunc F rfl rfl) fun a F=>?_))
 replace H:=O_api_Bag_s (H.pm 36 [32,0,1,2,3,4,5,6,7,8,9,10,11,12,13,14,15,16,17,18,19,20,21,22,23,24,25,26,27,28,29,30,31,33,34,35] rfl:)
 obtain ⟨x44,ex44,hm⟩:=ob hm
 refine sd F rfl ent45 (w_mapDel ex44 (H.pm 36 [2,0,35,1,3,4,5,6,7,8,9,10,11,12,13,14,15,16,17,18,19,20,21,22,23,24,25,26,27,28,29,30,31,32,33,34,35] rfl:):) ?_;rintro _ w a ⟨rfl,H⟩ F
 replace H:=H.nf 36 rfl
 refine nl (sq (mix_regionK [4,6] [] (scL [1000,1,2,3,2004,5,2006,7]) [6,8,16] H rfl rfl (by kernel_rfl) (by kernel_rfl) fun w H=>mbk [2999,0] F H rfl ⟨rfl,(aggn agg24 ((bcells_length _).trans hl42)),fld101_0,trivial⟩ fun a F=>?_))
 refine m_pure F rfl rfl rfl rfl (fun u hu=>y_load1 F plain46 rfl rfl (row_at (v:=.map (some m39)) ((hu.choose_spec.blk 0 rfl).row) rfl)) fun a F=>?_
 refine m_pure F rfl rfl rfl rfl (fun u hu=>y_loadA F agg58 rfl rfl ((hu.choose_spec.blk 1 rfl).row) (hu.choose_spec.rcLen 2 rfl)) fun a F=>?_
 refine m_heavy rfl rfl (s_storeA wkP F rfl rfl agg24 rfl rfl rfl H 30 rfl ((bcells_length _).trans hl42) ((bcells_length _).trans (List.length_replicate (n:=32))) (bcells_flat _) fun w H=>?_)
 refine lz ?_;refine ct ⟨⟨_,(H.pm 36 [6,8,16,0,1,2,3,4,5,7,9,10,11,12,13,14,15,16,17,18,19,20,21,22,23,24,25,26,27,28,29,30,31,32,33,34,35] rfl:)⟩,?_⟩
 refine mb [0] F H rfl fun a F=>m_heavy rfl rfl (s_storeA wkP F rfl rfl agg58 rfl rfl rfl H 27 rfl (H.rcLen 16 rfl) rfl (H.rcFlat 16 rfl) fun w H=>?_)
 refine lz ?_;refine ct ⟨⟨_,(H.pm 36 [6,8,16,0,1,2,3,4,5,7,9,10,11,12,13,14,15,16,17,18,19,20,21,22,23,24,25,26,27,28,29,30,31,32,33,34,35] rfl:)⟩,?_⟩
 refine mb [0] F H rfl fun a F=>m_nil (ct (wr ?_))
 have G:=F;replace H:=rc_api_Answer (H.pk 16 rfl);obtain ⟨p45,c46,p47,c48,rfl,J⟩:=H;have H:=J;have F:=G;clear G J
 cases hm
 refine x_resC4 F rfl (⟨_,rfl,agg24.run_load (H.blk 31 rfl).row ((bcells_length _).trans hl42)⟩) rfl (⟨_,rfl,agg58.run_load (H.blk 28 rfl).row rfl⟩) rfl ?_
 exact ⟨_,rfl,(some m39),p45,(x27.2.1.2.2.1).length,c46,p47,(x27.2.1.2.2.2).length,c48,rfl,hl42,(H.pm 37 [2] rfl:)⟩
 refine bb [0,0,0,0] F H rfl fun a F=>nl (cT F rfl ?_)
 cases hm
 refine bb (List.replicate 8 0) F H rfl fun a F=>nl (cT F rfl ?_)
 cases hm
theorem ent12:En Tryz.prog 12:=enters Tryz.func12 (by kernel_rfl) rfl
theorem ent15:En Tryz.prog 15:=enters Tryz.func15 (by kernel_rfl) rfl
theorem w_lSpeaks   {w0 w:World} {l:List HP}  {r:Bool} (hm:lSpeaks =some r) (H:St w0 w (HP.row 0 (0) (icells .u32 shaStart)::HP.row 1 (0) (icells .u32 shaRounds)::l)) :
  Calls Tryz.prog 5 [].toArray w (fun e w'=>∃ v,e=.returned v∧v=.bool (r)∧St w0 w' (l)):=by
 unfold lSpeaks at hm
 refine x_enter Tryz.func5 rfl rfl rfl ?_
 intro a F
 refine sb [0] F H rfl fun a F=>nl (sr ?_)
 obtain ⟨x1,ex1,hm⟩:=ob hm
 refine sd F rfl ent12 (w_cBegin ex1 (H.pm 2 [0,1,0,1] rfl:):) ?_;rintro _ w a ⟨m3,rfl,hl2,H⟩ F
 replace H:=H.mmN 0 rfl
 refine bb [0,0,0] F H rfl fun a F=>s_allocA wkP F rfl rfl rfl agz24 rfl H fun b4 w a H F=>s_storeA wkP F rfl rfl agg24 rfl rfl rfl H 0 rfl ((bcells_length _).trans hl2) ((bcells_length _).trans (List.length_replicate (n:=32))) (bcells_flat _) fun w H=>bb [0] F H rfl fun a F=>?_
 replace H:=H.nf 4 rfl
 refine nb [0] F H rfl fun a F=>sv F rfl (y_mmLen F rfl Tryz.underlying46 H 1 rfl rfl) fun a F=>bb [0] F H rfl fun a F=>nl (sr (bk [0,999] F H rfl ⟨rfl,(aggn agg24 ((bcells_length _).trans hl2)),trivial⟩ fun a F=>?_))
 replace H:=H.owNil rByte 5
 refine sv F rfl (y_build F rfl rfl (cs:=[.int .i64 (1),.string (txb ([47,97])),.string (txb ([])),.int .i64 (0),.int .i64 (0),.slice none (([]:List UInt8)).length 0]) (by kernel_rfl)) fun a F=>sv F rfl (y_build F rfl rfl (cs:=[.int .i64 (0),.int .u64 (1),.int .i64 (1),.string (txb ([47,97])),.string (txb ([])),.int .i64 (0),.int .i64 (0),.slice none (([]:List UInt8)).length 0]) (by kernel_rfl)) fun a F=>?_
 replace H:=H.frz 0 rfl
 replace H:=H.mkRc (R:=R_api_Call) (cs:=[.int .i64 (0),.int .u64 (1),.int .i64 (1),.string (txb ([47,97])),.string (txb ([])),.int .i64 (0),.int .i64 (0),.slice none (([]:List UInt8)).length 0]) (x:=(0,1,(1,[47,97],[],0,0,([]:List UInt8)))) (fun gg=>⟨[Value.int .i64 (0)],_,rfl,rfl,⟨[Value.int .u64 (1)],_,rfl,rfl,⟨[Value.int .i64 (1)],_,rfl,rfl,⟨[Value.string (txb ([47,97]))],_,rfl,rfl,⟨[Value.string (txb ([]))],_,rfl,rfl,⟨[Value.int .i64 (0)],_,rfl,rfl,⟨[Value.int .i64 (0)],_,rfl,rfl,⟨_,_,rfl,(gg 0 _ rfl).choose_spec⟩⟩⟩⟩⟩⟩⟩⟩)
 obtain ⟨x5,ex5,hm⟩:=ob hm
 have H0:=H
 refine sd F rfl ent15 (w_cNext hl2 ex5 (sealC (H.sealP 4 rfl rfl) (sealC (H.sealP 5 rfl rfl) (sealC (H.sealFm 3 rfl) (sealC (H.sealP 0 rfl rfl) (sealN _))))).st:) ?_;rintro _ w a ⟨q7,p8,n8,c8,p9,n9,c9,rfl,hl6,H⟩ F
 replace H:=H0.unsealM H;clear H0
 refine bb (List.replicate 5 0) F H rfl fun a F=>s_allocA wkP F rfl rfl rfl agz24 rfl H fun b10 w a H F=>?_
 replace H:=H.owNil rByte 5
 replace H:=H.owNil rStr 9
 refine s_allocA wkP F rfl rfl rfl agz58 rfl H fun b11 w a H F=>s_storeA wkP F rfl rfl agg24 rfl rfl rfl H 3 rfl ((bcells_length _).trans hl6) ((bcells_length _).trans (List.length_replicate (n:=32))) (bcells_flat _) fun w H=>bb [0] F H rfl fun a F=>s_storeA wkP F rfl rfl agg58 rfl rfl rfl H 0 rfl rfl rfl (fl rfl) fun w H=>bb [0] F H rfl fun a F=>?_
 replace H:=H.nf 11 rfl
 refine nl (sq (sb [0] F H rfl fun a F=>?_))
 obtain ⟨raw12,cl12,es12,hM12,hE12,H⟩:=H.moOpen 4 rfl
 refine s_rngM wkP F rfl rfl rfl Tryz.underlying46 rfl H 5 rfl rfl fun r12 w a H F=>?_
 replace H:=H.nf 13 rfl
 refine nl (xm0 13 [1,2,3,4,6,7] [2,3,4,5,9,11,12] F H hm rfl rfl (fun r26 z=>z) (fun r26 z=>HP.mm q7 hv false (rSl rByte) (fun l=>l.length=32) x5.2.1::HP.mm (some m3) hv false (rSl rByte) (fun l=>l.length=32) r26::z) (fun r26 hm=>?_) (fun r26 a w hm F H=>?_))
 refine bl ?_
 have hmM35:=hm;clear hm
 refine x_loopM es12 hmM35 (fun (s35:((List UInt8)→Option (List UInt8))) vis35 aa ww=>Fr ⟨88,[]⟩ aa [(1,.pointer (some ⟨b4,0,none⟩)),(2,.map (some m3)),(3,.int .i64 (((flen x1.2:Nat):Int))),(4,.pointer (some ⟨b10,0,none⟩)),(6,.pointer (some ⟨b11,0,none⟩)),(7,.int .i64 (x5.2.2.2)),(30,.pointer (some ⟨r12,0,none⟩))]∧St w0 ww (HP.obj r12 (mit q7 cl12 (bornsOf raw12 (vis35)))::HP.es (rSl rByte) (fun l=>l.length=32) es12 x5.2.1::HP.blk b11 ([.int .i64 (x5.2.2.1.1),.int .i64 (x5.2.2.1.2),.slice p8 n8 c8,.slice p9 n9 c9]) 58::HP.ow rStr 9 none 0 ([]:List (List UInt8))::HP.ow rByte 5 none 0 ([]:List UInt8)::HP.blk b10 (bcells x5.1) 24::HP.mo q7 raw12 cl12::HP.blk b4 (bcells x1.1) 24::HP.mm (some m3) hv false (rSl rByte) (fun l=>l.length=32) s35::HP.row 0 (0) (icells .u32 shaStart)::HP.row 1 (0) (icells .u32 shaRounds)::l)) ⟨F.sl rfl,(H.pm 13 [0,1,2,3,4,5,6,9,10,11,12] rfl:)⟩ ?_
 clear F H
 rintro s35 vis35 a w hr35 ⟨F,H⟩
 refine sr (s_nxtM wkP F rfl rfl rfl rfl rfl hM12 hr35.ok H 6 0 rfl rfl rfl (fun hall36 w a H F=>?_) (fun q36 k36 cs36 v36 hq36 hn36 w a H F=>?_))
 have hm:=elimL (hr35.done hE12 hall36 hmM35)
 refine bb [0] F H rfl fun a F=>nl (sq (cF F rfl ?_))
 refine ex (cx (cx ?_))
 replace H:=H.moMm 6 1 hM12 rfl rfl
 refine ch ?_
 cases hm
 refine ct ?_
 exact ⟨F.sl rfl,(H.pm 11 [6,8,2,3,4,5,7,9,10] rfl:)⟩
 obtain ⟨o36,hm,hs36,hx36⟩:=hr35.step hE12 hq36 hn36 hmM35
 refine bb [0] F H rfl fun a F=>nl (sq (cT F rfl (sk (ct (bl (sr ?_))))))
 obtain ⟨hk37,H⟩:=H.esEl 1 rfl hq36
 have G:=F;obtain ⟨p38,c38,rfl,H⟩:=H.rcSl 0 rfl;have F:=G;clear G
 replace H:=H.dp 1 rfl
 refine sv F rfl (y_entM (agg:=false) (ek:=hv) F rfl rfl hM12 hq36 H 7 1 rfl rfl rfl) fun a F=>bb [0,0] F H rfl fun a F=>s_allocA wkP F rfl rfl rfl agz24 rfl H fun b39 w a H F=>s_storeA wkP F rfl rfl agg24 rfl rfl rfl H 0 rfl ((bcells_length _).trans hk37) ((bcells_length _).trans (List.length_replicate (n:=32))) (bcells_flat _) fun w H=>bb [0] F H rfl fun a F=>?_
 replace H:=H.nf 13 rfl
 refine nl (rl (bk [0,999,0] F H rfl ⟨rfl,(aggn agg24 ((bcells_length _).trans hk37)),trivial⟩ fun a F=>?_))
 refine s_mmSet wkP F rfl rfl Tryz.underlying46 (keyH key24) rfl H 10 rfl rfl (k:=k36) rfl (cs:=[.slice p38 (v36).length c38]) rfl hk37 (v:=v36) (fun gg=>⟨_,_,rfl,(gg 1 _ rfl).choose_spec⟩) fun w H=>?_
 replace H:=H.nf 13 rfl
 refine lz (bn (ct ?_));cases hm
 exact ⟨_,q36,hs36 _ rfl,⟨F.sl rfl,(H.pm 13 [2,3,4,5,6,7,8,9,10,11,12] rfl:)⟩⟩
 refine ct (sr (bk [0,5999] F H rfl ⟨rfl,(aggn agg24 ((bcells_length _).trans hl6)),trivial⟩ fun a F=>?_))
 obtain ⟨x40,ex40,hm⟩:=ob hm
 replace H:=(H.pm 9 [1,0,2,3,4,5,6,7,8] rfl:).mmFm
 refine sd F rfl ent16 (w_cLoad hl6 ex40 (H.pm 9 [7,8,0,0,1,2,3,4,5,6,7,8] rfl:):) ?_;rintro _ w a ⟨cs41,cs42,rfl,H⟩ F
 refine bb [0,0,0,0] F H rfl fun a F=>?_
 replace H:=H.owNil rByte 5
 refine s_allocA wkP F rfl rfl rfl agz31 rfl H fun b43 w a H F=>?_
 replace H:=H.owNil R_api_Pair 129
 replace H:=H.owNil R_api_Snap 131
 replace H:=H.owNil R_api_Seat 110
 refine s_allocA wkP F rfl rfl rfl agz67 rfl H fun b44 w a H F=>s_storeA wkP F rfl rfl agg31 rfl rfl rfl H 4 rfl (H.rcLen 6 rfl) (by simp only [List.length_append,List.length_cons,List.length_nil,icells_length,bcells_length,(List.length_replicate (n:=32)),(List.length_replicate (n:=32)),(List.length_replicate (n:=32)),(List.length_replicate (n:=32))]) (H.rcFlat 6 rfl) fun w H=>s_storeA wkP F rfl rfl agg67 rfl rfl rfl H 0 rfl (H.rcLen 7 rfl) rfl (H.rcFlat 7 rfl) fun w H=>bb [0] F H rfl fun a F=>?_
 replace H:=H.nf 17 rfl
 refine nb [0,0,0] F H rfl fun a F=>?_
 rcases spP 48 F rfl hm with ⟨hg45,hm,F⟩ | ⟨hg45,hm,F⟩
 refine bb [0,0,0,0] F H rfl fun a F=>?_
 rcases spP 52 F rfl hm with ⟨hg46,hm,F⟩ | ⟨hg46,hm,F⟩
 refine bb [0,0,0,0] F H rfl fun a F=>?_
 rcases spP 56 F rfl hm with ⟨hg47,hm,F⟩ | ⟨hg47,hm,F⟩
 refine bk [0,10000,0,0,0] F H rfl ⟨fld58_0,rfl,plain34,trivial⟩ fun a F=>?_
 rcases spP 61 F rfl hm with ⟨hg48,hm,F⟩ | ⟨hg48,hm,F⟩
 refine bb [0,0,0,0] F H rfl fun a F=>?_
 rcases spP 65 F rfl hm with ⟨hg49,hm,F⟩ | ⟨hg49,hm,F⟩
 refine bk [0] F H rfl ⟨fld31_0,trivial⟩ fun a F=>g_onP F rfl rfl rfl rfl ?_
 have G:=F;replace H:=rc_api_Record (H.pk 6 rfl);obtain ⟨v50,hl51,hl52,hl53,hl54,rfl,J⟩:=H;have H:=J;have F:=G;clear G J
 refine bk [5000,0,0,0] F H rfl ⟨rfl,plain22,trivial⟩ fun a F=>?_
 rcases spP 70 F rfl hm with ⟨hg55,hm,F⟩ | ⟨hg55,hm,F⟩
 refine bk [1,5001,0,0,0] F H rfl ⟨fld31_1,rfl,plain22,trivial⟩ fun a F=>?_
 rcases spP 75 F rfl hm with ⟨hg56,hm,F⟩ | ⟨hg56,hm,F⟩
 refine bk [2] F H rfl ⟨fld31_2,trivial⟩ fun a F=>g_onP F rfl rfl rfl rfl (sv F rfl (y_loadA F agg24 rfl rfl (row_mid (A:=[.int .u64 (x40.1.1),.int .u64 (x40.1.2.1)]) (X:=bcells x40.1.2.2.1) (C:=bcells x40.1.2.2.2.1++(bcells x40.1.2.2.2.2.1++(bcells x40.1.2.2.2.2.2.1++(v50)))) (w:=_) ((H.blk 5 rfl).row) (by simp only [List.length_append,List.length_cons,List.length_nil,icells_length,bcells_length])) ((bcells_length _).trans hl51)) fun a F=>bk [14999] F H rfl ⟨rfl,(aggn agg24 ((bcells_length _).trans hl2)),trivial⟩ fun a F=>g_onP F rfl rfl rfl rfl (sv F rfl (y_eqlA F key24 rfl rfl rfl hl51 hl2) fun a F=>bb [0,0] F H rfl fun a F=>?_))
 rcases spP 81 F rfl hm with ⟨hg57,hm,F⟩ | ⟨hg57,hm,F⟩
 refine bk [0,0] F H rfl ⟨fld67_0,fld64_0,trivial⟩ fun a F=>g_onP F rfl rfl rfl rfl ?_
 have G:=F;replace H:=rc_api_Whole (H.pk 7 rfl);obtain ⟨u58,p59,c60,rfl,J⟩:=H;have H:=J;have F:=G;clear G J
 have G:=F;replace H:=rc_api_State (H.pk 0 rfl);obtain ⟨p61,c62,p63,c64,rfl,J⟩:=H;have H:=J;have F:=G;clear G J
 refine bk [4000,0,0,0,0] F H rfl ⟨rfl,plain61,⟨_,Tryz.underlying61⟩,trivial⟩ fun a F=>nl (wr ?_)
 cases hm
 refine x_ret1 F rfl rfl ?_
 exact ⟨_,rfl,rfl,(H.pm 19 [] rfl:)⟩
 refine bb (List.replicate 7 0) F H rfl fun a F=>nl (wr ?_)
 cases hm
 refine x_ret1 F rfl rfl ?_
 exact ⟨_,rfl,rfl,(H.pm 17 [] rfl:)⟩
 refine bb (List.replicate 13 0) F H rfl fun a F=>nl (wr ?_)
 cases hm
 refine x_ret1 F rfl rfl ?_
 exact ⟨_,rfl,rfl,(H.pm 17 [] rfl:)⟩
 refine bb (List.replicate 18 0) F H rfl fun a F=>nl (wr ?_)
 cases hm
 refine x_ret1 F rfl rfl ?_
 exact ⟨_,rfl,rfl,(H.pm 17 [] rfl:)⟩
 refine bb (List.replicate 23 0) F H rfl fun a F=>nl (wr ?_)
 cases hm
 refine x_ret1 F rfl rfl ?_
 exact ⟨_,rfl,rfl,(H.pm 17 [] rfl:)⟩
 refine bb (List.replicate 27 0) F H rfl fun a F=>nl (wr ?_)
 cases hm
 refine x_ret1 F rfl rfl ?_
 exact ⟨_,rfl,rfl,(H.pm 17 [] rfl:)⟩
 refine bb (List.replicate 32 0) F H rfl fun a F=>nl (wr ?_)
 cases hm
 refine x_ret1 F rfl rfl ?_
 exact ⟨_,rfl,rfl,(H.pm 17 [] rfl:)⟩
 refine bb (List.replicate 36 0) F H rfl fun a F=>nl (wr ?_)
 cases hm
 refine x_ret1 F rfl rfl ?_
 exact ⟨_,rfl,rfl,(H.pm 17 [] rfl:)⟩
 refine bb (List.replicate 40 0) F H rfl fun a F=>nl (wr ?_)
 cases hm
 refine x_ret1 F rfl rfl ?_
 exact ⟨_,rfl,rfl,(H.pm 17 [] rfl:)⟩
theorem ent5:En Tryz.prog 5:=enters Tryz.func5 (by kernel_rfl) rfl
theorem ent13:En Tryz.prog 13:=enters Tryz.func13 (by kernel_rfl) rfl
theorem ent14:En Tryz.prog 14:=enters Tryz.func14 (by kernel_rfl) rfl
theorem w_lBegins   {w0 w:World} {l:List HP}  {r:Bool} (hm:lBegins =some r) (H:St w0 w (HP.row 0 (0) (icells .u32 shaStart)::HP.row 1 (0) (icells .u32 shaRounds)::l)) :
  Calls Tryz.prog 4 [].toArray w (fun e w'=>∃ v,e=.returned v∧v=.bool (r)∧St w0 w' (l)):=by
 unfold lBegins at hm
 refine x_enter Tryz.func4 rfl rfl rfl ?_
 intro a F
 refine sb [0] F H rfl fun a F=>nl (sq (sr ?_))
 obtain ⟨x1,ex1,hm⟩:=ob hm
 refine sd F rfl ent5 (w_lSpeaks ex1 (H.pm 2 [0,1,0,1] rfl:):) ?_;rintro _ w a ⟨rfl,H⟩ F
 refine bb [0] F H rfl fun a F=>?_
 replace H:=H.nf 2 rfl
 refine nl (cB F rfl (fun hg2=>?_) (fun hg2=>?_))
 replace hm:=ifT hg2 hm
 refine sb [0] F H rfl fun a F=>nl (wr (tr ?_))
 cases hm
 refine x_ret1 F rfl rfl ?_
 exact ⟨_,rfl,rfl,(H.pm 2 [] rfl:)⟩
 replace hm:=ifF (nT hg2) hm
 refine sk (ct (sr ?_))
 obtain ⟨x3,ex3,hm⟩:=ob hm
 refine sd F rfl ent12 (w_cBegin ex3 (H.pm 2 [0,1,0,1] rfl:):) ?_;rintro _ w a ⟨m5,rfl,hl4,H⟩ F
 replace H:=H.mmN 0 rfl
 refine bb [0,0,0] F H rfl fun a F=>s_allocA wkP F rfl rfl rfl agz24 rfl H fun b6 w a H F=>s_storeA wkP F rfl rfl agg24 rfl rfl rfl H 0 rfl ((bcells_length _).trans hl4) ((bcells_length _).trans (List.length_replicate (n:=32))) (bcells_flat _) fun w H=>bb [0] F H rfl fun a F=>?_
 replace H:=H.nf 4 rfl
 refine nl (sr ?_)
 obtain ⟨x7,ex7,hm⟩:=ob hm
 refine sd F rfl ent13 (w_rBegin ex7 H:) ?_;rintro _ w a ⟨cs9,rfl,hl8,H⟩ F
 refine bb [0,0,0] F H rfl fun a F=>s_allocA wkP F rfl rfl rfl agz24 rfl H fun b10 w a H F=>?_
 replace H:=H.owNil (rBytesN 32) 24
 replace H:=H.owNil (rSl rByte) 25
 refine s_allocA wkP F rfl rfl rfl agz52 rfl H fun b11 w a H F=>s_storeA wkP F rfl rfl agg24 rfl rfl rfl H 3 rfl ((bcells_length _).trans hl8) ((bcells_length _).trans (List.length_replicate (n:=32))) (bcells_flat _) fun w H=>s_storeA wkP F rfl rfl agg52 rfl rfl rfl H 0 rfl (H.rcLen 4 rfl) rfl (H.rcFlat 4 rfl) fun w H=>?_
 replace H:=H.nf 9 rfl
 refine nl (sr (bk [5999,3999] F H rfl ⟨rfl,(aggn agg24 ((bcells_length _).trans hl4)),rfl,(aggn agg24 ((bcells_length _).trans hl8)),trivial⟩ fun a F=>sv F rfl (y_eqlA F key24 rfl rfl rfl hl4 hl8) fun a F=>bb [0] F H rfl fun a F=>?_))
 rcases spP 18 F rfl hm with ⟨hg12,hm,F⟩ | ⟨hg12,hm,F⟩
 refine bk [0,999] F H rfl ⟨rfl,(aggn agg52 (H.rcLen 4 rfl)),trivial⟩ fun a F=>g_onP F rfl rfl rfl rfl ?_
 replace H:=H.mmNil hv false (rSl rByte) (fun l=>l.length=32)
 obtain ⟨x13,ex13,hm⟩:=ob hm
 have H0:=H
 refine sd F rfl ent14 (w_rSameBag ex13 (sealC (H.sealFm 7 rfl) (sealC (H.sealP 5 rfl rfl) (sealC (H.sealFm 0 rfl) (sealN _)))).st:) ?_;rintro _ w a ⟨rfl,H⟩ F
 replace H:=H0.unseal0 H;clear H0
 refine bb [0,0] F H rfl fun a F=>?_
 replace H:=H.nf 10 rfl
 refine nl (wr ?_)
 cases hm
 refine x_ret1 F rfl rfl ?_
 exact ⟨_,rfl,rfl,(H.pm 10 [] rfl:)⟩
 refine bb (List.replicate 5 0) F H rfl fun a F=>nl (wr ?_)
 cases hm
 refine x_ret1 F rfl rfl ?_
 exact ⟨_,rfl,rfl,(H.pm 9 [] rfl:)⟩
end Go.Proofs.YtapllcabobickaaGreatDoor
set_option maxRecDepth 100000
set_option maxHeartbeats 4000000
namespace Go.Proofs.YtapllcabobickaaGreatDoor
open Go.RowKit Go.Tri
theorem bev {α β:Type} {x:Option α} {k:α→Option β} {b:α} {r:β} (h:x=some b) (h2:k b=some r):x.bind k=some r:=by rw [h];exact h2
theorem det1 {κ β ρ:Type} [DecidableEq κ] {m:κ→Option β} {f:List (κ×β)→Option ρ} {a:κ×β} {r:ρ} (h:Enum m [a]) (hf:f [a]=some r):detM m f=some r :=
 detM_of h fun l hl=>by rw [List.perm_singleton.1 (hl.perm h)];exact hf
theorem det2 {κ β ρ:Type} [DecidableEq κ] {m:κ→Option β} {f:List (κ×β)→Option ρ} {a b:κ×β} {r:ρ} (h:Enum m [a,b]) (hf:f [a,b]=some r) (hg:f [b,a]=some r):detM m f=some r :=
 detM_of h fun l hl=>by
  have hp:=hl.perm h
  have hlen:=hp.length_eq
  obtain ⟨x,y,rfl⟩:∃ x y,l=[x,y]:=by
   match l,hlen with
   | [x,y],_=>exact ⟨x,y,rfl⟩
  have hx:x∈[a,b]:=hp.subset (by simp)
  have hy:y∈[a,b]:=hp.subset (by simp)
  have hnd:[x,y].Nodup:=hp.symm.nodup (by
   have:=h.1
   simp only [List.map_cons,List.map_nil,List.nodup_cons,List.mem_singleton,List.not_mem_nil,not_false_eq_true,List.nodup_nil,and_true] at this ⊢
   exact fun e=>this (congrArg Prod.fst e))
  simp only [List.nodup_cons,List.mem_singleton] at hnd
  simp only [List.mem_cons,List.not_mem_nil,or_false] at hx hy
  rcases hx with rfl | rfl<;>rcases hy with rfl | rfl
  ·exact absurd rfl hnd.1
  ·exact hf
  ·exact hg
  ·exact absurd rfl hnd.1
theorem en1 {κ β:Type} [DecidableEq κ] (k:κ) (v:β):Enum (fset k v (fnil:κ→Option β)) [(k,v)]:=⟨by simp,fun j=>by
 unfold fset fnil aget;simp only [aget];by_cases h:j=k
 ·rw [if_pos h,if_pos h.symm]
 ·rw [if_neg h,if_neg (fun e=>h e.symm)]⟩
theorem en2 {κ β:Type} [DecidableEq κ] {k j:κ} {v u:β} (hn:k≠j):Enum (fset k v (fset j u (fnil:κ→Option β))) [(k,v),(j,u)]:=⟨by simp [hn],fun i=>by
 have h1:=(en1 j u).2 i
 show (if i=k then some v else fset j u fnil i)=_
 rw [h1]
 by_cases h:i=k
 ·rw [if_pos h];simp only [aget,if_pos h.symm]
 ·rw [if_neg h];show _=aget i [(k,v),(j,u)];simp only [aget,if_neg (fun e=>h e.symm:¬ k=i)]⟩
def bF0:List UInt8:=[84,0,1,0,2,110,47,0,1,100]
def hF0:List UInt8:=[208,32,64,191,70,255,202,17,251,135,228,118,188,189,67,232,103,119,39,62,101,186,137,75,235,137,238,18,167,36,206,192]
def bE:List UInt8:=[84,0,0]
def hE:List UInt8:=[11,226,244,58,110,116,228,69,211,201,61,169,133,66,90,104,30,17,120,132,36,13,30,5,161,159,70,232,130,169,17,144]
def bR0:List UInt8:=[82,0,0,0,0,0,0,0,0,0,0,0,0,0,0,0,0,0,0,0,0,0,0,0,0,0,0,0,0,0,0,0,0,0,0,0,0,0,0,0,0,0,0,0,0,0,0,0,0,208,32,64,191,70,255,202,17,251,135,228,118,188,189,67,232,103,119,39,62,101,186,137,75,235,137,238,18,167,36,206,192,11,226,244,58,110,116,228,69,211,201,61,169,133,66,90,104,30,17,120,132,36,13,30,5,161,159,70,232,130,169,17,144,11,226,244,58,110,116,228,69,211,201,61,169,133,66,90,104,30,17,120,132,36,13,30,5,161,159,70,232,130,169,17,144,0,0,0,0,0,0,0,0,0,0,0]
def h0:List UInt8:=[251,195,51,209,8,234,53,143,76,170,102,99,144,4,20,230,102,28,227,10,193,148,174,206,35,251,99,224,161,137,12,100]
def bF1:List UInt8:=[84,0,2,0,2,110,47,0,1,100,0,3,110,47,97,0,3,102,0,0]
def hF1:List UInt8:=[98,83,135,227,43,177,99,48,2,168,92,92,156,113,234,136,215,174,153,144,181,178,193,85,14,6,168,33,153,198,64,153]
def bS1:List UInt8:=[84,0,1,0,1,0,0,15,0,0,0,0,0,0,0,1,0,0,0,0,0,0,0]
def hS1:List UInt8:=[246,104,138,151,42,185,83,96,255,120,0,80,2,110,132,226,49,132,1,243,201,166,201,150,244,43,1,181,126,175,111,36]
def bR1:List UInt8:=[82,0,0,0,0,0,0,0,1,0,0,0,0,0,0,0,3,251,195,51,209,8,234,53,143,76,170,102,99,144,4,20,230,102,28,227,10,193,148,174,206,35,251,99,224,161,137,12,100,98,83,135,227,43,177,99,48,2,168,92,92,156,113,234,136,215,174,153,144,181,178,193,85,14,6,168,33,153,198,64,153,11,226,244,58,110,116,228,69,211,201,61,169,133,66,90,104,30,17,120,132,36,13,30,5,161,159,70,232,130,169,17,144,246,104,138,151,42,185,83,96,255,120,0,80,2,110,132,226,49,132,1,243,201,166,201,150,244,43,1,181,126,175,111,36,0,0,0,0,0,0,0,0,1,0,13,1,0,0,0,0,0,2,47,97,0,0,0,0]
def k1:List UInt8:=[254,67,69,142,34,156,204,123,189,28,213,143,191,143,62,94,238,255,69,13,51,101,70,57,14,163,175,219,187,159,92,52]
def opB:List UInt8:=[1,0,0,0,0,0,2,47,97,0,0,0,0]
def seB:List UInt8:=[0,0,0,0,0,0,0,1,0,0,0,0,0,0,0]
abbrev PP:=List UInt8×List UInt8
def F0:List PP:=[([110,47],[100])]
def F1:List PP:=[([110,47],[100]),([110,47,97],[102,0,0])]
noncomputable def S0:List UInt8→Option T_files_file:=fset [47] (true,[]) fnil
noncomputable def S1:List UInt8→Option T_files_file:=fset [47,97] (false,[]) S0
abbrev OP:T_api_Op:=(1,[47,97],[],0,0,[])
abbrev A0:T_api_Answer:=(0,0,[],[])
abbrev W0:T_api_Whole:=((F0,[]),[])
abbrev W1:T_api_Whole:=((F1,[]),[(0,1,A0)])
abbrev R00:T_api_Record:=(0,0,List.replicate 32 0,List.replicate 32 0,List.replicate 32 0,List.replicate 32 0,(0,0,(0,[],[],0,0,[])))
abbrev R0v:T_api_Record:=(0,0,List.replicate 32 0,hF0,hE,hE,(0,0,(0,[],[],0,0,[])))
abbrev R1v:T_api_Record:=(1,3,h0,hF1,hE,hS1,(0,1,OP))
noncomputable def Bag0:List UInt8→Option (List UInt8):=fset h0 bR0 (fset hE bE (fset hE bE (fset hF0 bF0 fnil)))
noncomputable def M1:List UInt8→Option (List UInt8):=fset k1 bR1 (fset hS1 bS1 (fset hE bE (fset hF1 bF1 fnil)))
noncomputable def More:List UInt8→Option (List UInt8):=fun k=>if (Bag0 k).isSome=true then none else M1 k
noncomputable def Bag2:List UInt8→Option (List UInt8):=fun j=>(More j).or (Bag0 j)
theorem tF0:trBuild F0=some (hF0,fset hF0 bF0 fnil,0):=by kernel_rfl
theorem tE:trBuild []=some (hE,fset hE bE fnil,0):=by kernel_rfl
theorem tF1:trBuild F1=some (hF1,fset hF1 bF1 fnil,0):=by kernel_rfl
theorem tS1:trBuild [([0],seB)]=some (hS1,fset hS1 bS1 fnil,0):=by kernel_rfl
theorem mapCopy1 (d:List UInt8→Option (List UInt8)) (k v:List UInt8):mapCopy d (fset k v fnil)=some (fset k v d):=bev (det1 (en1 k v) rfl) rfl
theorem mkTree1 {m:List UInt8→Option (List UInt8)} {P:List PP} {h b:List UInt8} (hB:trBuild P=some (h,fset h b fnil,0)):mkTree m P=some (h,fset h b m):=bev hB (bev (mapCopy1 _ _ _) rfl)
theorem ifp {α:Type} {c:Prop} [Decidable c] {t e r:α} (h:c) (k:t=r):(if c then t else e)=r:=by rw [if_pos h];exact k
theorem ifn {α:Type} {c:Prop} [Decidable c] {t e r:α} (h:¬ c) (k:e=r):(if c then t else e)=r:=by rw [if_neg h];exact k
theorem sel {α β γ:Type} {f:α→γ} {g:β→γ} {a:α} {r:γ} (h:f a=r):Sum.elim f g (.inl a)=r:=h
theorem so1 (x:PP):sortPs [x]=some [x]:=by
 unfold sortPs sortPO sortPairs
 rw [if_pos ⟨by simp,by simp⟩,List.mergeSort_singleton]
theorem srtF:sortPs F1=some F1:=by
 unfold sortPs sortPO
 rw [if_pos (by decide)]
 exact congrArg some (List.mergeSort_of_pairwise (by decide))
theorem srtG:sortPs [([110,47,97],[102,0,0]),([110,47],[100])]=some F1:=by
 unfold sortPs sortPO
 rw [if_pos (by decide)]
 refine congrArg some ?_
 have h1:=sortPairs_strict (xs:=[([110,47,97],[102,0,0]),([110,47],[100])]) (by decide)
 have h2:=sortPairs_strict (xs:=F1) (by decide)
 have e2:sortPairs F1=F1:=List.mergeSort_of_pairwise (by decide)
 rw [← e2]
 refine pairs_same h1 h2 fun k=>?_
 unfold sortPairs
 rw [List.mem_mergeSort,List.mem_mergeSort]
 unfold F1
 simp only [List.mem_cons,List.not_mem_nil,or_false]
 exact Or.comm
theorem sp0:sPairs S0=some F0:=det1 (en1 _ _) (bev (b:=Sum.inl F0) (by kernel_rfl) (sel (bev (so1 _) rfl)))
theorem ff {κ β:Type} [DecidableEq κ] (k:κ) (v u:β) (m:κ→Option β):fset k v (fset k u m)=fset k v m:=by
 funext j;unfold fset;by_cases h:j=k
 ·rw [if_pos h,if_pos h]
 ·rw [if_neg h,if_neg h,if_neg h]
theorem enS1:Enum S1 [([47,97],(false,[])),([47],(true,[]))]:=en2 (by decide)
theorem sp1:sPairs S1=some F1:=det2 enS1 (bev (b:=Sum.inl [([110,47,97],[102,0,0]),([110,47],[100])]) (by kernel_rfl) (sel (bev srtG rfl))) (bev (b:=Sum.inl F1) (by kernel_rfl) (sel (bev srtF rfl)))
theorem sn0:sSound S0=some true:=det1 (en1 _ _) (by kernel_rfl)
theorem sn1:sSound S1=some true:=det2 enS1 (by kernel_rfl) (by kernel_rfl)
theorem rd0:fRead F0=some S0:=bev (b:=S0) (by kernel_rfl) (det1 (en1 _ _) (by kernel_rfl))
theorem rd1:fRead F1=some S1:=by
 have h:fRead F1=some (fset [47,97] (false,[]) S1):=bev (b:=S1) (by kernel_rfl) (det2 enS1 (by kernel_rfl) (by kernel_rfl))
 rw [h];exact congrArg some (ff _ _ _ _)
theorem fc0:fCheck F0=some 0:=bev rd0 (bev sn0 (bev sp0 (by kernel_rfl)))
theorem fc1:fCheck F1=some 0:=bev rd1 (bev sn1 (bev sp1 (by kernel_rfl)))
theorem nc0:nCheck (F0,[])=some 0:=bev fc0 (by kernel_rfl)
theorem nc1:nCheck (F1,[])=some 0:=bev fc1 (by kernel_rfl)
theorem tc0:tCheck W0=some 0:=bev nc0 (by kernel_rfl)
theorem tc1:tCheck W1=some 0:=bev nc1 (by kernel_rfl)
theorem rec0:cRecord Bag0 h0=some (R0v,0):=by kernel_rfl
theorem al0:ldTree (Bag0,0) hF0=some (F0,0):=by kernel_rfl
theorem alE:ldTree (Bag0,0) hE=some ([],0):=by kernel_rfl
theorem ld0:cLoad Bag0 h0=some (R0v,W0,0):=bev rec0 (ifp rfl (bev al0 (bev alE (bev (b:=()) (by kernel_rfl) (bev alE (bev (b:=(0,[])) (by kernel_rfl) (bev tc0 (by kernel_rfl))))))))
theorem fd:fDo F0 OP=some (F1,A0):=bev rd0 (bev (b:=S0) rfl (bev (b:=(A0,S1)) (by kernel_rfl) (ifp rfl (bev sp1 (by kernel_rfl)))))
theorem nd:nDo (F0,[]) OP 1=some ((F1,[]),A0):=bev (b:=(F0,[])) (by kernel_rfl) (bev (b:=((F1,[]),A0,(F0,[]))) (bev (b:=false) (by kernel_rfl) (ifn (by decide) (ifn (by decide) (bev fd (by kernel_rfl))))) (by kernel_rfl))
theorem td:tDo W0 (0,1,OP) 1=some (W1,A0,0):=bev (b:=true) (by kernel_rfl) (ifn (by decide) (bev (b:=(0,A0)) (by kernel_rfl) (ifp rfl (bev nd (by kernel_rfl)))))
theorem wh0:mkWhole fnil R00 W0=some (h0,Bag0):=bev (b:=()) (by kernel_rfl) (bev (b:=[]) (by kernel_rfl) (bev (mkTree1 tF0) (bev (mkTree1 tE) (bev (mkTree1 tE) (bev (b:=(bR0,0)) (by kernel_rfl) (bev (b:=h0) (by kernel_rfl) rfl))))))
theorem wh1:mkWhole fnil (1,3,h0,List.replicate 32 0,List.replicate 32 0,List.replicate 32 0,(0,1,OP)) W1=some (k1,M1):=bev (b:=()) (by kernel_rfl) (bev (b:=[([0],seB)]) (by kernel_rfl) (bev (mkTree1 tF1) (bev (mkTree1 tE) (bev (mkTree1 tS1) (bev (b:=(bR1,0)) (by kernel_rfl) (bev (b:=k1) (by kernel_rfl) rfl))))))
theorem nw:tNew=some W0:=bev (bev (bev sp0 rfl) rfl) rfl
theorem beg:cBegin=some (h0,Bag0):=bev nw (bev wh0 rfl)
theorem nxt:cNext Bag0 h0 3 (0,1,OP)=some (k1,More,(0,0),0):=bev ld0 (ifp rfl (bev (b:=(opB,0)) (by kernel_rfl) (bev td (ifp rfl (ifp rfl (ifn (by decide) (bev (b:=[]) (by kernel_rfl) (bev wh1 (bev rfl rfl)))))))))
theorem fold_over {κ β:Type} [DecidableEq κ]:∀ (l:List (κ×β)) (d:κ→Option β),(l.map (·.1)).Nodup→foldO (ρ:=κ→Option β) (fun s x=>some (.inl (fset x.1 x.2 s))) d l=some (.inl fun j=>(aget j l).or (d j))
 | [],d,_=>rfl
 | x::xs,d,h=>by
  rw [List.map_cons,List.nodup_cons] at h
  show foldO _ (fset x.1 x.2 d) xs=_
  rw [fold_over xs _ h.2]
  refine congrArg (fun z=>some (Sum.inl z)) (funext fun j=>?_)
  simp only [aget]
  by_cases e:x.1=j
  ·subst e
   rw [if_pos rfl,aget_none h.1]
   show fset x.1 x.2 d x.1=_
   unfold fset;rw [if_pos rfl];rfl
  ·rw [if_neg e]
   unfold fset;rw [if_neg fun h=>e h.symm]
theorem en_fset {κ β:Type} [DecidableEq κ] {m:κ→Option β} {l:List (κ×β)} (h:Enum m l) (k:κ) (v:β) (hn:m k=none):Enum (fset k v m) ((k,v)::l):=by
 refine ⟨?_,fun j=>?_⟩
 ·rw [List.map_cons,List.nodup_cons]
  refine ⟨fun hm=>?_,h.1⟩
  obtain ⟨p,hp,rfl⟩:=List.mem_map.1 hm
  rw [h.2,aget_of_mem h.1 hp] at hn;cases hn
 ·simp only [aget];unfold fset
  by_cases e:j=k
  ·rw [if_pos e,if_pos e.symm]
  ·rw [if_neg e,if_neg (fun h=>e h.symm)];exact h.2 j
theorem en_not {κ β:Type} [DecidableEq κ] {m:κ→Option β} {l:List (κ×β)} (p:κ→Bool) (h:Enum m l):Enum (fun k=>if p k=true then none else m k) (l.filter fun x=>!p x.1):=⟨(List.filter_sublist.map _).nodup h.1,fun j=>by
 have hs:(l.filter fun x=>!p x.1).Sublist l:=List.filter_sublist
 show (if p j=true then none else m j)=_
 cases hp:p j with
 | true =>
  rw [if_pos rfl,aget_none]
  intro hm
  obtain ⟨x,hx,rfl⟩:=List.mem_map.1 hm
  have:=(List.mem_filter.1 hx).2
  rw [hp] at this;cases this
 | false =>
  rw [if_neg (by decide),h.2]
  cases ha:aget j l with
  | none =>
   rw [aget_none]
   intro hm
   obtain ⟨x,hx,rfl⟩:=List.mem_map.1 hm
   rw [aget_of_mem h.1 (hs.subset hx)] at ha;cases ha
  | some v =>
   exact (aget_of_mem ((hs.map _).nodup h.1) (List.mem_filter.2 ⟨aget_mem' ha,by rw [hp];rfl⟩)).symm⟩
theorem enB0:Enum Bag0 [(h0,bR0),(hE,bE),(hF0,bF0)]:=by
 unfold Bag0
 rw [ff]
 exact en_fset (en_fset (en1 _ _) _ _ (by kernel_rfl)) _ _ (by kernel_rfl)
theorem enM1:Enum M1 [(k1,bR1),(hS1,bS1),(hE,bE),(hF1,bF1)]:=en_fset (en_fset (en_fset (en1 _ _) _ _ (by kernel_rfl)) _ _ (by kernel_rfl)) _ _ (by kernel_rfl)
theorem enMore:Enum More ([(k1,bR1),(hS1,bS1),(hE,bE),(hF1,bF1)].filter fun x=>!(Bag0 x.1).isSome):=en_not (fun k=>(Bag0 k).isSome) enM1
theorem ovr {f:List (List UInt8×List UInt8)→Option (List UInt8→Option (List UInt8))} (hf:∀ l,f l=(foldO (ρ:=List UInt8→Option (List UInt8)) (fun s x=>some (.inl (fset x.1 x.2 s))) Bag0 l).bind (Sum.elim (fun s=>some s) some)):detM More f=some Bag2 :=
 detM_of enMore fun l hl=>by
  rw [hf,fold_over l _ hl.1]
  refine congrArg some (funext fun j=>?_)
  show (aget j l).or (Bag0 j)=_
  rw [← hl.2];rfl
theorem rec1:cRecord Bag2 k1=some (R1v,0):=by kernel_rfl
theorem al1:ldTree (Bag2,0) hF1=some (F1,0):=by kernel_rfl
theorem alE1:ldTree (Bag2,0) hE=some ([],0):=by kernel_rfl
theorem alS1:ldTree (Bag2,0) hS1=some ([([0],seB)],0):=by kernel_rfl
theorem ld1:cLoad Bag2 k1=some (R1v,W1,0):=bev rec1 (ifp rfl (bev al1 (bev alE1 (bev (b:=()) (by kernel_rfl) (bev alS1 (bev (b:=(0,[(0,1,A0)])) (by kernel_rfl) (bev tc1 (by kernel_rfl))))))))
theorem speaks_true:lSpeaks=some true:=by
 have hl:flen Bag0=3:=flen_eq enB0
 refine bev beg (bev nxt (bev (ovr fun l=>rfl) (bev ld1 ?_)))
 show (if 0<((flen Bag0:Nat):Int) then _ else _)=_
 rw [hl]
 kernel_rfl
end Go.Proofs.YtapllcabobickaaGreatDoor
set_option maxRecDepth 100000
set_option maxHeartbeats 4000000
namespace Go.Proofs.YtapllcabobickaaGreatDoor
open Go.RowKit Go.Tri
def MD:T_triremeref14_Made:=([hF0,hE,hE,h0],[bF0,bE,bE,bR0])
theorem rb:rBegin=some (h0,MD):=by kernel_rfl
theorem sb:rSameBag Bag0 MD fnil=some true:=bev (bev (b:=Sum.inl (MD,[hF0,hE,hE,h0])) (by kernel_rfl) (sel (bev (b:=[hE,hF0,h0]) (by kernel_rfl) (by
 show some (decide ((3:Int)=((flen Bag0:Nat):Int)))=some true
 rw [flen_eq enB0];rfl)))) rfl
theorem begins_true:lBegins=some true:=bev speaks_true (ifn (by decide) (bev beg (bev rb (ifp rfl (bev sb rfl)))))
end Go.Proofs.YtapllcabobickaaGreatDoor
