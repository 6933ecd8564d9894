/- Texts NdC, Tot, FilW, FdD. -/
import Derived.Test.YthcjjjnphgopjaaGreatDoorQ12
set_option linter.unusedSimpArgs false
set_option linter.unusedVariables false
namespace Go.Proofs.YthcjjjnphgopjaaGreatDoor
open Go.RowKit Go.Tri
theorem ob_run {α β:Type} {X:Option α} {K:α→Option β} {C:Option β→Prop} (Q:α→Prop) (hX:∃ a,X=some a∧Q a) (hK:∀ a,Q a→C (K a)):C (X.bind K):=by
 obtain ⟨a,rfl,h⟩:=hX
 exact hK a h
theorem u8_eq {a:UInt8} {n:Nat} (hn:n<256) (h:((a.toNat:Nat):Int)=(n:Int)):a=UInt8.ofNat n:=by
 obtain rfl:n=a.toNat:=by omega
 simp
section
variable {L:List P2} {l1 l:List Ent} {k:Nat}
theorem N2.skip (h:N2 L l1 k l) (hk:k<L.length) (hc:RF L→∀ p,cof p L[k]=none):N2 L l1 (k+1) l:=by
 refine ⟨h.sh,fun j x hx=>Nat.le_trans (h.ln j x hx) (Nat.mul_le_mul_right _ (by omega)),h.dr,fun hr j x hx=>?_⟩
 rw [h.rf hr j x hx,List.take_succ_eq_append_getElem hk,List.filterMap_append,List.filterMap_cons,hc hr]
 simp
theorem cof_else {a:UInt8} {r v p:List UInt8} (h:a≠99):cof p (a::r,v)=none:=by
 unfold cof
 simp only
 rw [if_neg (fun e=>h e.1)]
theorem rf_piece (hr:RF L) (hL:L.length≤1000) (hk:k<L.length) {r v:List UInt8} (hx:L[k]=(99::r,v)):∃ p c,r=p++[0,c]∧(p,false,[])∈L.filterMap nd1∧∀ q,cof q L[k]=if p=q then some v else none:=by
 obtain ⟨le,hk',hE,eL,hnd⟩:=rf_ent hr hL
 have hm:L[k]∈prs2 le:=by rw [← eL];exact List.getElem_mem hk
 obtain ⟨e,he,⟨h1,_⟩ | ⟨h1,c,h2⟩⟩:=ent_key hm
 ·rw [hx] at h1;simp at h1
 ·rw [hx] at h2
  simp only [List.cons.injEq,true_and] at h2
  have hn:=ent_nd he
  rw [← eL,h1] at hn
  refine ⟨e.1,c,h2,hn,fun q=>?_⟩
  rw [hx]
  unfold cof
  simp only [true_and]
  rw [h2,tw_app (okP_nz (hk'.ok e he))]
theorem rf_short (hr:RF L) (hL:L.length≤1000) (hk:k<L.length) {a:UInt8} {r v:List UInt8} (hx:L[k]=(a::r,v)) (h:r.length<2):a≠99:=fun e=>by
 subst e
 obtain ⟨p,c,e,_⟩:=rf_piece hr hL hk hx
 rw [e] at h
 simp at h
 omega
end
theorem nd1_nil {L:List P2} {j:Nat} {x:Ent} (h:(L.filterMap nd1)[j]?=some x):x.2.2=[]:=by
 obtain ⟨y,_,hy⟩:=List.mem_filterMap.1 (List.mem_of_getElem? h)
 rw [(nd1_some hy).2.2]
theorem enum_nodes {L:List P2} (hr:RF L) (hL:L.length≤1000) {l:List Ent} (h:N2 L (L.filterMap nd1) L.length l):Enum (rdF L) l:=by
 obtain ⟨le,hk',hE,eL,hnd⟩:=rf_ent hr hL
 have hkey:=shp_key h.sh
 have hn:(l.map (·.1)).Nodup:=by rw [hkey];exact nd1_keys hnd
 refine ⟨hn,fun q=>?_⟩
 cases hq:aget q l with
 | none =>
  cases hf:rdF L q with
  | none=>rfl
  | some f =>
   have hm:=(enum_mem hE).2 hf
   have h1:=ent_nd hm
   rw [← eL] at h1
   have h2:q∈l.map (·.1):=by rw [hkey];exact List.mem_map.2 ⟨_,h1,rfl⟩
   obtain ⟨y,hy,rfl⟩:=List.mem_map.1 h2
   rw [aget_of_mem hn (show (y.1,y.2)∈l from hy)] at hq
   cases hq
 | some f =>
  have hm:=aget_mem' hq
  obtain ⟨j,hj,hx⟩:=List.getElem_of_mem hm
  have hj':l[j]?=some (q,f):=by rw [List.getElem?_eq_getElem hj,hx]
  have hd:=h.rf hr j _ hj'
  rw [List.take_length] at hd
  have h3:(q,f.1)∈shp (L.filterMap nd1):=by rw [← h.sh];exact List.mem_map.2 ⟨_,hm,rfl⟩
  obtain ⟨y,hy,e⟩:=List.mem_map.1 h3
  obtain ⟨z,hz,hyz⟩:=List.mem_filterMap.1 hy
  obtain ⟨a1,_,a3⟩:=nd1_some hyz
  obtain ⟨zk,zv⟩:=z
  simp only at a1
  have e1:y.1=q:=congrArg (·.1) e
  have e2:y.2.1=f.1:=congrArg (·.2) e
  rw [a3] at e2
  simp only at e2
  subst a1
  rw [e1] at hz
  have ht:=r1_t2 q zv L (fnil,fnil) hnd hz
  unfold rdF fin2
  rw [ht,e2]
  obtain ⟨fb,fd⟩:=f
  cases fb with
  | true =>
   have:=h.dr j _ hj' rfl
   simp only at this
   rw [this]
  | false =>
   simp only at hd ⊢
   rw [r1_c q L,hd]
   simp [fnil]
theorem gd_all {L:List P2} (hr:RF L) {l:List Ent} (hE:Enum (rdF L) l) (hl:l.length≤1000000):∀ x∈l,GdN l x:=by
 intro x hx
 obtain ⟨p,f⟩:=x
 have hs:=hr.1
 have hf:=(enum_mem hE).1 hx
 refine ⟨hs.ok _ _ hf,hs.len _ _ hf,fun e=>?_,fun e=>?_⟩
 ·obtain ⟨d,hd⟩:=hs.root
  simp only at e
  rw [e,hd] at hf
  cases hf;rfl
 ·obtain ⟨d,hd⟩:=hs.up _ _ hf e
  have hm:=(enum_mem hE).2 hd
  rcases rFindO_eq l hl (par p) with ⟨_,h2⟩ | ⟨i,g,h1,h2⟩
  ·exact absurd rfl (h2 _ hm)
  ·have:=(enum_mem hE).1 (List.mem_of_getElem? h2)
   rw [hd] at this
   cases this
   exact ⟨i,d,h1,h2⟩
theorem rNodes_eq (L:List P2) (h:SmL L):∃ l b,rNodes L=some (l,b)∧l.length≤L.length∧(b=true→RF L∧(l.map (·.1)).Nodup∧Snd (fsL l)∧prsF (fsL l)=L)∧(RF L→b=true):=by
 obtain ⟨hL,hb⟩:=h
 have hl1:(L.filterMap nd1).length≤L.length:=List.length_filterMap_le _ _
 unfold rNodes
 refine bind_runP (C:=fun (o:Option (List Ent×Bool))=>∃ l b,o=some (l,b)∧l.length≤L.length∧(b=true→RF L∧(l.map (·.1)).Nodup∧Snd (fsL l)∧prsF (fsL l)=L)∧(RF L→b=true)) (fun k (q:List Ent×Int)=>q=((L.take k).filterMap nd1,(k:Int))) (fun r=>r=L.filterMap nd1) L.length rfl ?_ ?_ ?_
 ·rintro k _ hk rfl
  simp only
  rw [if_pos (by omega),idxO_get hk]
  simp only [Option.bind_some]
  have hacc:((L.take k).filterMap nd1).length≤1000:=Nat.le_trans (List.length_filterMap_le _ _) (by rw [List.length_take];omega)
  have hnx:(L.take (k+1)).filterMap nd1=(L.take k).filterMap nd1++(nd1 L[k]).toList:=by
   rw [List.take_succ_eq_append_getElem hk,List.filterMap_append]
   cases hh:nd1 L[k]<;>simp [List.filterMap_cons,hh]
  generalize (L.take k).filterMap nd1=acc at hacc hnx ⊢
  refine .inl ⟨((L.take (k+1)).filterMap nd1,((k+1:Nat):Int)),?_,rfl⟩
  obtain ⟨key,v,hx⟩:∃ key v,L[k]=(key,v):=⟨_,_,rfl⟩
  rw [hnx,hx,i64_id (by omega) (by omega)]
  simp only
  cases key with
  | nil =>
   rw [if_pos (by simp)]
   simp [nd1]
  | cons a r =>
   rw [if_neg (by simp only [List.length_cons];omega),show idxO (a::r) 0=some a from idxO_nat (i:=0) rfl]
   simp only [Option.bind_some]
   by_cases ha:a=110
   ·subst ha
    rw [if_pos (by rfl)]
    cases v with
    | nil =>
     rw [if_pos (by simp)]
     simp [nd1]
    | cons c v =>
     rw [if_neg (by simp only [List.length_cons];omega),show (1:Int)=((1:Nat):Int) from rfl,slcO_of (by simp) (Nat.le_refl _)]
     simp only [Option.bind_some,List.take_length,List.drop_succ_cons,List.drop_zero]
     rw [appO_of (by simp;omega)]
     simp [nd1]
   ·rw [if_neg (fun h=>ha (by have:=u8_eq (n:=110) (by omega) h;exact this))]
    simp [nd1,ha]
 ·rintro _ rfl
  simp only
  rw [if_neg (by omega),List.take_length]
  exact ⟨_,rfl,rfl⟩
 rintro _ rfl
 refine bind_runP (C:=fun (o:Option (List Ent×Bool))=>∃ l b,o=some (l,b)∧l.length≤L.length∧(b=true→RF L∧(l.map (·.1)).Nodup∧Snd (fsL l)∧prsF (fsL l)=L)∧(RF L→b=true)) (fun k (q:List Ent×Int)=>q.2=(k:Int)∧N2 L (L.filterMap nd1) k q.1) (fun (r:List Ent ⊕ (List Ent×Bool))=>(∃ l,r=.inl l∧N2 L (L.filterMap nd1) L.length l)∨∃ l,r=.inr (l,false)∧l.length≤L.length∧¬ RF L) L.length (s0:=((L.filterMap nd1,0):List Ent×Int)) ⟨rfl,rfl,fun j x hx=>by rw [nd1_nil hx];simp,fun j x hx _=>nd1_nil hx,fun _ j x hx=>by rw [nd1_nil hx];simp⟩ ?_ ?_ ?_
 ·rintro k ⟨l,i⟩ hk ⟨h1,h2⟩
  simp only at h1 h2
  subst h1
  have hll:l.length≤L.length:=by
   have:=congrArg List.length h2.sh
   unfold shp at this
   simp only [List.length_map] at this;omega
  simp only
  rw [if_pos (by omega),idxO_get hk]
  simp only [Option.bind_some]
  refine ob_run (C:=fun (o:Option ((List Ent×Int) ⊕ (List Ent ⊕ (List Ent×Bool))))=>(∃ s',o=some (Sum.inl s')∧(s'.2=((k+1:Nat):Int)∧N2 L (L.filterMap nd1) (k+1) s'.1))∨∃ r,o=some (Sum.inr r)∧((∃ l,r=.inl l∧N2 L (L.filterMap nd1) L.length l)∨∃ l,r=.inr (l,false)∧l.length≤L.length∧¬ RF L)) (fun (o:List Ent ⊕ (List Ent×Bool))=>(∃ l',o=.inl l'∧N2 L (L.filterMap nd1) (k+1) l')∨∃ l',o=.inr (l',false)∧l'.length≤L.length∧¬ RF L) ?_ ?_
  ·obtain ⟨key,v,hx⟩:∃ key v,L[k]=(key,v):=⟨_,_,rfl⟩
   have hbx:=hb _ (List.getElem_mem hk)
   rw [hx] at hbx
   simp only at hbx
   have hskip:(RF L→∀ p,cof p (key,v)=none)→N2 L (L.filterMap nd1) (k+1) l:=fun hc=>h2.skip hk (by rw [hx];exact hc)
   rw [hx]
   simp only
   by_cases h3:(key.length:Int)<3
   ·rw [if_pos h3]
    refine ⟨_,rfl,.inl ⟨l,rfl,hskip fun hr p=>?_⟩⟩
    cases key with
    | nil=>rfl
    | cons a r=>exact cof_else (rf_short hr hL hk hx (by simp only [List.length_cons] at h3;omega))
   rw [if_neg h3]
   cases key with
   | nil=>simp at h3
   | cons a r =>
    rw [show idxO (a::r) 0=some a from idxO_nat (i:=0) rfl]
    simp only [Option.bind_some]
    by_cases ha:a=99
    case neg =>
     rw [if_neg (fun h=>ha (by have:=u8_eq (n:=99) (by omega) h;exact this))]
     exact ⟨_,rfl,.inl ⟨l,rfl,hskip fun _ p=>cof_else ha⟩⟩
    subst ha
    simp only [List.length_cons] at h3 hbx
    rw [if_pos (by rfl),i64_id (by simp only [List.length_cons];omega) (by simp only [List.length_cons];omega),show (1:Int)=((1:Nat):Int) from rfl,show ((99::r).length:Int) - 2=((r.length - 1:Nat):Int) by simp only [List.length_cons];omega,slcO_of (by omega) (by simp only [List.length_cons];omega)]
    simp only [Option.bind_some]
    generalize hpp:List.drop 1 (List.take (r.length - 1) (99::r))=p
    have hpr:RF L→∃ c,r=p++[0,c]∧(p,false,[])∈L.filterMap nd1∧∀ q,cof q L[k]=if p=q then some v else none:=fun hr=>by
     obtain ⟨p',c,e,e2,e3⟩:=rf_piece hr hL hk hx
     have:p=p':=by
      rw [← hpp,e]
      simp
     rw [this]
     exact ⟨c,e,e2,e3⟩
    have hpm:RF L→∃ x∈l,x.1=p∧x.2.1=false:=fun hr=>by
     obtain ⟨c,_,e2,_⟩:=hpr hr
     have:(p,false)∈shp l:=by rw [h2.sh];exact List.mem_map.2 ⟨_,e2,rfl⟩
     obtain ⟨x,hx,e⟩:=List.mem_map.1 this
     exact ⟨x,hx,congrArg (·.1) e,congrArg (·.2) e⟩
    have hnd:RF L→(l.map (·.1)).Nodup:=fun hr=>by
     rw [shp_key h2.sh]
     obtain ⟨_,_,_,_,h⟩:=rf_ent hr hL
     exact nd1_keys h
    rcases rFindO_eq l (by omega) p with ⟨e,hne⟩ | ⟨i,f,e,hi⟩
    ·rw [e]
     simp only [Option.bind_some]
     rw [if_pos (by omega)]
     refine ⟨_,rfl,.inr ⟨l,rfl,hll,fun hr=>?_⟩⟩
     obtain ⟨x,hx,e,_⟩:=hpm hr
     exact hne x hx e
    ·have hfi:RF L→f.1=false:=fun hr=>by
      obtain ⟨x,hx,e1,e2⟩:=hpm hr
      obtain ⟨j,hj,hxj⟩:=List.getElem_of_mem hx
      have hj':l[j]?=some x:=by rw [List.getElem?_eq_getElem hj,hxj]
      have:=(idx_key (hnd hr) hi hj' e1.symm).2
      rw [← this] at e2;exact e2
     rw [e]
     simp only [Option.bind_some]
     rw [if_neg (by omega),idxO_nat hi]
     simp only [Option.bind_some]
     obtain ⟨fb,fd⟩:=f
     simp only at hfi ⊢
     have hln:=h2.ln i _ hi
     simp only at hln
     cases fb with
     | true =>
      rw [if_pos rfl]
      exact ⟨_,rfl,.inr ⟨l,rfl,hll,fun hr=>by have:=hfi hr;cases this⟩⟩
     | false =>
      have hfd:fd.length≤1000 * 10000:=Nat.le_trans hln (Nat.mul_le_mul_right 10000 (show k≤1000 by omega))
      simp only [Nat.reduceMul] at hfd
      have ha1:([]:List UInt8).length+fd.length≤100000000:=by clear hln h2;simp only [List.length_nil];omega
      have ha2:fd.length+v.length≤100000000:=by clear hln h2;omega
      rw [if_neg (by simp),appO_of (Nat.le_trans ha1 (by decide))]
      simp only [Option.bind_some,List.nil_append]
      rw [appO_of (Nat.le_trans ha2 (by decide))]
      simp only [Option.bind_some,Int.toNat_natCast]
      have hil:=(List.getElem?_eq_some_iff.1 hi).1
      have hx0:=(List.getElem?_eq_some_iff.1 hi).2
      refine ⟨_,rfl,.inl ⟨_,rfl,?_,fun j x hj=>?_,fun j x hj hd=>?_,fun hr j x hj=>?_⟩⟩
      ·rw [← h2.sh]
       unfold shp
       rw [List.map_set]
       apply List.ext_getElem?
       intro j
       rw [List.getElem?_set]
       by_cases ej:i=j
       ·subst ej
        rw [if_pos rfl,if_pos (by simpa using hil),List.getElem?_map,hi];rfl
       ·rw [if_neg ej]
      ·rw [List.getElem?_set] at hj
       by_cases ej:i=j
       ·rw [if_pos ej,if_pos hil] at hj
        cases hj
        have hv:(fd++v).length≤k * 10000+10000:=by rw [List.length_append];exact Nat.add_le_add hln hbx.2
        exact Nat.le_trans hv (Nat.le_of_eq (Nat.succ_mul k 10000).symm)
       ·rw [if_neg ej] at hj
        exact Nat.le_trans (h2.ln j x hj) (Nat.mul_le_mul_right _ (by omega))
      ·rw [List.getElem?_set] at hj
       by_cases ej:i=j
       ·rw [if_pos ej,if_pos hil] at hj
        cases hj
        cases hd
       ·rw [if_neg ej] at hj
        exact h2.dr j x hj hd
      ·obtain ⟨c,_,_,e3⟩:=hpr hr
       rw [List.take_succ_eq_append_getElem hk,List.filterMap_append,List.filterMap_cons,e3 x.1]
       rw [List.getElem?_set] at hj
       by_cases ej:i=j
       ·rw [if_pos ej,if_pos hil] at hj
        cases hj
        have:=h2.rf hr i _ hi
        simp only at this
        simp only [if_true]
        rw [this];simp
       ·rw [if_neg ej] at hj
        have hne:p≠x.1:=fun e=>ej (idx_key (hnd hr) hi hj e).1
        rw [if_neg hne,h2.rf hr j x hj];simp
  ·rintro _ (⟨l',rfl,h⟩ | ⟨l',rfl,h,h'⟩)
   ·refine .inl ⟨(l',_),rfl,?_,h⟩
    simp only
    rw [i64_id (by omega) (by omega)];rfl
   ·exact .inr ⟨_,rfl,.inr ⟨l',rfl,h,h'⟩⟩
 ·rintro ⟨l,i⟩ ⟨h1,h2⟩
  simp only at h1 h2
  subst h1
  simp only
  rw [if_neg (by omega)]
  exact ⟨_,rfl,.inl ⟨l,rfl,h2⟩⟩
 rintro _ (⟨l,rfl,h2⟩ | ⟨l,rfl,h3,h4⟩)
 case inr=>exact ⟨l,false,rfl,h3,(fun h=>by cases h),fun hr=>absurd hr h4⟩
 have hll:l.length≤L.length:=by
  have:=congrArg List.length h2.sh
  unfold shp at this
  simp only [List.length_map] at this;omega
 simp only [Sum.elim_inl]
 refine bind_runP (C:=fun (o:Option (List Ent×Bool))=>∃ l b,o=some (l,b)∧l.length≤L.length∧(b=true→RF L∧(l.map (·.1)).Nodup∧Snd (fsL l)∧prsF (fsL l)=L)∧(RF L→b=true)) (fun k (t:Int)=>t=(k:Int)∧∀ (j:Nat) x,l[j]?=some x→j<k→GdN l x) (fun (r:Unit ⊕ (List Ent×Bool))=>(r=.inl ()∧∀ x∈l,GdN l x)∨(r=.inr (l,false)∧∃ x∈l,¬ GdN l x)) l.length ⟨rfl,fun j x _ h=>by omega⟩ ?_ ?_ ?_
 ·rintro k _ hk ⟨rfl,hg⟩
  rw [if_pos (by omega),idxO_get hk]
  simp only [Option.bind_some]
  rw [rRight_eq]
  simp only [Option.bind_some]
  have hmk:=List.getElem_mem hk
  have hxk:l[k]?=some l[k]:=List.getElem?_eq_getElem hk
  generalize l[k]=x at hmk hxk ⊢
  refine ob_run (C:=fun (o:Option (Int ⊕ (Unit ⊕ (List Ent×Bool))))=>(∃ s',o=some (Sum.inl s')∧(s'=((k+1:Nat):Int)∧∀ (j:Nat) x,l[j]?=some x→j<k+1→GdN l x))∨∃ r,o=some (Sum.inr r)∧((r=.inl ()∧∀ x∈l,GdN l x)∨(r=.inr (l,false)∧∃ x∈l,¬ GdN l x))) (fun (o:Unit ⊕ (List Ent×Bool))=>(o=.inl ()∧GdN l x)∨(o=.inr (l,false)∧¬ GdN l x)) ?_ ?_
  ·cases hok:okP x.1 with
   | false =>
    rw [if_pos (by rfl)]
    exact ⟨_,rfl,.inr ⟨rfl,fun h=>by have:=h.1;rw [hok] at this;cases this⟩⟩
   | true =>
    rw [if_neg (by simp)]
    by_cases h192:192<(x.2.2.length:Int)
    ·rw [if_pos h192]
     exact ⟨_,rfl,.inr ⟨rfl,fun h=>by have:=h.2.1;omega⟩⟩
    rw [if_neg h192]
    by_cases hroot:x.1=[47]
    ·rw [if_pos hroot]
     cases hd:x.2.1 with
     | false =>
      rw [if_pos (by rfl)]
      exact ⟨_,rfl,.inr ⟨rfl,fun h=>by have:=h.2.2.1 hroot;rw [hd] at this;cases this⟩⟩
     | true =>
      rw [if_neg (by simp)]
      exact ⟨_,rfl,.inl ⟨rfl,hok,by omega,fun _=>hd,fun h=>absurd hroot h⟩⟩
    rw [if_neg hroot,rParent_eq]
    simp only [Option.bind_some]
    rcases rFindO_eq l (by omega) (par x.1) with ⟨e,hne⟩ | ⟨i,f,e,hi⟩
    ·rw [e]
     simp only [Option.bind_some]
     rw [if_pos (by omega)]
     refine ⟨_,rfl,.inr ⟨rfl,fun h=>?_⟩⟩
     obtain ⟨i,d,h1,_⟩:=h.2.2.2 hroot
     rw [e] at h1
     cases h1
    ·rw [e]
     simp only [Option.bind_some]
     rw [if_neg (by omega),idxO_nat hi]
     simp only [Option.bind_some]
     obtain ⟨fb,fd⟩:=f
     cases fb with
     | false =>
      rw [if_pos (by rfl)]
      refine ⟨_,rfl,.inr ⟨rfl,fun h=>?_⟩⟩
      obtain ⟨i',d,h1,h3⟩:=h.2.2.2 hroot
      rw [e] at h1
      have:i=i':=by have:=Option.some.inj h1;omega
      subst this
      rw [hi] at h3
      cases h3
     | true =>
      rw [if_neg (by simp)]
      exact ⟨_,rfl,.inl ⟨rfl,hok,by omega,fun h=>absurd h hroot,fun _=>⟨i,fd,e,hi⟩⟩⟩
  ·rintro _ (⟨rfl,h⟩ | ⟨rfl,h⟩)
   ·refine .inl ⟨_,rfl,?_,fun j y hj hjk=>?_⟩
    ·rw [i64_id (by omega) (by omega)];rfl
    ·by_cases e:j=k
     ·subst e
      rw [hxk] at hj
      cases hj;exact h
     ·exact hg j y hj (by omega)
   ·exact .inr ⟨_,rfl,.inr ⟨rfl,x,hmk,h⟩⟩
 ·rintro _ ⟨rfl,hg⟩
  rw [if_neg (by omega)]
  refine ⟨_,rfl,.inl ⟨rfl,fun x hx=>?_⟩⟩
  obtain ⟨j,hj,rfl⟩:=List.getElem_of_mem hx
  exact hg j _ (List.getElem?_eq_getElem hj) hj
 rintro _ (⟨rfl,hg⟩ | ⟨rfl,x,hx,hg⟩)
 case inr=>exact ⟨l,false,rfl,hll,(fun h=>by cases h),fun hr=>absurd (gd_all hr (enum_nodes hr hL h2) (by omega) x hx) hg⟩
 simp only [Sum.elim_inl]
 rcases rFindO_eq l (by omega) [47] with ⟨e,hne⟩ | ⟨i,f,e,hi⟩
 ·rw [e]
  simp only [Option.bind_some]
  rw [if_neg (by omega)]
  refine ⟨l,false,rfl,hll,(fun h=>by cases h),fun hr=>?_⟩
  obtain ⟨d,hd⟩:=hr.1.root
  exact absurd rfl (hne _ ((enum_mem (enum_nodes hr hL h2)).2 hd))
 rw [e]
 simp only [Option.bind_some]
 rw [if_pos (by omega)]
 obtain ⟨b,hb1,hb2⟩:=rRising_eq L (by omega)
 rw [hb1]
 simp only [Option.bind_some]
 cases b with
 | false =>
  rw [if_neg (by simp)]
  exact ⟨l,false,rfl,hll,(fun h=>by cases h),fun hr=>by have:=hb2.2 (rf_rise hr hL);cases this⟩
 | true =>
  rw [if_pos rfl]
  have hnd:(l.map (·.1)).Nodup:=by rw [shp_key h2.sh];exact nd1_keys (rise_nd (hb2.1 rfl))
  have hE:Enum (fsL l) l:=⟨hnd,fun _=>rfl⟩
  have hs:Snd (fsL l):=by
   have hmem:∀ p f,fsL l p=some f→(p,f)∈l:=fun p f h=>(enum_mem hE).2 h
   refine ⟨?_,fun p f h=>(hg _ (hmem p f h)).1,fun p f h=>(hg _ (hmem p f h)).2.1,fun p d h=>?_,fun p f h hp=>?_⟩
   ·obtain ⟨fb,fd⟩:=f
    have:=(hg _ (List.mem_of_getElem? hi)).2.2.1 rfl
    simp only at this
    subst this
    exact ⟨fd,(enum_mem hE).1 (List.mem_of_getElem? hi)⟩
   ·obtain ⟨j,hj,hx⟩:=List.getElem_of_mem (hmem p _ h)
    exact h2.dr j (p,true,d) (by rw [List.getElem?_eq_getElem hj,hx]) rfl
   ·obtain ⟨i',d,_,h3⟩:=(hg _ (hmem p f h)).2.2.2 hp
    exact ⟨d,(enum_mem hE).1 (List.mem_of_getElem? h3)⟩
  have hc:Crd (fsL l) 1000:=⟨l,hE,by omega⟩
  have hbk:=hs.prs hc (by omega)
  rw [rPairs_of hs hE (by omega)]
  simp only [Option.bind_some]
  rw [samePairs_eq _ _ (by have:=hbk.2.2.1;omega)]
  simp only [Option.bind_some]
  refine ⟨l,_,rfl,hll,fun h=>?_,fun hr=>decide_eq_true ?_⟩
  ·have e:=of_decide_eq_true h
   have e2:rdF L=fsL l:=by rw [← e];exact hbk.2.1
   exact ⟨⟨by rw [e2];exact hs,by rw [e2];exact e⟩,hnd,hs,e⟩
  ·have e2:rdF L=fsL l:=funext fun p=>(enum_nodes hr hL h2).2 p
   rw [← e2];exact hr.2
structure Wk (s:FS) (n:Nat):Prop where
 crd:Crd s n
 key:∀ p f,s p=some f→p.length≤10000∧f.2.length≤10000
section
variable {s:FS} {n:Nat}
theorem Wk.mono (h:Wk s n) {m:Nat} (hm:n≤m):Wk s m:=⟨h.crd.mono hm,h.key⟩
theorem Wk.blB (h:Wk s n) (hn:n≤100000):BlB s:=by
 obtain ⟨l,hE,hl⟩:=h.crd
 intro p
 have h1:=below_eq hE (by omega) (fun x hx=>by have:=(h.key x.1 x.2 ((enum_mem hE).1 hx)).1;omega) p
 have h2:bl s p=blL l p:=by unfold bl;rw [h1];rfl
 refine ⟨by rw [h1,h2],?_⟩
 rw [h2]
 unfold blL
 rw [(List.mergeSort_perm _ tle).length_eq,List.length_map]
 have:=List.length_filter_le (inD p) l
 omega
theorem Wk.pairs (h:Wk s n) (hn:n≤10000):∃ L,sPairs s=some L∧L.length≤190 * n:=by
 obtain ⟨l,hE,hl⟩:=h.crd
 have hk:∀ x∈l,x.1.length≤10000∧x.2.2.length≤10000:=fun x hx=>h.key x.1 x.2 ((enum_mem hE).1 hx)
 refine ⟨_,sPairs_eqW hE (by omega) (fun x hx=>by have:=hk x hx;omega) fun l' h1 h2=>?_,?_⟩
 ·have:=flat_lenW (l:=l') fun x hx=>by have:=hk x (h2 x hx);omega
  omega
 ·unfold prs2 sortPairs
  rw [(List.mergeSort_perm _ leP).length_eq]
  have:=flat_lenW (l:=l) fun x hx=>by have:=hk x hx;omega
  omega
theorem Wk.set (h:Wk s n) {p:List UInt8} {f:Bool×List UInt8} (hp:p.length≤10000) (hf:f.2.length≤10000):Wk (fset p f s) (n+1):=by
 refine ⟨h.crd.set p f,fun q g hq=>?_⟩
 unfold fset at hq
 split at hq
 ·rename_i e
  cases hq
  rw [e];exact ⟨hp,hf⟩
 ·exact h.key q g hq
theorem Wk.del (h:Wk s n) (p:List UInt8):Wk (fdel p s) n:=by
 refine ⟨h.crd.del p,fun q g hq=>?_⟩
 unfold fdel at hq
 split at hq
 ·cases hq
 ·exact h.key q g hq
theorem dedup {α:Type} [DecidableEq α]:∀ ks:List α,∃ l:List α,l.Nodup∧(∀ q∈ks,q∈l)∧l.length≤ks.length
 | []=>⟨[],List.nodup_nil,fun q h=>h,Nat.le_refl _⟩
 | x::ks=>by
  obtain ⟨l,h1,h2,h3⟩:=dedup ks
  by_cases hx:x∈l
  ·exact ⟨l,h1,fun q hq=>by rcases List.mem_cons.1 hq with rfl | hq;exact hx;exact h2 q hq,by simp only [List.length_cons];omega⟩
  ·exact ⟨x::l,List.nodup_cons.2 ⟨hx,h1⟩,fun q hq=>by
    rcases List.mem_cons.1 hq with rfl | hq
    ·exact List.mem_cons_self
    ·exact List.mem_cons_of_mem _ (h2 q hq),by simp only [List.length_cons];omega⟩
theorem crd_of {β:Type} {m:List UInt8→Option β} (ks:List (List UInt8)) (h:∀ q,(m q).isSome=true→q∈ks):Crd m ks.length:=by
 obtain ⟨l,h1,h2,h3⟩:=dedup ks
 obtain ⟨l2,h4,h5⟩:=enum_of (m:=m) (l.filter fun q=>(m q).isSome) _ (h1.filter _) fun q=>by
  rw [List.mem_filter]
  exact ⟨fun h=>h.2,fun hq=>⟨h2 q (h q hq),hq⟩⟩
 refine ⟨l2,h4,?_⟩
 have h6:=congrArg List.length h5
 rw [List.length_map] at h6
 have:=List.length_filter_le (fun q=>(m q).isSome) l
 omega
theorem Wk.ren (h:Wk s n) {F T:List UInt8} (hT:okP T=true) (hb:¬ badR s F T):Wk (rnG s F T) (n+n):=by
 have hle:∀ p,(s p).isSome=true→wthn F p=true→(mvP F T p).length≤24:=fun p hp hw=>by
  obtain ⟨f,hf⟩:=Option.isSome_iff_exists.1 hp
  by_cases h24:(mvP F T p).length≤24
  ·exact h24
  ·exact absurd ⟨p,f,hf,hw,by omega⟩ hb
 obtain ⟨l,hE,hl⟩:=h.crd
 refine ⟨?_,fun q g hq=>?_⟩
 ·refine (crd_of ((l.map (·.1))++(l.map fun x=>mvP F T x.1)) fun q hq=>?_).mono (by simp;omega)
  rw [List.mem_append]
  unfold rnG at hq
  split at hq
  ·cases hq
  ·split at hq
   ·rename_i h2
    unfold rnM at h2
    split at h2
    ·rename_i h3
     obtain ⟨f,hf⟩:=Option.isSome_iff_exists.1 h3.1
     exact .inr (List.mem_map.2 ⟨_,(enum_mem hE).2 hf,Option.some.inj h2⟩)
    ·cases h2
   ·obtain ⟨f,hf⟩:=Option.isSome_iff_exists.1 hq
    exact .inl (List.mem_map.2 ⟨_,(enum_mem hE).2 hf,rfl⟩)
 ·unfold rnG at hq
  split at hq
  ·cases hq
  ·split at hq
   ·rename_i h2
    unfold rnM at h2
    split at h2
    ·rename_i h3
     have h4:=hle _ h3.1 h3.2
     rw [Option.some.inj h2] at h4
     obtain ⟨f,hf⟩:=Option.isSome_iff_exists.1 h3.1
     rw [hf] at hq
     cases hq
     exact ⟨by omega,(h.key _ _ hf).2⟩
    ·cases h2
   ·exact h.key q g hq
theorem Wk.wr (h:Wk s n) {o:Opr} (hk:o.1=3∨o.1=4):Wk (wr s o).2 (n+1):=by
 have hw:Wk s (n+1):=h.mono (by omega)
 obtain ⟨k,p,t,off,m,d⟩:=o
 simp only at hk
 unfold Go.Proofs.YthcjjjnphgopjaaGreatDoor.wr
 simp only
 by_cases h0:(rg s p).2=0
 ·obtain ⟨fd,e1,e2⟩:=rg_ok h0
  have hfd:=(h.key _ _ e1)
  simp only at hfd
  rw [if_pos h0,e2]
  simp only
  rcases hk with rfl | rfl
  ·simp only [if_true,true_and]
   by_cases a1:off<0
   ·rw [if_pos a1];exact hw
   rw [if_neg a1]
   by_cases a2:192<off∨192<off+(d.length:Int)
   ·rw [if_pos a2];exact hw
   rw [if_neg a2,if_neg (by decide)]
   simp only
   by_cases a3:0<d.length
   ·rw [if_pos a3]
    refine h.set hfd.1 ?_
    have hz:(szd fd (max fd.length (off.toNat+d.length))).length=max fd.length (off.toNat+d.length):=szd_len _ _
    have:(putAt (szd fd (max fd.length (off.toNat+d.length))) off.toNat d).length=max fd.length (off.toNat+d.length):=by
     simp only [putAt,List.length_append,List.length_take,List.length_drop,hz];omega
    simp only
    rw [this];omega
   ·rw [if_neg a3];exact hw
  ·simp only [show ¬ ((4:Int)=3) by decide,if_false,false_and,or_false,if_true]
   by_cases a1:m<0
   ·rw [if_pos a1];exact hw
   rw [if_neg a1]
   by_cases a2:192<m
   ·rw [if_pos a2];exact hw
   rw [if_neg a2]
   refine h.set hfd.1 ?_
   simp only
   rw [szd_len];omega
 ·rw [if_neg h0];exact hw
theorem do_tot (h:Wk s n) (hn:n≤100000) (o:Opr) (ho:OpOk o):∃ a s',sDo s o=some (a,s')∧Wk s' (n+n+1):=by
 have hB:=h.blB hn
 have hw:Wk s (n+n+1):=h.mono (by omega)
 obtain ⟨hp,ht,hd⟩:=ho
 obtain ⟨k,p,t,off,m,d⟩:=o
 simp only at hp ht hd
 unfold sDo
 simp only
 have hlen:∀ q f,s q=some f→f.2.length≤100000:=fun q f hq=>by have:=(h.key q f hq).2;omega
 by_cases h12:k=1∨k=2
 ·have h1:(if k=1 then (some (decide (k=1))) else some (decide (k=2)))=some true:=by
   rcases h12 with h | h<;>subst h<;>rfl
  rw [h1]
  simp only [Option.bind_some,if_true]
  rw [room_eq s p (by omega)]
  simp only [Option.bind_some]
  by_cases h0:rm s p=0
  ·rw [if_pos h0]
   have:=(okP_pth (rm_ok h0).1).2.2
   exact ⟨_,_,rfl,(h.set (by omega) (by simp)).mono (by omega)⟩
  ·rw [if_neg h0]
   exact ⟨_,_,rfl,hw⟩
 ·have h1:(if k=1 then (some (decide (k=1))) else some (decide (k=2)))=some false:=by
   rw [if_neg (fun h=>h12 (.inl h)),decide_eq_false (fun h=>h12 (.inr h))]
  rw [h1]
  simp only [Option.bind_some,Bool.false_eq_true,if_false]
  by_cases h34:k=3∨k=4
  ·have h1:(if k=3 then (some (decide (k=3))) else some (decide (k=4)))=some true:=by
    rcases h34 with h | h<;>subst h<;>rfl
   rw [h1]
   simp only [Option.bind_some,if_true]
   rw [write_eq s (k,p,t,off,m,d) h34 (by simp only;omega) (by simp only;omega) hlen]
   simp only [Option.bind_some]
   exact ⟨_,_,rfl,(h.wr h34).mono (by omega)⟩
  ·have h1:(if k=3 then (some (decide (k=3))) else some (decide (k=4)))=some false:=by
    rw [if_neg (fun h=>h34 (.inl h)),decide_eq_false (fun h=>h34 (.inr h))]
   rw [h1]
   simp only [Option.bind_some,Bool.false_eq_true,if_false]
   by_cases h5:k=5
   ·rw [if_pos h5,readA_eq s _ (by simp only;omega) hlen]
    exact ⟨_,_,rfl,hw⟩
   ·rw [if_neg h5]
    by_cases h6:k=6
    ·rw [if_pos h6,rename_eqW (fun q f hq=>by have:=(h.key q f hq).1;omega) h.crd _ (by simp only;omega) (by simp only;omega)]
     simp only [Option.bind_some]
     refine ⟨_,_,rfl,?_⟩
     unfold rnW
     split
     ·split
      ·split
       ·split
        ·exact hw
        ·split
         ·exact hw
         ·split
          ·split
           ·exact hw
           ·rename_i hT _ _ _ _ hb
            exact (h.ren hT hb).mono (by omega)
          ·exact hw
       ·exact hw
      ·exact hw
     ·exact hw
    ·rw [if_neg h6]
     by_cases h7:k=7
     ·rw [if_pos h7,remove_eq hB p (by omega)]
      simp only [Option.bind_some]
      refine ⟨_,_,rfl,?_⟩
      unfold rv
      split
      ·split
       ·exact hw
       ·split
        ·exact hw
        ·exact (h.del p).mono (by omega)
      ·exact hw
     ·rw [if_neg h7]
      by_cases h8:k=8
      ·rw [if_pos h8,list_eq hB _ (by simp only;omega)]
       exact ⟨_,_,rfl,hw⟩
      ·rw [if_neg h8]
       by_cases h9:k=9
       ·rw [if_pos h9,stat_eq hB _ (by omega)]
        exact ⟨_,_,rfl,hw⟩
       ·rw [if_neg h9]
        exact ⟨_,_,rfl,hw⟩
end
def SmT (L:List P2):Prop:=L.length≤1000∧(L.map fun x=>x.1.length+x.2.length).sum≤8000
theorem sum_len {L:List P2} {x:P2} (h:x∈L):x.1.length+x.2.length≤(L.map fun x=>x.1.length+x.2.length).sum:=by
 induction L with
 | nil=>cases h
 | cons y L ih =>
  simp only [List.map_cons,List.sum_cons]
  rcases List.mem_cons.1 h with rfl | h
  ·omega
  ·have:=ih h;omega
theorem cof_len (p:List UInt8):∀ L:List P2,(L.filterMap (cof p)).flatten.length≤(L.map fun x=>x.1.length+x.2.length).sum
 | []=>by simp
 | x::L=>by
  have ih:=cof_len p L
  rw [List.filterMap_cons]
  simp only [List.map_cons,List.sum_cons]
  split
  ·omega
  ·rename_i y hy
   have:y=x.2:=by
    unfold cof at hy
    split at hy
    ·cases hy
    ·split at hy
     ·exact (Option.some.inj hy).symm
     ·cases hy
   rw [List.flatten_cons,List.length_append,this];omega
theorem rd_key:∀ (L:List P2) (s:CS×FS) (p:List UInt8),((L.foldl r1 s).2 p).isSome=true→(s.2 p).isSome=true∨∃ x∈L,x.1=110::p
 | [],s,p,h=>.inl h
 | x::L,s,p,h=>by
  rw [List.foldl_cons] at h
  rcases rd_key L _ p h with h1 | ⟨y,hy,e⟩
  ·obtain ⟨k,v⟩:=x
   unfold r1 at h1
   split at h1
   ·exact .inl h1
   ·split at h1
    ·exact .inl h1
    ·split at h1
     ·rename_i a r e1 _ h110
      simp only at e1
      simp only [fset] at h1
      split at h1
      ·rename_i e2
       exact .inr ⟨(k,v),List.mem_cons_self,by simp only;rw [e1,h110,e2]⟩
      ·exact .inl h1
     ·exact .inl h1
  ·exact .inr ⟨y,List.mem_cons_of_mem _ hy,e⟩
theorem rd_dat:∀ (L:List P2) (s:CS×FS),(∀ p f,s.2 p=some f→f.2=[])→∀ p f,(L.foldl r1 s).2 p=some f→f.2=[]
 | [],s,h=>h
 | x::L,s,h=>by
  rw [List.foldl_cons]
  refine rd_dat L _ fun p f hp=>?_
  unfold r1 at hp
  split at hp
  ·exact h p f hp
  ·split at hp
   ·exact h p f hp
   ·split at hp
    ·simp only [fset] at hp
     split at hp
     ·cases hp;rfl
     ·exact h p f hp
    ·exact h p f hp
theorem rd_wk {L:List P2} (h:SmT L):Wk (rdF L) L.length:=by
 refine ⟨rdF_crd L,fun p f hf=>?_⟩
 have hs:((L.foldl r1 (fnil,fnil)).2 p).isSome=true:=by
  unfold rdF fin2 at hf
  split at hf
  ·rename_i e;rw [e];rfl
  ·rw [hf];rfl
 rcases rd_key L _ p hs with h1 | ⟨x,hx,e⟩
 ·simp [fnil] at h1
 ·have h1:=sum_len hx
  have h2:=h.2
  rw [e] at h1
  simp only [List.length_cons] at h1
  refine ⟨by omega,?_⟩
  unfold rdF fin2 at hf
  split at hf
  ·cases hf
   simp only
   rw [r1_c p L]
   have:=cof_len p L
   simp only [fnil,Option.getD_none,List.nil_append];omega
  ·have:=rd_dat L (fnil,fnil) (fun p f h=>by simp [fnil] at h) p f hf
   rw [this];simp
theorem fDo_tot {L:List P2} (h:SmT L) (o:Opr) (ho:OpOk o):∃ L' a,fDo L o=some (L',a)∧L'.length≤500000:=by
 have hb:=h.2
 have hw:=rd_wk h
 have hL:=h.1
 unfold fDo
 rw [fRead_eq L (by omega) (fun x hx=>by have:=sum_len hx;omega)]
 simp only [Option.bind_some,mClone]
 obtain ⟨a,s',e,h1⟩:=do_tot hw (by omega) o ho
 rw [e]
 simp only [Option.bind_some]
 obtain ⟨L1,e1,l1⟩:=hw.pairs (by omega)
 obtain ⟨L2,e2,l2⟩:=h1.pairs (by omega)
 by_cases h0:a.1=0
 ·rw [if_pos h0,e2]
  exact ⟨_,_,rfl,by omega⟩
 ·rw [if_neg h0,e1]
  exact ⟨_,_,rfl,by omega⟩
theorem great_sum (L:List P2):rGreat L=some true∨(rGreat L=some false∧SmT L):=by
 unfold rGreat
 have hin:∀ k (hk:k<L.length),((L.take (k+1)).map fun x=>x.1.length+x.2.length).sum=((L.take k).map fun x=>x.1.length+x.2.length).sum+(L[k].1.length+L[k].2.length):=fun k hk=>by
  rw [List.take_succ_eq_append_getElem hk]
  simp only [List.map_append,List.map_cons,List.map_nil,List.sum_append,List.sum_cons,List.sum_nil];omega
 refine bind_runP (C:=fun o=>o=some true∨(o=some false∧SmT L)) (fun k (s:Int×Int)=>s.2=(k:Int)∧s.1=8 * (k:Int)+(((L.take k).map fun x=>x.1.length+x.2.length).sum:Nat)∧s.1≤30000∧k≤1001∧k≤L.length) (fun r=>r=.inr true∨(∃ n:Int,r=.inl n∧(8000<n∨SmT L))) (min L.length 1002) ⟨rfl,by simp,by omega,by omega,by omega⟩ ?_ ?_ ?_
 ·rintro k ⟨n,i⟩ hk ⟨h1,h2,h3,h3',h4⟩
  simp only at h1 h2 h3
  subst h1
  simp only
  have hkl:k<L.length:=by omega
  rw [if_pos (by omega)]
  by_cases h6:n≤8000
  ·rw [if_pos h6]
   simp only [idxO_get hkl,Option.bind_some]
   by_cases h7:8000<(L[k].1.length:Int)
   ·rw [if_pos h7];exact .inr ⟨_,rfl,.inl rfl⟩
   ·rw [if_neg h7]
    by_cases h8:8000<(L[k].2.length:Int)
    ·rw [if_pos h8];exact .inr ⟨_,rfl,.inl rfl⟩
    ·rw [if_neg h8]
     rw [i64_id (n:=8+(L[k].1.length:Int)) (by omega) (by omega),i64_id (n:=8+(L[k].1.length:Int)+(L[k].2.length:Int)) (by omega) (by omega),i64_id (n:=n+(8+(L[k].1.length:Int)+(L[k].2.length:Int))) (by omega) (by omega),i64_id (n:=(k:Int)+1) (by omega) (by omega)]
     refine .inl ⟨_,rfl,rfl,?_,?_,?_,?_⟩
     ·simp only
      rw [hin k hkl];omega
     ·simp only;omega
     ·omega
     ·omega
  ·rw [if_neg h6]
   exact .inr ⟨_,rfl,.inr ⟨n,rfl,.inl (by omega)⟩⟩
 ·rintro ⟨n,i⟩ ⟨h1,h2,h3,h3',h4⟩
  simp only at h1 h2 h3
  subst h1
  simp only
  by_cases h0:L.length≤1001
  ·rw [if_neg (by omega)]
   refine ⟨_,rfl,.inr ⟨n,rfl,?_⟩⟩
   rw [Nat.min_eq_left (by omega),List.take_length] at h2
   by_cases h8:8000<n
   ·exact .inl h8
   ·exact .inr ⟨by omega,by omega⟩
  ·omega
 ·rintro _ (rfl | ⟨n,rfl,h | h⟩)
  ·exact .inl rfl
  ·exact .inl (by simp only [Sum.elim_inl];rw [decide_eq_true h])
  ·by_cases h8:8000<n
   ·exact .inl (by simp only [Sum.elim_inl];rw [decide_eq_true h8])
   ·exact .inr ⟨by simp only [Sum.elim_inl];rw [decide_eq_false h8],h⟩
def sA:List UInt8:=[47,97]
def sB:List UInt8:=[47,97,47,98]
def s01:FS:=fset sA (true,[]) s00
def s02:FS:=fset sB (false,[]) s01
def s03:FS:=fset sB (false,[0,0,120,121]) s02
theorem lk01:rm s00 sA=0:=by decide +kernel
theorem lk02:rm s01 sB=0:=by decide +kernel
theorem lk03:rg s02 sB=((false,[]),0):=by decide +kernel
theorem lk04:rg s03 sB=((false,[0,0,120,121]),0):=by decide +kernel
theorem lk05:lk s03 [47]=((true,[]),0):=by decide +kernel
theorem lk06:lk s03 sA=((true,[]),0):=by decide +kernel
theorem speaks_eq:lSpeaks=some true:=by
 have k1:Snd s01:=s00_snd.create lk01 true
 have c1:Crd s01 2:=s00_crd.set _ _
 have k2:Snd s02:=k1.create lk02 false
 have c2:Crd s02 3:=c1.set _ _
 have k3:Snd s03:=k2.write (p:=sB) (d:=[]) rfl (by simp)
 have c3:Crd s03 4:=c2.set _ _
 have d1:doP s00 (2,sA,[],0,0,[])=((0,0,[],[]),s01):=by
  unfold doP;simp only [lk01];rfl
 have d2:doP s01 (1,sB,[],0,0,[])=((0,0,[],[]),s02):=by
  unfold doP;simp only [lk02];rfl
 have d3:doP s02 (3,sB,[],2,0,[120,121])=((0,2,[],[]),s03):=by
  unfold doP wr;simp only [lk03];rfl
 have d4:(doP s03 (5,sB,[],0,9,[])).1=(0,4,[0,0,120,121],[]):=by
  unfold doP rdA;simp only [lk04];rfl
 have hB:=k3.below c3 (by omega)
 have hm:∀ q f,s03 q=some f→q=sB∨q=sA∨q=[47]:=fun q f hq=>by
  unfold s03 s02 s01 s00 fset fnil at hq
  split at hq
  ·rename_i e;exact .inl e
  ·split at hq
   ·rename_i e;exact .inr (.inl e)
   ·split at hq
    ·rename_i e;exact .inr (.inr e)
    ·cases hq
 have hpB:par sB=sA:=by decide +kernel
 have hpA:par sA=[47]:=by decide +kernel
 have hbA:bas sA=[97]:=by decide +kernel
 have bl1:bl s03 [47]=[[97]]:=by
  have h1:∀ x,x∈bl s03 [47]↔x=[97]:=fun x=>by
   rw [(hB [47]).mem]
   constructor
   ·rintro ⟨q,f,h1,h2,h3,rfl⟩
    rcases hm q f h1 with rfl | rfl | rfl
    ·rw [hpB] at h3;exact absurd h3 (by decide)
    ·exact hbA
    ·exact absurd rfl h2
   ·rintro rfl
    exact ⟨sA,(true,[]),rfl,by decide,hpA,hbA⟩
  have hn:=(hB [47]).nd
  have h2:(bl s03 [47]).Perm [[97]]:=(List.perm_ext_iff_of_nodup hn (by simp)).2 fun x=>by rw [h1];simp
  exact List.perm_singleton.1 h2
 have bl2:0<(bl s03 sA).length:=List.length_pos_of_mem (((hB sA).mem (bas sB)).2 ⟨sB,(false,[0,0,120,121]),rfl,by decide,hpB,rfl⟩)
 have d5:(doP s03 (8,[47],[],0,0,[])).1=(0,1,[],[[97]]):=by
  unfold doP ls;simp only [lk05,bl1];rfl
 have d6:(doP s03 (7,sA,[],0,0,[])).1=(95,0,[],[]):=by
  unfold doP rv;simp only [lk06,if_pos bl2];rfl
 have n1:nx s00 (2,sA,[],0,0,[])=s01:=by unfold nx;rw [d1];rfl
 have n2:nx s01 (1,sB,[],0,0,[])=s02:=by unfold nx;rw [d2];rfl
 have n3:nx s02 (3,sB,[],2,0,[120,121])=s03:=by unfold nx;rw [d3];rfl
 unfold lSpeaks
 rw [fNew_eq]
 simp only [Option.bind_some]
 rw [show ([47,97]:List UInt8)=sA from rfl,show ([47,97,47,98]:List UInt8)=sB from rfl,fDo_eq s00_snd s00_crd (by omega) _ (opOk (by decide) (by decide) (by decide)),n1]
 simp only [Option.bind_some]
 rw [fDo_eq k1 c1 (by omega) _ (opOk (by decide) (by decide) (by decide)),n2,show u8O 120=some 120 from rfl,show u8O 121=some 121 from rfl]
 simp only [Option.bind_some]
 rw [fDo_eq k2 c2 (by omega) _ (opOk (by decide) (by decide) (by decide)),n3]
 simp only [Option.bind_some]
 rw [fDo_eq k3 c3 (by omega) _ (opOk (by decide) (by decide) (by decide)),fDo_eq k3 c3 (by omega) _ (opOk (by decide) (by decide) (by decide)),fDo_eq k3 c3 (by omega) _ (opOk (by decide) (by decide) (by decide))]
 simp only [Option.bind_some,d1,d2,d3,d4,d5,d6]
 rfl
noncomputable def ndsL (L:List P2):List Ent:=((rNodes L).getD ([],false)).1
noncomputable def ndsB (L:List P2):Bool:=((rNodes L).getD ([],false)).2
theorem nds_eq {L:List P2} (h:SmL L):rNodes L=some (ndsL L,ndsB L):=by
 obtain ⟨l,b,e,_⟩:=rNodes_eq L h
 unfold ndsL ndsB
 rw [e];rfl
theorem nds_ok {L:List P2} (h:SmL L):(ndsB L=true↔RF L)∧(ndsL L).length≤L.length∧(RF L→NdL (ndsL L)∧prL (ndsL L)=L):=by
 obtain ⟨l,b,e,h1,h2,h3⟩:=rNodes_eq L h
 have e1:ndsL L=l:=by unfold ndsL;rw [e];rfl
 have e2:ndsB L=b:=by unfold ndsB;rw [e];rfl
 rw [e1,e2]
 refine ⟨⟨fun hb=>(h2 hb).1,h3⟩,h1,fun hr=>?_⟩
 obtain ⟨_,a1,a2,a3⟩:=h2 (h3 hr)
 exact ⟨⟨a1,a2,by have:=h.1;omega⟩,a3⟩
theorem gr_eq (L:List P2) (o:Opr):lGreat L o=some true∨(lGreat L o=some false∧SmL L∧SmT L∧L.length≤60∧o.2.1.length≤400∧o.2.2.1.length≤400∧o.2.2.2.2.2.length≤400):=by
 unfold lGreat
 rcases great_sum L with h | ⟨h,hT⟩
 ·rw [h];exact .inl rfl
 rcases great_eq L with h' | ⟨_,hb⟩
 ·rw [h] at h';cases h'
 rw [h]
 simp only [Option.bind_some,Bool.false_eq_true,if_false]
 by_cases h60:60<(L.length:Int)
 ·rw [if_pos h60];exact .inl rfl
 rw [if_neg h60]
 rcases greatOp_eq o with g | ⟨g,g1,g2,g3⟩
 ·rw [g];exact .inl rfl
 rw [g]
 exact .inr ⟨rfl,⟨by omega,fun x hx=>by have:=hb x hx;omega⟩,hT,by omega,g1,g2,g3⟩
theorem does_true (L:List P2) (o:Opr):lDoes L o=some true:=by
 unfold lDoes
 rw [speaks_eq]
 simp only [Option.bind_some,Bool.not_true,Bool.false_eq_true,if_false]
 rcases gr_eq L o with h | ⟨h,hs,hT,h60,g1,g2,g3⟩
 ·rw [h];rfl
 rw [h]
 simp only [Option.bind_some,Bool.false_eq_true,if_false]
 have hok:=opOk g1 g2 g3
 rw [copyPairs_eq L hs,copyOp_eq o (by omega),nds_eq hs]
 simp only [Option.bind_some]
 obtain ⟨e1,e2,e3⟩:=nds_ok hs
 obtain ⟨L',a,e4,_⟩:=fDo_tot hT o hok
 rcases fCheck_iff L hs with ⟨h1,hr⟩ | ⟨h1,hr⟩
 ·have hb:=e1.2 hr
  obtain ⟨m1,m2⟩:=e3 hr
  have hc:Crd (fsL (ndsL L)) 60:=⟨ndsL L,m1.enum,by omega⟩
  rw [h1,hb]
  simp only [Option.bind_some]
  rw [if_pos (by rfl)]
  have hL:L=prsF (fsL (ndsL L)):=m2.symm
  have hd:fDo L o=some (prsF (nx (fsL (ndsL L)) o),(doP (fsL (ndsL L)) o).1):=by
   conv=>lhs;rw [hL]
   exact fDo_eq m1.sn hc (by omega) o hok
  rw [hd]
  simp only [Option.bind_some,Bool.not_true,Bool.false_eq_true,if_false]
  obtain ⟨l',k1,k2,k3⟩:=rDo_eq m1.sn m1.enum (by omega) o (by omega)
  rw [k1]
  simp only [Option.bind_some]
  have hnm:=doP_names m1.sn hc (by omega) o
  obtain ⟨n1,n2⟩:=nx_ok m1.sn hc (by omega) o
  have hc2:Crd (nx (fsL (ndsL L)) o) 61:=⟨l',k2,by omega⟩
  have hlen:=(n1.prs hc2 (by omega)).2.2.1
  rw [sameAns_eq _ _ (by omega),decide_eq_true rfl]
  simp only [Option.bind_some,Bool.not_true,Bool.false_eq_true,if_false]
  rw [rPairs_of n1 k2 (by omega)]
  simp only [Option.bind_some]
  rw [samePairs_eq _ _ (by omega),decide_eq_true rfl]
  simp only [Option.bind_some,Bool.not_true,Bool.false_eq_true,if_false]
  rw [samePairs_eq _ _ (by omega),decide_eq_true rfl]
  simp only [Option.bind_some,Bool.not_true,Bool.false_eq_true,if_false]
  rw [sameOp_eq,decide_eq_true rfl];rfl
 ·have hb:ndsB L=false:=by
   cases hh:ndsB L with
   | false=>rfl
   | true=>exact absurd (e1.1 hh) hr
  rw [h1,hb,e4]
  simp only [Option.bind_some]
  rw [if_pos (by rfl)];rfl
end Go.Proofs.YthcjjjnphgopjaaGreatDoor
