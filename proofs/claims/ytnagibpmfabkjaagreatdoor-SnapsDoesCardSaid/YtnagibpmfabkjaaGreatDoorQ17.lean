/- Texts NodB, Tot, TotS, SdD. -/
import Derived.Test.YtnagibpmfabkjaaGreatDoorQ16
import Derived.Test.YtnagibpmfabkjaaGreatDoorQ15
set_option linter.unusedSimpArgs false
set_option linter.unusedVariables false
namespace Go.Proofs.YtnagibpmfabkjaaGreatDoor
open Go.RowKit Go.Tri
theorem aE6 {α β:Type} {X:Option α} {K:α->Option β} {C:Option β->Prop} (Q:α->Prop) (hX:∃ a,X=some a/\Q a) (hK:∀ a,Q a->C (K a)):C (X.bind K):=by
 obtain ⟨a,rfl,h⟩:=hX;exact hK a h
theorem aCr {a:UInt8} {n:Nat} (hn:n<256) (h:((a.toNat:Nat):Int)=(n:Int)):a=UInt8.ofNat n:=by
 obtain rfl:n=a.toNat:=by omega
 simp
section
variable {L:List P2} {l1 l:List Ent} {k:Nat}
theorem N2.skip (h:N2 L l1 k l) (hk:k<L.length) (hc:RF L->∀ p,cof p L[k]=none):N2 L l1 (k+1) l:=by
 refine ⟨h.sh,fun j x hx=>Nat.le_trans (h.ln j x hx) (Nat.mul_le_mul_right _ (by omega)),h.dr,fun hr j x hx=>?_⟩;rw [h.rf hr j x hx,List.take_succ_eq_append_getElem hk,List.filterMap_append,List.filterMap_cons,hc hr];simp
theorem aGj {a:UInt8} {r v p:List UInt8} (h:a≠99):cof p (a::r,v)=none:=by
 unfold cof;simp only;rw [if_neg (fun e=>h e.1)]
theorem aE2 (hr:RF L) (hL:L.length<=1000) (hk:k<L.length) {r v:List UInt8} (hx:L[k]=(99::r,v)):∃ p c,r=p++[0,c]/\(p,false,[])∈L.filterMap nd1/\∀ q,cof q L[k]=if p=q then some v else none:=by
 obtain ⟨le,hk',hE,eL,hnd⟩:=wC hr hL;have hm:L[k]∈dT le:=by rw [<- eL];exact List.getElem_mem hk
 obtain ⟨e,he,⟨h1,_⟩ | ⟨h1,c,h2⟩⟩:=aLn hm
 ·rw [hx] at h1;simp at h1
 ·rw [hx] at h2;simp only [List.cons.injEq,true_and] at h2;have hn:=aF6 he;rw [<- eL,h1] at hn;refine ⟨e.1,c,h2,hn,fun q=>?_⟩;rw [hx];unfold cof;simp only [true_and];rw [h2,zW (xT (hk'.ok e he))]
theorem aKv (hr:RF L) (hL:L.length<=1000) (hk:k<L.length) {a:UInt8} {r v:List UInt8} (hx:L[k]=(a::r,v)) (h:r.length<2):a≠99:=fun e=>by
 subst e;obtain ⟨p,c,e,_⟩:=aE2 hr hL hk hx;rw [e] at h;simp at h;omega
end
theorem xY {L:List P2} {j:Nat} {x:Ent} (h:(L.filterMap nd1)[j]?=some x):x.2.2=[]:=by
 obtain ⟨y,_,hy⟩:=List.mem_filterMap.1 (List.mem_of_getElem? h);rw [(uI hy).2.2]
theorem wW {L:List P2} (hr:RF L) (hL:L.length<=1000) {l:List Ent} (h:N2 L (L.filterMap nd1) L.length l):Enum (rdF L) l:=by
 obtain ⟨le,hk',hE,eL,hnd⟩:=wC hr hL;have hkey:=wP h.sh;have hn:(l.map (·.1)).Nodup:=by rw [hkey];exact tM hnd
 refine ⟨hn,fun q=>?_⟩;cases hq:bG q l with
 | none =>
  cases hf:rdF L q with
  | none=>rfl
  | some f =>
   have hm:=(bQ hE).2 hf;have h1:=aF6 hm;rw [<- eL] at h1;have h2:q∈l.map (·.1):=by rw [hkey];exact List.mem_map.2 ⟨_,h1,rfl⟩
   obtain ⟨y,hy,rfl⟩:=List.mem_map.1 h2;rw [eB hn (show (y.1,y.2)∈l from hy)] at hq;cases hq
 | some f =>
  have hm:=fY hq;obtain ⟨j,hj,hx⟩:=List.getElem_of_mem hm;have hj':l[j]?=some (q,f):=by rw [List.getElem?_eq_getElem hj,hx]
  have hd:=h.rf hr j _ hj';rw [List.take_length] at hd;have h3:(q,f.1)∈shp (L.filterMap nd1):=by rw [<- h.sh];exact List.mem_map.2 ⟨_,hm,rfl⟩
  obtain ⟨y,hy,e⟩:=List.mem_map.1 h3;obtain ⟨z,hz,hyz⟩:=List.mem_filterMap.1 hy;obtain ⟨a1,_,a3⟩:=uI hyz;obtain ⟨zk,zv⟩:=z;simp only at a1;have e1:y.1=q:=congrArg (·.1) e;have e2:y.2.1=f.1:=congrArg (·.2) e;rw [a3] at e2;simp only at e2;subst a1;rw [e1] at hz;have ht:=wJ q zv L (bV,bV) hnd hz;unfold rdF iX;rw [ht,e2];obtain ⟨fb,fd⟩:=f;cases fb with
  | true =>
   have:=h.dr j _ hj' rfl;simp only at this;rw [this]
  | false =>
   simp only at hd ⊢;rw [uZ q L,hd];simp [bV]
theorem aHq {L:List P2} (hr:RF L) {l:List Ent} (hE:Enum (rdF L) l) (hl:l.length<=1000000):∀ x∈l,GdN l x:=by
 intro x hx;obtain ⟨p,f⟩:=x;have hs:=hr.1;have hf:=(bQ hE).1 hx;refine ⟨hs.ok _ _ hf,hs.len _ _ hf,fun e=>?_,fun e=>?_⟩
 ·obtain ⟨d,hd⟩:=hs.root;simp only at e;rw [e,hd] at hf;cases hf;rfl
 ·obtain ⟨d,hd⟩:=hs.up _ _ hf e;have hm:=(bQ hE).2 hd;rcases tF l hl (par p) with ⟨_,h2⟩ | ⟨i,g,h1,h2⟩
  ·exact absurd rfl (h2 _ hm)
  ·have:=(bQ hE).1 (List.mem_of_getElem? h2);rw [hd] at this;cases this;exact ⟨i,d,h1,h2⟩
theorem aEc (L:List P2) (h:SmL L):∃ l b,kJ L=some (l,b)/\l.length<=L.length/\(b=true->RF L/\(l.map (·.1)).Nodup/\Snd (fsL l)/\cN (fsL l)=L)/\(RF L->b=true):=by
 obtain ⟨hL,hb⟩:=h;have hl1:(L.filterMap nd1).length<=L.length:=List.length_filterMap_le _ _;unfold kJ;refine hZ (C:=fun (o:Option (List Ent×Bool))=>∃ l b,o=some (l,b)/\l.length<=L.length/\(b=true->RF L/\(l.map (·.1)).Nodup/\Snd (fsL l)/\cN (fsL l)=L)/\(RF L->b=true)) (fun k (q:List Ent×Int)=>q=((L.take k).filterMap nd1,(k:Int))) (fun r=>r=L.filterMap nd1) L.length rfl ?_ ?_ ?_
 ·rintro k _ hk rfl;simp only;rw [if_pos (by omega),bP hk];simp only [obS];have hacc:((L.take k).filterMap nd1).length<=1000:=Nat.le_trans (List.length_filterMap_le _ _) (by rw [List.length_take];omega);have hnx:(L.take (k+1)).filterMap nd1=(L.take k).filterMap nd1++(nd1 L[k]).toList:=by
   rw [List.take_succ_eq_append_getElem hk,List.filterMap_append];cases hh:nd1 L[k]<;>simp [List.filterMap_cons,hh]
  generalize (L.take k).filterMap nd1=acc at hacc hnx ⊢;refine .inl ⟨((L.take (k+1)).filterMap nd1,((k+1:Nat):Int)),?_,rfl⟩;obtain ⟨key,v,hx⟩:∃ key v,L[k]=(key,v):=⟨_,_,rfl⟩;rw [hnx,hx,aI (by omega) (by omega)];simp only;cases key with
  | nil =>
   rw [if_pos (by simp)];simp [nd1]
  | cons a r =>
   rw [if_neg (by simp only [List.length_cons];omega),show aD (a::r) 0=some a from dZ (i:=0) rfl];simp only [obS];by_cases ha:a=110
   ·subst ha;rw [if_pos (by rfl)];cases v with
    | nil =>
     rw [if_pos (by simp)];simp [nd1]
    | cons c v =>
     rw [if_neg (by simp only [List.length_cons];omega),show (1:Int)=((1:Nat):Int) from rfl,dM (by simp) (Nat.le_refl _)];simp only [obS,List.take_length,List.drop_succ_cons,List.drop_zero];rw [cI (by simp;omega)];simp [nd1]
   ·rw [if_neg (fun h=>ha (by have:=aCr (n:=110) (by omega) h;exact this))];simp [nd1,ha]
 ·rintro _ rfl;simp only;rw [if_neg (by omega),List.take_length];exact ⟨_,rfl,rfl⟩
 rintro _ rfl;refine hZ (C:=fun (o:Option (List Ent×Bool))=>∃ l b,o=some (l,b)/\l.length<=L.length/\(b=true->RF L/\(l.map (·.1)).Nodup/\Snd (fsL l)/\cN (fsL l)=L)/\(RF L->b=true)) (fun k (q:List Ent×Int)=>q.2=(k:Int)/\N2 L (L.filterMap nd1) k q.1) (fun (r:List Ent ⊕ (List Ent×Bool))=>(∃ l,r=.inl l/\N2 L (L.filterMap nd1) L.length l)\/∃ l,r=.inr (l,false)/\l.length<=L.length/\¬ RF L) L.length (s0:=((L.filterMap nd1,0):List Ent×Int)) ⟨rfl,rfl,fun j x hx=>by rw [xY hx];simp,fun j x hx _=>xY hx,fun _ j x hx=>by rw [xY hx];simp⟩ ?_ ?_ ?_
 ·rintro k ⟨l,i⟩ hk ⟨h1,h2⟩;simp only at h1 h2;subst h1;have hll:l.length<=L.length:=by
   have:=congrArg List.length h2.sh;unfold shp at this;simp only [List.length_map] at this;omega
  simp only;rw [if_pos (by omega),bP hk];simp only [obS];refine aE6 (C:=fun (o:Option ((List Ent×Int) ⊕ (List Ent ⊕ (List Ent×Bool))))=>(∃ s',o=some (Sum.inl s')/\(s'.2=((k+1:Nat):Int)/\N2 L (L.filterMap nd1) (k+1) s'.1))\/∃ r,o=some (Sum.inr r)/\((∃ l,r=.inl l/\N2 L (L.filterMap nd1) L.length l)\/∃ l,r=.inr (l,false)/\l.length<=L.length/\¬ RF L)) (fun (o:List Ent ⊕ (List Ent×Bool))=>(∃ l',o=.inl l'/\N2 L (L.filterMap nd1) (k+1) l')\/∃ l',o=.inr (l',false)/\l'.length<=L.length/\¬ RF L) ?_ ?_
  ·obtain ⟨key,v,hx⟩:∃ key v,L[k]=(key,v):=⟨_,_,rfl⟩;have hbx:=hb _ (List.getElem_mem hk);rw [hx] at hbx;simp only at hbx;have hskip:(RF L->∀ p,cof p (key,v)=none)->N2 L (L.filterMap nd1) (k+1) l:=fun hc=>h2.skip hk (by rw [hx];exact hc);rw [hx];simp only;by_cases h3:(key.length:Int)<3
   ·rw [if_pos h3];refine ⟨_,rfl,.inl ⟨l,rfl,hskip fun hr p=>?_⟩⟩;cases key with
    | nil=>rfl
    | cons a r=>exact aGj (aKv hr hL hk hx (by simp only [List.length_cons] at h3;omega))
   rw [if_neg h3];cases key with
   | nil=>simp at h3
   | cons a r =>
    rw [show aD (a::r) 0=some a from dZ (i:=0) rfl];simp only [obS];by_cases ha:a=99
    case neg =>
     rw [if_neg (fun h=>ha (by have:=aCr (n:=99) (by omega) h;exact this))];exact ⟨_,rfl,.inl ⟨l,rfl,hskip fun _ p=>aGj ha⟩⟩
    subst ha;simp only [List.length_cons] at h3 hbx;rw [if_pos (by rfl),aI (by simp only [List.length_cons];omega) (by simp only [List.length_cons];omega),show (1:Int)=((1:Nat):Int) from rfl,show ((99::r).length:Int)-2=((r.length-1:Nat):Int) by simp only [List.length_cons];omega,dM (by omega) (by simp only [List.length_cons];omega)];simp only [obS];generalize hpp:List.drop 1 (List.take (r.length-1) (99::r))=p;have hpr:RF L->∃ c,r=p++[0,c]/\(p,false,[])∈L.filterMap nd1/\∀ q,cof q L[k]=if p=q then some v else none:=fun hr=>by
     obtain ⟨p',c,e,e2,e3⟩:=aE2 hr hL hk hx;have:p=p':=by
      rw [<- hpp,e];simp
     rw [this];exact ⟨c,e,e2,e3⟩
    have hpm:RF L->∃ x∈l,x.1=p/\x.2.1=false:=fun hr=>by
     obtain ⟨c,_,e2,_⟩:=hpr hr;have:(p,false)∈shp l:=by rw [h2.sh];exact List.mem_map.2 ⟨_,e2,rfl⟩
     obtain ⟨x,hx,e⟩:=List.mem_map.1 this;exact ⟨x,hx,congrArg (·.1) e,congrArg (·.2) e⟩
    have hnd:RF L->(l.map (·.1)).Nodup:=fun hr=>by
     rw [wP h2.sh];obtain ⟨_,_,_,_,h⟩:=wC hr hL;exact tM h
    rcases tF l (by omega) p with ⟨e,hne⟩ | ⟨i,f,e,hi⟩
    ·rw [e];simp only [obS];rw [if_pos (by omega)];refine ⟨_,rfl,.inr ⟨l,rfl,hll,fun hr=>?_⟩⟩;obtain ⟨x,hx,e,_⟩:=hpm hr;exact hne x hx e
    ·have hfi:RF L->f.1=false:=fun hr=>by
      obtain ⟨x,hx,e1,e2⟩:=hpm hr;obtain ⟨j,hj,hxj⟩:=List.getElem_of_mem hx;have hj':l[j]?=some x:=by rw [List.getElem?_eq_getElem hj,hxj]
      have:=(aDn (hnd hr) hi hj' e1.symm).2;rw [<- this] at e2;exact e2
     rw [e];simp only [obS];rw [if_neg (by omega),dZ hi];simp only [obS];obtain ⟨fb,fd⟩:=f;simp only at hfi ⊢;have hln:=h2.ln i _ hi;simp only at hln;cases fb with
     | true =>
      rw [if_pos rfl];exact ⟨_,rfl,.inr ⟨l,rfl,hll,fun hr=>by have:=hfi hr;cases this⟩⟩
     | false =>
      have hfd:fd.length<=1000*10000:=Nat.le_trans hln (Nat.mul_le_mul_right 10000 (show k<=1000 by omega));simp only [Nat.reduceMul] at hfd;have ha1:([]:List UInt8).length+fd.length<=100000000:=by clear hln h2;simp only [List.length_nil];omega
      have ha2:fd.length+v.length<=100000000:=by clear hln h2;omega
      rw [if_neg (by simp),cI (Nat.le_trans ha1 (by decide))];simp only [obS,List.nil_append];rw [cI (Nat.le_trans ha2 (by decide))];simp only [obS,Int.toNat_natCast];have hil:=(List.getElem?_eq_some_iff.1 hi).1;have hx0:=(List.getElem?_eq_some_iff.1 hi).2;refine ⟨_,rfl,.inl ⟨_,rfl,?_,fun j x hj=>?_,fun j x hj hd=>?_,fun hr j x hj=>?_⟩⟩
      ·rw [<- h2.sh];unfold shp;rw [List.map_set];apply List.ext_getElem?;intro j;rw [List.getElem?_set];by_cases ej:i=j
       ·subst ej;rw [if_pos rfl,if_pos (by simpa using hil),List.getElem?_map,hi];rfl
       ·rw [if_neg ej]
      ·rw [List.getElem?_set] at hj;by_cases ej:i=j
       ·rw [if_pos ej,if_pos hil] at hj;cases hj;have hv:(fd++v).length<=k*10000+10000:=by rw [List.length_append];exact Nat.add_le_add hln hbx.2
        exact Nat.le_trans hv (Nat.le_of_eq (Nat.succ_mul k 10000).symm)
       ·rw [if_neg ej] at hj;exact Nat.le_trans (h2.ln j x hj) (Nat.mul_le_mul_right _ (by omega))
      ·rw [List.getElem?_set] at hj;by_cases ej:i=j
       ·rw [if_pos ej,if_pos hil] at hj;cases hj;cases hd
       ·rw [if_neg ej] at hj;exact h2.dr j x hj hd
      ·obtain ⟨c,_,_,e3⟩:=hpr hr;rw [List.take_succ_eq_append_getElem hk,List.filterMap_append,List.filterMap_cons,e3 x.1];rw [List.getElem?_set] at hj;by_cases ej:i=j
       ·rw [if_pos ej,if_pos hil] at hj;cases hj;have:=h2.rf hr i _ hi;simp only at this;simp only [if_true];rw [this];simp
       ·rw [if_neg ej] at hj;have hne:p≠x.1:=fun e=>ej (aDn (hnd hr) hi hj e).1;rw [if_neg hne,h2.rf hr j x hj];simp
  ·rintro _ (⟨l',rfl,h⟩ | ⟨l',rfl,h,h'⟩)
   ·refine .inl ⟨(l',_),rfl,?_,h⟩;simp only;rw [aI (by omega) (by omega)];rfl
   ·exact .inr ⟨_,rfl,.inr ⟨l',rfl,h,h'⟩⟩
 ·rintro ⟨l,i⟩ ⟨h1,h2⟩;simp only at h1 h2;subst h1;simp only;rw [if_neg (by omega)];exact ⟨_,rfl,.inl ⟨l,rfl,h2⟩⟩
 rintro _ (⟨l,rfl,h2⟩ | ⟨l,rfl,h3,h4⟩)
 case inr=>exact ⟨l,false,rfl,h3,(fun h=>by cases h),fun hr=>absurd hr h4⟩
 have hll:l.length<=L.length:=by
  have:=congrArg List.length h2.sh;unfold shp at this;simp only [List.length_map] at this;omega
 simp only [Sum.elim_inl];refine hZ (C:=fun (o:Option (List Ent×Bool))=>∃ l b,o=some (l,b)/\l.length<=L.length/\(b=true->RF L/\(l.map (·.1)).Nodup/\Snd (fsL l)/\cN (fsL l)=L)/\(RF L->b=true)) (fun k (t:Int)=>t=(k:Int)/\∀ (j:Nat) x,l[j]?=some x->j<k->GdN l x) (fun (r:Unit ⊕ (List Ent×Bool))=>(r=.inl ()/\∀ x∈l,GdN l x)\/(r=.inr (l,false)/\∃ x∈l,¬ GdN l x)) l.length ⟨rfl,fun j x _ h=>by omega⟩ ?_ ?_ ?_
 ·rintro k _ hk ⟨rfl,hg⟩;rw [if_pos (by omega),bP hk];simp only [obS];rw [oU];simp only [obS];have hmk:=List.getElem_mem hk;have hxk:l[k]?=some l[k]:=List.getElem?_eq_getElem hk;generalize l[k]=x at hmk hxk ⊢;refine aE6 (C:=fun (o:Option (Int ⊕ (Unit ⊕ (List Ent×Bool))))=>(∃ s',o=some (Sum.inl s')/\(s'=((k+1:Nat):Int)/\∀ (j:Nat) x,l[j]?=some x->j<k+1->GdN l x))\/∃ r,o=some (Sum.inr r)/\((r=.inl ()/\∀ x∈l,GdN l x)\/(r=.inr (l,false)/\∃ x∈l,¬ GdN l x))) (fun (o:Unit ⊕ (List Ent×Bool))=>(o=.inl ()/\GdN l x)\/(o=.inr (l,false)/\¬ GdN l x)) ?_ ?_
  ·cases hok:okP x.1 with
   | false =>
    rw [if_pos (by rfl)];exact ⟨_,rfl,.inr ⟨rfl,fun h=>by have:=h.1;rw [hok] at this;cases this⟩⟩
   | true =>
    rw [if_neg (by simp)];by_cases h192:192<(x.2.2.length:Int)
    ·rw [if_pos h192];exact ⟨_,rfl,.inr ⟨rfl,fun h=>by have:=h.2.1;omega⟩⟩
    rw [if_neg h192];by_cases hroot:x.1=[47]
    ·rw [if_pos hroot];cases hd:x.2.1 with
     | false =>
      rw [if_pos (by rfl)];exact ⟨_,rfl,.inr ⟨rfl,fun h=>by have:=h.2.2.1 hroot;rw [hd] at this;cases this⟩⟩
     | true =>
      rw [if_neg (by simp)];exact ⟨_,rfl,.inl ⟨rfl,hok,by omega,fun _=>hd,fun h=>absurd hroot h⟩⟩
    rw [if_neg hroot,xE];simp only [obS];rcases tF l (by omega) (par x.1) with ⟨e,hne⟩ | ⟨i,f,e,hi⟩
    ·rw [e];simp only [obS];rw [if_pos (by omega)];refine ⟨_,rfl,.inr ⟨rfl,fun h=>?_⟩⟩;obtain ⟨i,d,h1,_⟩:=h.2.2.2 hroot;rw [e] at h1;cases h1
    ·rw [e];simp only [obS];rw [if_neg (by omega),dZ hi];simp only [obS];obtain ⟨fb,fd⟩:=f;cases fb with
     | false =>
      rw [if_pos (by rfl)];refine ⟨_,rfl,.inr ⟨rfl,fun h=>?_⟩⟩;obtain ⟨i',d,h1,h3⟩:=h.2.2.2 hroot;rw [e] at h1;have:i=i':=by have:=Option.some.inj h1;omega
      subst this;rw [hi] at h3;cases h3
     | true =>
      rw [if_neg (by simp)];exact ⟨_,rfl,.inl ⟨rfl,hok,by omega,fun h=>absurd h hroot,fun _=>⟨i,fd,e,hi⟩⟩⟩
  ·rintro _ (⟨rfl,h⟩ | ⟨rfl,h⟩)
   ·refine .inl ⟨_,rfl,?_,fun j y hj hjk=>?_⟩
    ·rw [aI (by omega) (by omega)];rfl
    ·by_cases e:j=k
     ·subst e;rw [hxk] at hj;cases hj;exact h
     ·exact hg j y hj (by omega)
   ·exact .inr ⟨_,rfl,.inr ⟨rfl,x,hmk,h⟩⟩
 ·rintro _ ⟨rfl,hg⟩;rw [if_neg (by omega)];refine ⟨_,rfl,.inl ⟨rfl,fun x hx=>?_⟩⟩;obtain ⟨j,hj,rfl⟩:=List.getElem_of_mem hx;exact hg j _ (List.getElem?_eq_getElem hj) hj
 rintro _ (⟨rfl,hg⟩ | ⟨rfl,x,hx,hg⟩)
 case inr=>exact ⟨l,false,rfl,hll,(fun h=>by cases h),fun hr=>absurd (aHq hr (wW hr hL h2) (by omega) x hx) hg⟩
 simp only [Sum.elim_inl];rcases tF l (by omega) [47] with ⟨e,hne⟩ | ⟨i,f,e,hi⟩
 ·rw [e];simp only [obS];rw [if_neg (by omega)];refine ⟨l,false,rfl,hll,(fun h=>by cases h),fun hr=>?_⟩;obtain ⟨d,hd⟩:=hr.1.root;exact absurd rfl (hne _ ((bQ (wW hr hL h2)).2 hd))
 rw [e];simp only [obS];rw [if_pos (by omega)];obtain ⟨b,hb1,hb2⟩:=aIy L (by omega);rw [hb1];simp only [obS];cases b with
 | false =>
  rw [if_neg (by simp)];exact ⟨l,false,rfl,hll,(fun h=>by cases h),fun hr=>by have:=hb2.2 (aG0 hr hL);cases this⟩
 | true =>
  rw [if_pos rfl];have hnd:(l.map (·.1)).Nodup:=by rw [wP h2.sh];exact tM (aPi (hb2.1 rfl))
  have hE:Enum (fsL l) l:=⟨hnd,fun _=>rfl⟩;have hs:Snd (fsL l):=by
   have hmem:∀ p f,fsL l p=some f->(p,f)∈l:=fun p f h=>(bQ hE).2 h;refine ⟨?_,fun p f h=>(hg _ (hmem p f h)).1,fun p f h=>(hg _ (hmem p f h)).2.1,fun p d h=>?_,fun p f h hp=>?_⟩
   ·obtain ⟨fb,fd⟩:=f;have:=(hg _ (List.mem_of_getElem? hi)).2.2.1 rfl;simp only at this;subst this;exact ⟨fd,(bQ hE).1 (List.mem_of_getElem? hi)⟩
   ·obtain ⟨j,hj,hx⟩:=List.getElem_of_mem (hmem p _ h);exact h2.dr j (p,true,d) (by rw [List.getElem?_eq_getElem hj,hx]) rfl
   ·obtain ⟨i',d,_,h3⟩:=(hg _ (hmem p f h)).2.2.2 hp;exact ⟨d,(bQ hE).1 (List.mem_of_getElem? h3)⟩
  have hc:Crd (fsL l) 1000:=⟨l,hE,by omega⟩;have hbk:=hs.prs hc (by omega);rw [aB8 hs hE (by omega)];simp only [obS];rw [zS _ _ (by have:=hbk.2.2.1;omega)];simp only [obS];refine ⟨l,_,rfl,hll,fun h=>?_,fun hr=>decide_eq_true ?_⟩
  ·have e:=of_decide_eq_true h;have e2:rdF L=fsL l:=by rw [<- e];exact hbk.2.1
   exact ⟨⟨by rw [e2];exact hs,by rw [e2];exact e⟩,hnd,hs,e⟩
  ·have e2:rdF L=fsL l:=funext fun p=>(wW hr hL h2).2 p;rw [<- e2];exact hr.2
structure Wk (s:FS) (n:Nat):Prop where
 crd:Crd s n
 key:∀ p f,s p=some f->p.length<=10000/\f.2.length<=10000
section
variable {s:FS} {n:Nat}
theorem Wk.mono (h:Wk s n) {m:Nat} (hm:n<=m):Wk s m:=⟨h.crd.mono hm,h.key⟩
theorem Wk.blB (h:Wk s n) (hn:n<=100000):BlB s:=by
 obtain ⟨l,hE,hl⟩:=h.crd;intro p;have h1:=yP hE (by omega) (fun x hx=>by have:=(h.key x.1 x.2 ((bQ hE).1 hx)).1;omega) p;have h2:bl s p=blL l p:=by unfold bl;rw [h1];rfl
 refine ⟨by rw [h1,h2],?_⟩;rw [h2];unfold blL;rw [(List.mergeSort_perm _ tle).length_eq,List.length_map];have:=List.length_filter_le (inD p) l;omega
theorem Wk.pairs (h:Wk s n) (hn:n<=10000):∃ L,gT s=some L/\L.length<=190*n:=by
 obtain ⟨l,hE,hl⟩:=h.crd;have hk:∀ x∈l,x.1.length<=10000/\x.2.2.length<=10000:=fun x hx=>h.key x.1 x.2 ((bQ hE).1 hx);refine ⟨_,aGk hE (by omega) (fun x hx=>by have:=hk x hx;omega) fun l' h1 h2=>?_,?_⟩
 ·have:=aBw (l:=l') fun x hx=>by have:=hk x (h2 x hx);omega
  omega
 ·unfold dT iF;rw [(List.mergeSort_perm _ leP).length_eq];have:=aBw (l:=l) fun x hx=>by have:=hk x hx;omega
  omega
theorem Wk.set (h:Wk s n) {p:List UInt8} {f:Bool×List UInt8} (hp:p.length<=10000) (hf:f.2.length<=10000):Wk (aQ p f s) (n+1):=by
 refine ⟨h.crd.set p f,fun q g hq=>?_⟩;unfold aQ at hq;split at hq
 ·rename_i e;cases hq;rw [e];exact ⟨hp,hf⟩
 ·exact h.key q g hq
theorem Wk.del (h:Wk s n) (p:List UInt8):Wk (dR p s) n:=by
 refine ⟨h.crd.del p,fun q g hq=>?_⟩;unfold dR at hq;split at hq
 ·cases hq
 ·exact h.key q g hq
theorem aBe {α:Type} [DecidableEq α]:∀ ks:List α,∃ l:List α,l.Nodup/\(∀ q∈ks,q∈l)/\l.length<=ks.length
 | []=>⟨[],List.nodup_nil,fun q h=>h,Nat.le_refl _⟩
 | x::ks=>by
  obtain ⟨l,h1,h2,h3⟩:=aBe ks;by_cases hx:x∈l
  ·exact ⟨l,h1,fun q hq=>by rcases List.mem_cons.1 hq with rfl | hq;exact hx;exact h2 q hq,by simp only [List.length_cons];omega⟩
  ·exact ⟨x::l,List.nodup_cons.2 ⟨hx,h1⟩,fun q hq=>by
    rcases List.mem_cons.1 hq with rfl | hq
    ·exact List.mem_cons_self
    ·exact List.mem_cons_of_mem _ (h2 q hq),by simp only [List.length_cons];omega⟩
theorem aKx {β:Type} {m:List UInt8->Option β} (ks:List (List UInt8)) (h:∀ q,(m q).isSome=true->q∈ks):Crd m ks.length:=by
 obtain ⟨l,h1,h2,h3⟩:=aBe ks;obtain ⟨l2,h4,h5⟩:=aBv (m:=m) (l.filter fun q=>(m q).isSome) _ (h1.filter _) fun q=>by
  rw [List.mem_filter];exact ⟨fun h=>h.2,fun hq=>⟨h2 q (h q hq),hq⟩⟩
 refine ⟨l2,h4,?_⟩;have h6:=congrArg List.length h5;rw [List.length_map] at h6;have:=List.length_filter_le (fun q=>(m q).isSome) l;omega
theorem Wk.ren (h:Wk s n) {F T:List UInt8} (hT:okP T=true) (hb:¬ badR s F T):Wk (rnG s F T) (n+n):=by
 have hle:∀ p,(s p).isSome=true->aS F p=true->(mvP F T p).length<=24:=fun p hp hw=>by
  obtain ⟨f,hf⟩:=Option.isSome_iff_exists.1 hp;by_cases h24:(mvP F T p).length<=24
  ·exact h24
  ·exact absurd ⟨p,f,hf,hw,by omega⟩ hb
 obtain ⟨l,hE,hl⟩:=h.crd;refine ⟨?_,fun q g hq=>?_⟩
 ·refine (aKx ((l.map (·.1))++(l.map fun x=>mvP F T x.1)) fun q hq=>?_).mono (by simp;omega);rw [List.mem_append];unfold rnG at hq;split at hq
  ·cases hq
  ·split at hq
   ·rename_i h2;unfold rnM at h2;split at h2
    ·rename_i h3;obtain ⟨f,hf⟩:=Option.isSome_iff_exists.1 h3.1;exact .inr (List.mem_map.2 ⟨_,(bQ hE).2 hf,Option.some.inj h2⟩)
    ·cases h2
   ·obtain ⟨f,hf⟩:=Option.isSome_iff_exists.1 hq;exact .inl (List.mem_map.2 ⟨_,(bQ hE).2 hf,rfl⟩)
 ·unfold rnG at hq;split at hq
  ·cases hq
  ·split at hq
   ·rename_i h2;unfold rnM at h2;split at h2
    ·rename_i h3;have h4:=hle _ h3.1 h3.2;rw [Option.some.inj h2] at h4;obtain ⟨f,hf⟩:=Option.isSome_iff_exists.1 h3.1;rw [hf] at hq;cases hq;exact ⟨by omega,(h.key _ _ hf).2⟩
    ·cases h2
   ·exact h.key q g hq
theorem Wk.wr (h:Wk s n) {o:Opr} (hk:o.1=3\/o.1=4):Wk (wr s o).2 (n+1):=by
 have hw:Wk s (n+1):=h.mono (by omega);obtain ⟨k,p,t,off,m,d⟩:=o;simp only at hk;unfold Go.Proofs.YtnagibpmfabkjaaGreatDoor.wr;simp only;by_cases h0:(rg s p).2=0
 ·obtain ⟨fd,e1,e2⟩:=wB h0;have hfd:=(h.key _ _ e1);simp only at hfd;rw [if_pos h0,e2];simp only;rcases hk with rfl | rfl
  ·simp only [if_true,true_and];by_cases a1:off<0
   ·rw [if_pos a1];exact hw
   rw [if_neg a1];by_cases a2:192<off\/192<off+(d.length:Int)
   ·rw [if_pos a2];exact hw
   rw [if_neg a2,if_neg (by decide)];simp only;by_cases a3:0<d.length
   ·rw [if_pos a3];refine h.set hfd.1 ?_;have hz:(szd fd (max fd.length (off.toNat+d.length))).length=max fd.length (off.toNat+d.length):=gH _ _;have:(putAt (szd fd (max fd.length (off.toNat+d.length))) off.toNat d).length=max fd.length (off.toNat+d.length):=by
     simp only [putAt,List.length_append,List.length_take,List.length_drop,hz];omega
    simp only;rw [this];omega
   ·rw [if_neg a3];exact hw
  ·simp only [show ¬ ((4:Int)=3) by decide,if_false,false_and,or_false,if_true];by_cases a1:m<0
   ·rw [if_pos a1];exact hw
   rw [if_neg a1];by_cases a2:192<m
   ·rw [if_pos a2];exact hw
   rw [if_neg a2];refine h.set hfd.1 ?_;simp only;rw [gH];omega
 ·rw [if_neg h0];exact hw
theorem aK3 (h:Wk s n) (hn:n<=100000) (o:Opr) (ho:lN o):∃ a s',sDo s o=some (a,s')/\Wk s' (n+n+1):=by
 have hB:=h.blB hn;have hw:Wk s (n+n+1):=h.mono (by omega);obtain ⟨hp,ht,hd⟩:=ho;obtain ⟨k,p,t,off,m,d⟩:=o;simp only at hp ht hd;unfold sDo;simp only;have hlen:∀ q f,s q=some f->f.2.length<=100000:=fun q f hq=>by have:=(h.key q f hq).2;omega
 by_cases h12:k=1\/k=2
 ·have h1:(if k=1 then (some (decide (k=1))) else some (decide (k=2)))=some true:=by
   rcases h12 with h | h<;>subst h<;>rfl
  rw [h1];simp only [obS,if_true];rw [yX s p (by omega)];simp only [obS];by_cases h0:rm s p=0
  ·rw [if_pos h0];have:=(bZ (pE h0).1).2.2;exact ⟨_,_,rfl,(h.set (by omega) (by simp)).mono (by omega)⟩
  ·rw [if_neg h0];exact ⟨_,_,rfl,hw⟩
 ·have h1:(if k=1 then (some (decide (k=1))) else some (decide (k=2)))=some false:=by
   rw [if_neg (fun h=>h12 (.inl h)),decide_eq_false (fun h=>h12 (.inr h))]
  rw [h1];simp only [obS,Bool.false_eq_true,if_false];by_cases h34:k=3\/k=4
  ·have h1:(if k=3 then (some (decide (k=3))) else some (decide (k=4)))=some true:=by
    rcases h34 with h | h<;>subst h<;>rfl
   rw [h1];simp only [obS,if_true];rw [aC3 s (k,p,t,off,m,d) h34 (by simp only;omega) (by simp only;omega) hlen];simp only [obS];exact ⟨_,_,rfl,(h.wr h34).mono (by omega)⟩
  ·have h1:(if k=3 then (some (decide (k=3))) else some (decide (k=4)))=some false:=by
    rw [if_neg (fun h=>h34 (.inl h)),decide_eq_false (fun h=>h34 (.inr h))]
   rw [h1];simp only [obS,Bool.false_eq_true,if_false];by_cases h5:k=5
   ·rw [if_pos h5,aFu s _ (by simp only;omega) hlen];exact ⟨_,_,rfl,hw⟩
   ·rw [if_neg h5];by_cases h6:k=6
    ·rw [if_pos h6,aE4 (fun q f hq=>by have:=(h.key q f hq).1;omega) h.crd _ (by simp only;omega) (by simp only;omega)];simp only [obS];refine ⟨_,_,rfl,?_⟩;unfold rnW;split
     ·split
      ·split
       ·split
        ·exact hw
        ·split
         ·exact hw
         ·split
          ·split
           ·exact hw
           ·rename_i hT _ _ _ _ hb;exact (h.ren hT hb).mono (by omega)
          ·exact hw
       ·exact hw
      ·exact hw
     ·exact hw
    ·rw [if_neg h6];by_cases h7:k=7
     ·rw [if_pos h7,aFj hB p (by omega)];simp only [obS];refine ⟨_,_,rfl,?_⟩;unfold rv;split
      ·split
       ·exact hw
       ·split
        ·exact hw
        ·exact (h.del p).mono (by omega)
      ·exact hw
     ·rw [if_neg h7];by_cases h8:k=8
      ·rw [if_pos h8,aGm hB _ (by simp only;omega)];exact ⟨_,_,rfl,hw⟩
      ·rw [if_neg h8];by_cases h9:k=9
       ·rw [if_pos h9,aAx hB _ (by omega)];exact ⟨_,_,rfl,hw⟩
       ·rw [if_neg h9];exact ⟨_,_,rfl,hw⟩
end
def SmT (L:List P2):Prop:=L.length<=1000/\(L.map fun x=>x.1.length+x.2.length).sum<=8000
theorem aBy {L:List P2} {x:P2} (h:x∈L):x.1.length+x.2.length<=(L.map fun x=>x.1.length+x.2.length).sum:=by
 induction L with
 | nil=>cases h
 | cons y L ih =>
  simp only [List.map_cons,List.sum_cons];rcases List.mem_cons.1 h with rfl | h
  ·omega
  ·have:=ih h;omega
theorem aFd (p:List UInt8):∀ L:List P2,(L.filterMap (cof p)).flatten.length<=(L.map fun x=>x.1.length+x.2.length).sum
 | []=>by simp
 | x::L=>by
  have ih:=aFd p L;rw [List.filterMap_cons];simp only [List.map_cons,List.sum_cons];split
  ·omega
  ·rename_i y hy;have:y=x.2:=by
    unfold cof at hy;split at hy
    ·cases hy
    ·split at hy
     ·exact (Option.some.inj hy).symm
     ·cases hy
   rw [List.flatten_cons,List.length_append,this];omega
theorem rd_key:∀ (L:List P2) (s:CS×FS) (p:List UInt8),((L.foldl r1 s).2 p).isSome=true->(s.2 p).isSome=true\/∃ x∈L,x.1=110::p
 | [],s,p,h=>.inl h
 | x::L,s,p,h=>by
  rw [List.foldl_cons] at h;rcases rd_key L _ p h with h1 | ⟨y,hy,e⟩
  ·obtain ⟨k,v⟩:=x;unfold r1 at h1;split at h1
   ·exact .inl h1
   ·split at h1
    ·exact .inl h1
    ·split at h1
     ·rename_i a r e1 _ h110;simp only at e1;simp only [aQ] at h1;split at h1
      ·rename_i e2;exact .inr ⟨(k,v),List.mem_cons_self,by simp only;rw [e1,h110,e2]⟩
      ·exact .inl h1
     ·exact .inl h1
  ·exact .inr ⟨y,List.mem_cons_of_mem _ hy,e⟩
theorem aBt:∀ (L:List P2) (s:CS×FS),(∀ p f,s.2 p=some f->f.2=[])->∀ p f,(L.foldl r1 s).2 p=some f->f.2=[]
 | [],s,h=>h
 | x::L,s,h=>by
  rw [List.foldl_cons];refine aBt L _ fun p f hp=>?_;unfold r1 at hp;split at hp
  ·exact h p f hp
  ·split at hp
   ·exact h p f hp
   ·split at hp
    ·simp only [aQ] at hp;split at hp
     ·cases hp;rfl
     ·exact h p f hp
    ·exact h p f hp
theorem rd_wk {L:List P2} (h:SmT L):Wk (rdF L) L.length:=by
 refine ⟨lF L,fun p f hf=>?_⟩;have hs:((L.foldl r1 (bV,bV)).2 p).isSome=true:=by
  unfold rdF iX at hf;split at hf
  ·rename_i e;rw [e];rfl
  ·rw [hf];rfl
 rcases rd_key L _ p hs with h1 | ⟨x,hx,e⟩
 ·simp [bV] at h1
 ·have h1:=aBy hx;have h2:=h.2;rw [e] at h1;simp only [List.length_cons] at h1;refine ⟨by omega,?_⟩;unfold rdF iX at hf;split at hf
  ·cases hf;simp only;rw [uZ p L];have:=aFd p L;simp only [bV,Option.getD_none,List.nil_append];omega
  ·have:=aBt L (bV,bV) (fun p f h=>by simp [bV] at h) p f hf;rw [this];simp
theorem aJm {L:List P2} (h:SmT L) (o:Opr) (ho:lN o):∃ L' a,fDo L o=some (L',a)/\L'.length<=500000:=by
 have hb:=h.2;have hw:=rd_wk h;have hL:=h.1;unfold fDo;rw [zQ L (by omega) (fun x hx=>by have:=aBy hx;omega)];simp only [obS,qV];obtain ⟨a,s',e,h1⟩:=aK3 hw (by omega) o ho;rw [e];simp only [obS];obtain ⟨L1,e1,l1⟩:=hw.pairs (by omega);obtain ⟨L2,e2,l2⟩:=h1.pairs (by omega);by_cases h0:a.1=0
 ·rw [if_pos h0,e2];exact ⟨_,_,rfl,by omega⟩
 ·rw [if_neg h0,e1];exact ⟨_,_,rfl,by omega⟩
theorem aOi (L:List P2):iV L=some true\/(iV L=some false/\SmT L):=by
 unfold iV;have hin:∀ k (hk:k<L.length),((L.take (k+1)).map fun x=>x.1.length+x.2.length).sum=((L.take k).map fun x=>x.1.length+x.2.length).sum+(L[k].1.length+L[k].2.length):=fun k hk=>by
  rw [List.take_succ_eq_append_getElem hk];simp only [List.map_append,List.map_cons,List.map_nil,List.sum_append,List.sum_cons,List.sum_nil];omega
 refine hZ (C:=fun o=>o=some true\/(o=some false/\SmT L)) (fun k (s:Int×Int)=>s.2=(k:Int)/\s.1=8*(k:Int)+(((L.take k).map fun x=>x.1.length+x.2.length).sum:Nat)/\s.1<=30000/\k<=1001/\k<=L.length) (fun r=>r=.inr true\/(∃ n:Int,r=.inl n/\(8000<n\/SmT L))) (min L.length 1002) ⟨rfl,by simp,by omega,by omega,by omega⟩ ?_ ?_ ?_
 ·rintro k ⟨n,i⟩ hk ⟨h1,h2,h3,h3',h4⟩;simp only at h1 h2 h3;subst h1;simp only;have hkl:k<L.length:=by omega
  rw [if_pos (by omega)];by_cases h6:n<=8000
  ·rw [if_pos h6];simp only [bP hkl,obS];by_cases h7:8000<(L[k].1.length:Int)
   ·rw [if_pos h7];exact .inr ⟨_,rfl,.inl rfl⟩
   ·rw [if_neg h7];by_cases h8:8000<(L[k].2.length:Int)
    ·rw [if_pos h8];exact .inr ⟨_,rfl,.inl rfl⟩
    ·rw [if_neg h8];rw [aI (n:=8+(L[k].1.length:Int)) (by omega) (by omega),aI (n:=8+(L[k].1.length:Int)+(L[k].2.length:Int)) (by omega) (by omega),aI (n:=n+(8+(L[k].1.length:Int)+(L[k].2.length:Int))) (by omega) (by omega),aI (n:=(k:Int)+1) (by omega) (by omega)];refine .inl ⟨_,rfl,rfl,?_,?_,?_,?_⟩
     ·simp only;rw [hin k hkl];omega
     ·simp only;omega
     ·omega
     ·omega
  ·rw [if_neg h6];exact .inr ⟨_,rfl,.inr ⟨n,rfl,.inl (by omega)⟩⟩
 ·rintro ⟨n,i⟩ ⟨h1,h2,h3,h3',h4⟩;simp only at h1 h2 h3;subst h1;simp only;by_cases h0:L.length<=1001
  ·rw [if_neg (by omega)];refine ⟨_,rfl,.inr ⟨n,rfl,?_⟩⟩;rw [Nat.min_eq_left (by omega),List.take_length] at h2;by_cases h8:8000<n
   ·exact .inl h8
   ·exact .inr ⟨by omega,by omega⟩
  ·omega
 ·rintro _ (rfl | ⟨n,rfl,h | h⟩)
  ·exact .inl rfl
  ·exact .inl (by simp only [Sum.elim_inl];rw [decide_eq_true h])
  ·by_cases h8:8000<n
   ·exact .inl (by simp only [Sum.elim_inl];rw [decide_eq_true h8])
   ·exact .inr ⟨by simp only [Sum.elim_inl];rw [decide_eq_false h8],h⟩
theorem aKy {σ ρ τ:Type} {f:σ->Option (σ ⊕ ρ)} {k:ρ->Option τ} {C:Option τ->Prop} (I:σ->Prop) (Q:ρ->Prop) (m:σ->Nat) {s0:σ} (h0:I s0)
  (hs:∀ s,I s->(∃ s',f s=some (.inl s')/\I s'/\m s'<m s)\/∃ r,f s=some (.inr r)/\Q r) (hk:∀ r,Q r->C (k r)):C (Option.bind (aU f s0) k):=by
 obtain ⟨r,h1,h2⟩:=aAg I Q m hs _ s0 (Nat.lt_succ_self _) h0;rw [h1];exact hk r h2
theorem aL0 (xs:List Sn) (hl:xs.length<=100000) (t:Sn):∃ (i:Nat) (b:Bool),jS xs t=some ((i:Int),b)/\i<=xs.length/\(b=true->i<xs.length):=by
 unfold jS;refine aKy (C:=fun o=>∃ (i:Nat) (b:Bool),o=some ((i:Int),b)/\i<=xs.length/\(b=true->i<xs.length)) (fun s=>∃ i j:Nat,s=((i:Int),(j:Int))/\i<=j/\j<=xs.length) (fun r=>∃ i:Nat,r=(i:Int)/\i<=xs.length) (fun (s:Int×Int)=>(s.2-s.1).toNat) (s0:=((0:Int),(xs.length:Int))) ⟨0,_,rfl,by omega,by omega⟩ ?_ ?_
 ·rintro _ ⟨i,j,rfl,h3,h5⟩;simp only;by_cases h:(i:Int)<(j:Int)
  ·rw [if_pos h,aCq (by omega),bP (show (i+j) / 2<xs.length by omega)];simp only [obS,sQ,jL];by_cases h6:(xs[(i+j) / 2]'(by omega)).1<t.1
   ·rw [if_pos h6,aI (by omega) (by omega)];exact .inl ⟨_,rfl,⟨(i+j) / 2+1,j,rfl,by omega,by omega⟩,by simp only;omega⟩
   ·rw [if_neg h6];exact .inl ⟨_,rfl,⟨i,(i+j) / 2,rfl,by omega,by omega⟩,by simp only;omega⟩
  ·rw [if_neg h];exact .inr ⟨_,rfl,i,rfl,by omega⟩
 ·rintro _ ⟨i,rfl,hi⟩;by_cases h:(i:Int)<(xs.length:Int)
  ·rw [if_pos h,bP (show i<xs.length by omega)];simp only [obS,sQ];exact ⟨i,_,rfl,hi,fun _=>by omega⟩
  ·rw [if_neg h];exact ⟨i,false,rfl,hi,fun h=>by cases h⟩
theorem aIb (s:SS) (o:Opr) (gen:Int) (h:SmS s) (ho:o.2.1.length<=1500000000):∃ c s',jF s o gen=some (c,s')/\s'.1.length<=1000/\s'.2.length<=1001/\∀ x∈s'.2,x.2.2.length<=1000:=by
 have hf:=h.fl.1;have hl:=h.len;have hx:∀ x∈s.2,x.2.2.length<=1000:=fun x hx=>(h.sn x hx).1.1;unfold jF;rw [tO _ ho];simp only [obS];by_cases h1:bS o.2.1=true
 case neg =>
  rw [if_pos (by simpa using h1)];exact ⟨_,_,rfl,hf,by omega,hx⟩
 rw [if_neg (by simp [h1])];obtain ⟨i,b,e,hi,hb⟩:=aL0 s.2 (by omega) (o.2.1,0,[]);rw [e];simp only [obS];by_cases h10:o.1=10
 ·rw [if_pos h10];cases b with
  | true=>exact ⟨_,_,rfl,hf,by omega,hx⟩
  | false =>
   rw [if_neg (by simp),if_pos h10,nL _ h.fl];simp only [obS];have hins:lD s.2 (i:Int) [(o.2.1,gen,s.1)]=some (s.2.take i++[(o.2.1,gen,s.1)]++s.2.drop i):=by
    unfold lD rJ;rw [if_pos ⟨by omega,by omega,by omega,rfl⟩,Int.toNat_natCast]
   rw [hins];refine ⟨_,_,rfl,hf,by simp;omega,fun x hxm=>?_⟩;simp only [List.mem_append,List.mem_singleton] at hxm;rcases hxm with (hxm | rfl) | hxm
   ·exact hx x (List.mem_of_mem_take hxm)
   ·exact hf
   ·exact hx x (List.mem_of_mem_drop hxm)
 ·rw [if_neg h10,if_neg h10];cases b with
  | false=>exact ⟨_,_,rfl,hf,by omega,hx⟩
  | true =>
   have hlt:=hb rfl;rw [if_neg (by simp)];by_cases h11:o.1=11
   ·rw [if_pos h11,aI (by omega) (by omega)];have hd:kP s.2 (i:Int) ((i:Int)+1)=some (s.2.take i++s.2.drop (i+1)):=by
     unfold kP sD;rw [if_pos ⟨by omega,rfl,by omega⟩,Int.toNat_natCast]
    rw [hd];refine ⟨_,_,rfl,hf,by simp;omega,fun x hxm=>?_⟩;rcases List.mem_append.1 hxm with hxm | hxm
    ·exact hx x (List.mem_of_mem_take hxm)
    ·exact hx x (List.mem_of_mem_drop hxm)
   ·rw [if_neg h11,bP hlt];simp only [obS];rw [nL _ (h.sn _ (List.getElem_mem hlt)).1];exact ⟨_,_,rfl,hx _ (List.getElem_mem hlt),by simp only;omega,hx⟩
theorem aHf (s:SS) (o:Opr) (gen:Int) (h:SmS s) (ht:SmT s.1) (ho:lN o):∃ r,nDo s o gen=some r:=by
 have hf:=h.fl.1;have hl:=h.len;have hx:∀ x∈s.2,x.2.2.length<=1000:=fun x hx=>(h.sn x hx).1.1;have hc:=aAz s h;unfold nDo;rw [hc];simp only [obS];have fin:∀ (X:Option (SS×Ans×SS)) (K:(SS×Ans×SS)->Option (SS×Ans)),(∃ a b,X=some (a,b,s)/\a.1.length<=1000000/\a.2.length<=1001/\∀ x∈a.2,x.2.2.length<=1000)->(∀ (a:SS) b,a.1.length<=1000000->a.2.length<=1001->(∀ x∈a.2,x.2.2.length<=1000)->∃ r,K (a,b,s)=some r)->∃ r,X.bind K=some r:=by
  rintro X K ⟨a,b,rfl,h1,h2,h3⟩ hK;exact hK a b h1 h2 h3
 refine fin _ _ ?_ fun a b h1 h2 h3=>?_
 ·have e2:∀ Z:Option (SS×Ans×SS),(Option.bind Z fun r139=>some (r139.1,r139.2.1,r139.2.2))=Z:=fun Z=>by cases Z<;>rfl
  simp only [e2];have key:∀ (X Y:Option (SS×Ans×SS)),(Option.bind (α:=Bool) (if o.1=10 then (some (decide (o.1=10))) else (Option.bind (α:=Bool) (if o.1=11 then (some (decide (o.1=11))) else (some (decide (o.1=12)))) fun r104=>some r104)) fun r101=>if r101=true then X else Y)=(if o.1=10\/o.1=11\/o.1=12 then X else Y):=by
   intro X Y;by_cases h1:o.1=10
   ·simp only [h1,if_pos,obS,decide_true,true_or]
   ·by_cases h2:o.1=11
    ·rw [if_neg h1,if_pos h2];simp only [obS,h2,decide_true,if_pos,true_or,or_true]
    ·rw [if_neg h1,if_neg h2];simp only [obS,h1,h2,false_or,decide_eq_true_eq]
  rw [key];by_cases h1:o.1=10\/o.1=11\/o.1=12
  ·rw [if_pos h1];obtain ⟨c,s',e,a1,a2,a3⟩:=aIb s o gen h (by have:=ho.p;omega);rw [show jF (s.1,s.2) (o.1,o.2.1,o.2.2.1,o.2.2.2.1,o.2.2.2.2.1,o.2.2.2.2.2) gen=_ from e];exact ⟨_,_,rfl,Nat.le_trans a1 (by decide),a2,a3⟩
  ·rw [if_neg h1];by_cases h2:o.1=13
   ·rw [if_pos h2,aDc s _ (by omega)];exact ⟨_,_,rfl,by simp only;omega,by simp only;omega,hx⟩
   ·rw [if_neg h2];obtain ⟨L',a,e,hL'⟩:=aJm ht o ho;rw [show fDo s.1 (o.1,o.2.1,o.2.2.1,o.2.2.2.1,o.2.2.2.2.1,o.2.2.2.2.2)=_ from e];exact ⟨_,_,rfl,by simp only;omega,by simp only;omega,hx⟩
 ·simp only;rw [hc];simp only [obS];by_cases h0:b.1=0
  ·rw [if_pos h0,show iQ (a.1,a.2)=_ from aDm a h1 h2 h3];simp only [obS];split
   ·simp only [obS];split<;>exact ⟨_,rfl⟩
   ·simp only [obS];split<;>exact ⟨_,rfl⟩
  ·rw [if_neg h0,if_neg h0];exact ⟨_,rfl⟩
noncomputable def fS (L:List P2):List Ent:=((kJ L).getD ([],false)).1
noncomputable def mT (L:List P2):Bool:=((kJ L).getD ([],false)).2
theorem aCh {L:List P2} (h:SmL L):kJ L=some (fS L,mT L):=by
 obtain ⟨l,b,e,_⟩:=aEc L h;unfold fS mT;rw [e];rfl
theorem oX {L:List P2} (h:SmL L):(mT L=true↔RF L)/\(fS L).length<=L.length/\(RF L->NdL (fS L)/\prL (fS L)=L):=by
 obtain ⟨l,b,e,h1,h2,h3⟩:=aEc L h;have e1:fS L=l:=by unfold fS;rw [e];rfl
 have e2:mT L=b:=by unfold mT;rw [e];rfl
 rw [e1,e2];refine ⟨⟨fun hb=>(h2 hb).1,h3⟩,h1,fun hr=>?_⟩;obtain ⟨_,a1,a2,a3⟩:=h2 (h3 hr);exact ⟨⟨a1,a2,by have:=h.1;omega⟩,a3⟩
noncomputable def rdM (s:SS):RSt:=(fS s.1,s.2.map fun x=>(x.1,x.2.1,fS x.2.2))
theorem aJc (s:SS) (h:SmS s):∃ b,qP s=some (rdM s,b)/\(b=true↔Rt s)/\(Rt s->RtM (rdM s)/\wrS (rdM s)=s):=by
 have hn:=h.len;have hgood:RF s.1->(∀ j,j<s.2.length->GoodS s j)->NdL (rdM s).1/\(∀ x∈(rdM s).2,NdL x.2.2)/\wrS (rdM s)=s:=by
  intro h1 h2;have hsn:∀ x∈s.2,RF x.2.2:=fun x hx=>by
   obtain ⟨j,hj,rfl⟩:=List.getElem_of_mem hx;obtain ⟨_,h3,_⟩:=h2 j hj;exact h3
  refine ⟨((oX h.fl).2.2 h1).1,fun x hx=>?_,?_⟩
  ·obtain ⟨y,hy,rfl⟩:=List.mem_map.1 hx;exact ((oX (h.sn y hy).1).2.2 (hsn y hy)).1
  ·unfold wrS rdM;simp only [List.map_map];rw [((oX h.fl).2.2 h1).2];have:s.2.map ((fun x:RSn=>(x.1,x.2.1,prL x.2.2)) ∘ fun x:Sn=>(x.1,x.2.1,fS x.2.2))=s.2:=by
    conv=>rhs;rw [<- List.map_id s.2]
    refine List.map_congr_left fun x hx=>?_;simp only [Function.comp_apply,id_eq];rw [((oX (h.sn x hx).1).2.2 (hsn x hx)).2]
   rw [this]
 unfold qP;rw [aCh h.fl];simp only [obS];refine hZ (C:=fun (o:Option (RSt×Bool))=>∃ b,o=some (rdM s,b)/\(b=true↔Rt s)/\(Rt s->RtM (rdM s)/\wrS (rdM s)=s)) (fun k (q:RSt×Bool×Int)=>q.1=(fS s.1,(s.2.take k).map fun x=>(x.1,x.2.1,fS x.2.2))/\q.2.2=(k:Int)/\(q.2.1=true↔RF s.1/\∀ j,j<k->GoodS s j)) (fun (r:RSt×Bool)=>r.1=rdM s/\(r.2=true↔RF s.1/\∀ j,j<s.2.length->GoodS s j)) s.2.length (s0:=((fS s.1,([]:List RSn)),mT s.1,(0:Int))) ⟨by simp,rfl,by simp [(oX h.fl).1]⟩ ?_ ?_ ?_
 ·rintro k ⟨m,ok,i⟩ hk ⟨h1,h2,h3⟩;simp only at h1 h2 h3;subst h1 h2;simp only;rw [if_pos (by omega),bP hk];simp only [obS];have hx:=h.sn _ (List.getElem_mem hk);have hap:aY ((s.2.take k).map fun x=>(x.1,x.2.1,fS x.2.2)) [((s.2[k]).1,(s.2[k]).2.1,fS (s.2[k]).2.2)]=some ((s.2.take (k+1)).map fun x=>(x.1,x.2.1,fS x.2.2)):=by
   rw [cI (by simp;omega),List.take_succ_eq_append_getElem hk,List.map_append];rfl
  have hok:=oX hx.1;rw [aCh hx.1];simp only [obS];rw [hap];simp only [obS];rw [aI (show -9223372036854775808<=(k:Int)+1 by omega) (by omega)];have all_succ:(∀ j,j<k+1->GoodS s j)↔(∀ j,j<k->GoodS s j)/\GoodS s k:=by
   constructor
   ·intro hh;exact ⟨fun j hj=>hh j (by omega),hh k (by omega)⟩
   ·rintro ⟨h1,h2⟩ j hj;by_cases e:j=k
    ·subst e;exact h2
    ·exact h1 j (by omega)
  have hsel:GoodS s k↔RF (s.2[k]).2.2/\bS (s.2[k]).1=true/\(0<k->(s.2[k-1]'(by omega)).1<(s.2[k]).1):=by
   constructor
   ·rintro ⟨_,h⟩;exact h
   ·intro h;exact ⟨hk,h⟩
  cases ok with
  | false =>
   rw [if_neg (by simp)];refine .inl ⟨_,rfl,rfl,rfl,?_⟩;simp only [Bool.false_eq_true,false_iff] at h3 ⊢;rw [all_succ];exact fun ⟨a,b,_⟩=>h3 ⟨a,b⟩
  | true =>
   have h3':=h3.1 rfl;rw [if_pos rfl];cases hb:mT (s.2[k]).2.2 with
   | false =>
    rw [if_neg (by simp)];refine .inl ⟨_,rfl,rfl,rfl,?_⟩;simp only [Bool.false_eq_true,false_iff];rw [all_succ,hsel];rintro ⟨_,_,a,_⟩;rw [hok.1.2 a] at hb;cases hb
   | true =>
    rw [if_pos rfl,uX];simp only [obS];cases hnm:bS (s.2[k]).1 with
    | false =>
     rw [if_neg (by simp)];refine .inl ⟨_,rfl,rfl,rfl,?_⟩;simp only [Bool.false_eq_true,false_iff];rw [all_succ,hsel];rintro ⟨_,_,_,a,_⟩;rw [a] at hnm;cases hnm
    | true =>
     rw [if_pos rfl];by_cases hk0:(k:Int)=0
     ·rw [if_pos hk0];refine .inl ⟨_,rfl,rfl,rfl,?_⟩;simp only [true_iff];rw [all_succ,hsel];exact ⟨h3'.1,h3'.2,hok.1.1 hb,hnm,fun h=>by omega⟩
     ·rw [if_neg hk0,aI (by omega) (by omega),show (k:Int)-1=((k-1:Nat):Int) by omega,bP (show k-1<s.2.length by omega)];simp only [obS];refine .inl ⟨_,rfl,rfl,rfl,?_⟩;simp only;rw [all_succ,hsel,iS];constructor
      ·intro hlt;exact ⟨h3'.1,h3'.2,hok.1.1 hb,hnm,fun _=>hlt⟩
      ·rintro ⟨_,_,_,_,a⟩;exact a (by omega)
 ·rintro ⟨m,ok,i⟩ ⟨h1,h2,h3⟩;simp only at h1 h2 h3;subst h1 h2;simp only;rw [if_neg (by omega),List.take_length];exact ⟨_,rfl,rfl,h3⟩
 ·rintro ⟨m,ok⟩ ⟨h1,h2⟩;simp only at h1 h2;subst h1;cases ok with
  | false =>
   refine ⟨false,by rw [if_neg (by simp)],?_,fun hr=>?_⟩
   ·simp only [Bool.false_eq_true,false_iff] at h2 ⊢;exact fun hr=>h2 ⟨((oI s).1 hr).1,((oI s).1 hr).2.2⟩
   ·have:=(oI s).1 hr;obtain ⟨a,b,c⟩:=hgood this.1 this.2.2;exact ⟨⟨a,b,by rw [c];exact hr⟩,c⟩
  | true =>
   obtain ⟨a1,a2⟩:=h2.1 rfl;obtain ⟨b1,b2,b3⟩:=hgood a1 a2;have hf:(prL (rdM s).1).length<=1000:=by
    have:(wrS (rdM s)).1=s.1:=by rw [b3]
    show (wrS (rdM s)).1.length<=1000;rw [this];exact h.fl.1
   have hx:∀ x∈(rdM s).2,(prL x.2.2).length<=1000:=fun x hx=>by
    have:(x.1,x.2.1,prL x.2.2)∈(wrS (rdM s)).2:=List.mem_map.2 ⟨x,hx,rfl⟩;rw [b3] at this;exact (h.sn _ this).1.1
   have hl:(rdM s).2.length<=1000:=by unfold rdM;simp;omega
   rw [if_pos rfl,show kO ((rdM s).1,(rdM s).2)=_ from aEa b1 b2 hl hf hx,b3];simp only [obS];have hiff:unN s<=48↔Rt s:=by
    rw [oI];exact ⟨fun h=>⟨a1,h,a2⟩,fun h=>h.2.1⟩
   refine ⟨_,rfl,?_,fun hr=>⟨⟨b1,b2,by rw [b3];exact hr⟩,by first | exact b3 | trivial⟩⟩;rw [decide_eq_true_iff,<- hiff];omega
theorem aNv (s:SS) (h:SmS s):pZ s=some s:=by
 have hn:=h.len;have hcp:∀ L:List P2,SmL L->mA L=some L:=fun L hL=>aHl L hL;unfold pZ;rw [hcp _ h.fl];simp only [obS];refine eJ (fun k (q:SS×Int)=>q=((s.1,s.2.take k),(k:Int))) (fun r=>r=s) s.2.length rfl ?_ ?_ ?_
 ·rintro k _ hk rfl;simp only;rw [if_pos (by omega),bP hk];simp only [obS];rw [hcp _ (h.sn _ (List.getElem_mem hk)).1];simp only [obS];rw [cI (by simp;omega)];simp only [obS];rw [aI (by omega) (by omega),List.take_succ_eq_append_getElem hk];exact .inl ⟨_,rfl,rfl⟩
 ·rintro _ rfl;simp only;rw [if_neg (by omega),List.take_length];exact ⟨_,rfl,rfl⟩
 ·rintro _ rfl;rfl
theorem aPd (a b:Opr):sA a b=some (decide (a=b)):=by
 obtain ⟨a1,a2,a3,a4,a5,a6⟩:=a;obtain ⟨b1,b2,b3,b4,b5,b6⟩:=b;unfold sA;simp only;by_cases h1:a1=b1
 ·rw [if_pos h1];by_cases h2:a2=b2
  ·rw [if_pos h2];by_cases h3:a3=b3
   ·rw [if_pos h3];by_cases h4:a4=b4
    ·rw [if_pos h4];by_cases h5:a5=b5
     ·rw [if_pos h5];simp [h1,h2,h3,h4,h5]
     ·rw [if_neg h5];simp [h5]
    ·rw [if_neg h4];simp [h4]
   ·rw [if_neg h3];simp [h3]
  ·rw [if_neg h2];simp [h2]
 ·rw [if_neg h1];simp [h1]
theorem aN4 {s:SS} (h:lC s=some false):SmT s.1:=by
 rcases aOi s.1 with h1 | ⟨_,h1⟩
 ·unfold lC at h;rw [h1] at h;cases h
 ·exact h1
theorem aMk (o:Opr) (h:o.2.2.2.2.2.length<=1000):sY o=some o:=by
 unfold sY;rw [cI (by simp;omega)];rfl
theorem aN5 (s:SS) (o:Opr) (gen:Int):vH s o gen=some true:=by
 unfold vH;rw [aIc];simp only [obS,Bool.not_true,Bool.false_eq_true,if_false];rcases aK1 s with h | ⟨h,hs,hl1,hl2⟩
 ·rw [h];rfl
 have hT:=aN4 h;rw [h];simp only [obS,Bool.false_eq_true,if_false];rcases aPb o with g | ⟨g,g1,g2,g3⟩
 ·rw [g];rfl
 rw [g];simp only [obS,Bool.false_eq_true,if_false];have hok:=qC g1 g2 g3;rw [aNv s hs,aMk o (by omega)];simp only [obS];obtain ⟨b,e1,e2,e3⟩:=aJc s hs;rw [e1];simp only [obS];refine eJ (fun k (q:Int×Int)=>q=((s.1.length:Int)+(((s.2.take k).map fun x=>1+x.2.2.length).sum:Nat),(k:Int))) (fun r=>r=(unN s:Int)) s.2.length (s0:=((s.1.length:Int),(0:Int))) (by simp) ?_ ?_ ?_
 ·rintro k _ hk rfl;have hx:=(hs.sn _ (List.getElem_mem hk)).1.1;have hss:((s.2.take k).map fun x=>1+x.2.2.length).sum<=1000*1001:=Nat.le_trans (uG _ 1001 _ fun x hx=>by have:=(hs.sn x (List.mem_of_mem_take hx)).1.1;omega) (Nat.mul_le_mul_right _ (by rw [List.length_take];omega));simp only;rw [if_pos (by omega),bP hk];simp only [obS];refine .inl ⟨_,rfl,?_⟩;rw [aI (n:=1+(s.2[k].2.2.length:Int)) (by omega) (by omega),aI (by omega) (by omega),aI (by omega) (by omega),List.take_succ_eq_append_getElem hk];refine Prod.ext ?_ rfl;simp only [List.map_append,List.map_cons,List.map_nil,List.sum_append,List.sum_cons,List.sum_nil];omega
 ·rintro _ rfl;simp only;rw [if_neg (by omega),List.take_length];exact ⟨_,rfl,by unfold unN;omega⟩
 ·rintro _ rfl;obtain ⟨r,e4⟩:=aHf s o gen hs hT hok;rcases aLe s hs with ⟨h1,hr⟩ | ⟨h1,hr⟩
  ·obtain ⟨m1,m2⟩:=e3 hr;have hb:=e2.2 hr;subst hb;rw [rG hr o gen hok,h1,sP s hs];simp only [obS];rw [if_pos (by rfl),if_pos trivial,if_neg (by simp)];obtain ⟨m',k1,k2,k3⟩:=aPw m1 o gen (by omega);rw [k1,m2];simp only [obS];have hnm:=aNb hr o gen;rw [aN1 _ _ (by omega),decide_eq_true rfl];simp only [obS,if_true];rw [aMi k2.nd k2.sn (by have:=k2.rt.len.2.1;simp [wrS] at this;omega),k3,m2];simp only [obS];rw [aD4 _ _ (zN hr _ _).small,decide_eq_true rfl];simp only [obS,if_true];rw [show mS s (s.1,s.2)=some (decide (s=s)) from aD4 s s hs,decide_eq_true rfl];simp only [obS,if_true];rw [aPd,decide_eq_true rfl];rfl
  ·have hb:b=false:=by
    cases b with
    | false=>rfl
    | true=>exact absurd (e2.1 rfl) hr
   subst hb;rw [e4,h1,sP s hs];simp only [obS];rw [if_pos (by rfl),if_pos trivial,if_pos (by rfl)];rfl
end Go.Proofs.YtnagibpmfabkjaaGreatDoor
