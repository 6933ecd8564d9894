/- Texts FilV, RfA, RfB, RfC, RfD, RfE, NdA, NdB. -/
import Derived.Test.YthcjjjnphgopjaaGreatDoorQ11
set_option linter.unusedSimpArgs false
set_option linter.unusedVariables false
namespace Go.Proofs.YthcjjjnphgopjaaGreatDoor
open Go.RowKit Go.Tri
theorem samePairs_eq (x y:List P2) (hx:x.length≤100000000):rSamePairs x y=some (decide (x=y)):=by
 unfold rSamePairs
 by_cases hl:(x.length:Int)=(y.length:Int)
 ·rw [if_pos hl]
  refine bind_run (fun k (s:Int)=>s=(k:Int)∧∀ j,j<k→x.getD j ([],[])=y.getD j ([],[])) (fun r=>(r=.inl ()∧x=y)∨(r=.inr false∧x≠y)) x.length ⟨rfl,fun j hj=>by omega⟩ ?_ ?_ ?_
  ·rintro k _ hk ⟨rfl,hne⟩
   rw [if_pos (by omega),idxO_getD ([],[]) rfl hk,idxO_getD ([],[]) rfl (show k<y.length by omega)]
   simp only [Option.bind_some]
   by_cases e1:(x.getD k ([],[])).1=(y.getD k ([],[])).1
   ·rw [if_pos e1]
    by_cases e2:(x.getD k ([],[])).2=(y.getD k ([],[])).2
    ·rw [if_pos e2,i64_id (by omega) (by omega)]
     exact .inl ⟨_,rfl,rfl,fun j hj=>by
      by_cases ej:j=k
      ·subst ej;exact Prod.ext e1 e2
      ·exact hne j (by omega)⟩
    ·rw [if_neg e2]
     exact .inr ⟨_,rfl,.inr ⟨rfl,fun h=>e2 (by rw [h])⟩⟩
   ·rw [if_neg e1]
    exact .inr ⟨_,rfl,.inr ⟨rfl,fun h=>e1 (by rw [h])⟩⟩
  ·rintro _ ⟨rfl,hne⟩
   refine ⟨.inl (),?_,.inl ⟨rfl,List.ext_getElem (by omega) fun j h1 h2=>?_⟩⟩
   ·rw [if_neg (by omega)]
   ·have:=hne j h1
    simpa [List.getD_eq_getElem?_getD,List.getElem?_eq_getElem h1,List.getElem?_eq_getElem h2] using this
  ·rintro _ (⟨rfl,h1⟩ | ⟨rfl,h1⟩)
   ·simp [h1]
   ·simp [h1]
 ·rw [if_neg hl,decide_eq_false fun h=>hl (by rw [h])]
theorem great_eq (L:List P2):rGreat L=some true∨(rGreat L=some false∧(∀ x∈L,x.1.length≤8000∧x.2.length≤8000)):=by
 unfold rGreat
 refine bind_runP (C:=fun o=>o=some true∨(o=some false∧∀ x∈L,x.1.length≤8000∧x.2.length≤8000)) (fun k (s:Int×Int)=>s.2=(k:Int)∧8 * (k:Int)≤s.1∧s.1≤30000∧k≤1001∧k≤L.length∧∀ j (hj:j<L.length),j<k→L[j].1.length≤8000∧L[j].2.length≤8000) (fun r=>r=.inr true∨(∃ n:Int,r=.inl n∧(8000<n∨∀ x∈L,x.1.length≤8000∧x.2.length≤8000))) (min L.length 1002) ⟨rfl,by omega,by omega,by omega,by omega,fun j hj hk=>by omega⟩ ?_ ?_ ?_
 ·rintro k ⟨n,i⟩ hk ⟨h1,h2,h3,h3',h4,h5⟩
  simp only at h1 h2 h3
  subst h1
  simp only
  have hkl:k<L.length:=by omega
  rw [if_pos (by omega)]
  by_cases h6:n≤8000
  ·rw [if_pos h6]
   simp only [idxO_get hkl,Option.bind_some]
   by_cases h7:8000<(L[k].1.length:Int)
   ·rw [if_pos h7];exact .inr ⟨_,rfl,.inl rfl⟩
   ·rw [if_neg h7]
    by_cases h8:8000<(L[k].2.length:Int)
    ·rw [if_pos h8];exact .inr ⟨_,rfl,.inl rfl⟩
    ·rw [if_neg h8]
     rw [i64_id (n:=8+(L[k].1.length:Int)) (by omega) (by omega),i64_id (n:=8+(L[k].1.length:Int)+(L[k].2.length:Int)) (by omega) (by omega),i64_id (n:=n+(8+(L[k].1.length:Int)+(L[k].2.length:Int))) (by omega) (by omega),i64_id (n:=(k:Int)+1) (by omega) (by omega)]
     refine .inl ⟨_,rfl,rfl,?_,?_,?_,?_,fun j hj hk2=>?_⟩
     ·simp only;omega
     ·simp only;omega
     ·omega
     ·omega
     ·by_cases e:j=k
      ·subst e;omega
      ·exact h5 j hj (by omega)
  ·rw [if_neg h6]
   exact .inr ⟨_,rfl,.inr ⟨n,rfl,.inl (by omega)⟩⟩
 ·rintro ⟨n,i⟩ ⟨h1,h2,h3,h3',h4,h5⟩
  simp only at h1 h2 h3
  subst h1
  simp only
  by_cases h0:L.length≤1001
  ·rw [if_neg (by omega)]
   refine ⟨_,rfl,.inr ⟨n,rfl,.inr fun x hx=>?_⟩⟩
   obtain ⟨j,hj,rfl⟩:=List.getElem_of_mem hx
   exact h5 j hj (by omega)
  ·omega
 ·rintro _ (rfl | ⟨n,rfl,h | h⟩)
  ·exact .inl rfl
  ·exact .inl (by simp only [Sum.elim_inl];rw [decide_eq_true h])
  ·by_cases h8:8000<n
   ·exact .inl (by simp only [Sum.elim_inl];rw [decide_eq_true h8])
   ·exact .inr ⟨by simp only [Sum.elim_inl];rw [decide_eq_false h8],h⟩
theorem greatOp_eq (o:Opr):rGreatOp o=some true∨(rGreatOp o=some false∧o.2.1.length≤400∧o.2.2.1.length≤400∧o.2.2.2.2.2.length≤400):=by
 unfold rGreatOp
 by_cases h1:400<(o.2.1.length:Int)
 ·rw [if_pos h1];exact .inl rfl
 ·rw [if_neg h1]
  by_cases h2:400<(o.2.2.1.length:Int)
  ·rw [if_pos h2];exact .inl rfl
  ·rw [if_neg h2]
   by_cases h3:400<(o.2.2.2.2.2.length:Int)
   ·rw [decide_eq_true h3];exact .inl rfl
   ·rw [decide_eq_false h3];exact .inr ⟨rfl,by omega,by omega,by omega⟩
theorem opOk {o:Opr} (h1:o.2.1.length≤400) (h2:o.2.2.1.length≤400) (h3:o.2.2.2.2.2.length≤400):OpOk o:=⟨by omega,by omega,by omega⟩
def s00:FS:=fset [47] (true,[]) fnil
theorem s00_enum:Enum s00 [([47],(true,[]))]:=⟨by simp,fun k=>by
 unfold s00 fset fnil
 simp only [aget]
 by_cases h:k=[47]
 ·rw [if_pos h,if_pos h.symm]
 ·rw [if_neg h,if_neg (Ne.symm h)]⟩
theorem s00_crd:Crd s00 1:=⟨_,s00_enum,by simp⟩
theorem s00_snd:Snd s00:=by
 have h:∀ p f,s00 p=some f→p=[47]∧f=(true,[]):=fun p f hp=>by
  unfold s00 fset fnil at hp
  split at hp
  ·rename_i e;exact ⟨e,(Option.some.inj hp).symm⟩
  ·cases hp
 exact ⟨⟨[],rfl⟩,fun p f hp=>by rw [(h p f hp).1];rfl,fun p f hp=>by rw [(h p f hp).2];simp,fun p d hp=>by have:=(h p _ hp).2;injection this,fun p f hp hn=>absurd (h p f hp).1 hn⟩
theorem fNew_eq:fNew=some (prsF s00):=by
 unfold fNew
 have:=(s00_snd.prs s00_crd (by omega)).1
 show (sPairs s00).bind _=_
 rw [this];rfl
theorem doP_names {s:FS} (hs:Snd s) {n:Nat} (hc:Crd s n) (hn:n≤1000000) (o:Opr):(doP s o).1.2.2.2.length≤6:=by
 unfold doP
 split
 ·simp
 ·split
  ·unfold wr
   by_cases h1:(rg s o.2.1).2=0
   ·rw [if_pos h1]
    generalize (if o.1=3 then o.2.2.2.1 else o.2.2.2.2.1)=m
    by_cases g1:m<0
    ·rw [if_pos g1];simp
    ·rw [if_neg g1]
     by_cases g2:192<m∨(o.1=3∧192<o.2.2.2.1+(o.2.2.2.2.2.length:Int))
     ·rw [if_pos g2];simp
     ·rw [if_neg g2]
      by_cases g3:o.1=4
      ·rw [if_pos g3];simp
      ·rw [if_neg g3];simp
   ·rw [if_neg h1];simp
  ·split
   ·unfold rdA
    split
    ·split<;>simp
    ·simp
   ·split
    ·simp
    ·split
     ·simp
     ·split
      ·unfold ls
       split
       ·split
        ·simp;omega
        ·simp
       ·simp
      ·split
       ·unfold stt
        split
        ·split<;>simp
        ·simp
       ·simp
theorem lss_iff:∀ l m:List UInt8,lssB l m=true↔l<m
 | [],[]=>by simp [lssB,Op.bytesLess]
 | [],b::m=>by simp [lssB,Op.bytesLess]
 | a::l,[]=>by simp [lssB,Op.bytesLess]
 | a::l,b::m=>by
  have ih:=lss_iff l m
  unfold lssB at ih ⊢
  rw [List.cons_lt_cons_iff,← ih]
  simp [Op.bytesLess]
theorem putAt_get (xs:List UInt8) (o:Nat) (d:List UInt8) (h:o+d.length≤xs.length) (i:Nat):(putAt xs o d).getD i 0=if o≤i∧i<o+d.length then d.getD (i - o) 0 else xs.getD i 0:=by
 unfold putAt
 simp only [List.getD_eq_getElem?_getD]
 by_cases h1:i<o
 ·rw [if_neg (by omega),List.append_assoc,List.getElem?_append_left (by simp;omega),List.getElem?_take_of_lt h1]
 ·by_cases h2:i<o+d.length
  ·rw [if_pos ⟨by omega,h2⟩,List.getElem?_append_left (by simp;omega),List.getElem?_append_right (by simp;omega)]
   simp only [List.length_take,Nat.min_eq_left (show o≤xs.length by omega)]
  ·rw [if_neg (by omega),List.getElem?_append_right (by simp;omega),List.getElem?_drop]
   congr 2
   simp only [List.length_append,List.length_take,Nat.min_eq_left (show o≤xs.length by omega)]
   omega
theorem szd_get (d:List UInt8) (n i:Nat) (h:i<n):(szd d n).getD i 0=d.getD i 0:=by
 unfold szd
 simp only [List.getD_eq_getElem?_getD]
 by_cases h1:i<d.length
 ·rw [List.getElem?_append_left (by simp;omega),List.getElem?_take_of_lt h]
 ·rw [List.getElem?_append_right (by simp;omega),List.getElem?_eq_none (show d.length≤i by omega)]
  cases hx:(List.replicate (n - d.length) (0:UInt8))[i - (d.take n).length]? with
  | none=>rfl
  | some y =>
   have:=List.mem_of_getElem? hx
   rw [List.mem_replicate] at this
   rw [this.2];rfl
theorem loop_runE {σ ρ:Type} {f:σ→Option (σ ⊕ ρ)} (I:Nat→σ→Prop) (r0:ρ) (n:Nat) {s0:σ} (h0:I 0 s0)
  (hs:∀ i s,i<n→I i s→(∃ s',f s=some (.inl s')∧I (i+1) s')∨(∃ r,f s=some (.inr r)∧r=r0))
  (he:∀ s,I n s→∃ r,f s=some (.inr r)∧r=r0):loopO f s0=some r0:=by
 obtain ⟨r,h1,h2⟩:=loop_run I (fun r=>r=r0) n hs he n 0 s0 (by omega) h0
 rw [h1,h2]
theorem rName_eq (x:List UInt8):m_triremeref09_Name x=some (isNm x):=by
 unfold m_triremeref09_Name
 by_cases h1:(x.length:Int)<1
 ·rw [if_pos h1]
  have:x=[]:=List.eq_nil_of_length_eq_zero (by omega)
  rw [this];rfl
 rw [if_neg h1]
 by_cases h2:8<(x.length:Int)
 ·rw [if_pos h2]
  unfold isNm
  rw [decide_eq_false (show ¬ x.length≤8 by omega)];simp
 rw [if_neg h2]
 rw [loop_fs x (fun c=>if nmC c=true then none else some (.inr false)) (.inl ()) (fun i hi=>?_) ?_]
 ·simp only [Option.bind_some]
  have hne:x≠[]:=fun e=>by rw [e] at h1;simp at h1
  by_cases ha:x.all nmC=true
  ·have:x.findSome? (fun c=>if nmC c=true then none else some (Sum.inr false:Unit ⊕ Bool))=none:=by
    rw [List.findSome?_eq_none_iff]
    intro c hc
    rw [if_pos (List.all_eq_true.1 ha c hc)]
   rw [this]
   unfold isNm
   rw [ha,decide_eq_true hne,decide_eq_true (show x.length≤8 by omega)];rfl
  ·have:x.findSome? (fun c=>if nmC c=true then none else some (Sum.inr false:Unit ⊕ Bool))=some (.inr false):=by
    have ha':¬ ∀ c∈x,nmC c=true:=fun h=>ha (List.all_eq_true.2 h)
    clear ha h1 h2 hne
    induction x with
    | nil=>exact (ha' (by simp)).elim
    | cons c x ih =>
     rw [List.findSome?_cons]
     by_cases hc:nmC c=true
     ·rw [if_pos hc]
      exact ih fun h=>ha' fun d hd=>by
       rcases List.mem_cons.1 hd with rfl | hd
       ·exact hc
       ·exact h d hd
     ·rw [if_neg hc]
   rw [this]
   unfold isNm
   rw [show x.all nmC=false by simpa using ha];rfl
 ·rw [if_neg (by omega)]
 ·rw [if_pos (by omega),idxO_get hi]
  simp only [Option.bind_some]
  unfold nmC
  by_cases h1:(x[i].toNat:Int)<33
  ·rw [if_pos h1,if_neg (by simp;omega)]
  ·rw [if_neg h1]
   by_cases h2:126<(x[i].toNat:Int)
   ·rw [if_pos h2,if_neg (by simp;omega)]
   ·rw [if_neg h2]
    by_cases h3:(x[i].toNat:Int)=47
    ·rw [if_pos h3,if_neg (by simp;omega)]
    ·rw [if_neg h3,if_pos (by simp;omega),i64_id (by omega) (by omega)]
     rfl
def btw (p:List UInt8) (i j:Nat):List UInt8:=(p.take j).drop i
theorem btw_mem {p:List UInt8} {i j:Nat} {c:UInt8} (h:c∈btw p i j):∃ k,∃ hk:k<p.length,i≤k∧k<j∧p[k]=c:=by
 unfold btw at h
 obtain ⟨k,hk,rfl⟩:=List.getElem_of_mem h
 simp only [List.length_drop,List.length_take] at hk
 exact ⟨i+k,by omega,by omega,by omega,by simp⟩
theorem btw_app {p:List UInt8} {i j:Nat} (h:i≤j) (hj:j<p.length):p.drop i=btw p i j++p[j]::p.drop (j+1):=by
 unfold btw
 rw [← List.drop_eq_getElem_cons hj]
 conv=>lhs;rw [← List.take_append_drop j p]
 rw [List.drop_append_of_le_length (by simp;omega)]
theorem btw_end {p:List UInt8} {i:Nat}:btw p i p.length=p.drop i:=by unfold btw;rw [List.take_length]
structure SpI (p:List UInt8) (out:List (List UInt8)) (fr i:Nat):Prop where
 fr1:1≤fr
 le:fr≤i
 il:i≤p.length
 sp:sp p.tail=out++sp (p.drop fr)
 ok:∀ x∈out,isNm x=true
 no:∀ k (hk:k<p.length),fr≤k→k<i→p[k]≠47
 ol:out.length≤fr
theorem rSplit_eq (p:List UInt8):m_triremeref09_Split p=some (nmP p,okP p):=by
 unfold m_triremeref09_Split
 by_cases hr:p=[47]
 ·rw [if_pos hr,hr];rfl
 rw [if_neg hr]
 have hbad:okP p=false→some (([]:List (List UInt8)),false)=some (nmP p,okP p):=fun h=>by rw [nmP_bad h,h]
 by_cases h1:(p.length:Int)<2
 ·rw [if_pos h1]
  refine hbad ?_
  unfold okP
  rw [decide_eq_false hr]
  cases p with
  | nil=>rfl
  | cons c p =>
   cases p with
   | nil =>
    have:c≠47:=fun e=>hr (by rw [e])
    simp [this]
   | cons d p=>simp at h1;omega
 rw [if_neg h1]
 by_cases h2:24<(p.length:Int)
 ·rw [if_pos h2]
  refine hbad ?_
  unfold okP
  rw [decide_eq_false hr,decide_eq_false (show ¬ p.length≤24 by omega)];simp
 rw [if_neg h2]
 have h0:0<p.length:=by omega
 rw [show (0:Int)=((0:Nat):Int) from rfl,idxO_get h0]
 simp only [Option.bind_some]
 have hhead:p.head?=some p[0]:=by
  cases p with
  | nil=>simp at h0
  | cons c p=>rfl
 by_cases h3:(p[0].toNat:Int)=47
 ·rw [if_pos h3]
  have hp0:p[0]=47:=by rw [← UInt8.toNat_inj];show p[0].toNat=47;omega
  have hok:okP p=(sp p.tail).all isNm:=by
   unfold okP
   rw [decide_eq_false hr,decide_eq_true (show p.length≤24 by omega),hhead,hp0];simp
  have htail:p.tail=p.drop 1:=by simp
  refine bind_run (fun k (t:(List (List UInt8))×Int×Int)=>t.2.2=((k+1:Nat):Int)∧∃ fr:Nat,t.2.1=(fr:Int)∧((k+1≤p.length∧SpI p t.1 fr (k+1))∨(k=p.length∧sp p.tail=t.1∧∀ x∈t.1,isNm x=true))) (fun r=>(∃ out,r=.inl out∧sp p.tail=out∧∀ x∈out,isNm x=true)∨(r=.inr (([]:List (List UInt8)),false)∧okP p=false)) p.length ⟨rfl,1,rfl,.inl ⟨by omega,⟨Nat.le_refl _,Nat.le_refl _,by omega,by rw [htail];rfl,by simp,fun k hk a b=>by omega,by simp⟩⟩⟩ ?_ ?_ ?_
  ·rintro k ⟨out,f0,i0⟩ hk ⟨e1,fr,e2,e3⟩
   simp only at e1 e2 e3
   subst e1 e2
   have hI:SpI p out fr (k+1):=e3.resolve_right (fun h=>by omega) |>.2
   obtain ⟨q1,q2,q3,q4,q5,q6,q7⟩:=hI
   simp only
   rw [if_pos (by omega)]
   by_cases hlt:k+1<p.length
   ·rw [if_pos (by omega),idxO_get hlt]
    simp only [Option.bind_some]
    by_cases hc:(p[k+1].toNat:Int)=47
    ·have hc':p[k+1]=47:=by rw [← UInt8.toNat_inj];show p[k+1].toNat=47;omega
     rw [if_pos hc,slcO_of q2 (by omega)]
     simp only [Option.bind_some,rName_eq]
     have hx:sp (p.drop fr)=btw p fr (k+1)::sp (p.drop (k+1+1)):=by
      rw [btw_app q2 hlt,hc']
      exact sp_app _ fun c hc2=>by
       obtain ⟨j,hj,a,b,rfl⟩:=btw_mem hc2
       exact q6 j hj a b
     show _∨_
     by_cases hn:isNm (btw p fr (k+1))=true
     ·refine .inl ?_
      rw [show (p.take (k+1)).drop fr=btw p fr (k+1) from rfl,hn,if_neg (by decide)]
      rw [appO_of (by simp;omega)]
      simp only [Option.bind_some,Sum.elim_inl]
      rw [i64_id (by omega) (by omega)]
      refine ⟨_,rfl,?_,k+1+1,?_,.inl ⟨by omega,⟨by omega,Nat.le_refl _,by omega,?_,?_,fun j hj a b=>by omega,by simp;omega⟩⟩⟩
      ·simp only;omega
      ·simp only;omega
      ·simp only
       rw [q4,hx]
       show _=(out++[btw p fr (k+1)])++_
       simp
      ·intro y hy
       rcases List.mem_append.1 hy with hy | hy
       ·exact q5 y hy
       ·simp at hy;rw [hy];exact hn
     ·refine .inr ?_
      have hn':isNm (btw p fr (k+1))=false:=by simpa using hn
      rw [show (p.take (k+1)).drop fr=btw p fr (k+1) from rfl,hn',if_pos (show (!false)=true from rfl)]
      refine ⟨_,rfl,.inr ⟨rfl,?_⟩⟩
      rw [hok,q4,hx]
      simp [hn']
    ·rw [if_neg hc]
     simp only [Option.bind_some,Sum.elim_inl]
     rw [i64_id (by omega) (by omega)]
     refine .inl ⟨_,rfl,?_,fr,rfl,.inl ⟨by omega,⟨q1,by omega,by omega,q4,q5,fun j hj a b=>?_,q7⟩⟩⟩
     ·simp only;omega
     ·by_cases e:j=k+1
      ·subst e
       intro e2
       exact hc (by rw [e2];rfl)
      ·exact q6 j hj a (by omega)
   ·have hkp:k+1=p.length:=by omega
    rw [if_neg (by omega),slcO_of q2 (by omega)]
    simp only [Option.bind_some,rName_eq]
    have hx:sp (p.drop fr)=[btw p fr (k+1)]:=by
     rw [hkp,btw_end]
     refine sp_one fun c hc2=>?_
     rw [← btw_end] at hc2
     obtain ⟨j,hj,a,b,rfl⟩:=btw_mem hc2
     exact q6 j hj a (by omega)
    by_cases hn:isNm (btw p fr (k+1))=true
    ·refine .inl ?_
     rw [show (p.take (k+1)).drop fr=btw p fr (k+1) from rfl,hn,if_neg (by decide)]
     rw [appO_of (by simp;omega)]
     simp only [Option.bind_some,Sum.elim_inl]
     rw [i64_id (by omega) (by omega)]
     refine ⟨_,rfl,?_,k+1+1,?_,.inr ⟨by omega,?_,?_⟩⟩
     ·simp only;omega
     ·simp only;omega
     ·simp only
      rw [q4,hx];try rfl
     ·intro y hy
      rcases List.mem_append.1 hy with hy | hy
      ·exact q5 y hy
      ·simp at hy;rw [hy];exact hn
    ·refine .inr ?_
     have hn':isNm (btw p fr (k+1))=false:=by simpa using hn
     rw [show (p.take (k+1)).drop fr=btw p fr (k+1) from rfl,hn',if_pos (show (!false)=true from rfl)]
     refine ⟨_,rfl,.inr ⟨rfl,?_⟩⟩
     rw [hok,q4,hx]
     simp [hn']
  ·rintro ⟨out,f0,i0⟩ ⟨e1,fr,e2,e3⟩
   simp only at e1 e2 e3
   subst e1 e2
   obtain ⟨_,g1,g2⟩:=e3.resolve_left (fun h=>by omega)
   simp only
   rw [if_neg (by omega)]
   exact ⟨_,rfl,.inl ⟨out,rfl,g1,g2⟩⟩
  ·rintro _ (⟨out,rfl,g1,g2⟩ | ⟨rfl,g⟩)
   ·have hk:okP p=true:=by rw [hok,g1];exact List.all_eq_true.2 g2
    simp only [Sum.elim_inl]
    unfold nmP
    rw [if_neg hr,if_pos hk,hk,g1]
   ·simp only [Sum.elim_inr]
    exact hbad g
 ·rw [if_neg h3]
  refine hbad ?_
  unfold okP
  rw [decide_eq_false hr,hhead]
  have:p[0]≠47:=fun e=>h3 (by rw [e];rfl)
  simp [this]
theorem rJoin_eq (xs:List (List UInt8)) (h:(pth xs).length≤100000) (hn:xs.length≤100000):m_triremeref09_Join xs=some (pth xs):=by
 unfold m_triremeref09_Join
 by_cases h0:(xs.length:Int)=0
 ·rw [if_pos h0]
  have:xs=[]:=List.eq_nil_of_length_eq_zero (by omega)
  rw [this];rfl
 rw [if_neg h0]
 have hstep:∀ i,i<xs.length→(rst (xs.take i)).length≤100001:=fun i hi=>by
  unfold rst
  split
  ·simp
  ·have:=jn_take (xs:=xs) i
   simp only [pth,List.length_cons] at h ⊢
   omega
 have hrst:∀ i (hi:i<xs.length),rst (xs.take i)++47::xs[i]=rst (xs.take (i+1)):=fun i hi=>by
  rw [List.take_succ_eq_append_getElem hi]
  unfold rst
  by_cases hz:xs.take i=[]
  ·rw [if_pos hz,if_neg (fun e=>List.cons_ne_nil _ _ (List.append_eq_nil_iff.1 e).2),hz];simp [pth,jn_one]
  ·rw [if_neg hz,if_neg (fun e=>List.cons_ne_nil _ _ (List.append_eq_nil_iff.1 e).2)]
   unfold pth
   rw [jn_app _ _ hz (by simp),jn_one];simp
 refine bind_run (fun k (t:List UInt8×Int)=>t=(rst (xs.take k),(k:Int))) (fun r=>r=pth xs) xs.length rfl ?_ ?_ ?_
 ·rintro k _ hk rfl
  simp only
  have h1:=hstep k hk
  have h2:(rst (xs.take (k+1))).length≤100001:=by
   by_cases e:k+1<xs.length
   ·exact hstep _ e
   ·rw [List.take_of_length_le (by omega)]
    unfold rst
    split
    ·simp
    ·omega
  have h3:=congrArg List.length (hrst k hk)
  simp only [List.length_append,List.length_cons] at h3
  rw [if_pos (by omega),idxO_get hk]
  simp only [Option.bind_some]
  rw [appO_byte (by simp;omega)]
  simp only [Option.bind_some]
  rw [appO_byte (by simp;omega)]
  simp only [Option.bind_some]
  rw [i64_id (by omega) (by omega)]
  refine .inl ⟨_,rfl,?_⟩
  rw [← hrst k hk];rfl
 ·rintro _ rfl
  simp only
  rw [if_neg (by omega),List.take_length]
  refine ⟨_,rfl,?_⟩
  unfold rst
  rw [if_neg (fun e=>h0 (by rw [e];rfl))]
 ·rintro _ rfl;rfl
theorem rRight_eq (p:List UInt8):m_triremeref09_Right p=some (okP p):=by
 unfold m_triremeref09_Right;rw [rSplit_eq];rfl
theorem nmP_len24 (p:List UInt8):(nmP p).length≤25∧(pth (nmP p)).length≤25:=by
 by_cases h:okP p=true
 ·have h1:=(okP_pth h).2.2
  have h2:=(okP_pth h).2.1
  have h3:=nmP_len p
  rw [← h2];omega
 ·rw [nmP_bad (by simpa using h)];simp [pth,jn_nil]
theorem rParent_eq (p:List UInt8):m_triremeref09_Parent p=some (par p):=by
 unfold m_triremeref09_Parent par
 rw [rSplit_eq p]
 simp only [Option.bind_some]
 obtain ⟨hl,hj⟩:=nmP_len24 p
 by_cases h0:nmP p=[]
 ·rw [if_pos (by rw [h0];rfl),if_pos h0]
 ·have hp:0<(nmP p).length:=List.length_pos_iff.2 h0
  rw [if_neg (by omega),if_neg h0,i64_id (by omega) (by omega)]
  rw [show ((nmP p).length:Int) - 1=(((nmP p).length - 1:Nat):Int) by omega,show (0:Int)=((0:Nat):Int) from rfl,slcO_of (Nat.zero_le _) (by omega)]
  simp only [Option.bind_some,List.drop_zero]
  have ht:(nmP p).take ((nmP p).length - 1)=(nmP p).dropLast:=by rw [List.dropLast_eq_take]
  have:=jn_take (xs:=nmP p) ((nmP p).length - 1)
  rw [ht] at this ⊢
  simp only [pth,List.length_cons] at hj
  rw [rJoin_eq _ (by simp only [pth,List.length_cons];omega) (by simp;omega)];rfl
theorem rBase_eq (p:List UInt8):m_triremeref09_Base p=some (bas p):=by
 unfold m_triremeref09_Base bas
 rw [rSplit_eq p]
 simp only [Option.bind_some]
 obtain ⟨hl,hj⟩:=nmP_len24 p
 by_cases h0:nmP p=[]
 ·rw [if_pos (by rw [h0];rfl),h0];rfl
 ·have hp:0<(nmP p).length:=List.length_pos_iff.2 h0
  rw [if_neg (by omega),i64_id (by omega) (by omega),show ((nmP p).length:Int) - 1=(((nmP p).length - 1:Nat):Int) by omega,idxO_get (by omega)]
  simp only [Option.bind_some]
  rw [List.getLast?_eq_getElem?,List.getElem?_eq_getElem (by omega)];rfl
theorem rWithin_eq (p q:List UInt8):m_triremeref09_Within p q=some (wthn p q):=by
 unfold m_triremeref09_Within
 rw [rRight_eq,rRight_eq]
 simp only [Option.bind_some]
 by_cases hp:okP p=true
 ·rw [if_neg (by rw [hp];decide)]
  by_cases hq:okP q=true
  ·rw [if_neg (by rw [hq];decide)]
   obtain ⟨p1,p2,p3⟩:=okP_pth hp
   obtain ⟨q1,q2,q3⟩:=okP_pth hq
   by_cases hr:p=[47]
   ·rw [if_pos hr]
    have:wthn p q=true:=(wthn_iff hp).2 ⟨hq,nmP q,by rw [hr,nmP_root];rfl⟩
    rw [this]
   rw [if_neg hr]
   by_cases he:p=q
   ·rw [if_pos he]
    have:wthn p q=true:=(wthn_iff hp).2 ⟨hq,[],by rw [he];simp⟩
    rw [this]
   rw [if_neg he]
   have hkey:wthn p q=true↔∃ r,q=p++47::r:=by
    rw [wthn_iff hp]
    constructor
    ·rintro ⟨_,c,hc⟩
     have hcn:c≠[]:=fun e=>he (by rw [p2,q2,hc,e,List.append_nil])
     rw [hc,pth_app (nmP_ne hp hr) c,← p2] at q2
     unfold rst at q2
     rw [if_neg hcn] at q2
     exact ⟨jn c,q2⟩
    ·rintro ⟨r,hrr⟩
     refine ⟨hq,sp r,?_⟩
     have h1:sp q.tail=nmP q:=by
      have hq47:q≠[47]:=fun e=>by
       rw [e] at hrr
       have:=congrArg List.length hrr
       simp at this
       have hp0:=congrArg List.length p2
       simp [pth] at hp0
       omega
      unfold nmP
      rw [if_neg hq47,if_pos hq]
     rw [← h1,hrr]
     have hp2:p=47::jn (nmP p):=p2
     rw [hp2]
     show sp (jn (nmP p)++47::r)=_
     have h3:jn (nmP p)++47::r=jn (nmP p++sp r):=by rw [jn_app _ _ (nmP_ne hp hr) (sp_ne r),jn_sp]
     have h4:∀ x∈nmP p++sp r,∀ c∈x,c≠47:=fun x hx=>by
      rcases List.mem_append.1 hx with hx | hx
      ·exact p1.sl x hx
      ·have hall:∀ (r:List UInt8),∀ x∈sp r,∀ c∈x,c≠47:=by
        intro r
        induction r with
        | nil=>intro x hx;simp [sp] at hx;simp [hx]
        | cons c r ih =>
         intro x hx
         simp only [sp] at hx
         split at hx
         ·rcases List.mem_cons.1 hx with rfl | hx
          ·simp
          ·exact ih x hx
         ·rename_i hc
          split at hx
          ·rename_i h t e
           rw [e] at ih
           rcases List.mem_cons.1 hx with rfl | hx
           ·intro d hd
            rcases List.mem_cons.1 hd with rfl | hd
            ·exact hc
            ·exact ih h List.mem_cons_self d hd
           ·exact ih x (List.mem_cons_of_mem _ hx)
          ·simp at hx;subst hx;intro d hd;simp at hd;rw [hd];exact hc
       exact hall r x hx
     rw [h3,sp_jn (by simp [nmP_ne hp hr]) h4]
     have h5:nmP (47::jn (nmP p))=nmP p:=by rw [← hp2]
     rw [h5]
   by_cases hlt:(p.length:Int)<(q.length:Int)
   ·rw [if_pos hlt,show (0:Int)=((0:Nat):Int) from rfl,slcO_of (Nat.zero_le _) (by omega)]
    simp only [Option.bind_some,List.drop_zero]
    by_cases ht:q.take p.length=p
    ·rw [if_pos ht,idxO_get (show p.length<q.length by omega)]
     simp only [Option.bind_some]
     have hsplit:q=p++q[p.length]::q.drop (p.length+1):=by
      conv=>lhs;rw [← List.take_append_drop p.length q]
      rw [ht,List.drop_eq_getElem_cons (show p.length<q.length by omega)]
     congr 1
     by_cases hc:(q[p.length].toNat:Int)=47
     ·rw [decide_eq_true hc]
      have hc':q[p.length]=47:=by rw [← UInt8.toNat_inj];show q[p.length].toNat=47;omega
      exact (hkey.2 ⟨q.drop (p.length+1),by rw [← hc'];exact hsplit⟩).symm
     ·rw [decide_eq_false hc]
      cases hw:wthn p q with
      | false=>rfl
      | true =>
       obtain ⟨r,hr2⟩:=hkey.1 hw
       refine absurd ?_ hc
       have:q[p.length]?=some 47:=by rw [hr2];simp
       rw [List.getElem?_eq_getElem (show p.length<q.length by omega)] at this
       rw [Option.some.inj this];rfl
    ·rw [if_neg ht]
     cases hw:wthn p q with
     | false=>rfl
     | true =>
      obtain ⟨r,hr2⟩:=hkey.1 hw
      exact absurd (by rw [hr2];simp) ht
   ·rw [if_neg hlt]
    cases hw:wthn p q with
    | false=>rfl
    | true =>
     obtain ⟨r,hr2⟩:=hkey.1 hw
     have:=congrArg List.length hr2
     simp at this;omega
  ·have hq':okP q=false:=by simpa using hq
   rw [hq',if_pos (show (!false)=true from rfl)]
   unfold wthn
   rw [hq'];simp
 ·have hp':okP p=false:=by simpa using hp
  rw [hp',if_pos (show (!false)=true from rfl)]
  unfold wthn
  rw [hp'];simp
end Go.Proofs.YthcjjjnphgopjaaGreatDoor
namespace Go.Tri
open Go.RowKit
theorem set_swap {α:Type} (a:List α) (y x:α) (c:List α):((a++y::x::c).set (a.length+1) y).set a.length x=a++x::y::c:=by
 rw [List.set_append_right _ _ (by omega),List.set_append_right _ _ (Nat.le_refl _)]
 simp
theorem sink {α:Type} (lt:α→α→Bool) {f:List α×Int→Option ((List α×Int) ⊕ List α)} (hf0:∀ xs,f (xs,0)=some (.inr xs)) (hf:∀ (a:List α) (y x:α) (c:List α),a.length+c.length≤100000000→f (a++y::x::c,((a.length+1:Nat):Int))=some (if lt x y=true then .inl (a++x::y::c,(a.length:Int)) else .inr (a++y::x::c))) :
  ∀ (n:Nat) (a:List α) (x:α) (c:List α),a.length=n→a.length+c.length≤100000000→∃ a1 a2,a=a1++a2∧loopO f (a++x::c,(a.length:Int))=some (a1++x::(a2++c))∧(∀ y∈a2,lt x y=true)∧∀ y,a1.getLast?=some y→lt x y=false
 | 0,a,x,c,h,_=>by
  have:a=[]:=List.eq_nil_of_length_eq_zero h
  subst this
  refine ⟨[],[],rfl,?_,by simp,by simp⟩
  rw [loopO_eq,show ((([]:List α).length:Nat):Int)=0 from rfl,hf0];rfl
 | n+1,a,x,c,h,hb=>by
  have hne:a≠[]:=fun e=>by rw [e] at h;simp at h
  obtain ⟨b,y,rfl⟩:∃ b y,a=b++[y]:=⟨a.dropLast,a.getLast hne,(List.dropLast_concat_getLast hne).symm⟩
  simp only [List.length_append,List.length_cons,List.length_nil] at h hb
  have e1:(b++[y])++x::c=b++y::x::c:=by simp
  have e2:(((b++[y]).length:Nat):Int)=((b.length+1:Nat):Int):=by simp
  rw [e1,e2,loopO_eq,hf b y x c (by omega)]
  by_cases hl:lt x y=true
  ·rw [if_pos hl]
   obtain ⟨a1,a2,h1,h2,h3,h4⟩:=sink lt hf0 hf n b x (y::c) (by omega) (by simp;omega)
   refine ⟨a1,a2++[y],by rw [h1];simp,?_,?_,h4⟩
   ·simp only [Option.bind_some]
    rw [h2];simp
   ·intro z hz
    rcases List.mem_append.1 hz with hz | hz
    ·exact h3 z hz
    ·simp at hz;rw [hz];exact hl
  ·rw [if_neg hl]
   refine ⟨b++[y],[],by simp,by simp,by simp,fun z hz=>?_⟩
   simp at hz;rw [← hz];simpa using hl
theorem sink_sorted {α:Type} {lt:α→α→Bool} (htr:∀ a b c,lt b a=false→lt c b=false→lt c a=false) (hlt:∀ a b,lt a b=true→lt b a=false) {a1 a2:List α} {x:α} (h:(a1++a2).Pairwise (fun p q=>lt q p=false)) (h2:∀ y∈a2,lt x y=true) (h1:∀ y,a1.getLast?=some y→lt x y=false):(a1++x::a2).Pairwise (fun p q=>lt q p=false):=by
 rw [List.pairwise_append] at h ⊢
 obtain ⟨p1,p2,p3⟩:=h
 refine ⟨p1,List.pairwise_cons.2 ⟨fun y hy=>hlt _ _ (h2 y hy),p2⟩,fun y hy z hz=>?_⟩
 rcases List.mem_cons.1 hz with rfl | hz
 ·have hne:a1≠[]:=fun e=>by rw [e] at hy;cases hy
  have hl:=h1 (a1.getLast hne) (List.getLast?_eq_some_getLast hne)
  rw [← List.dropLast_concat_getLast hne] at hy p1
  rcases List.mem_append.1 hy with hy | hy
  ·exact htr _ _ _ ((List.pairwise_append.1 p1).2.2 y hy _ (by simp)) hl
  ·simp at hy;rw [hy];exact hl
 ·exact p3 y hy z hz
theorem lss_cmp:∀ a b:List UInt8,lssB a b=true↔Lib.compareBytes a b<0
 | [],[]=>by simp [lssB,Op.bytesLess,Lib.compareBytes]
 | [],b::m=>by simp [lssB,Op.bytesLess,Lib.compareBytes]
 | a::l,[]=>by simp [lssB,Op.bytesLess,Lib.compareBytes]
 | a::l,b::m=>by
  have ih:=lss_cmp l m
  unfold lssB at ih ⊢
  simp only [Op.bytesLess,Lib.compareBytes,Bool.or_eq_true,Bool.and_eq_true,decide_eq_true_eq,beq_iff_eq]
  by_cases h1:a<b
  ·simp [h1]
  ·rw [if_neg h1]
   by_cases h2:b<a
   ·rw [if_pos h2]
    have:a≠b:=fun e=>by rw [e] at h2;exact absurd h2 (UInt8.lt_irrefl _)
    simp [h1,this]
   ·rw [if_neg h2]
    have:a=b:=by
     rw [← UInt8.toNat_inj]
     rw [UInt8.lt_iff_toNat_lt] at h1 h2
     omega
    simp [this,ih]
theorem lss_tr (a b c:List UInt8) (h1:lssB b a=false) (h2:lssB c b=false):lssB c a=false:=by
 have n1:¬ Lib.compareBytes b a<0:=fun h=>by rw [(lss_cmp b a).2 h] at h1;cases h1
 have n2:¬ Lib.compareBytes c b<0:=fun h=>by rw [(lss_cmp c b).2 h] at h2;cases h2
 cases h:lssB c a with
 | false=>rfl
 | true =>
  have h3:=(lss_cmp c a).1 h
  have s1:=cmp_swap a b
  have s2:=cmp_swap b c
  by_cases e1:Lib.compareBytes a b=0
  ·rw [cmp_zero _ _ e1] at h3;exact absurd h3 n2
  ·by_cases e2:Lib.compareBytes b c=0
   ·rw [← cmp_zero _ _ e2] at h3;exact absurd h3 n1
   ·have:=cmp_trans a b c (by omega) (by omega)
    have s3:=cmp_swap a c
    omega
theorem lss_as (a b:List UInt8) (h:lssB a b=true):lssB b a=false:=by
 cases h2:lssB b a with
 | false=>rfl
 | true =>
  have h3:=(lss_cmp a b).1 h
  have h4:=(lss_cmp b a).1 h2
  have:=cmp_swap a b
  omega
end Go.Tri
namespace Go.Proofs.YthcjjjnphgopjaaGreatDoor
open Go.RowKit Go.Tri
section
variable {s:FS} {l:List Ent}
theorem rFind_eq (hE:Enum s l) (hl:l.length≤1000000) (p:List UInt8):(m_triremeref11_Find l p=some (-1)∧s p=none)∨∃ (i:Nat) (f:Bool×List UInt8),m_triremeref11_Find l p=some (i:Int)∧l[i]?=some (p,f)∧s p=some f:=by
 unfold m_triremeref11_Find
 refine bind_runP (C:=fun o=>(o=some (-1)∧s p=none)∨∃ (i:Nat) (f:Bool×List UInt8),o=some (i:Int)∧l[i]?=some (p,f)∧s p=some f) (fun k (t:Int)=>t=(k:Int)∧∀ j (hj:j<l.length),j<k→l[j].1≠p) (fun r=>(r=.inl ()∧s p=none)∨∃ (i:Nat) (f:Bool×List UInt8),r=.inr (i:Int)∧l[i]?=some (p,f)∧s p=some f) l.length ⟨rfl,fun j hj hk=>by omega⟩ ?_ ?_ ?_
 ·rintro k _ hk ⟨rfl,hne⟩
  rw [if_pos (by omega),idxO_get hk]
  simp only [Option.bind_some]
  by_cases h:l[k].1=p
  ·rw [if_pos h]
   refine .inr ⟨_,rfl,.inr ⟨k,l[k].2,rfl,?_,?_⟩⟩
   ·rw [List.getElem?_eq_getElem hk,← h]
   ·exact (enum_mem hE).1 (by rw [← h];exact List.getElem_mem hk)
  ·rw [if_neg h,i64_id (by omega) (by omega)]
   refine .inl ⟨_,rfl,rfl,fun j hj hjk=>?_⟩
   by_cases e:j=k
   ·subst e;exact h
   ·exact hne j hj (by omega)
 ·rintro _ ⟨rfl,hne⟩
  refine ⟨_,by rw [if_neg (by omega)],.inl ⟨rfl,?_⟩⟩
  cases hs:s p with
  | none=>rfl
  | some f =>
   obtain ⟨j,hj,e⟩:=List.getElem_of_mem ((enum_mem hE).2 hs)
   exact absurd (by rw [e]) (hne j hj hj)
 ·rintro _ (⟨rfl,h⟩ | ⟨i,f,rfl,h⟩)
  ·exact .inl ⟨rfl,h⟩
  ·exact .inr ⟨i,f,rfl,h⟩
theorem rLook_eq (hE:Enum s l) (hl:l.length≤1000000) (p:List UInt8):∃ a:Int,m_triremeref11_Look l p=some (a,(lk s p).2)∧((lk s p).2=0→∃ (i:Nat) (f:Bool×List UInt8),a=(i:Int)∧l[i]?=some (p,f)∧s p=some f∧lk s p=(f,0)):=by
 unfold m_triremeref11_Look
 rw [rSplit_eq]
 simp only [Option.bind_some]
 by_cases hk:okP p=true
 ·rw [if_neg (by rw [hk];decide)]
  obtain ⟨hn24,hj24⟩:=nmP_len24 p
  have hlen:(ancL p).length=(nmP p).length:=by simp [ancL]
  rw [show ((nmP p).length:Int)=((ancL p).length:Int) by rw [hlen]]
  rw [loop_fs (ancL p) (fun a=>(ag s a).map fun e=>(Sum.inr ((-1:Int),e):Unit ⊕ (Int×Int))) (.inl ()) (fun i hi=>?_) ?_]
  ·have:(ancL p).findSome? (fun a=>(ag s a).map fun e=>(Sum.inr ((-1:Int),e):Unit ⊕ (Int×Int)))=((ancL p).findSome? (ag s)).map fun e=>(Sum.inr ((-1:Int),e):Unit ⊕ (Int×Int)):=by
    generalize ancL p=l
    induction l with
    | nil=>rfl
    | cons x l ih =>
     rw [List.findSome?_cons,List.findSome?_cons]
     cases ag s x with
     | none=>exact ih
     | some e=>rfl
   rw [this]
   unfold lk
   rw [if_pos hk]
   cases hf:(ancL p).findSome? (ag s) with
   | some e =>
    refine ⟨-1,rfl,fun h0=>?_⟩
    simp only at h0
    subst h0
    obtain ⟨a,_,ha⟩:=List.exists_of_findSome?_eq_some hf
    unfold ag at ha
    split at ha
    ·cases ha
    ·split at ha<;>cases ha
   | none =>
    simp only [Option.map_none,Option.getD_none,Option.bind_some,Sum.elim_inl]
    rcases rFind_eq hE hl p with ⟨h1,h2⟩ | ⟨i,f,h1,h2,h3⟩
    ·rw [h1,h2]
     exact ⟨-1,rfl,fun h0=>by cases h0⟩
    ·rw [h1,h3]
     simp only [Option.bind_some]
     rw [if_neg (by omega)]
     exact ⟨(i:Int),rfl,fun _=>⟨i,f,rfl,h2,rfl,rfl⟩⟩
  ·rw [if_neg (by omega)]
  ·have hi2:i<(nmP p).length:=by omega
   rw [if_pos (by omega),show (0:Int)=((0:Nat):Int) from rfl,slcO_of (Nat.zero_le _) (by omega)]
   simp only [Option.bind_some,List.drop_zero]
   have ht:=jn_take (xs:=nmP p) i
   simp only [pth,List.length_cons] at hj24
   rw [rJoin_eq _ (by simp only [pth,List.length_cons];omega) (by simp;omega)]
   simp only [Option.bind_some]
   have hx:(ancL p)[i]=pth ((nmP p).take i):=by simp [ancL]
   rw [hx]
   unfold ag
   rcases rFind_eq hE hl (pth ((nmP p).take i)) with ⟨h1,h2⟩ | ⟨j,f,h1,h2,h3⟩
   ·rw [h1,h2];rfl
   ·rw [h1,h3]
    simp only [Option.bind_some]
    rw [if_neg (by omega),idxO_nat h2]
    simp only [Option.bind_some]
    obtain ⟨b,d⟩:=f
    cases b with
    | true=>rw [if_neg (by simp),i64_id (by omega) (by omega)];rfl
    | false=>rfl
 ·have hk':okP p=false:=by simpa using hk
  rw [hk',if_pos (show (!false)=true from rfl)]
  unfold lk
  rw [if_neg hk]
  exact ⟨-1,rfl,fun h=>by cases h⟩
theorem rRoom_eq (hE:Enum s l) (hl:l.length≤1000000) (p:List UInt8):m_triremeref11_Room l p=some (rm s p):=by
 unfold m_triremeref11_Room rm
 rw [rRight_eq]
 simp only [Option.bind_some]
 by_cases hk:okP p=true
 ·rw [if_neg (by rw [hk];decide),if_pos hk]
  by_cases hr:p=[47]
  ·rw [if_pos hr,if_pos hr]
  rw [if_neg hr,if_neg hr,rParent_eq]
  simp only [Option.bind_some]
  obtain ⟨a,h1,h2⟩:=rLook_eq hE hl (par p)
  rw [h1]
  simp only [Option.bind_some]
  by_cases h0:(lk s (par p)).2=0
  ·rw [if_pos h0,if_pos h0]
   obtain ⟨i,f,rfl,h3,h4,h5⟩:=h2 h0
   rw [idxO_nat h3,h5]
   simp only [Option.bind_some]
   obtain ⟨b,d⟩:=f
   cases b with
   | false=>rfl
   | true =>
    rw [if_neg (by simp),if_pos rfl]
    rcases rFind_eq hE hl p with ⟨g1,g2⟩ | ⟨j,g,g1,g2,g3⟩
    ·rw [g1,g2];rfl
    ·rw [g1,g3]
     simp only [Option.bind_some]
     rw [if_pos (by omega)];rfl
  ·rw [if_neg h0,if_neg h0]
 ·have hk':okP p=false:=by simpa using hk
  rw [hk',if_pos (show (!false)=true from rfl),if_neg (by decide)]
theorem rBelow_eq (hl:l.length≤1000000) (p:List UInt8):m_triremeref11_Below l p=some (blL l p):=by
  unfold m_triremeref11_Below
  refine bind_run (fun k (t:List (List UInt8)×Int)=>t.2=(k:Int)∧t.1.Pairwise (fun a b=>lssB b a=false)∧t.1.Perm (((l.take k).filter (inD p)).map fun x=>bas x.1)) (fun r=>r=blL l p) l.length ⟨rfl,List.Pairwise.nil,by simp⟩ ?_ ?_ ?_
  · rintro k ⟨out,i⟩ hk ⟨h1,h2,h3⟩
    simp only at h1 h2 h3
    subst h1
    simp only
    rw [if_pos (by omega),idxO_get hk]
    simp only [Option.bind_some]
    have htk:l.take (k+1)=l.take k++[l[k]]:=List.take_succ_eq_append_getElem hk
    have hol:out.length≤1000000:=by
      rw [h3.length_eq,List.length_map]
      have:=List.length_filter_le (inD p) (l.take k)
      simp at this;omega
    by_cases hr:l[k].1=[47]
    · rw [if_pos hr]
      simp only [Option.bind_some]
      rw [i64_id (by omega) (by omega)]
      refine .inl ⟨_,rfl,by simp only;omega,h2,?_⟩
      rw [htk,List.filter_append,List.map_append]
      have:[l[k]].filter (inD p)=[]:=by simp [inD,hr]
      rw [this];simpa using h3
    rw [if_neg hr,rParent_eq]
    simp only [Option.bind_some]
    by_cases hq:par l[k].1=p
    · rw [if_pos hq,rBase_eq]
      simp only [Option.bind_some]
      rw [appO_of (by simp only [List.length_cons,List.length_nil];omega)]
      simp only [Option.bind_some]
      have hlen:IntKind.i64.wrap (((out++[bas l[k].1]).length:Int) - 1)=(out.length:Int):=by
        rw [i64_id (by simp only [List.length_append,List.length_cons,List.length_nil];omega) (by simp only [List.length_append,List.length_cons,List.length_nil];omega)];simp
      rw [hlen]
      have hfil:[l[k]].filter (inD p)=[l[k]]:=by simp [inD,hr,hq]
      have hsk:=fun f hf0 hf=>sink (α:=List UInt8) (fun x y=>lssB x y) (f:=f) hf0 hf out.length out (bas l[k].1) [] rfl (by simp;omega)
      obtain ⟨a1,a2,e1,e2,e3,e4⟩:=hsk (fun (s1359:(List (List UInt8))×Int)=>if 0<s1359.2 then ((idxO s1359.1 s1359.2).bind fun x1362 =>
(idxO s1359.1 (IntKind.i64.wrap (s1359.2 - 1))).bind fun x1365 =>
if (lssB x1362 x1365)=true then ((idxO s1359.1 s1359.2).bind fun x1368 =>
(idxO s1359.1 (IntKind.i64.wrap (s1359.2 - 1))).bind fun x1370 =>
(idxO s1359.1 s1359.2).bind fun x1372 =>
(idxO ((s1359.1).set (s1359.2:Int).toNat x1370) (IntKind.i64.wrap (s1359.2 - 1))).bind fun x1374 =>
some (.inl (((s1359.1).set (s1359.2:Int).toNat x1370).set (IntKind.i64.wrap (s1359.2 - 1):Int).toNat x1368,IntKind.i64.wrap (s1359.2 - 1))))
 else (some (.inr s1359.1)))
 else (some (.inr s1359.1))) (fun xs=>rfl) (fun a y x c hb=>by
        simp only
        rw [if_pos (by omega)]
        have g1:idxO (a++y::x::c) ((a.length+1:Nat):Int)=some x:=idxO_nat (by simp)
        have g2:idxO (a++y::x::c) (IntKind.i64.wrap (((a.length+1:Nat):Int) - 1))=some y:=by
          rw [i64_id (by omega) (by omega),show ((a.length+1:Nat):Int) - 1=(a.length:Int) by omega]
          exact idxO_nat (by simp)
        rw [g1,g2]
        simp only [Option.bind_some]
        by_cases hlt:lssB x y=true
        · rw [if_pos hlt,if_pos hlt]
          have g3:idxO ((a++y::x::c).set (((a.length+1:Nat):Int)).toNat y) (IntKind.i64.wrap (((a.length+1:Nat):Int) - 1))=some y:=by
            rw [i64_id (by omega) (by omega),show ((a.length+1:Nat):Int) - 1=(a.length:Int) by omega]
            refine idxO_nat ?_
            rw [Int.toNat_natCast,List.getElem?_set_ne (by omega)]
            simp
          rw [g3]
          simp only [Option.bind_some]
          rw [i64_id (by omega) (by omega),show ((a.length+1:Nat):Int) - 1=(a.length:Int) by omega,Int.toNat_natCast,Int.toNat_natCast,set_swap]
        · rw [if_neg hlt,if_neg hlt])
      rw [e2]
      simp only [Option.bind_some]
      rw [i64_id (by omega) (by omega)]
      refine .inl ⟨_,rfl,by simp only;omega,?_,?_⟩
      · simp only [List.append_nil]
        exact sink_sorted (lt:=fun x y=>lssB x y) (fun a b c h1 h2=>lss_tr a b c h1 h2) (fun a b h=>lss_as a b h) (by rw [← e1];exact h2) e3 e4
      · rw [htk,List.filter_append,List.map_append,hfil]
        simp only [List.append_nil,List.map_cons,List.map_nil]
        refine List.Perm.trans ?_ (h3.append_right _)
        rw [e1]
        refine List.perm_middle.trans ?_
        rw [← List.singleton_append]
        exact List.perm_append_comm
    · rw [if_neg hq]
      simp only [Option.bind_some]
      rw [i64_id (by omega) (by omega)]
      refine .inl ⟨_,rfl,by simp only;omega,h2,?_⟩
      rw [htk,List.filter_append,List.map_append]
      have:[l[k]].filter (inD p)=[]:=by simp [inD,hq]
      rw [this];simpa using h3
  · rintro ⟨out,i⟩ ⟨h1,h2,h3⟩
    simp only at h1 h2 h3
    subst h1
    simp only
    rw [if_neg (by omega)]
    refine ⟨_,rfl,?_⟩
    rw [List.take_length] at h3
    unfold blL
    refine List.Perm.eq_of_pairwise (le:=(·≤·)) (fun a b _ _ h1 h2=>List.le_antisymm h1 h2) (h2.imp fun {a b} h=>?_) (tsort _) (h3.trans (List.mergeSort_perm _ tle).symm)
    rw [← List.not_lt,← lss_iff]
    rw [h];decide
  · rintro _ rfl;rfl
theorem rPut_eq {out:List P2} (hs:out.Pairwise (fun a b=>lssB b.1 a.1=false)) (hl:out.length≤10000000) (x:P2):∃ out',m_triremeref11_put out x=some out'∧out'.Pairwise (fun a b=>lssB b.1 a.1=false)∧out'.Perm (out++[x]):=by
  unfold m_triremeref11_put
  rw [appO_of (by simp only [List.length_nil];omega)]
  simp only [Option.bind_some,List.nil_append]
  rw [appO_of (by simp only [List.length_cons,List.length_nil];omega)]
  simp only [Option.bind_some]
  have hlen:IntKind.i64.wrap (((out++[x]).length:Int) - 1)=(out.length:Int):=by
    rw [i64_id (by simp only [List.length_append,List.length_cons,List.length_nil];omega) (by simp only [List.length_append,List.length_cons,List.length_nil];omega)];simp
  rw [hlen]
  have hsk:=fun f hf0 hf=>sink (α:=P2) (fun x y=>lssB x.1 y.1) (f:=f) hf0 hf out.length out x [] rfl (by simp;omega)
  obtain ⟨a1,a2,e1,e2,e3,e4⟩:=hsk (fun (s169:(List T_api_Pair)×Int)=>if 0<s169.2 then ((idxO s169.1 s169.2).bind fun x172 =>
(idxO s169.1 (IntKind.i64.wrap (s169.2 - 1))).bind fun x179 =>
if (lssB x172.1 x179.1)=true then ((idxO s169.1 s169.2).bind fun x186 =>
(idxO s169.1 (IntKind.i64.wrap (s169.2 - 1))).bind fun x189 =>
(idxO s169.1 s169.2).bind fun x191 =>
(idxO ((s169.1).set (s169.2:Int).toNat x189) (IntKind.i64.wrap (s169.2 - 1))).bind fun x193 =>
some (.inl (((s169.1).set (s169.2:Int).toNat x189).set (IntKind.i64.wrap (s169.2 - 1):Int).toNat x186,IntKind.i64.wrap (s169.2 - 1))))
 else (some (.inr s169.1)))
 else (some (.inr s169.1))) (fun xs=>rfl) (fun a y x c hb=>by
    simp only
    rw [if_pos (by omega)]
    have g1:idxO (a++y::x::c) ((a.length+1:Nat):Int)=some x:=idxO_nat (by simp)
    have g2:idxO (a++y::x::c) (IntKind.i64.wrap (((a.length+1:Nat):Int) - 1))=some y:=by
      rw [i64_id (by omega) (by omega),show ((a.length+1:Nat):Int) - 1=(a.length:Int) by omega]
      exact idxO_nat (by simp)
    rw [g1,g2]
    simp only [Option.bind_some]
    by_cases hlt:lssB x.1 y.1=true
    · rw [if_pos hlt,if_pos hlt]
      have g3:idxO ((a++y::x::c).set (((a.length+1:Nat):Int)).toNat y) (IntKind.i64.wrap (((a.length+1:Nat):Int) - 1))=some y:=by
        rw [i64_id (by omega) (by omega),show ((a.length+1:Nat):Int) - 1=(a.length:Int) by omega]
        refine idxO_nat ?_
        rw [Int.toNat_natCast,List.getElem?_set_ne (by omega)]
        simp
      rw [g3]
      simp only [Option.bind_some]
      rw [i64_id (by omega) (by omega),show ((a.length+1:Nat):Int) - 1=(a.length:Int) by omega,Int.toNat_natCast,Int.toNat_natCast,set_swap]
    · rw [if_neg hlt,if_neg hlt])
  rw [e2]
  refine ⟨_,rfl,?_,?_⟩
  · simp only [List.append_nil]
    exact sink_sorted (lt:=fun (x y:P2)=>lssB x.1 y.1) (fun a b c h1 h2=>lss_tr a.1 b.1 c.1 h1 h2) (fun a b h=>lss_as a.1 b.1 h) (by rw [← e1];exact hs) e3 e4
  · simp only [List.append_nil]
    rw [e1]
    refine List.perm_middle.trans ?_
    rw [← List.singleton_append]
    exact List.perm_append_comm
end
theorem chk_app (p:List UInt8):∀ (a b:List (List UInt8)) (i:Nat),chk p i (a++b)=chk p i a++chk p (i+a.length) b
 | [],b,i=>by simp [chk]
 | c::a,b,i=>by
  simp only [List.cons_append,chk,chk_app p a b (i+1),List.length_cons]
  rw [show i+1+a.length=i+(a.length+1) by omega]
theorem chunkL_get (d:List UInt8) (c:Nat) (h:c<chunkC 64 d.length):(chunkL 64 d)[c]?=some ((d.drop (c * 64)).take 64):=by
 unfold chunkL chunkZ
 rw [List.map_map,List.getElem?_map,List.getElem?_range h];rfl
theorem rPairs_eq {l:List Ent} (hn:(l.map (·.1)).Nodup) (hl:l.length≤1000000) (hb:∀ x∈l,x.1.length≤100000∧x.2.2.length≤192):m_triremeref11_Pairs l=some (prs2 l):=by
 unfold m_triremeref11_Pairs
 refine bind_run (fun k (t:List P2×Int)=>t.2=(k:Int)∧t.1.Pairwise (fun a b=>lssB b.1 a.1=false)∧t.1.Perm ((l.take k).flatMap encE)) (fun r=>r=prs2 l) l.length ⟨rfl,List.Pairwise.nil,by simp⟩ ?_ ?_ ?_
 ·rintro k ⟨out,i⟩ hk ⟨h1,h2,h3⟩
  simp only at h1 h2 h3
  subst h1
  simp only
  rw [if_pos (by omega),idxO_get hk]
  simp only [Option.bind_some]
  have htk:l.take (k+1)=l.take k++[l[k]]:=List.take_succ_eq_append_getElem hk
  obtain ⟨hp1,hd1⟩:=hb _ (List.getElem_mem hk)
  have hol:out.length≤4000000:=by
   rw [h3.length_eq]
   have:=flat_len (l:=l.take k) fun x hx=>(hb x (List.mem_of_mem_take hx)).2
   rw [List.length_take] at this;omega
  have hfl:(l.take (k+1)).flatMap encE=(l.take k).flatMap encE++encE l[k]:=by rw [htk,List.flatMap_append];simp
  generalize hx:l[k]=x at hp1 hd1 hfl ⊢
  obtain ⟨p,b,d⟩:=x
  simp only at hp1 hd1 ⊢
  refine .inl ?_
  rw [hfl]
  cases b with
  | true =>
   rw [if_pos rfl,appO_byte (by simp;omega),show u8O 100=some 100 from rfl]
   simp only [Option.bind_some]
   obtain ⟨o1,e1,e2,e3⟩:=rPut_eq h2 (by omega) ([110]++p,[100])
   rw [e1]
   simp only [Option.bind_some]
   rw [i64_id (by omega) (by omega)]
   refine ⟨_,rfl,by simp only;omega,e2,e3.trans ?_⟩
   exact h3.append (List.Perm.of_eq (by simp [encE]))
  | false =>
   rw [if_neg (by decide),appO_byte (by simp;omega),show (256:Int)=((256:Nat):Int) from rfl,quoO_nat _ _ (by omega) (by omega),remO_nat _ _ (by omega),show u8O 102=some 102 from rfl]
   simp only [Option.bind_some]
   have w1:IntKind.u8.wrap ((d.length / 256:Nat):Int)=((d.length / 256 ^ 1 % 256:Nat):Int):=by rw [wrap_u8'];omega
   have w2:IntKind.u8.wrap ((d.length % 256:Nat):Int)=((d.length / 256 ^ 0 % 256:Nat):Int):=by rw [wrap_u8',Nat.pow_zero,Nat.div_one];omega
   rw [w1,w2,u8O_of (by omega) (by omega),u8O_of (by omega) (by omega)]
   simp only [Option.bind_some]
   obtain ⟨o1,e1,e2,e3⟩:=rPut_eq h2 (by omega) ([110]++p,[102,u8 ((d.length / 256 ^ 1 % 256:Nat):Int),u8 ((d.length / 256 ^ 0 % 256:Nat):Int)])
   rw [e1]
   simp only [Option.bind_some]
   have hcl:=chunkC_le hd1
   have hcn:=chunkL_len d 64
   have e3l:=e3.length_eq
   simp only [List.length_append,List.length_cons,List.length_nil] at e3l
   generalize hL:loopO _ (o1,(0:Int))=L
   have key:∃ r,L=some r∧(r.Pairwise (fun a b=>lssB b.1 a.1=false)∧r.Perm (o1++chk p 0 (chunkL 64 d))):=by
    rw [← hL]
    refine loop_run (fun c (t:List P2×Int)=>t.2=(c:Int)∧t.1.Pairwise (fun a b=>lssB b.1 a.1=false)∧t.1.Perm (o1++chk p 0 ((chunkL 64 d).take c))) (fun (r:List P2)=>r.Pairwise (fun a b=>lssB b.1 a.1=false)∧r.Perm (o1++chk p 0 (chunkL 64 d))) (chunkC 64 d.length) ?_ ?_ (chunkC 64 d.length) 0 (o1,(0:Int)) (by omega) (show ((0:Int)=((0:Nat):Int))∧o1.Pairwise (fun a b=>lssB b.1 a.1=false)∧o1.Perm (o1++chk p 0 ((chunkL 64 d).take 0)) from ⟨rfl,e2,by simp [chk]⟩)
    ·rintro c ⟨o2,i⟩ hc ⟨g1,g2,g3⟩
     simp only at g1 g2 g3
     subst g1
     simp only
     have hclt:=(chunkC_lt (n:=64) (len:=d.length) (k:=c) (by omega)).1 hc
     have hgl:=g3.length_eq
     simp only [List.length_append,chk_len,List.length_take] at hgl
     rw [i64_id (n:=64 * (c:Int)) (by omega) (by omega),if_pos (by omega),i64_id (n:=64 * (c:Int)+64) (by omega) (by omega)]
     obtain ⟨e,he,hee⟩:∃ e:Nat,(if (d.length:Int)<64 * (c:Int)+64 then some (d.length:Int) else some (64 * (c:Int)+64))=some (e:Int)∧e=min d.length (64 * c+64):=by
      by_cases hh:(d.length:Int)<64 * (c:Int)+64
      ·exact ⟨d.length,by rw [if_pos hh],by omega⟩
      ·exact ⟨64 * c+64,by rw [if_neg hh];simp,by omega⟩
     rw [he,appO_byte (by simp;omega)]
     simp only [Option.bind_some]
     rw [show 64 * (c:Int)=((64 * c:Nat):Int) by omega,slcO_of (by omega) (by omega)]
     simp only [Option.bind_some]
     rw [show u8O 0=some 0 from rfl,wrap_u8',show ((c:Int) % 256)=(c:Int) by omega,u8O_of (by omega) (by omega)]
     simp only [Option.bind_some]
     rw [appO_byte (by simp;omega)]
     simp only [Option.bind_some]
     obtain ⟨o3,f1,f2,f3⟩:=rPut_eq g2 (by omega) ([99]++p++[0,u8 (c:Int)],(d.take e).drop (64 * c))
     rw [f1]
     simp only [Option.bind_some]
     rw [i64_id (by omega) (by omega)]
     refine .inl ⟨_,rfl,by simp only;omega,f2,f3.trans ?_⟩
     have hck:=chunkL_get d c hc
     have hcl2:c<(chunkL 64 d).length:=by omega
     rw [List.take_succ_eq_append_getElem hcl2,chk_app,← List.append_assoc]
     refine g3.append (List.Perm.of_eq ?_)
     rw [List.getElem?_eq_getElem hcl2] at hck
     rw [Option.some.inj hck]
     have hslice:(d.take e).drop (64 * c)=(d.drop (c * 64)).take 64:=by
      rw [List.drop_take,Nat.mul_comm c 64]
      by_cases hh:64 * c+64≤d.length
      ·rw [show e - 64 * c=64 by omega]
      ·rw [List.take_of_length_le (by simp;omega),List.take_of_length_le (by simp;omega)]
     rw [hslice]
     simp only [chk,List.length_take]
     rw [show 0+min c (chunkL 64 d).length=c by omega]
     simp
    ·rintro ⟨o2,i⟩ ⟨g1,g2,g3⟩
     simp only at g1 g2 g3
     subst g1
     simp only
     have hclt:=(not_congr (chunkC_lt (n:=64) (len:=d.length) (k:=chunkC 64 d.length) (by omega))).1 (Nat.lt_irrefl _)
     rw [i64_id (n:=64 * ((chunkC 64 d.length:Nat):Int)) (by omega) (by omega),if_neg (by omega)]
     refine ⟨_,rfl,g2,?_⟩
     rwa [List.take_of_length_le (by omega)] at g3
   obtain ⟨r,k1,k2,k3⟩:=key
   rw [k1]
   simp only [Option.bind_some]
   rw [i64_id (by omega) (by omega)]
   refine ⟨_,rfl,by simp only;omega,k2,k3.trans ?_⟩
   refine ((e3.append_right _).trans ?_)
   rw [List.append_assoc]
   exact h3.append (List.Perm.of_eq (by simp [encE,len2]))
 ·rintro ⟨out,i⟩ ⟨h1,h2,h3⟩
  simp only at h1 h2 h3
  subst h1
  simp only
  rw [if_neg (by omega)]
  refine ⟨_,rfl,?_⟩
  rw [List.take_length] at h3
  refine sortPairs_eq (enc_nodup hn fun x hx=>(hb x hx).2) h3 (h2.imp fun {a b} h hlt=>?_)
  unfold ltK at hlt
  rw [(lss_cmp _ _).2 hlt] at h;cases h
 ·rintro _ rfl;rfl
theorem szd_succ (d:List UInt8) (k:Nat):szd d (k+1)=szd d k++[d.getD k 0]:=by
 unfold szd
 by_cases h:k<d.length
 ·rw [show k+1 - d.length=0 by omega,show k - d.length=0 by omega,List.take_succ_eq_append_getElem h,List.getD_eq_getElem?_getD,List.getElem?_eq_getElem h]
  simp
 ·rw [List.take_of_length_le (by omega),List.take_of_length_le (by omega),show k+1 - d.length=(k - d.length)+1 by omega,List.replicate_succ',List.getD_eq_getElem?_getD,List.getElem?_eq_none (by omega)]
  simp
theorem szd_zero (d:List UInt8):szd d 0=[]:=by simp [szd]
theorem rResized_eq (d:List UInt8) (n:Nat) (h:n≤1000000):m_triremeref11_resized d (n:Int)=some (szd d n):=by
 unfold m_triremeref11_resized
 refine bind_run (fun k (t:List UInt8×Int)=>t=(szd d k,(k:Int))) (fun r=>r=szd d n) n (by simp [szd_zero]) ?_ ?_ ?_
 ·rintro k _ hk rfl
  simp only
  rw [if_pos (by omega)]
  have hsl:=szd_len d k
  by_cases h1:k<d.length
  ·rw [if_pos (by omega),idxO_get h1]
   simp only [Option.bind_some]
   rw [u8_ok]
   simp only [Option.bind_some]
   rw [appO_byte (by simp;omega)]
   simp only [Option.bind_some]
   rw [i64_id (by omega) (by omega)]
   refine .inl ⟨_,rfl,?_⟩
   rw [szd_succ,List.getD_eq_getElem?_getD,List.getElem?_eq_getElem h1];rfl
  ·rw [if_neg (by omega),show u8O 0=some 0 from rfl]
   simp only [Option.bind_some]
   rw [appO_byte (by simp;omega)]
   simp only [Option.bind_some]
   rw [i64_id (by omega) (by omega)]
   refine .inl ⟨_,rfl,?_⟩
   rw [szd_succ,List.getD_eq_getElem?_getD,List.getElem?_eq_none (by omega)];rfl
 ·rintro _ rfl
  simp only
  rw [if_neg (by omega)]
  exact ⟨_,rfl,rfl⟩
 ·rintro _ rfl;rfl
section
variable {s:FS} {l:List Ent}
theorem enum_put (hE:Enum s l) {i:Nat} {p:List UInt8} {f:Bool×List UInt8} (hi:l[i]?=some (p,f)) (v:Bool×List UInt8):Enum (fset p v s) (l.set i (p,v)):=by
 have hil:=(List.getElem?_eq_some_iff.1 hi).1
 have hk:(l.set i (p,v)).map (·.1)=l.map (·.1):=by
  rw [List.map_set]
  refine set_self ?_
  rw [List.getElem?_map,hi];rfl
 have hn:((l.set i (p,v)).map (·.1)).Nodup:=by rw [hk];exact hE.1
 refine ⟨hn,fun q=>?_⟩
 by_cases e:q=p
 ·subst e
  rw [fset_eq]
  exact (aget_of_mem hn (List.mem_of_getElem? (i:=i) (by rw [List.getElem?_set_self hil]))).symm
 ·rw [fset_ne e]
  cases hq:s q with
  | some g =>
   symm
   refine aget_of_mem hn ?_
   obtain ⟨j,hj,e2⟩:=List.getElem_of_mem ((enum_mem hE).2 hq)
   refine List.mem_of_getElem? (i:=j) ?_
   rw [List.getElem?_set_ne (fun e3=>by
    subst e3
    rw [List.getElem?_eq_getElem hj,e2] at hi
    cases hi;exact e rfl),List.getElem?_eq_getElem hj,e2]
  | none =>
   symm
   refine aget_none fun hm=>?_
   rw [hk] at hm
   have:=(enum_keys hE q).1 hm
   rw [hq] at this;cases this
theorem rd_fold (d:List UInt8) (off n:Nat) (k:Nat) (hk:k≤d.length):((d.take k).drop off).take (min n 64)++(if k<d.length∧off≤k∧k - off<min n 64 then [d.getD k 0] else [])=((d.take (k+1)).drop off).take (min n 64):=by
 by_cases h1:k<d.length
 ·rw [List.take_succ_eq_append_getElem h1,List.getD_eq_getElem?_getD,List.getElem?_eq_getElem h1]
  have hl:(d.take k).length=k:=by simp;omega
  generalize d.take k=t at hl ⊢
  by_cases h2:off≤k
  ·rw [List.drop_append_of_le_length (by omega)]
   have hl2:(t.drop off).length=k - off:=by simp;omega
   generalize t.drop off=u at hl2 ⊢
   by_cases h3:k - off<min n 64
   ·rw [if_pos ⟨h1,h2,h3⟩,List.take_of_length_le (l:=u) (by omega),List.take_of_length_le (l:=u++[d[k]]) (by simp;omega)];rfl
   ·rw [if_neg (by omega),List.take_append_of_le_length (by omega)];simp
  ·have e1:t.drop off=[]:=List.drop_eq_nil_of_le (by omega)
   have e2:(t++[d[k]]).drop off=[]:=List.drop_eq_nil_of_le (by simp;omega)
   rw [if_neg (by omega),e1,e2];simp
 ·rw [if_neg (by omega),List.take_of_length_le (show d.length≤k by omega),List.take_of_length_le (show d.length≤k+1 by omega)];simp
def wrt (d:List UInt8) (off:Nat) (D:List UInt8) (k:Nat):List UInt8:=if k=0 then d else putAt (szd d (max d.length (off+k))) off (D.take k)
theorem wrt_len (d:List UInt8) (off:Nat) (D:List UInt8) (k:Nat) (hk:k≤D.length):(wrt d off D k).length=if k=0 then d.length else max d.length (off+k):=by
 unfold wrt
 split
 ·rfl
 ·rw [putAt_len' _ _ _ (by rw [szd_len];simp;omega),szd_len]
theorem ext_getD {xs ys:List UInt8} (h:xs.length=ys.length) (hg:∀ i,i<xs.length→xs.getD i 0=ys.getD i 0):xs=ys:=by
 refine List.ext_getElem h fun i h1 h2=>?_
 have:=hg i h1
 simpa [List.getD_eq_getElem?_getD,List.getElem?_eq_getElem h1,List.getElem?_eq_getElem h2] using this
theorem wrt_get (d:List UInt8) (off:Nat) (D:List UInt8) (k:Nat) (hk:k≤D.length) (i:Nat) (hi:i<(wrt d off D k).length):(wrt d off D k).getD i 0=if off≤i∧i<off+k then D.getD (i - off) 0 else d.getD i 0:=by
 have hl:=wrt_len d off D k hk
 unfold wrt at hi ⊢
 by_cases h0:k=0
 ·rw [if_pos h0,if_neg (by omega)]
 ·rw [if_neg h0] at hi ⊢
  rw [putAt_len' _ _ _ (by rw [szd_len];simp;omega),szd_len] at hi
  rw [putAt_get _ _ _ (by rw [szd_len];simp;omega)]
  have e:(D.take k).length=k:=by simp;omega
  rw [e]
  by_cases h1:off≤i∧i<off+k
  ·rw [if_pos h1,if_pos h1]
   simp only [List.getD_eq_getElem?_getD]
   rw [List.getElem?_take_of_lt (by omega)]
  ·rw [if_neg h1,if_neg h1,szd_get _ _ _ hi]
theorem wr_step (d:List UInt8) (off:Nat) (D:List UInt8) (k:Nat) (hk:k<D.length):((if (wrt d off D k).length≤off+k then szd (wrt d off D k) (off+k+1) else wrt d off D k).take (off+k))++[D.getD k 0]++((if (wrt d off D k).length≤off+k then szd (wrt d off D k) (off+k+1) else wrt d off D k).drop (off+k+1))=wrt d off D (k+1):=by
 have hl:=wrt_len d off D k (by omega)
 have hl1:=wrt_len d off D (k+1) (by omega)
 rw [if_neg (by omega)] at hl1
 generalize hx:(if (wrt d off D k).length≤off+k then szd (wrt d off D k) (off+k+1) else wrt d off D k)=x
 have hxl:x.length=max (max d.length (off+k)) (off+k+1)∧∀ i,i<x.length→i≠off+k→x.getD i 0=if off≤i∧i<off+k then D.getD (i - off) 0 else d.getD i 0:=by
  rw [← hx]
  by_cases h1:(wrt d off D k).length≤off+k
  ·rw [if_pos h1,szd_len]
   refine ⟨by split at hl<;>omega,fun i hi hne=>?_⟩
   rw [szd_get _ _ _ hi]
   by_cases h2:i<(wrt d off D k).length
   ·exact wrt_get d off D k (by omega) i h2
   ·rw [List.getD_eq_getElem?_getD,List.getElem?_eq_none (by omega)]
    have h3:¬ (off≤i∧i<off+k):=fun h=>by
     split at hl
     ·omega
     ·omega
    rw [if_neg h3,List.getD_eq_getElem?_getD,List.getElem?_eq_none (by split at hl<;>omega)]
  ·rw [if_neg h1]
   refine ⟨by split at hl<;>omega,fun i hi hne=>wrt_get d off D k (by omega) i hi⟩
 obtain ⟨hx1,hx2⟩:=hxl
 refine ext_getD (by simp;omega) fun i hi=>?_
 simp only [List.length_append,List.length_take,List.length_cons,List.length_nil,List.length_drop] at hi
 rw [wrt_get d off D (k+1) (by omega) i (by omega)]
 by_cases h1:i<off+k
 ·have e:((x.take (off+k))++[D.getD k 0]++x.drop (off+k+1)).getD i 0=x.getD i 0:=by
   simp only [List.getD_eq_getElem?_getD]
   rw [List.append_assoc,List.getElem?_append_left (by simp;omega),List.getElem?_take_of_lt h1]
  rw [e,hx2 i (by omega) (by omega)]
  by_cases h2:off≤i
  ·rw [if_pos ⟨h2,h1⟩,if_pos ⟨h2,by omega⟩]
  ·rw [if_neg (by omega),if_neg (by omega)]
 ·by_cases h2:i=off+k
  ·subst h2
   have e:((x.take (off+k))++[D.getD k 0]++x.drop (off+k+1)).getD (off+k) 0=D.getD k 0:=by
    simp only [List.getD_eq_getElem?_getD]
    rw [List.getElem?_append_left (by simp;omega),List.getElem?_append_right (by simp;omega)]
    simp [show off+k - min (off+k) x.length=0 by omega]
   rw [e,if_pos ⟨by omega,by omega⟩,show off+k - off=k by omega]
  ·have e:((x.take (off+k))++[D.getD k 0]++x.drop (off+k+1)).getD i 0=x.getD i 0:=by
    simp only [List.getD_eq_getElem?_getD]
    rw [List.getElem?_append_right (by simp;omega),List.getElem?_drop]
    congr 2
    simp;omega
   rw [e,hx2 i (by omega) h2,if_neg (by omega),if_neg (by omega)]
end
theorem doP34 {s:FS} {o:Opr} (h:o.1=3∨o.1=4):doP s o=wr s o:=by
 unfold doP;rw [if_neg (by omega),if_pos h]
theorem doP5 {s:FS} {o:Opr} (h:o.1=5):doP s o=(rdA s o,s):=by
 unfold doP;rw [if_neg (by omega),if_neg (by omega),if_pos h]
theorem rg_err {s:FS} {p:List UInt8} (h:(lk s p).2≠0):rg s p=lk s p:=by unfold rg;rw [if_neg h]
theorem rg_dir {s:FS} {p d:List UInt8} (h:lk s p=((true,d),0)):rg s p=(zf,94):=by unfold rg;rw [h];rfl
theorem rg_file {s:FS} {p d:List UInt8} (h:lk s p=((false,d),0)):rg s p=((false,d),0):=by unfold rg;rw [h];rfl
theorem fset_self {s:FS} {p:List UInt8} {f:Bool×List UInt8} (h:s p=some f):fset p f s=s:=by
 funext q
 by_cases e:q=p
 ·rw [e,fset_eq,h]
 ·rw [fset_ne e]
section
variable {s:FS} {l:List Ent}
theorem rRead_eq (hs:Snd s) (hE:Enum s l) (hl:l.length≤1000000) (o:Opr) (ho:o.1=5):∃ l',rChange l o=some (l',rdA s o)∧Enum s l'∧l'.length=l.length:=by
 obtain ⟨kd,p,t,off,n,D⟩:=o
 simp only at ho
 subst ho
 unfold rChange rdA
 simp only
 obtain ⟨a,g1,g2⟩:=rLook_eq hE hl p
 rw [g1]
 simp only [Option.bind_some]
 by_cases h0:(lk s p).2=0
 ·obtain ⟨i,f,rfl,h3,h4,h5⟩:=g2 h0
  rw [if_pos h0,idxO_nat h3]
  simp only [Option.bind_some]
  obtain ⟨b,d⟩:=f
  cases b with
  | true =>
   rw [if_pos rfl,rg_dir h5]
   exact ⟨l,rfl,hE,rfl⟩
  | false =>
   rw [if_neg (show ¬ ((false:Bool)=true) by decide),rg_file h5]
   have hd:=hs.len _ _ h4
   simp only at hd
   simp only [show ((5:Int)=4)=False from by simp,show ((5:Int)=3)=False from by simp,if_false,if_true]
   by_cases h1:off<0
   ·rw [if_pos h1,if_pos (.inl h1)]
    exact ⟨l,rfl,hE,rfl⟩
   rw [if_neg h1]
   simp only [Option.bind_some]
   by_cases h2:n<0
   ·rw [if_pos (decide_eq_true h2),if_pos (.inr h2)]
    exact ⟨l,rfl,hE,rfl⟩
   rw [if_neg (by simpa using h2),if_neg (by omega)]
   generalize hL:loopO _ (([]:List UInt8),(0:Int))=L
   have key:L=some ((d.drop off.toNat).take (min n.toNat 64)):=by
    rw [← hL]
    refine loop_runE (fun k (t:List UInt8×Int)=>t=(((d.take k).drop off.toNat).take (min n.toNat 64),(k:Int))) _ d.length (by simp) ?_ ?_
    ·rintro k _ hk rfl
     simp only
     rw [if_pos (by omega)]
     refine .inl ⟨_,?_,rfl⟩
     rw [← rd_fold d off.toNat n.toNat k (by omega)]
     have hl:(((d.take k).drop off.toNat).take (min n.toNat 64)).length≤64:=by simp;omega
     have hb:(if off≤(k:Int) then (if IntKind.i64.wrap ((k:Int) - off)<n then some (decide (IntKind.i64.wrap ((k:Int) - off)<64)) else some false) else some false)=some (decide (k<d.length∧off.toNat≤k∧k - off.toNat<min n.toNat 64)):=by
      by_cases e1:off≤(k:Int)
      ·rw [if_pos e1,i64_id (n:=(k:Int) - off) (by omega) (by omega)]
       by_cases e2:(k:Int) - off<n
       ·rw [if_pos e2]
        congr 1
        exact decide_eq_decide.2 (by omega)
       ·rw [if_neg e2,decide_eq_false (by omega)]
      ·rw [if_neg e1,decide_eq_false (by omega)]
     rw [hb]
     simp only [Option.bind_some]
     by_cases e:k<d.length∧off.toNat≤k∧k - off.toNat<min n.toNat 64
     ·rw [decide_eq_true e,if_pos rfl,if_pos e,idxO_getD 0 rfl hk]
      simp only [Option.bind_some]
      rw [u8_ok]
      simp only [Option.bind_some]
      rw [appO_byte (by simp only [List.length_cons,List.length_nil];omega)]
      simp only [Option.bind_some]
      rw [i64_id (by omega) (by omega)];rfl
     ·rw [decide_eq_false e,if_neg (by decide),if_neg e,List.append_nil]
      simp only [Option.bind_some]
      rw [i64_id (by omega) (by omega)];rfl
    ·rintro _ rfl
     simp only
     rw [if_neg (by omega),List.take_length]
     exact ⟨_,rfl,rfl⟩
   rw [key]
   simp only [Option.bind_some,Sum.elim_inl]
   rw [appO_of (by simp only [List.length_nil];omega)]
   simp only [Option.bind_some,List.nil_append]
   rw [idxO_nat h3]
   refine ⟨_,rfl,?_,by simp⟩
   have:=enum_put hE h3 (false,d)
   rw [fset_self h4] at this
   exact this
 ·rw [if_neg h0,rg_err h0,if_neg h0]
  exact ⟨l,rfl,hE,rfl⟩
theorem rTrunc_eq (hs:Snd s) (hE:Enum s l) (hl:l.length≤1000000) (o:Opr) (ho:o.1=4):∃ l',rChange l o=some (l',(wr s o).1)∧Enum (if (wr s o).1.1=0 then (wr s o).2 else s) l'∧l'.length=l.length:=by
 obtain ⟨kd,p,t,off,n,D⟩:=o
 simp only at ho
 subst ho
 unfold rChange wr
 simp only
 obtain ⟨a,g1,g2⟩:=rLook_eq hE hl p
 rw [g1]
 simp only [Option.bind_some]
 by_cases h0:(lk s p).2=0
 ·obtain ⟨i,f,rfl,h3,h4,h5⟩:=g2 h0
  rw [if_pos h0,idxO_nat h3]
  simp only [Option.bind_some]
  obtain ⟨b,d⟩:=f
  cases b with
  | true =>
   rw [if_pos rfl,rg_dir h5]
   exact ⟨l,rfl,hE,rfl⟩
  | false =>
   rw [if_neg (show ¬ ((false:Bool)=true) by decide),rg_file h5]
   have hd:=hs.len _ _ h4
   simp only at hd
   simp only [show ((4:Int)=3)=False from by simp,show ((4:Int)=5)=False from by simp,if_false,if_true,false_and,or_false]
   simp only [Option.bind_some]
   by_cases h2:n<0
   ·rw [if_pos (decide_eq_true h2),if_pos h2]
    exact ⟨l,rfl,hE,rfl⟩
   rw [if_neg (by simpa using h2),if_neg h2]
   by_cases h1:192<n
   ·rw [if_pos h1,if_pos h1]
    exact ⟨l,rfl,hE,rfl⟩
   rw [if_neg h1,if_neg h1]
   obtain ⟨m,rfl⟩:∃ m:Nat,n=m:=⟨n.toNat,by omega⟩
   rw [rResized_eq _ _ (by omega)]
   simp only [Option.bind_some,Sum.elim_inl]
   rw [appO_of (by simp only [List.length_nil];omega)]
   simp only [Option.bind_some,List.nil_append]
   rw [idxO_nat h3]
   exact ⟨_,rfl,enum_put hE h3 _,by simp⟩
 ·rw [if_neg h0,rg_err h0,if_neg h0]
  exact ⟨l,rfl,by rw [if_neg h0];exact hE,rfl⟩
theorem rWrite_eq (hs:Snd s) (hE:Enum s l) (hl:l.length≤1000000) (o:Opr) (ho:o.1=3) (hD:o.2.2.2.2.2.length≤80000):∃ l',rChange l o=some (l',(wr s o).1)∧Enum (if (wr s o).1.1=0 then (wr s o).2 else s) l'∧l'.length=l.length:=by
 obtain ⟨kd,p,t,off,n,D⟩:=o
 simp only at ho hD
 subst ho
 unfold rChange wr
 simp only
 obtain ⟨a,g1,g2⟩:=rLook_eq hE hl p
 rw [g1]
 simp only [Option.bind_some]
 by_cases h0:(lk s p).2=0
 ·obtain ⟨i,f,rfl,h3,h4,h5⟩:=g2 h0
  rw [if_pos h0,idxO_nat h3]
  simp only [Option.bind_some]
  obtain ⟨b,d⟩:=f
  cases b with
  | true =>
   rw [if_pos rfl,rg_dir h5]
   exact ⟨l,rfl,hE,rfl⟩
  | false =>
   rw [if_neg (show ¬ ((false:Bool)=true) by decide),rg_file h5]
   have hd:=hs.len _ _ h4
   simp only at hd
   simp only [show ((3:Int)=4)=False from by simp,show ((3:Int)=5)=False from by simp,if_false,if_true,true_and]
   by_cases h1:off<0
   ·rw [if_pos h1,if_pos h1]
    exact ⟨l,rfl,hE,rfl⟩
   rw [if_neg h1,if_neg h1]
   simp only [Option.bind_some]
   rw [if_neg (by decide)]
   by_cases h2:192<off
   ·rw [if_pos h2,if_pos (.inl h2)]
    exact ⟨l,rfl,hE,rfl⟩
   rw [if_neg h2,i64_id (by omega) (by omega)]
   by_cases h6:192<off+(D.length:Int)
   ·rw [if_pos h6,if_pos (.inr h6)]
    exact ⟨l,rfl,hE,rfl⟩
   rw [if_neg h6,if_neg (show ¬ (192<off∨192<off+(D.length:Int)) from fun h=>h.elim h2 h6)]
   obtain ⟨m,rfl⟩:∃ m:Nat,off=m:=⟨off.toNat,by omega⟩
   generalize hL:loopO _ (d,(0:Int))=L
   have key:L=some (wrt d m D D.length):=by
    rw [← hL]
    refine loop_runE (fun k (t:List UInt8×Int)=>t=(wrt d m D k,(k:Int))) _ D.length (by simp [wrt]) ?_ ?_
    ·rintro k _ hk rfl
     simp only
     have hl:=wrt_len d m D k (by omega)
     have hl2:(wrt d m D k).length≤3000:=by split at hl<;>omega
     rw [if_pos (by omega),i64_id (n:=(m:Int)+(k:Int)) (by omega) (by omega),i64_id (n:=(m:Int)+(k:Int)+1) (by omega) (by omega)]
     refine .inl ⟨_,?_,rfl⟩
     rw [← wr_step d m D k hk]
     have hres:(if ((wrt d m D k).length:Int)≤(m:Int)+(k:Int) then ((m_triremeref11_resized (wrt d m D k) ((m:Int)+(k:Int)+1)).bind fun x8690=>some x8690) else (some (wrt d m D k)))=some (if (wrt d m D k).length≤m+k then szd (wrt d m D k) (m+k+1) else wrt d m D k):=by
      by_cases h1:(wrt d m D k).length≤m+k
      ·rw [if_pos (by omega),if_pos h1,show (m:Int)+(k:Int)+1=((m+k+1:Nat):Int) by omega,rResized_eq _ _ (by omega)];rfl
      ·rw [if_neg (by omega),if_neg h1]
     rw [hres]
     simp only [Option.bind_some]
     generalize hx:(if (wrt d m D k).length≤m+k then szd (wrt d m D k) (m+k+1) else wrt d m D k)=x
     have hxl:m+k+1≤x.length∧x.length≤4000:=by
      rw [← hx]
      split
      ·rw [szd_len];omega
      ·omega
     rw [show (0:Int)=((0:Nat):Int) from rfl,show (m:Int)+(k:Int)=((m+k:Nat):Int) by omega,slcO_of (Nat.zero_le _) (by omega),idxO_getD 0 rfl hk,show ((m+k:Nat):Int)+1=((m+k+1:Nat):Int) by omega,slcO_of (by omega) (Nat.le_refl _)]
     simp only [Option.bind_some,List.drop_zero,List.take_length]
     rw [appO_byte (by simp;omega)]
     simp only [Option.bind_some,List.nil_append]
     rw [u8_ok]
     simp only [Option.bind_some]
     rw [appO_byte (by simp;omega)]
     simp only [Option.bind_some]
     rw [appO_byte (by simp;omega)]
     simp only [Option.bind_some]
     rw [i64_id (by omega) (by omega)];rfl
    ·rintro _ rfl
     simp only
     rw [if_neg (by omega)]
     exact ⟨_,rfl,rfl⟩
   rw [key]
   simp only [Option.bind_some,Sum.elim_inl]
   rw [appO_of (by simp only [List.length_nil];omega)]
   simp only [Option.bind_some,List.nil_append]
   rw [idxO_nat h3]
   refine ⟨_,rfl,?_,by simp⟩
   have hput:=enum_put hE h3 (false,wrt d m D D.length)
   by_cases hz:0<D.length
   ·have hw:wrt d m D D.length=putAt (szd d (max d.length (m+D.length))) m D:=by
     unfold wrt
     rw [if_neg (show ¬ D.length=0 by omega),List.take_length]
    rw [hw] at hput ⊢
    rw [if_pos hz]
    exact hput
   ·have hw:wrt d m D D.length=d:=by
     unfold wrt
     rw [if_pos (show D.length=0 by omega)]
    rw [hw,fset_self h4] at hput
    rw [hw,if_neg hz]
    exact hput
 ·rw [if_neg h0,rg_err h0,if_neg h0]
  exact ⟨l,rfl,by rw [if_neg h0];exact hE,rfl⟩
theorem rRename_eq (hs:Snd s) (hE:Enum s l) (hl:l.length≤1000000) (o:Opr):∃ l',m_triremeref11_rename l o=some (l',((rn s o.2.1 o.2.2.1).1,0,[],[]))∧Enum (if (rn s o.2.1 o.2.2.1).1=0 then (rn s o.2.1 o.2.2.1).2 else s) l'∧l'.length=l.length:=by
 obtain ⟨kd,F,T,off,n,D⟩:=o
 unfold m_triremeref11_rename rn
 simp only
 rw [rRight_eq,rRight_eq]
 simp only [Option.bind_some]
 by_cases h1:okP F=true
 case neg =>
  rw [if_neg h1,if_pos (by simpa using h1)]
  exact ⟨l,rfl,hE,rfl⟩
 rw [if_neg (by rw [h1];decide),if_pos h1]
 by_cases h2:okP T=true
 case neg =>
  rw [if_neg h2,if_pos (by simpa using h2)]
  exact ⟨l,rfl,hE,rfl⟩
 rw [if_neg (by rw [h2];decide),if_pos h2]
 obtain ⟨a,g1,_⟩:=rLook_eq hE hl F
 rw [g1]
 simp only [Option.bind_some]
 by_cases h3:(lk s F).2=0
 case neg =>
  rw [if_neg h3,if_neg h3]
  exact ⟨l,rfl,by rw [if_neg h3];exact hE,rfl⟩
 rw [if_pos h3,if_pos h3]
 by_cases h4:F=[47]
 ·rw [if_pos h4,if_pos h4]
  exact ⟨l,rfl,hE,rfl⟩
 rw [if_neg h4,if_neg h4,rWithin_eq]
 simp only [Option.bind_some]
 by_cases h5:wthn F T=true
 ·rw [if_pos h5,if_pos h5]
  exact ⟨l,rfl,hE,rfl⟩
 rw [if_neg h5,if_neg h5,rRoom_eq hE hl]
 simp only [Option.bind_some]
 by_cases h6:rm s T=0
 case neg =>
  rw [if_neg h6,if_neg h6]
  exact ⟨l,rfl,by rw [if_neg h6];exact hE,rfl⟩
 rw [if_pos h6,if_pos h6]
 have hR:=ren_of hs h1 h3 h4 (by simpa using h5) h6
 have hF24:=(okP_pth h1).2.2
 have hT24:=(okP_pth h2).2.2
 have hkl:∀ x∈l,x.1.length≤24:=fun x hx=>(okP_pth (hs.ok _ _ ((enum_mem hE).1 hx))).2.2
 generalize hL:loopO _ (([]:List T_triremeref11_Node),(0:Int))=L
 have key:∃ r,L=some r∧((r=.inl (l.map fun x=>(ren F T x.1,x.2))∧¬ badR s F T)∨(r=.inr (l,(90,0,[],[]))∧badR s F T)):=by
  rw [← hL]
  refine loop_run (fun k (t:List T_triremeref11_Node×Int)=>t=((l.take k).map fun x=>(ren F T x.1,x.2),(k:Int))∧∀ x∈l.take k,wthn F x.1=true→(mvP F T x.1).length≤24) (fun (r:List T_triremeref11_Node ⊕ List T_triremeref11_Node×T_api_Answer)=>(r=.inl (l.map fun x=>(ren F T x.1,x.2))∧¬ badR s F T)∨(r=.inr (l,(90,0,[],[]))∧badR s F T)) l.length ?_ ?_ l.length 0 (([]:List T_triremeref11_Node),(0:Int)) (by omega) ⟨by simp,by simp⟩
  ·rintro k _ hk ⟨rfl,hI⟩
   simp only
   rw [if_pos (by omega),idxO_get hk]
   simp only [Option.bind_some]
   rw [rWithin_eq]
   simp only [Option.bind_some]
   have htk:l.take (k+1)=l.take k++[l[k]]:=List.take_succ_eq_append_getElem hk
   have hx24:=hkl _ (List.getElem_mem hk)
   have hmem:=(enum_mem hE).1 (show (l[k].1,l[k].2)∈l from List.getElem_mem hk)
   by_cases hw:wthn F l[k].1=true
   ·have hFl:F.length≤l[k].1.length:=by
     obtain ⟨_,c,hc⟩:=(wthn_iff h1).1 hw
     have e1:=(okP_pth h1).2.1
     have e2:=(okP_pth (wthn_ok hw).2).2.1
     have e3:=pth_app (nmP_ne h1 h4) c
     rw [← hc,← e1,← e2] at e3
     rw [e3];simp
    rw [if_pos hw,slcO_of hFl (Nat.le_refl _),List.take_length]
    simp only [Option.bind_some]
    rw [appO_byte (by simp;omega)]
    simp only [Option.bind_some]
    by_cases hb:24<((T++l[k].1.drop F.length).length:Int)
    ·rw [if_pos hb]
     refine .inr ⟨_,rfl,.inr ⟨rfl,⟨l[k].1,l[k].2,hmem,hw,?_⟩⟩⟩
     unfold mvP;omega
    ·rw [if_neg hb]
     simp only [Option.bind_some,Sum.elim_inl]
     rw [appO_of (by simp;omega)]
     simp only [Option.bind_some,Sum.elim_inl]
     rw [i64_id (by omega) (by omega)]
     refine .inl ⟨_,rfl,?_,?_⟩
     ·rw [htk,List.map_append]
      simp only [List.map_cons,List.map_nil,ren,if_pos hw,mvP]
      congr 1
     ·intro x hx hwx
      rw [htk] at hx
      rcases List.mem_append.1 hx with hx | hx
      ·exact hI x hx hwx
      ·simp at hx;rw [hx];unfold mvP;omega
   ·rw [if_neg hw]
    simp only [Option.bind_some,Sum.elim_inl]
    rw [appO_of (by simp;omega)]
    simp only [Option.bind_some,Sum.elim_inl]
    rw [i64_id (by omega) (by omega)]
    refine .inl ⟨_,rfl,?_,?_⟩
    ·rw [htk,List.map_append]
     simp only [List.map_cons,List.map_nil,ren,if_neg hw]
     congr 1
    ·intro x hx hwx
     rw [htk] at hx
     rcases List.mem_append.1 hx with hx | hx
     ·exact hI x hx hwx
     ·simp at hx;rw [hx] at hwx;exact absurd hwx hw
  ·rintro _ ⟨rfl,hI⟩
   simp only
   rw [if_neg (by omega),List.take_length] at *
   refine ⟨_,rfl,.inl ⟨rfl,?_⟩⟩
   rintro ⟨p,f,hp,hw,hb⟩
   have hle:(mvP F T p).length≤24:=hI (p,f) ((enum_mem hE).2 hp) hw
   omega
 obtain ⟨r,k1,k2⟩:=key
 rw [k1]
 simp only [Option.bind_some]
 rcases k2 with ⟨rfl,hb⟩ | ⟨rfl,hb⟩
 ·rw [if_neg hb]
  exact ⟨_,rfl,hR.enum hb hE,by simp⟩
 ·rw [if_pos hb]
  exact ⟨_,rfl,hE,rfl⟩
end
section
variable {s:FS} {l:List Ent}
theorem enum_add (hE:Enum s l) {p:List UInt8} (h:s p=none) (f:Bool×List UInt8):Enum (fset p f s) (l++[(p,f)]):=by
 have hp:p ∉ l.map (·.1):=fun hm=>by rw [enum_keys hE,h] at hm;cases hm
 have h1:=enum_set hE p f
 rw [filter_keys hp] at h1
 have hpm:(l++[(p,f)]).Perm ((p,f)::l):=List.perm_append_comm (l₁:=l) (l₂:=[(p,f)])
 have hnd:((l++[(p,f)]).map (·.1)).Nodup:=((hpm.map (·.1)).nodup_iff).2 h1.1
 refine ⟨hnd,fun q=>?_⟩
 rw [h1.2 q]
 cases hq:aget q ((p,f)::l) with
 | none =>
  symm
  refine aget_none fun hm=>?_
  have h2:q∈((p,f)::l).map (·.1):=((hpm.map (·.1)).mem_iff).1 hm
  have h3:=(aget_isSome q ((p,f)::l)).2 h2
  rw [hq] at h3;cases h3
 | some g =>
  symm
  refine aget_of_mem hnd ((hpm.mem_iff).2 ?_)
  exact (enum_mem h1).2 (by rw [h1.2 q];exact hq)
theorem enum_cut (hE:Enum s l) {i:Nat} {p:List UInt8} {f:Bool×List UInt8} (h:l[i]?=some (p,f)):Enum (fdel p s) (l.take i++l.drop (i+1)):=by
 have hi:=(List.getElem?_eq_some_iff.1 h).1
 have hx:=(List.getElem?_eq_some_iff.1 h).2
 have hsplit:l=l.take i++(p,f)::l.drop (i+1):=by
  conv=>lhs;rw [← List.take_append_drop i l]
  rw [List.drop_eq_getElem_cons hi,hx]
 have hnd:=hE.1
 rw [hsplit,List.map_append,List.map_cons,List.nodup_append] at hnd
 obtain ⟨n1,n2,n3⟩:=hnd
 rw [List.nodup_cons] at n2
 have hf:l.filter (fun x=>x.1≠p)=l.take i++l.drop (i+1):=by
  conv=>lhs;rw [hsplit]
  rw [List.filter_append,List.filter_cons]
  rw [filter_keys (k:=p) (l:=l.take i) (fun hm=>n3 p hm p (by simp) rfl),filter_keys (k:=p) (l:=l.drop (i+1)) n2.1]
  simp
 rw [← hf]
 exact enum_del hE p
theorem six_loop (B:List (List UInt8)) (t:List UInt8) (hB:B.length≤1000000) (k:Nat) (hk:k<B.length):(((B.take k).filter fun x=>!leqB x t).take 6)++(if gtrB (B[k]'hk) t=true∧((((B.take k).filter fun x=>!leqB x t).take 6).length:Int)<6 then [B[k]'hk] else [])=((B.take (k+1)).filter fun x=>!leqB x t).take 6:=by
 rw [List.take_succ_eq_append_getElem hk,List.filter_append]
 have hg:gtrB (B[k]'hk) t=!leqB (B[k]'hk) t:=rfl
 rw [hg]
 generalize hu:(B.take k).filter (fun x=>!leqB x t)=u
 cases hc:(!leqB (B[k]'hk) t) with
 | false=>simp [hc]
 | true =>
  have e:[B[k]'hk].filter (fun x=>!leqB x t)=[B[k]'hk]:=by simp [hc]
  rw [e]
  by_cases h6:u.length<6
  ·have e2:u.take 6=u:=List.take_of_length_le (by omega)
   have e3:(u++[B[k]'hk]).take 6=u++[B[k]'hk]:=List.take_of_length_le (by simp;omega)
   rw [e2,e3,if_pos ⟨rfl,by omega⟩]
  ·have e3:(u++[B[k]'hk]).take 6=u.take 6:=List.take_append_of_le_length (by omega)
   rw [e3,if_neg (by simp;omega),List.append_nil]
theorem rDo_eq (hs:Snd s) (hE:Enum s l) (hl:l.length≤200000) (o:Opr) (hd:o.2.2.2.2.2.length≤80000):∃ l',m_triremeref11_Do l o=some (l',(doP s o).1)∧Enum (nx s o) l'∧l'.length≤l.length+1:=by
 have hc:Crd s l.length:=⟨l,hE,Nat.le_refl _⟩
 obtain ⟨k,p,t,off,n,D⟩:=o
 simp only at hd
 unfold m_triremeref11_Do nx
 simp only
 by_cases h12:k=1∨k=2
 ·have h1:(if k=1 then (some (decide (k=1))) else some (decide (k=2)))=some true:=by
   rcases h12 with h | h<;>subst h<;>rfl
  have hdo:doP s (k,p,t,off,n,D)=((rm s p,0,[],[]),if rm s p=0 then fset p (decide (k=2),[]) s else s):=by unfold doP;rw [if_pos h12]
  rw [h1,hdo]
  simp only [Option.bind_some,if_true]
  rw [rRoom_eq hE (by omega)]
  simp only [Option.bind_some]
  by_cases h0:rm s p=0
  ·rw [if_pos h0,appO_of (by simp only [List.length_nil];omega)]
   simp only [Option.bind_some,List.nil_append]
   rw [appO_of (by simp only [List.length_cons,List.length_nil];omega)]
   simp only [Option.bind_some,Sum.elim_inr]
   rw [h0]
   refine ⟨_,rfl,?_,by simp⟩
   rw [if_pos rfl,if_pos rfl]
   exact enum_add hE (rm_ok h0).2.2.2 _
  ·rw [if_neg h0]
   exact ⟨l,rfl,by rw [if_neg h0];exact hE,by omega⟩
 have h1:(if k=1 then (some (decide (k=1))) else some (decide (k=2)))=some false:=by
  rw [if_neg (fun h=>h12 (.inl h)),decide_eq_false (fun h=>h12 (.inr h))]
 rw [h1]
 simp only [Option.bind_some,Bool.false_eq_true,if_false]
 by_cases h345:k=3∨k=4∨k=5
 ·have h2:(if k=3 then (some (decide (k=3))) else (Option.bind (α:=Bool) (if k=4 then some (decide (k=4)) else some (decide (k=5))) fun r457=>some r457))=some true:=by
   rcases h345 with h | h | h<;>subst h<;>rfl
  rw [h2]
  simp only [Option.bind_some,if_true]
  rcases h345 with h | h | h
  ·obtain ⟨l',e1,e2,e3⟩:=rWrite_eq hs hE (by omega) (k,p,t,off,n,D) h hd
   rw [e1,doP34 (.inl h)]
   exact ⟨l',rfl,e2,by omega⟩
  ·obtain ⟨l',e1,e2,e3⟩:=rTrunc_eq hs hE (by omega) (k,p,t,off,n,D) h
   rw [e1,doP34 (.inr h)]
   exact ⟨l',rfl,e2,by omega⟩
  ·obtain ⟨l',e1,e2,e3⟩:=rRead_eq hs hE (by omega) (k,p,t,off,n,D) h
   rw [e1,doP5 h]
   refine ⟨l',rfl,?_,by omega⟩
   simp only [ite_self]
   exact e2
 have h2:(if k=3 then (some (decide (k=3))) else (Option.bind (α:=Bool) (if k=4 then some (decide (k=4)) else some (decide (k=5))) fun r457=>some r457))=some false:=by
  rw [if_neg (by omega),if_neg (by omega),decide_eq_false (by omega)];rfl
 rw [h2]
 simp only [Option.bind_some,Bool.false_eq_true,if_false]
 by_cases h6:k=6
 ·obtain ⟨l',e1,e2,e3⟩:=rRename_eq hs hE (by omega) (k,p,t,off,n,D)
  have hdo:doP s (k,p,t,off,n,D)=(((rn s p t).1,0,[],[]),(rn s p t).2):=by
   unfold doP;rw [if_neg h12,if_neg (by simp only;omega),if_neg (by simp only;omega),if_pos h6]
  rw [if_pos h6,e1,hdo]
  exact ⟨l',rfl,e2,by omega⟩
 rw [if_neg h6]
 by_cases h789:k=7∨k=8∨k=9
 case neg =>
  have h3:(if k=7 then (some (decide (k=7))) else (Option.bind (α:=Bool) (if k=8 then some (decide (k=8)) else some (decide (k=9))) fun r457=>some r457))=some false:=by
   rw [if_neg (by omega),if_neg (by omega),decide_eq_false (by omega)];rfl
  have hdo:doP s (k,p,t,off,n,D)=((1,0,[],[]),s):=by
   unfold doP;rw [if_neg h12,if_neg (by simp only;omega),if_neg (by simp only;omega),if_neg h6,if_neg (by simp only;omega),if_neg (by simp only;omega),if_neg (by simp only;omega)]
  rw [h3,hdo]
  simp only [Option.bind_some,Bool.false_eq_true,if_false]
  exact ⟨l,rfl,hE,by omega⟩
 have h3:(if k=7 then (some (decide (k=7))) else (Option.bind (α:=Bool) (if k=8 then some (decide (k=8)) else some (decide (k=9))) fun r457=>some r457))=some true:=by
  rcases h789 with h | h | h<;>subst h<;>rfl
 rw [h3]
 simp only [Option.bind_some,if_true,Sum.elim_inl]
 obtain ⟨a,g1,g2⟩:=rLook_eq hE (by omega) p
 rw [g1]
 simp only [Option.bind_some]
 have hB:=hs.below hc (by omega) p
 have hbl:blL l p=bl s p:=by
  have h1:=below_eq hE (by omega) (fun x hx=>by have:=(okP_pth (hs.ok _ _ ((enum_mem hE).1 hx))).2.2;omega) p
  rw [hB.eq] at h1
  exact (Option.some.inj h1).symm
 by_cases h0:(lk s p).2=0
 case neg =>
  rw [if_neg h0]
  rcases h789 with h | h | h
  ·have hdo:doP s (k,p,t,off,n,D)=(((rv s p).1,0,[],[]),(rv s p).2):=by
    unfold doP;rw [if_neg h12,if_neg (by simp only;omega),if_neg (by simp only;omega),if_neg h6,if_pos h]
   have:rv s p=((lk s p).2,s):=by unfold rv;rw [if_neg h0]
   rw [hdo,this]
   exact ⟨l,rfl,by simp only [ite_self];exact hE,by omega⟩
  ·have hdo:doP s (k,p,t,off,n,D)=(ls s (k,p,t,off,n,D),s):=by
    unfold doP;rw [if_neg h12,if_neg (by simp only;omega),if_neg (by simp only;omega),if_neg h6,if_neg (by simp only;omega),if_pos h]
   have:ls s (k,p,t,off,n,D)=((lk s p).2,0,[],[]):=by unfold ls;rw [if_neg h0]
   rw [hdo,this]
   exact ⟨l,rfl,by simp only [ite_self];exact hE,by omega⟩
  ·have hdo:doP s (k,p,t,off,n,D)=(stt s p,s):=by
    unfold doP;rw [if_neg h12,if_neg (by simp only;omega),if_neg (by simp only;omega),if_neg h6,if_neg (by simp only;omega),if_neg (by simp only;omega),if_pos h]
   have:stt s p=((lk s p).2,0,[],[]):=by unfold stt;rw [if_neg h0]
   rw [hdo,this]
   exact ⟨l,rfl,by simp only [ite_self];exact hE,by omega⟩
 obtain ⟨i,f,rfl,g3,g4,g5⟩:=g2 h0
 have hi:=(List.getElem?_eq_some_iff.1 g3).1
 rw [if_pos h0,idxO_nat g3]
 simp only [Option.bind_some]
 rw [rBelow_eq (by omega),hbl]
 simp only [Option.bind_some]
 obtain ⟨b,d⟩:=f
 have hBl:=hB.len
 rcases h789 with h | h | h
 ·have hdo:doP s (k,p,t,off,n,D)=(((rv s p).1,0,[],[]),(rv s p).2):=by
   unfold doP;rw [if_neg h12,if_neg (by simp only;omega),if_neg (by simp only;omega),if_neg h6,if_pos h]
  rw [hdo,if_neg (by omega),if_neg (by omega)]
  unfold rv
  rw [if_pos h0]
  by_cases hr:p=[47]
  ·rw [if_pos hr,if_pos hr]
   exact ⟨l,rfl,hE,by omega⟩
  rw [if_neg hr,if_neg hr]
  by_cases hz:0<(bl s p).length
  ·rw [if_pos hz,if_pos (by omega)]
   exact ⟨l,rfl,hE,by omega⟩
  rw [if_neg hz,if_neg (by omega),i64_id (by omega) (by omega),show (0:Int)=((0:Nat):Int) from rfl,slcO_of (Nat.zero_le _) (by omega),show (i:Int)+1=((i+1:Nat):Int) by omega,slcO_of (by omega) (Nat.le_refl _)]
  simp only [Option.bind_some,List.drop_zero,List.take_length]
  rw [appO_of (by simp;omega)]
  simp only [Option.bind_some,List.nil_append]
  rw [appO_of (by simp;omega)]
  exact ⟨_,rfl,enum_cut hE g3,by simp;omega⟩
 ·have hdo:doP s (k,p,t,off,n,D)=(ls s (k,p,t,off,n,D),s):=by
   unfold doP;rw [if_neg h12,if_neg (by simp only;omega),if_neg (by simp only;omega),if_neg h6,if_neg (by simp only;omega),if_pos h]
  rw [hdo,if_neg (by omega),if_pos h]
  unfold ls
  simp only
  rw [if_pos h0,g5]
  cases b with
  | false=>exact ⟨l,rfl,hE,by omega⟩
  | true =>
   rw [if_neg (by decide),if_pos rfl]
   generalize hL:loopO _ (([]:List (List UInt8)),(0:Int))=L
   have key:L=some (((bl s p).filter fun x=>!leqB x t).take 6):=by
    rw [← hL]
    generalize bl s p=B at hBl
    refine loop_runE (fun k (u:List (List UInt8)×Int)=>u=(((B.take k).filter fun x=>!leqB x t).take 6,(k:Int))) _ B.length (by simp) ?_ ?_
    ·rintro k _ hk rfl
     simp only
     rw [if_pos (by omega),idxO_get hk]
     simp only [Option.bind_some]
     refine .inl ⟨_,?_,rfl⟩
     rw [← six_loop B t (by omega) k hk]
     generalize hu:((B.take k).filter fun x=>!leqB x t).take 6=u
     have hu6:u.length≤6:=by rw [← hu];simp;omega
     by_cases e1:gtrB B[k] t=true
     ·rw [if_pos e1]
      by_cases e2:(u.length:Int)<6
      ·rw [if_pos e2,if_pos ⟨e1,e2⟩,appO_of (by simp;omega)]
       simp only [Option.bind_some]
       rw [i64_id (by omega) (by omega)];rfl
      ·rw [if_neg e2,if_neg (fun h=>e2 h.2),List.append_nil]
       simp only [Option.bind_some]
       rw [i64_id (by omega) (by omega)];rfl
     ·rw [if_neg e1,if_neg (fun h=>e1 h.1),List.append_nil]
      simp only [Option.bind_some]
      rw [i64_id (by omega) (by omega)];rfl
    ·rintro _ rfl
     simp only
     rw [if_neg (by omega),List.take_length]
     exact ⟨_,rfl,rfl⟩
   rw [key]
   exact ⟨l,rfl,hE,by omega⟩
 ·have hdo:doP s (k,p,t,off,n,D)=(stt s p,s):=by
   unfold doP;rw [if_neg h12,if_neg (by simp only;omega),if_neg (by simp only;omega),if_neg h6,if_neg (by simp only;omega),if_neg (by simp only;omega),if_pos h]
  rw [hdo,if_pos h]
  unfold stt
  rw [if_pos h0,g5]
  cases b with
  | false =>
   rw [if_neg (show ¬ ((false:Bool)=true) by decide),if_neg (show ¬ ((false:Bool)=true) by decide),show u8O 102=some 102 from rfl]
   exact ⟨l,rfl,hE,by omega⟩
  | true =>
   rw [if_pos rfl,if_pos rfl,show u8O 100=some 100 from rfl]
   exact ⟨l,rfl,hE,by omega⟩
end
theorem rPairs_of {s:FS} {l:List Ent} (hs:Snd s) (hE:Enum s l) (hl:l.length≤200000):m_triremeref11_Pairs l=some (prsF s):=by
 rw [prs_of hs hE (by omega)]
 refine rPairs_eq hE.1 (by omega) fun x hx=>?_
 have h:=(enum_mem hE).1 hx
 have:=(okP_pth (hs.ok _ _ h)).2.2
 exact ⟨by omega,hs.len _ _ h⟩
theorem cmp_lss:∀ a b:List UInt8,lssB a b=true↔Lib.compareBytes a b<0
 | [],[]=>by simp [lssB,Op.bytesLess,Lib.compareBytes]
 | [],b::m=>by simp [lssB,Op.bytesLess,Lib.compareBytes]
 | a::l,[]=>by simp [lssB,Op.bytesLess,Lib.compareBytes]
 | a::l,b::m=>by
  have ih:=cmp_lss l m
  unfold lssB at ih ⊢
  simp only [Op.bytesLess,Lib.compareBytes,Bool.or_eq_true,Bool.and_eq_true,decide_eq_true_eq,beq_iff_eq]
  by_cases h1:a<b
  ·simp [h1]
  ·rw [if_neg h1]
   by_cases h2:b<a
   ·rw [if_pos h2]
    have:a≠b:=fun e=>by rw [e] at h2;exact absurd h2 (UInt8.lt_irrefl _)
    simp [h1,this]
   ·rw [if_neg h2]
    have:a=b:=by
     rw [← UInt8.toNat_inj]
     rw [UInt8.lt_iff_toNat_lt] at h1 h2
     omega
    simp [this,ih]
theorem cmp_lt (a b:List UInt8):Lib.compareBytes a b<0↔a<b:=(cmp_lss a b).symm.trans (lss_iff a b)
theorem lt_irr (a:List UInt8):¬ a<a:=fun h=>by have:=(cmp_lt a a).2 h;rw [cmp_self] at this;omega
theorem lt_tr {a b c:List UInt8} (h1:a<b) (h2:b<c):a<c:=(cmp_lt a c).1 (cmp_trans a b c ((cmp_lt a b).2 h1) ((cmp_lt b c).2 h2))
def SmL (L:List P2):Prop:=L.length≤1000∧∀ x∈L,x.1.length≤10000∧x.2.length≤10000
def RF (L:List P2):Prop:=Snd (rdF L)∧prsF (rdF L)=L
theorem fCheck_iff (L:List P2) (h:SmL L):(fCheck L=some 0∧RF L)∨(fCheck L=some 22∧¬ RF L):=by
 rcases fCheck_eq L (by have:=h.1;omega) h.2 with ⟨h1,h2⟩ | ⟨h1,h2⟩
 ·exact .inl ⟨h1,h2⟩
 ·exact .inr ⟨h1,h2⟩
theorem RF.of {s:FS} (hs:Snd s) {n:Nat} (hc:Crd s n) (hn:n≤1000):RF (prsF s):=by
 have h:=(hs.prs hc (by omega)).2.1
 exact ⟨by rw [h];exact hs,by rw [h]⟩
theorem sameT_eq (x y:List (List UInt8)) (hx:x.length≤1000000):rSameT x y=some (decide (x=y)):=by
 have:rSameT x y=m_slices_Equal___string_string_ x y:=rfl
 rw [this,equalT_eq x y (by omega)]
theorem sameAns_eq (a b:Ans) (h:a.2.2.2.length≤1000000):rSameAns a b=some (decide (a=b)):=by
 obtain ⟨a1,a2,a3,a4⟩:=a
 obtain ⟨b1,b2,b3,b4⟩:=b
 simp only at h
 unfold rSameAns
 simp only
 by_cases h1:a1=b1
 ·rw [if_pos h1]
  by_cases h2:a2=b2
  ·rw [if_pos h2]
   by_cases h3:a3=b3
   ·rw [if_pos h3,sameT_eq _ _ h]
    simp [h1,h2,h3]
   ·rw [if_neg h3];simp [h3]
  ·rw [if_neg h2];simp [h2]
 ·rw [if_neg h1];simp [h1]
theorem copyPairs_eq (L:List P2) (h:SmL L):rCopyPairs L=some L:=by
 obtain ⟨hl,hb⟩:=h
 unfold rCopyPairs
 refine bind_run (fun k (s:List P2×Int)=>s=(L.take k,(k:Int))) (fun r=>r=L) L.length rfl ?_ ?_ ?_
 ·rintro k _ hk rfl
  have hx:=hb _ (List.getElem_mem hk)
  simp only
  rw [if_pos (by omega),idxO_get hk]
  simp only [Option.bind_some]
  rw [appO_of (by simp only [List.length_nil];omega),appO_of (by simp only [List.length_nil];omega)]
  simp only [Option.bind_some,List.nil_append]
  rw [appO_of (by simp only [List.length_take,List.length_cons,List.length_nil];omega)]
  simp only [Option.bind_some]
  exact .inl ⟨_,rfl,by rw [i64_id (by omega) (by omega)];exact Prod.ext (List.take_succ_eq_append_getElem hk).symm rfl⟩
 ·rintro _ rfl
  simp only
  rw [if_neg (by omega),List.take_length];exact ⟨_,rfl,rfl⟩
 ·rintro _ rfl;rfl
def fsL (l:List Ent):FS:=fun p=>aget p l
structure NdL (l:List Ent):Prop where
 nd:(l.map (·.1)).Nodup
 sn:Snd (fsL l)
 len:l.length≤1000
theorem NdL.enum {l:List Ent} (h:NdL l):Enum (fsL l) l:=⟨h.nd,fun _=>rfl⟩
theorem NdL.crd {l:List Ent} (h:NdL l):Crd (fsL l) 1000:=⟨l,h.enum,h.len⟩
theorem NdL.of {s:FS} {l:List Ent} (hs:Snd s) (hE:Enum s l) (hl:l.length≤1000):NdL l∧fsL l=s:=by
 have e:fsL l=s:=funext fun p=>(hE.2 p).symm
 exact ⟨⟨hE.1,by rw [e];exact hs,hl⟩,e⟩
noncomputable def prL (l:List Ent):List P2:=prsF (fsL l)
theorem NdL.pairs {l:List Ent} (h:NdL l):m_triremeref11_Pairs l=some (prL l):=rPairs_of h.sn h.enum (by have:=h.len;omega)
theorem NdL.rf {l:List Ent} (h:NdL l):RF (prL l):=RF.of h.sn h.crd (by omega)
theorem sameOp_eq (a b:Opr):rSameOp a b=some (decide (a=b)):=by
 obtain ⟨a1,a2,a3,a4,a5,a6⟩:=a
 obtain ⟨b1,b2,b3,b4,b5,b6⟩:=b
 unfold rSameOp
 simp only
 by_cases h1:a1=b1
 ·rw [if_pos h1]
  by_cases h2:a2=b2
  ·rw [if_pos h2]
   by_cases h3:a3=b3
   ·rw [if_pos h3]
    by_cases h4:a4=b4
    ·rw [if_pos h4]
     by_cases h5:a5=b5
     ·rw [if_pos h5];simp [h1,h2,h3,h4,h5]
     ·rw [if_neg h5];simp [h5]
    ·rw [if_neg h4];simp [h4]
   ·rw [if_neg h3];simp [h3]
  ·rw [if_neg h2];simp [h2]
 ·rw [if_neg h1];simp [h1]
theorem copyOp_eq (o:Opr) (h:o.2.2.2.2.2.length≤1000):rCopyOp o=some o:=by
 unfold rCopyOp
 rw [appO_of (by simp;omega)];rfl
theorem rFindO_eq (l:List Ent) (hl:l.length≤1000000) (p:List UInt8):(rFindO l p=some (-1)∧∀ x∈l,x.1≠p)∨∃ (i:Nat) (f:Bool×List UInt8),rFindO l p=some (i:Int)∧l[i]?=some (p,f):=by
 unfold rFindO
 refine bind_runP (C:=fun o=>(o=some (-1)∧∀ x∈l,x.1≠p)∨∃ (i:Nat) (f:Bool×List UInt8),o=some (i:Int)∧l[i]?=some (p,f)) (fun k (t:Int)=>t=(k:Int)∧∀ j (hj:j<l.length),j<k→l[j].1≠p) (fun r=>(r=.inl ()∧∀ x∈l,x.1≠p)∨∃ (i:Nat) (f:Bool×List UInt8),r=.inr (i:Int)∧l[i]?=some (p,f)) l.length ⟨rfl,fun j hj hk=>by omega⟩ ?_ ?_ ?_
 ·rintro k _ hk ⟨rfl,hne⟩
  rw [if_pos (by omega),idxO_get hk]
  simp only [Option.bind_some]
  by_cases h:l[k].1=p
  ·rw [if_pos h]
   refine .inr ⟨_,rfl,.inr ⟨k,l[k].2,rfl,?_⟩⟩
   rw [List.getElem?_eq_getElem hk,← h]
  ·rw [if_neg h,i64_id (by omega) (by omega)]
   refine .inl ⟨_,rfl,rfl,fun j hj hjk=>?_⟩
   by_cases e:j=k
   ·subst e;exact h
   ·exact hne j hj (by omega)
 ·rintro _ ⟨rfl,hne⟩
  refine ⟨_,by rw [if_neg (by omega)],.inl ⟨rfl,fun x hx=>?_⟩⟩
  obtain ⟨j,hj,e⟩:=List.getElem_of_mem hx
  rw [← e];exact hne j hj hj
 ·rintro _ (⟨rfl,h⟩ | ⟨i,f,rfl,h⟩)
  ·exact .inl ⟨rfl,h⟩
  ·exact .inr ⟨i,f,rfl,h⟩
def nd1 (x:P2):Option Ent:=match x.1 with
 | []=>none
 | a::r=>if a=110∧x.2≠[] then some (r,decide (x.2=[100]),[]) else none
theorem nd1_some {x:P2} {e:Ent} (h:nd1 x=some e):x.1=110::e.1∧x.2≠[]∧e=(e.1,decide (x.2=[100]),[]):=by
 obtain ⟨k,v⟩:=x
 unfold nd1 at h
 cases k with
 | nil=>cases h
 | cons a r =>
  simp only at h
  split at h
  ·rename_i h1
   cases h
   exact ⟨by rw [h1.1],h1.2,rfl⟩
  ·cases h
theorem nd1_of {p v:List UInt8} (h:v≠[]):nd1 (110::p,v)=some (p,decide (v=[100]),[]):=by
 unfold nd1
 simp [h]
theorem nd1_keys:∀ {L:List P2},(L.map (·.1)).Nodup→((L.filterMap nd1).map (·.1)).Nodup
 | [],_=>by simp
 | x::L,h=>by
  rw [List.map_cons,List.nodup_cons] at h
  have ih:=nd1_keys h.2
  rw [List.filterMap_cons]
  split
  ·exact ih
  ·rename_i e he
   rw [List.map_cons,List.nodup_cons]
   refine ⟨fun hm=>h.1 ?_,ih⟩
   obtain ⟨e',he',e1⟩:=List.mem_map.1 hm
   obtain ⟨y,hy,e2⟩:=List.mem_filterMap.1 he'
   have a1:=(nd1_some he).1
   have a2:=(nd1_some e2).1
   rw [a1,← e1,← a2]
   exact List.mem_map.2 ⟨y,hy,rfl⟩
theorem rf_ent {L:List P2} (h:RF L) (hL:L.length≤1000):∃ l,EntOk l∧Enum (rdF L) l∧L=prs2 l∧(L.map (·.1)).Nodup:=by
 obtain ⟨h1,h2⟩:=h
 obtain ⟨l,hE,hl⟩:=rdF_crd L
 have hk:=h1.ent hE
 have e:=prs_of h1 hE (by omega)
 rw [h2] at e
 refine ⟨l,hk,hE,e,?_⟩
 rw [e]
 exact ((List.mergeSort_perm _ leP).map _).nodup_iff.2 (enc_nodup hk.nd hk.len)
theorem ent_key {l:List Ent} {x:P2} (h:x∈prs2 l):∃ e∈l,(x.1=110::e.1∧x.2≠[]∧decide (x.2=[100])=e.2.1)∨(e.2.1=false∧∃ c,x.1=99::(e.1++[0,c])):=by
 obtain ⟨e,he,hx⟩:=prs2_mem.1 h
 refine ⟨e,he,?_⟩
 unfold encE at hx
 split at hx
 ·rename_i hd
  rw [List.mem_singleton] at hx
  subst hx
  exact .inl ⟨rfl,by simp,by rw [hd];simp⟩
 ·rename_i hd
  rcases List.mem_cons.1 hx with rfl | hx
  ·exact .inl ⟨rfl,by simp,by simp at hd;rw [hd];simp⟩
  ·obtain ⟨j,_,_,hj⟩:=chk_mem hx
   exact .inr ⟨by simpa using hd,_,hj⟩
theorem ent_nd {l:List Ent} {e:Ent} (h:e∈l):(e.1,e.2.1,[])∈(prs2 l).filterMap nd1:=by
 rw [List.mem_filterMap]
 by_cases hd:e.2.1=true
 ·refine ⟨(110::e.1,[100]),prs2_mem.2 ⟨e,h,by unfold encE;rw [if_pos hd];simp⟩,?_⟩
  rw [nd1_of (by simp),hd];simp
 ·refine ⟨(110::e.1,102::len2 e.2.2.length),prs2_mem.2 ⟨e,h,by unfold encE;rw [if_neg hd];simp⟩,?_⟩
  rw [nd1_of (by simp)]
  simp at hd
  rw [hd];simp
def shp (l:List Ent):List (List UInt8×Bool):=l.map fun x=>(x.1,x.2.1)
theorem shp_key {l l':List Ent} (h:shp l=shp l'):l.map (·.1)=l'.map (·.1):=by
 have e:∀ l:List Ent,(shp l).map (·.1)=l.map (·.1):=fun l=>by unfold shp;rw [List.map_map];rfl
 rw [← e,h,e]
structure N2 (L:List P2) (l1:List Ent) (k:Nat) (l:List Ent):Prop where
 sh:shp l=shp l1
 ln:∀ (j:Nat) x,l[j]?=some x→x.2.2.length≤k * 10000
 dr:∀ (j:Nat) x,l[j]?=some x→x.2.1=true→x.2.2=[]
 rf:RF L→∀ (j:Nat) x,l[j]?=some x→x.2.2=((L.take k).filterMap (cof x.1)).flatten
def GdN (l:List Ent) (x:Ent):Prop:=okP x.1=true∧x.2.2.length≤192∧(x.1=[47]→x.2.1=true)∧(x.1≠[47]→∃ (i:Nat) (d:List UInt8),rFindO l (par x.1)=some (i:Int)∧l[i]?=some (par x.1,true,d))
theorem idx_key {l:List Ent} (hn:(l.map (·.1)).Nodup) {i j:Nat} {x y:Ent} (hi:l[i]?=some x) (hj:l[j]?=some y) (h:x.1=y.1):i=j∧x=y:=by
 have a1:(l.map (·.1))[i]?=some x.1:=by simp [hi]
 have a2:(l.map (·.1))[j]?=some x.1:=by simp [hj,h]
 obtain ⟨p1,q1⟩:=List.getElem?_eq_some_iff.1 a1
 obtain ⟨p2,q2⟩:=List.getElem?_eq_some_iff.1 a2
 have e:i=j:=(List.getElem_inj (h₀:=p1) (h₁:=p2) hn).1 (by rw [q1,q2])
 subst e
 rw [hi] at hj
 exact ⟨rfl,Option.some.inj hj⟩
theorem rRising_eq (L:List P2) (hL:L.length≤1000000):∃ b,rRising L=some b∧(b=true↔∀ i (hi:i+1<L.length),L[i].1<L[i+1].1):=by
 unfold rRising
 refine bind_runP (C:=fun o=>∃ b,o=some b∧(b=true↔∀ i (hi:i+1<L.length),L[i].1<L[i+1].1)) (fun k (t:Int)=>t=((k+1:Nat):Int)∧∀ i (hi:i+1<L.length),i<k→L[i].1<L[i+1].1) (fun r=>(r=.inl ()∧∀ i (hi:i+1<L.length),L[i].1<L[i+1].1)∨(r=.inr false∧¬ ∀ i (hi:i+1<L.length),L[i].1<L[i+1].1)) (L.length - 1) ⟨rfl,fun i hi h=>by omega⟩ ?_ ?_ ?_
 ·rintro k _ hk ⟨rfl,h⟩
  have hk1:k+1<L.length:=by omega
  rw [if_pos (by omega),i64_id (by omega) (by omega),show ((k+1:Nat):Int) - 1=(k:Int) by omega,idxO_get (show k<L.length by omega),idxO_get hk1]
  simp only [Option.bind_some]
  have hg:geqB L[k].1 L[k+1].1=true↔¬ L[k].1<L[k+1].1:=by
   have:geqB L[k].1 L[k+1].1=!lssB L[k].1 L[k+1].1:=rfl
   rw [this,← lss_iff];simp
  by_cases hlt:L[k].1<L[k+1].1
  ·rw [if_neg (fun h=>hg.1 h hlt),i64_id (by omega) (by omega)]
   refine .inl ⟨_,rfl,by omega,fun i hi hik=>?_⟩
   by_cases e:i=k
   ·subst e;exact hlt
   ·exact h i hi (by omega)
  ·rw [if_pos (hg.2 hlt)]
   exact .inr ⟨_,rfl,.inr ⟨rfl,fun h=>hlt (h k hk1)⟩⟩
 ·rintro _ ⟨rfl,h⟩
  refine ⟨_,by rw [if_neg (by omega)],.inl ⟨rfl,fun i hi=>h i hi (by omega)⟩⟩
 ·rintro _ (⟨rfl,h⟩ | ⟨rfl,h⟩)
  ·exact ⟨true,rfl,by simpa using h⟩
  ·exact ⟨false,rfl,by simpa using h⟩
theorem rise_nd {L:List P2} (h:∀ i (hi:i+1<L.length),L[i].1<L[i+1].1):(L.map (·.1)).Nodup:=by
 have hp:∀ m i (hi:i+1+m<L.length),(L[i]'(by omega)).1<(L[i+1+m]'hi).1:=by
  intro m
  induction m with
  | zero=>intro i hi;exact h i hi
  | succ m ih=>intro i hi;exact lt_tr (ih i (by omega)) (h (i+1+m) (by omega))
 rw [List.nodup_iff_pairwise_ne,List.pairwise_map,List.pairwise_iff_getElem]
 intro i j hi hj hij e
 have:=hp (j - i - 1) i (by omega)
 simp only [show i+1+(j - i - 1)=j by omega] at this
 rw [e] at this
 exact lt_irr _ this
theorem rf_rise {L:List P2} (h:RF L) (hL:L.length≤1000):∀ i (hi:i+1<L.length),L[i].1<L[i+1].1:=by
 obtain ⟨l,hk,_,e,_⟩:=rf_ent h hL
 have hs:L.Pairwise ltP:=by rw [e];exact sortPairs_strict (enc_nodup hk.nd hk.len)
 intro i hi
 have:=List.pairwise_iff_getElem.1 hs i (i+1) (by omega) hi (by omega)
 exact (cmp_lt _ _).1 this
end Go.Proofs.YthcjjjnphgopjaaGreatDoor
