/- Texts RfB, RfC, RfD, RfE, SdA, SdP, Nod, NodB. -/
import Derived.Test.YtkcgdaihfblncaaGreatDoorQ15
set_option linter.unusedSimpArgs false
set_option linter.unusedVariables false
namespace Go.Tri
open Go.RowKit
theorem vQ {α:Type} (a:List α) (y x:α) (c:List α):((a++y::x::c).set (a.length+1) y).set a.length x=a++x::y::c:=by
 rw [List.set_append_right _ _ (by omega),List.set_append_right _ _ (Nat.le_refl _)]
 simp
theorem sink {α:Type} (lt:α->α->Bool) {f:List α×Int->Option ((List α×Int) ⊕ List α)} (hf0:∀ xs,f (xs,0)=some (.inr xs)) (hf:∀ (a:List α) (y x:α) (c:List α),a.length+c.length<=100000000->f (a++y::x::c,((a.length+1:Nat):Int))=some (if lt x y=true then .inl (a++x::y::c,(a.length:Int)) else .inr (a++y::x::c))) :
  ∀ (n:Nat) (a:List α) (x:α) (c:List α),a.length=n->a.length+c.length<=100000000->∃ a1 a2,a=a1++a2/\aH f (a++x::c,(a.length:Int))=some (a1++x::(a2++c))/\(∀ y∈a2,lt x y=true)/\∀ y,a1.getLast?=some y->lt x y=false
 | 0,a,x,c,h,_=>by
  have:a=[]:=List.eq_nil_of_length_eq_zero h
  subst this
  refine ⟨[],[],rfl,?_,by simp,by simp⟩
  rw [dN,show ((([]:List α).length:Nat):Int)=0 from rfl,hf0];rfl
 | n+1,a,x,c,h,hb=>by
  have hne:a≠[]:=fun e=>by rw [e] at h;simp at h
  obtain ⟨b,y,rfl⟩:∃ b y,a=b++[y]:=⟨a.dropLast,a.getLast hne,(List.dropLast_concat_getLast hne).symm⟩
  simp only [List.length_append,List.length_cons,List.length_nil] at h hb
  have e1:(b++[y])++x::c=b++y::x::c:=by simp
  have e2:(((b++[y]).length:Nat):Int)=((b.length+1:Nat):Int):=by simp
  rw [e1,e2,dN,hf b y x c (by omega)]
  by_cases hl:lt x y=true
  ·rw [if_pos hl]
   obtain ⟨a1,a2,h1,h2,h3,h4⟩:=sink lt hf0 hf n b x (y::c) (by omega) (by simp;omega)
   refine ⟨a1,a2++[y],by rw [h1];simp,?_,?_,h4⟩
   ·simp only [obS]
    rw [h2];simp
   ·intro z hz
    rcases List.mem_append.1 hz with hz | hz
    ·exact h3 z hz
    ·simp at hz;rw [hz];exact hl
  ·rw [if_neg hl]
   refine ⟨b++[y],[],by simp,by simp,by simp,fun z hz=>?_⟩
   simp at hz;rw [<- hz];simpa using hl
theorem aBk {α:Type} {lt:α->α->Bool} (htr:∀ a b c,lt b a=false->lt c b=false->lt c a=false) (hlt:∀ a b,lt a b=true->lt b a=false) {a1 a2:List α} {x:α} (h:(a1++a2).Pairwise (fun p q=>lt q p=false)) (h2:∀ y∈a2,lt x y=true) (h1:∀ y,a1.getLast?=some y->lt x y=false):(a1++x::a2).Pairwise (fun p q=>lt q p=false):=by
 rw [List.pairwise_append] at h ⊢
 obtain ⟨p1,p2,p3⟩:=h
 refine ⟨p1,List.pairwise_cons.2 ⟨fun y hy=>hlt _ _ (h2 y hy),p2⟩,fun y hy z hz=>?_⟩
 rcases List.mem_cons.1 hz with rfl | hz
 ·have hne:a1≠[]:=fun e=>by rw [e] at hy;cases hy
  have hl:=h1 (a1.getLast hne) (List.getLast?_eq_some_getLast hne)
  rw [<- List.dropLast_concat_getLast hne] at hy p1
  rcases List.mem_append.1 hy with hy | hy
  ·exact htr _ _ _ ((List.pairwise_append.1 p1).2.2 y hy _ (by simp)) hl
  ·simp at hy;rw [hy];exact hl
 ·exact p3 y hy z hz
theorem jD:∀ a b:List UInt8,aT a b=true↔Lib.compareBytes a b<0
 | [],[]=>by simp [aT,Op.bytesLess,Lib.compareBytes]
 | [],b::m=>by simp [aT,Op.bytesLess,Lib.compareBytes]
 | a::l,[]=>by simp [aT,Op.bytesLess,Lib.compareBytes]
 | a::l,b::m=>by
  have ih:=jD l m
  unfold aT at ih ⊢
  simp only [Op.bytesLess,Lib.compareBytes,Bool.or_eq_true,Bool.and_eq_true,decide_eq_true_eq,beq_iff_eq]
  by_cases h1:a<b
  ·simp [h1]
  ·rw [if_neg h1]
   by_cases h2:b<a
   ·rw [if_pos h2]
    have:a≠b:=fun e=>by rw [e] at h2;exact absurd h2 (UInt8.lt_irrefl _)
    simp [h1,this]
   ·rw [if_neg h2]
    have:a=b:=by
     rw [<- UInt8.toNat_inj]
     rw [UInt8.lt_iff_toNat_lt] at h1 h2
     omega
    simp [this,ih]
theorem aG8 (a b c:List UInt8) (h1:aT b a=false) (h2:aT c b=false):aT c a=false:=by
 have n1:¬ Lib.compareBytes b a<0:=fun h=>by rw [(jD b a).2 h] at h1;cases h1
 have n2:¬ Lib.compareBytes c b<0:=fun h=>by rw [(jD c b).2 h] at h2;cases h2
 cases h:aT c a with
 | false=>rfl
 | true =>
  have h3:=(jD c a).1 h
  have s1:=fL a b
  have s2:=fL b c
  by_cases e1:Lib.compareBytes a b=0
  ·rw [gY _ _ e1] at h3;exact absurd h3 n2
  ·by_cases e2:Lib.compareBytes b c=0
   ·rw [<- gY _ _ e2] at h3;exact absurd h3 n1
   ·have:=jG a b c (by omega) (by omega)
    have s3:=fL a c
    omega
theorem zL (a b:List UInt8) (h:aT a b=true):aT b a=false:=by
 cases h2:aT b a with
 | false=>rfl
 | true =>
  have h3:=(jD a b).1 h
  have h4:=(jD b a).1 h2
  have:=fL a b
  omega
end Go.Tri
namespace Go.Proofs.YtkcgdaihfblncaaGreatDoor
open Go.RowKit Go.Tri
section
variable {s:FS} {l:List Ent}
theorem yJ (hE:Enum s l) (hl:l.length<=1000000) (p:List UInt8):(m_triremeref11_Find l p=some (-1)/\s p=none)\/∃ (i:Nat) (f:Bool×List UInt8),m_triremeref11_Find l p=some (i:Int)/\l[i]?=some (p,f)/\s p=some f:=by
 unfold m_triremeref11_Find
 refine dR (C:=fun o=>(o=some (-1)/\s p=none)\/∃ (i:Nat) (f:Bool×List UInt8),o=some (i:Int)/\l[i]?=some (p,f)/\s p=some f) (fun k (t:Int)=>t=(k:Int)/\∀ j (hj:j<l.length),j<k->l[j].1≠p) (fun r=>(r=.inl ()/\s p=none)\/∃ (i:Nat) (f:Bool×List UInt8),r=.inr (i:Int)/\l[i]?=some (p,f)/\s p=some f) l.length ⟨rfl,fun j hj hk=>by omega⟩ ?_ ?_ ?_
 ·rintro k _ hk ⟨rfl,hne⟩
  rw [if_pos (by omega),aX hk]
  simp only [obS]
  by_cases h:l[k].1=p
  ·rw [if_pos h]
   refine .inr ⟨_,rfl,.inr ⟨k,l[k].2,rfl,?_,?_⟩⟩
   ·rw [List.getElem?_eq_getElem hk,<- h]
   ·exact (bC hE).1 (by rw [<- h];exact List.getElem_mem hk)
  ·rw [if_neg h,aF (by omega) (by omega)]
   refine .inl ⟨_,rfl,rfl,fun j hj hjk=>?_⟩
   by_cases e:j=k
   ·subst e;exact h
   ·exact hne j hj (by omega)
 ·rintro _ ⟨rfl,hne⟩
  refine ⟨_,by rw [if_neg (by omega)],.inl ⟨rfl,?_⟩⟩
  cases hs:s p with
  | none=>rfl
  | some f =>
   obtain ⟨j,hj,e⟩:=List.getElem_of_mem ((bC hE).2 hs)
   exact absurd (by rw [e]) (hne j hj hj)
 ·rintro _ (⟨rfl,h⟩ | ⟨i,f,rfl,h⟩)
  ·exact .inl ⟨rfl,h⟩
  ·exact .inr ⟨i,f,rfl,h⟩
theorem lI (hE:Enum s l) (hl:l.length<=1000000) (p:List UInt8):∃ a:Int,m_triremeref11_Look l p=some (a,(lk s p).2)/\((lk s p).2=0->∃ (i:Nat) (f:Bool×List UInt8),a=(i:Int)/\l[i]?=some (p,f)/\s p=some f/\lk s p=(f,0)):=by
 unfold m_triremeref11_Look
 rw [rD]
 simp only [obS]
 by_cases hk:okP p=true
 ·rw [if_neg (by rw [hk];decide)]
  obtain ⟨hn24,hj24⟩:=xY p
  have hlen:(cS p).length=(nmP p).length:=by simp [cS]
  rw [show ((nmP p).length:Int)=((cS p).length:Int) by rw [hlen]]
  rw [rY (cS p) (fun a=>(ag s a).map fun e=>(Sum.inr ((-1:Int),e):Unit ⊕ (Int×Int))) (.inl ()) (fun i hi=>?_) ?_]
  ·have:(cS p).findSome? (fun a=>(ag s a).map fun e=>(Sum.inr ((-1:Int),e):Unit ⊕ (Int×Int)))=((cS p).findSome? (ag s)).map fun e=>(Sum.inr ((-1:Int),e):Unit ⊕ (Int×Int)):=by
    generalize cS p=l
    induction l with
    | nil=>rfl
    | cons x l ih =>
     rw [List.findSome?_cons,List.findSome?_cons]
     cases ag s x with
     | none=>exact ih
     | some e=>rfl
   rw [this]
   unfold lk
   rw [if_pos hk]
   cases hf:(cS p).findSome? (ag s) with
   | some e =>
    refine ⟨-1,rfl,fun h0=>?_⟩
    simp only at h0
    subst h0
    obtain ⟨a,_,ha⟩:=List.exists_of_findSome?_eq_some hf
    unfold ag at ha
    split at ha
    ·cases ha
    ·split at ha<;>cases ha
   | none =>
    simp only [Option.map_none,Option.getD_none,obS,Sum.elim_inl]
    rcases yJ hE hl p with ⟨h1,h2⟩ | ⟨i,f,h1,h2,h3⟩
    ·rw [h1,h2]
     exact ⟨-1,rfl,fun h0=>by cases h0⟩
    ·rw [h1,h3]
     simp only [obS]
     rw [if_neg (by omega)]
     exact ⟨(i:Int),rfl,fun _=>⟨i,f,rfl,h2,rfl,rfl⟩⟩
  ·rw [if_neg (by omega)]
  ·have hi2:i<(nmP p).length:=by omega
   rw [if_pos (by omega),show (0:Int)=((0:Nat):Int) from rfl,cD (Nat.zero_le _) (by omega)]
   simp only [obS,List.drop_zero]
   have ht:=jS (xs:=nmP p) i
   simp only [pth,List.length_cons] at hj24
   rw [aE3 _ (by simp only [pth,List.length_cons];omega) (by simp;omega)]
   simp only [obS]
   have hx:(cS p)[i]=pth ((nmP p).take i):=by simp [cS]
   rw [hx]
   unfold ag
   rcases yJ hE hl (pth ((nmP p).take i)) with ⟨h1,h2⟩ | ⟨j,f,h1,h2,h3⟩
   ·rw [h1,h2];rfl
   ·rw [h1,h3]
    simp only [obS]
    rw [if_neg (by omega),cM h2]
    simp only [obS]
    obtain ⟨b,d⟩:=f
    cases b with
    | true=>rw [if_neg (by simp),aF (by omega) (by omega)];rfl
    | false=>rfl
 ·have hk':okP p=false:=by simpa using hk
  rw [hk',if_pos (show (!false)=true from rfl)]
  unfold lk
  rw [if_neg hk]
  exact ⟨-1,rfl,fun h=>by cases h⟩
theorem aE6 (hE:Enum s l) (hl:l.length<=1000000) (p:List UInt8):m_triremeref11_Room l p=some (rm s p):=by
 unfold m_triremeref11_Room rm
 rw [lQ]
 simp only [obS]
 by_cases hk:okP p=true
 ·rw [if_neg (by rw [hk];decide),if_pos hk]
  by_cases hr:p=[47]
  ·rw [if_pos hr,if_pos hr]
  rw [if_neg hr,if_neg hr,vH]
  simp only [obS]
  obtain ⟨a,h1,h2⟩:=lI hE hl (par p)
  rw [h1]
  simp only [obS]
  by_cases h0:(lk s (par p)).2=0
  ·rw [if_pos h0,if_pos h0]
   obtain ⟨i,f,rfl,h3,h4,h5⟩:=h2 h0
   rw [cM h3,h5]
   simp only [obS]
   obtain ⟨b,d⟩:=f
   cases b with
   | false=>rfl
   | true =>
    rw [if_neg (by simp),if_pos rfl]
    rcases yJ hE hl p with ⟨g1,g2⟩ | ⟨j,g,g1,g2,g3⟩
    ·rw [g1,g2];rfl
    ·rw [g1,g3]
     simp only [obS]
     rw [if_pos (by omega)];rfl
  ·rw [if_neg h0,if_neg h0]
 ·have hk':okP p=false:=by simpa using hk
  rw [hk',if_pos (show (!false)=true from rfl),if_neg (by decide)]
theorem aM3 (hl:l.length<=1000000) (p:List UInt8):m_triremeref11_Below l p=some (blL l p):=by
  unfold m_triremeref11_Below
  refine cK (fun k (t:List (List UInt8)×Int)=>t.2=(k:Int)/\t.1.Pairwise (fun a b=>aT b a=false)/\t.1.Perm (((l.take k).filter (inD p)).map fun x=>bas x.1)) (fun r=>r=blL l p) l.length ⟨rfl,List.Pairwise.nil,by simp⟩ ?_ ?_ ?_
  · rintro k ⟨out,i⟩ hk ⟨h1,h2,h3⟩
    simp only at h1 h2 h3
    subst h1
    simp only
    rw [if_pos (by omega),aX hk]
    simp only [obS]
    have htk:l.take (k+1)=l.take k++[l[k]]:=List.take_succ_eq_append_getElem hk
    have hol:out.length<=1000000:=by
      rw [h3.length_eq,List.length_map]
      have:=List.length_filter_le (inD p) (l.take k)
      simp at this;omega
    by_cases hr:l[k].1=[47]
    · rw [if_pos hr]
      simp only [obS]
      rw [aF (by omega) (by omega)]
      refine .inl ⟨_,rfl,by simp only;omega,h2,?_⟩
      rw [htk,List.filter_append,List.map_append]
      have:[l[k]].filter (inD p)=[]:=by simp [inD,hr]
      rw [this];simpa using h3
    rw [if_neg hr,vH]
    simp only [obS]
    by_cases hq:par l[k].1=p
    · rw [if_pos hq,aPq]
      simp only [obS]
      rw [bI (by simp only [List.length_cons,List.length_nil];omega)]
      simp only [obS]
      have hlen:IntKind.i64.wrap (((out++[bas l[k].1]).length:Int)-1)=(out.length:Int):=by
        rw [aF (by simp only [List.length_append,List.length_cons,List.length_nil];omega) (by simp only [List.length_append,List.length_cons,List.length_nil];omega)];simp
      rw [hlen]
      have hfil:[l[k]].filter (inD p)=[l[k]]:=by simp [inD,hr,hq]
      have hsk:=fun f hf0 hf=>sink (α:=List UInt8) (fun x y=>aT x y) (f:=f) hf0 hf out.length out (bas l[k].1) [] rfl (by simp;omega)
      obtain ⟨a1,a2,e1,e2,e3,e4⟩:=hsk (fun (s1359:(List (List UInt8))×Int)=>if 0<s1359.2 then ((aD s1359.1 s1359.2).bind fun x1362 =>
(aD s1359.1 (IntKind.i64.wrap (s1359.2-1))).bind fun x1365 =>
if (aT x1362 x1365)=true then ((aD s1359.1 s1359.2).bind fun x1368 =>
(aD s1359.1 (IntKind.i64.wrap (s1359.2-1))).bind fun x1370 =>
(aD s1359.1 s1359.2).bind fun x1372 =>
(aD ((s1359.1).set (s1359.2:Int).toNat x1370) (IntKind.i64.wrap (s1359.2-1))).bind fun x1374 =>
some (.inl (((s1359.1).set (s1359.2:Int).toNat x1370).set (IntKind.i64.wrap (s1359.2-1):Int).toNat x1368,IntKind.i64.wrap (s1359.2-1))))
 else (some (.inr s1359.1)))
 else (some (.inr s1359.1))) (fun xs=>rfl) (fun a y x c hb=>by
        simp only
        rw [if_pos (by omega)]
        have g1:aD (a++y::x::c) ((a.length+1:Nat):Int)=some x:=cM (by simp)
        have g2:aD (a++y::x::c) (IntKind.i64.wrap (((a.length+1:Nat):Int)-1))=some y:=by
          rw [aF (by omega) (by omega),show ((a.length+1:Nat):Int)-1=(a.length:Int) by omega]
          exact cM (by simp)
        rw [g1,g2]
        simp only [obS]
        by_cases hlt:aT x y=true
        · rw [if_pos hlt,if_pos hlt]
          have g3:aD ((a++y::x::c).set (((a.length+1:Nat):Int)).toNat y) (IntKind.i64.wrap (((a.length+1:Nat):Int)-1))=some y:=by
            rw [aF (by omega) (by omega),show ((a.length+1:Nat):Int)-1=(a.length:Int) by omega]
            refine cM ?_
            rw [Int.toNat_natCast,List.getElem?_set_ne (by omega)]
            simp
          rw [g3]
          simp only [obS]
          rw [aF (by omega) (by omega),show ((a.length+1:Nat):Int)-1=(a.length:Int) by omega,Int.toNat_natCast,Int.toNat_natCast,vQ]
        · rw [if_neg hlt,if_neg hlt])
      rw [e2]
      simp only [obS]
      rw [aF (by omega) (by omega)]
      refine .inl ⟨_,rfl,by simp only;omega,?_,?_⟩
      · simp only [List.append_nil]
        exact aBk (lt:=fun x y=>aT x y) (fun a b c h1 h2=>aG8 a b c h1 h2) (fun a b h=>zL a b h) (by rw [<- e1];exact h2) e3 e4
      · rw [htk,List.filter_append,List.map_append,hfil]
        simp only [List.append_nil,List.map_cons,List.map_nil]
        refine List.Perm.trans ?_ (h3.append_right _)
        rw [e1]
        refine List.perm_middle.trans ?_
        rw [<- List.singleton_append]
        exact List.perm_append_comm
    · rw [if_neg hq]
      simp only [obS]
      rw [aF (by omega) (by omega)]
      refine .inl ⟨_,rfl,by simp only;omega,h2,?_⟩
      rw [htk,List.filter_append,List.map_append]
      have:[l[k]].filter (inD p)=[]:=by simp [inD,hq]
      rw [this];simpa using h3
  · rintro ⟨out,i⟩ ⟨h1,h2,h3⟩
    simp only at h1 h2 h3
    subst h1
    simp only
    rw [if_neg (by omega)]
    refine ⟨_,rfl,?_⟩
    rw [List.take_length] at h3
    unfold blL
    refine List.Perm.eq_of_pairwise (le:=(·<=·)) (fun a b _ _ h1 h2=>List.le_antisymm h1 h2) (h2.imp fun {a b} h=>?_) (tH _) (h3.trans (List.mergeSort_perm _ tle).symm)
    rw [<- List.not_lt,<- fI]
    rw [h];decide
  · rintro _ rfl;rfl
theorem wL {out:List P2} (hs:out.Pairwise (fun a b=>aT b.1 a.1=false)) (hl:out.length<=10000000) (x:P2):∃ out',m_triremeref11_put out x=some out'/\out'.Pairwise (fun a b=>aT b.1 a.1=false)/\out'.Perm (out++[x]):=by
  unfold m_triremeref11_put
  rw [bI (by simp only [List.length_nil];omega)]
  simp only [obS,List.nil_append]
  rw [bI (by simp only [List.length_cons,List.length_nil];omega)]
  simp only [obS]
  have hlen:IntKind.i64.wrap (((out++[x]).length:Int)-1)=(out.length:Int):=by
    rw [aF (by simp only [List.length_append,List.length_cons,List.length_nil];omega) (by simp only [List.length_append,List.length_cons,List.length_nil];omega)];simp
  rw [hlen]
  have hsk:=fun f hf0 hf=>sink (α:=P2) (fun x y=>aT x.1 y.1) (f:=f) hf0 hf out.length out x [] rfl (by simp;omega)
  obtain ⟨a1,a2,e1,e2,e3,e4⟩:=hsk (fun (s169:(List T_api_Pair)×Int)=>if 0<s169.2 then ((aD s169.1 s169.2).bind fun x172 =>
(aD s169.1 (IntKind.i64.wrap (s169.2-1))).bind fun x179 =>
if (aT x172.1 x179.1)=true then ((aD s169.1 s169.2).bind fun x186 =>
(aD s169.1 (IntKind.i64.wrap (s169.2-1))).bind fun x189 =>
(aD s169.1 s169.2).bind fun x191 =>
(aD ((s169.1).set (s169.2:Int).toNat x189) (IntKind.i64.wrap (s169.2-1))).bind fun x193 =>
some (.inl (((s169.1).set (s169.2:Int).toNat x189).set (IntKind.i64.wrap (s169.2-1):Int).toNat x186,IntKind.i64.wrap (s169.2-1))))
 else (some (.inr s169.1)))
 else (some (.inr s169.1))) (fun xs=>rfl) (fun a y x c hb=>by
    simp only
    rw [if_pos (by omega)]
    have g1:aD (a++y::x::c) ((a.length+1:Nat):Int)=some x:=cM (by simp)
    have g2:aD (a++y::x::c) (IntKind.i64.wrap (((a.length+1:Nat):Int)-1))=some y:=by
      rw [aF (by omega) (by omega),show ((a.length+1:Nat):Int)-1=(a.length:Int) by omega]
      exact cM (by simp)
    rw [g1,g2]
    simp only [obS]
    by_cases hlt:aT x.1 y.1=true
    · rw [if_pos hlt,if_pos hlt]
      have g3:aD ((a++y::x::c).set (((a.length+1:Nat):Int)).toNat y) (IntKind.i64.wrap (((a.length+1:Nat):Int)-1))=some y:=by
        rw [aF (by omega) (by omega),show ((a.length+1:Nat):Int)-1=(a.length:Int) by omega]
        refine cM ?_
        rw [Int.toNat_natCast,List.getElem?_set_ne (by omega)]
        simp
      rw [g3]
      simp only [obS]
      rw [aF (by omega) (by omega),show ((a.length+1:Nat):Int)-1=(a.length:Int) by omega,Int.toNat_natCast,Int.toNat_natCast,vQ]
    · rw [if_neg hlt,if_neg hlt])
  rw [e2]
  refine ⟨_,rfl,?_,?_⟩
  · simp only [List.append_nil]
    exact aBk (lt:=fun (x y:P2)=>aT x.1 y.1) (fun a b c h1 h2=>aG8 a.1 b.1 c.1 h1 h2) (fun a b h=>zL a.1 b.1 h) (by rw [<- e1];exact hs) e3 e4
  · simp only [List.append_nil]
    rw [e1]
    refine List.perm_middle.trans ?_
    rw [<- List.singleton_append]
    exact List.perm_append_comm
end
theorem aCo (p:List UInt8):∀ (a b:List (List UInt8)) (i:Nat),chk p i (a++b)=chk p i a++chk p (i+a.length) b
 | [],b,i=>by simp [chk]
 | c::a,b,i=>by
  simp only [List.cons_append,chk,aCo p a b (i+1),List.length_cons]
  rw [show i+1+a.length=i+(a.length+1) by omega]
theorem aIk (d:List UInt8) (c:Nat) (h:c<eK 64 d.length):(dG 64 d)[c]?=some ((d.drop (c*64)).take 64):=by
 unfold dG cQ
 rw [List.map_map,List.getElem?_map,List.getElem?_range h];rfl
theorem aMf {l:List Ent} (hn:(l.map (·.1)).Nodup) (hl:l.length<=1000000) (hb:∀ x∈l,x.1.length<=100000/\x.2.2.length<=192):m_triremeref11_Pairs l=some (cH l):=by
 unfold m_triremeref11_Pairs
 refine cK (fun k (t:List P2×Int)=>t.2=(k:Int)/\t.1.Pairwise (fun a b=>aT b.1 a.1=false)/\t.1.Perm ((l.take k).flatMap bM)) (fun r=>r=cH l) l.length ⟨rfl,List.Pairwise.nil,by simp⟩ ?_ ?_ ?_
 ·rintro k ⟨out,i⟩ hk ⟨h1,h2,h3⟩
  simp only at h1 h2 h3
  subst h1
  simp only
  rw [if_pos (by omega),aX hk]
  simp only [obS]
  have htk:l.take (k+1)=l.take k++[l[k]]:=List.take_succ_eq_append_getElem hk
  obtain ⟨hp1,hd1⟩:=hb _ (List.getElem_mem hk)
  have hol:out.length<=4000000:=by
   rw [h3.length_eq]
   have:=xU (l:=l.take k) fun x hx=>(hb x (List.mem_of_mem_take hx)).2
   rw [List.length_take] at this;omega
  have hfl:(l.take (k+1)).flatMap bM=(l.take k).flatMap bM++bM l[k]:=by rw [htk,List.flatMap_append];simp
  generalize hx:l[k]=x at hp1 hd1 hfl ⊢
  obtain ⟨p,b,d⟩:=x
  simp only at hp1 hd1 ⊢
  refine .inl ?_
  rw [hfl]
  cases b with
  | true =>
   rw [if_pos rfl,cR (by simp;omega),show u8O 100=some 100 from rfl]
   simp only [obS]
   obtain ⟨o1,e1,e2,e3⟩:=wL h2 (by omega) ([110]++p,[100])
   rw [e1]
   simp only [obS]
   rw [aF (by omega) (by omega)]
   refine ⟨_,rfl,by simp only;omega,e2,e3.trans ?_⟩
   exact h3.append (List.Perm.of_eq (by simp [bM]))
  | false =>
   rw [if_neg (by decide),cR (by simp;omega),show (256:Int)=((256:Nat):Int) from rfl,aOy _ _ (by omega) (by omega),aH1 _ _ (by omega),show u8O 102=some 102 from rfl]
   simp only [obS]
   have w1:IntKind.u8.wrap ((d.length / 256:Nat):Int)=((d.length / 256 ^ 1 % 256:Nat):Int):=by rw [wrap_u8'];omega
   have w2:IntKind.u8.wrap ((d.length % 256:Nat):Int)=((d.length / 256 ^ 0 % 256:Nat):Int):=by rw [wrap_u8',Nat.pow_zero,Nat.div_one];omega
   rw [w1,w2,lZ (by omega) (by omega),lZ (by omega) (by omega)]
   simp only [obS]
   obtain ⟨o1,e1,e2,e3⟩:=wL h2 (by omega) ([110]++p,[102,u8 ((d.length / 256 ^ 1 % 256:Nat):Int),u8 ((d.length / 256 ^ 0 % 256:Nat):Int)])
   rw [e1]
   simp only [obS]
   have hcl:=uX hd1
   have hcn:=jR d 64
   have e3l:=e3.length_eq
   simp only [List.length_append,List.length_cons,List.length_nil] at e3l
   generalize hL:aH _ (o1,(0:Int))=L
   have key:∃ r,L=some r/\(r.Pairwise (fun a b=>aT b.1 a.1=false)/\r.Perm (o1++chk p 0 (dG 64 d))):=by
    rw [<- hL]
    refine mW (fun c (t:List P2×Int)=>t.2=(c:Int)/\t.1.Pairwise (fun a b=>aT b.1 a.1=false)/\t.1.Perm (o1++chk p 0 ((dG 64 d).take c))) (fun (r:List P2)=>r.Pairwise (fun a b=>aT b.1 a.1=false)/\r.Perm (o1++chk p 0 (dG 64 d))) (eK 64 d.length) ?_ ?_ (eK 64 d.length) 0 (o1,(0:Int)) (by omega) (show ((0:Int)=((0:Nat):Int))/\o1.Pairwise (fun a b=>aT b.1 a.1=false)/\o1.Perm (o1++chk p 0 ((dG 64 d).take 0)) from ⟨rfl,e2,by simp [chk]⟩)
    ·rintro c ⟨o2,i⟩ hc ⟨g1,g2,g3⟩
     simp only at g1 g2 g3
     subst g1
     simp only
     have hclt:=(kR (n:=64) (len:=d.length) (k:=c) (by omega)).1 hc
     have hgl:=g3.length_eq
     simp only [List.length_append,rI,List.length_take] at hgl
     rw [aF (n:=64*(c:Int)) (by omega) (by omega),if_pos (by omega),aF (n:=64*(c:Int)+64) (by omega) (by omega)]
     obtain ⟨e,he,hee⟩:∃ e:Nat,(if (d.length:Int)<64*(c:Int)+64 then some (d.length:Int) else some (64*(c:Int)+64))=some (e:Int)/\e=min d.length (64*c+64):=by
      by_cases hh:(d.length:Int)<64*(c:Int)+64
      ·exact ⟨d.length,by rw [if_pos hh],by omega⟩
      ·exact ⟨64*c+64,by rw [if_neg hh];simp,by omega⟩
     rw [he,cR (by simp;omega)]
     simp only [obS]
     rw [show 64*(c:Int)=((64*c:Nat):Int) by omega,cD (by omega) (by omega)]
     simp only [obS]
     rw [show u8O 0=some 0 from rfl,wrap_u8',show ((c:Int) % 256)=(c:Int) by omega,lZ (by omega) (by omega)]
     simp only [obS]
     rw [cR (by simp;omega)]
     simp only [obS]
     obtain ⟨o3,f1,f2,f3⟩:=wL g2 (by omega) ([99]++p++[0,u8 (c:Int)],(d.take e).drop (64*c))
     rw [f1]
     simp only [obS]
     rw [aF (by omega) (by omega)]
     refine .inl ⟨_,rfl,by simp only;omega,f2,f3.trans ?_⟩
     have hck:=aIk d c hc
     have hcl2:c<(dG 64 d).length:=by omega
     rw [List.take_succ_eq_append_getElem hcl2,aCo,<- List.append_assoc]
     refine g3.append (List.Perm.of_eq ?_)
     rw [List.getElem?_eq_getElem hcl2] at hck
     rw [Option.some.inj hck]
     have hslice:(d.take e).drop (64*c)=(d.drop (c*64)).take 64:=by
      rw [List.drop_take,Nat.mul_comm c 64]
      by_cases hh:64*c+64<=d.length
      ·rw [show e-64*c=64 by omega]
      ·rw [List.take_of_length_le (by simp;omega),List.take_of_length_le (by simp;omega)]
     rw [hslice]
     simp only [chk,List.length_take]
     rw [show 0+min c (dG 64 d).length=c by omega]
     simp
    ·rintro ⟨o2,i⟩ ⟨g1,g2,g3⟩
     simp only at g1 g2 g3
     subst g1
     simp only
     have hclt:=(not_congr (kR (n:=64) (len:=d.length) (k:=eK 64 d.length) (by omega))).1 (Nat.lt_irrefl _)
     rw [aF (n:=64*((eK 64 d.length:Nat):Int)) (by omega) (by omega),if_neg (by omega)]
     refine ⟨_,rfl,g2,?_⟩
     rwa [List.take_of_length_le (by omega)] at g3
   obtain ⟨r,k1,k2,k3⟩:=key
   rw [k1]
   simp only [obS]
   rw [aF (by omega) (by omega)]
   refine ⟨_,rfl,by simp only;omega,k2,k3.trans ?_⟩
   refine ((e3.append_right _).trans ?_)
   rw [List.append_assoc]
   exact h3.append (List.Perm.of_eq (by simp [bM,gU]))
 ·rintro ⟨out,i⟩ ⟨h1,h2,h3⟩
  simp only at h1 h2 h3
  subst h1
  simp only
  rw [if_neg (by omega)]
  refine ⟨_,rfl,?_⟩
  rw [List.take_length] at h3
  refine aHl (sB hn fun x hx=>(hb x hx).2) h3 (h2.imp fun {a b} h hlt=>?_)
  unfold ltK at hlt
  rw [(jD _ _).2 hlt] at h;cases h
 ·rintro _ rfl;rfl
theorem aCd (d:List UInt8) (k:Nat):szd d (k+1)=szd d k++[d.getD k 0]:=by
 unfold szd
 by_cases h:k<d.length
 ·rw [show k+1-d.length=0 by omega,show k-d.length=0 by omega,List.take_succ_eq_append_getElem h,List.getD_eq_getElem?_getD,List.getElem?_eq_getElem h]
  simp
 ·rw [List.take_of_length_le (by omega),List.take_of_length_le (by omega),show k+1-d.length=(k-d.length)+1 by omega,List.replicate_succ',List.getD_eq_getElem?_getD,List.getElem?_eq_none (by omega)]
  simp
theorem aLl (d:List UInt8):szd d 0=[]:=by simp [szd]
theorem aFy (d:List UInt8) (n:Nat) (h:n<=1000000):m_triremeref11_resized d (n:Int)=some (szd d n):=by
 unfold m_triremeref11_resized
 refine cK (fun k (t:List UInt8×Int)=>t=(szd d k,(k:Int))) (fun r=>r=szd d n) n (by simp [aLl]) ?_ ?_ ?_
 ·rintro k _ hk rfl
  simp only
  rw [if_pos (by omega)]
  have hsl:=eD d k
  by_cases h1:k<d.length
  ·rw [if_pos (by omega),aX h1]
   simp only [obS]
   rw [xZ]
   simp only [obS]
   rw [cR (by simp;omega)]
   simp only [obS]
   rw [aF (by omega) (by omega)]
   refine .inl ⟨_,rfl,?_⟩
   rw [aCd,List.getD_eq_getElem?_getD,List.getElem?_eq_getElem h1];rfl
  ·rw [if_neg (by omega),show u8O 0=some 0 from rfl]
   simp only [obS]
   rw [cR (by simp;omega)]
   simp only [obS]
   rw [aF (by omega) (by omega)]
   refine .inl ⟨_,rfl,?_⟩
   rw [aCd,List.getD_eq_getElem?_getD,List.getElem?_eq_none (by omega)];rfl
 ·rintro _ rfl
  simp only
  rw [if_neg (by omega)]
  exact ⟨_,rfl,rfl⟩
 ·rintro _ rfl;rfl
section
variable {s:FS} {l:List Ent}
theorem vD (hE:Enum s l) {i:Nat} {p:List UInt8} {f:Bool×List UInt8} (hi:l[i]?=some (p,f)) (v:Bool×List UInt8):Enum (aI p v s) (l.set i (p,v)):=by
 have hil:=(List.getElem?_eq_some_iff.1 hi).1
 have hk:(l.set i (p,v)).map (·.1)=l.map (·.1):=by
  rw [List.map_set]
  refine set_self ?_
  rw [List.getElem?_map,hi];rfl
 have hn:((l.set i (p,v)).map (·.1)).Nodup:=by rw [hk];exact hE.1
 refine ⟨hn,fun q=>?_⟩
 by_cases e:q=p
 ·subst e
  rw [mQ]
  exact (cO hn (List.mem_of_getElem? (i:=i) (by rw [List.getElem?_set_self hil]))).symm
 ·rw [eC e]
  cases hq:s q with
  | some g =>
   symm
   refine cO hn ?_
   obtain ⟨j,hj,e2⟩:=List.getElem_of_mem ((bC hE).2 hq)
   refine List.mem_of_getElem? (i:=j) ?_
   rw [List.getElem?_set_ne (fun e3=>by
    subst e3
    rw [List.getElem?_eq_getElem hj,e2] at hi
    cases hi;exact e rfl),List.getElem?_eq_getElem hj,e2]
  | none =>
   symm
   refine gN fun hm=>?_
   rw [hk] at hm
   have:=(yH hE q).1 hm
   rw [hq] at this;cases this
theorem aI3 (d:List UInt8) (off n:Nat) (k:Nat) (hk:k<=d.length):((d.take k).drop off).take (min n 64)++(if k<d.length/\off<=k/\k-off<min n 64 then [d.getD k 0] else [])=((d.take (k+1)).drop off).take (min n 64):=by
 by_cases h1:k<d.length
 ·rw [List.take_succ_eq_append_getElem h1,List.getD_eq_getElem?_getD,List.getElem?_eq_getElem h1]
  have hl:(d.take k).length=k:=by simp;omega
  generalize d.take k=t at hl ⊢
  by_cases h2:off<=k
  ·rw [List.drop_append_of_le_length (by omega)]
   have hl2:(t.drop off).length=k-off:=by simp;omega
   generalize t.drop off=u at hl2 ⊢
   by_cases h3:k-off<min n 64
   ·rw [if_pos ⟨h1,h2,h3⟩,List.take_of_length_le (l:=u) (by omega),List.take_of_length_le (l:=u++[d[k]]) (by simp;omega)];rfl
   ·rw [if_neg (by omega),List.take_append_of_le_length (by omega)];simp
  ·have e1:t.drop off=[]:=List.drop_eq_nil_of_le (by omega)
   have e2:(t++[d[k]]).drop off=[]:=List.drop_eq_nil_of_le (by simp;omega)
   rw [if_neg (by omega),e1,e2];simp
 ·rw [if_neg (by omega),List.take_of_length_le (show d.length<=k by omega),List.take_of_length_le (show d.length<=k+1 by omega)];simp
def wrt (d:List UInt8) (off:Nat) (D:List UInt8) (k:Nat):List UInt8:=if k=0 then d else putAt (szd d (max d.length (off+k))) off (D.take k)
theorem tE (d:List UInt8) (off:Nat) (D:List UInt8) (k:Nat) (hk:k<=D.length):(wrt d off D k).length=if k=0 then d.length else max d.length (off+k):=by
 unfold wrt
 split
 ·rfl
 ·rw [xV _ _ _ (by rw [eD];simp;omega),eD]
theorem aN3 {xs ys:List UInt8} (h:xs.length=ys.length) (hg:∀ i,i<xs.length->xs.getD i 0=ys.getD i 0):xs=ys:=by
 refine List.ext_getElem h fun i h1 h2=>?_
 have:=hg i h1
 simpa [List.getD_eq_getElem?_getD,List.getElem?_eq_getElem h1,List.getElem?_eq_getElem h2] using this
theorem uW (d:List UInt8) (off:Nat) (D:List UInt8) (k:Nat) (hk:k<=D.length) (i:Nat) (hi:i<(wrt d off D k).length):(wrt d off D k).getD i 0=if off<=i/\i<off+k then D.getD (i-off) 0 else d.getD i 0:=by
 have hl:=tE d off D k hk
 unfold wrt at hi ⊢
 by_cases h0:k=0
 ·rw [if_pos h0,if_neg (by omega)]
 ·rw [if_neg h0] at hi ⊢
  rw [xV _ _ _ (by rw [eD];simp;omega),eD] at hi
  rw [aMe _ _ _ (by rw [eD];simp;omega)]
  have e:(D.take k).length=k:=by simp;omega
  rw [e]
  by_cases h1:off<=i/\i<off+k
  ·rw [if_pos h1,if_pos h1]
   simp only [List.getD_eq_getElem?_getD]
   rw [List.getElem?_take_of_lt (by omega)]
  ·rw [if_neg h1,if_neg h1,aB9 _ _ _ hi]
theorem aPh (d:List UInt8) (off:Nat) (D:List UInt8) (k:Nat) (hk:k<D.length):((if (wrt d off D k).length<=off+k then szd (wrt d off D k) (off+k+1) else wrt d off D k).take (off+k))++[D.getD k 0]++((if (wrt d off D k).length<=off+k then szd (wrt d off D k) (off+k+1) else wrt d off D k).drop (off+k+1))=wrt d off D (k+1):=by
 have hl:=tE d off D k (by omega)
 have hl1:=tE d off D (k+1) (by omega)
 rw [if_neg (by omega)] at hl1
 generalize hx:(if (wrt d off D k).length<=off+k then szd (wrt d off D k) (off+k+1) else wrt d off D k)=x
 have hxl:x.length=max (max d.length (off+k)) (off+k+1)/\∀ i,i<x.length->i≠off+k->x.getD i 0=if off<=i/\i<off+k then D.getD (i-off) 0 else d.getD i 0:=by
  rw [<- hx]
  by_cases h1:(wrt d off D k).length<=off+k
  ·rw [if_pos h1,eD]
   refine ⟨by split at hl<;>omega,fun i hi hne=>?_⟩
   rw [aB9 _ _ _ hi]
   by_cases h2:i<(wrt d off D k).length
   ·exact uW d off D k (by omega) i h2
   ·rw [List.getD_eq_getElem?_getD,List.getElem?_eq_none (by omega)]
    have h3:¬ (off<=i/\i<off+k):=fun h=>by
     split at hl
     ·omega
     ·omega
    rw [if_neg h3,List.getD_eq_getElem?_getD,List.getElem?_eq_none (by split at hl<;>omega)]
  ·rw [if_neg h1]
   refine ⟨by split at hl<;>omega,fun i hi hne=>uW d off D k (by omega) i hi⟩
 obtain ⟨hx1,hx2⟩:=hxl
 refine aN3 (by simp;omega) fun i hi=>?_
 simp only [List.length_append,List.length_take,List.length_cons,List.length_nil,List.length_drop] at hi
 rw [uW d off D (k+1) (by omega) i (by omega)]
 by_cases h1:i<off+k
 ·have e:((x.take (off+k))++[D.getD k 0]++x.drop (off+k+1)).getD i 0=x.getD i 0:=by
   simp only [List.getD_eq_getElem?_getD]
   rw [List.append_assoc,List.getElem?_append_left (by simp;omega),List.getElem?_take_of_lt h1]
  rw [e,hx2 i (by omega) (by omega)]
  by_cases h2:off<=i
  ·rw [if_pos ⟨h2,h1⟩,if_pos ⟨h2,by omega⟩]
  ·rw [if_neg (by omega),if_neg (by omega)]
 ·by_cases h2:i=off+k
  ·subst h2
   have e:((x.take (off+k))++[D.getD k 0]++x.drop (off+k+1)).getD (off+k) 0=D.getD k 0:=by
    simp only [List.getD_eq_getElem?_getD]
    rw [List.getElem?_append_left (by simp;omega),List.getElem?_append_right (by simp;omega)]
    simp [show off+k-min (off+k) x.length=0 by omega]
   rw [e,if_pos ⟨by omega,by omega⟩,show off+k-off=k by omega]
  ·have e:((x.take (off+k))++[D.getD k 0]++x.drop (off+k+1)).getD i 0=x.getD i 0:=by
    simp only [List.getD_eq_getElem?_getD]
    rw [List.getElem?_append_right (by simp;omega),List.getElem?_drop]
    congr 2
    simp;omega
   rw [e,hx2 i (by omega) h2,if_neg (by omega),if_neg (by omega)]
end
theorem aFo {s:FS} {o:Opr} (h:o.1=3\/o.1=4):doP s o=wr s o:=by
 unfold doP;rw [if_neg (by omega),if_pos h]
theorem doP5 {s:FS} {o:Opr} (h:o.1=5):doP s o=(rdA s o,s):=by
 unfold doP;rw [if_neg (by omega),if_neg (by omega),if_pos h]
theorem vO {s:FS} {p:List UInt8} (h:(lk s p).2≠0):rg s p=lk s p:=by unfold rg;rw [if_neg h]
theorem vR {s:FS} {p d:List UInt8} (h:lk s p=((true,d),0)):rg s p=(zf,94):=by unfold rg;rw [h];rfl
theorem vA {s:FS} {p d:List UInt8} (h:lk s p=((false,d),0)):rg s p=((false,d),0):=by unfold rg;rw [h];rfl
theorem aEl {s:FS} {p:List UInt8} {f:Bool×List UInt8} (h:s p=some f):aI p f s=s:=by
 funext q
 by_cases e:q=p
 ·rw [e,mQ,h]
 ·rw [eC e]
section
variable {s:FS} {l:List Ent}
theorem aKk (hs:Snd s) (hE:Enum s l) (hl:l.length<=1000000) (o:Opr) (ho:o.1=5):∃ l',rChange l o=some (l',rdA s o)/\Enum s l'/\l'.length=l.length:=by
 obtain ⟨kd,p,t,off,n,D⟩:=o
 simp only at ho
 subst ho
 unfold rChange rdA
 simp only
 obtain ⟨a,g1,g2⟩:=lI hE hl p
 rw [g1]
 simp only [obS]
 by_cases h0:(lk s p).2=0
 ·obtain ⟨i,f,rfl,h3,h4,h5⟩:=g2 h0
  rw [if_pos h0,cM h3]
  simp only [obS]
  obtain ⟨b,d⟩:=f
  cases b with
  | true =>
   rw [if_pos rfl,vR h5]
   exact ⟨l,rfl,hE,rfl⟩
  | false =>
   rw [if_neg (show ¬ ((false:Bool)=true) by decide),vA h5]
   have hd:=hs.len _ _ h4
   simp only at hd
   simp only [show ((5:Int)=4)=False from by simp,show ((5:Int)=3)=False from by simp,if_false,if_true]
   by_cases h1:off<0
   ·rw [if_pos h1,if_pos (.inl h1)]
    exact ⟨l,rfl,hE,rfl⟩
   rw [if_neg h1]
   simp only [obS]
   by_cases h2:n<0
   ·rw [if_pos (decide_eq_true h2),if_pos (.inr h2)]
    exact ⟨l,rfl,hE,rfl⟩
   rw [if_neg (by simpa using h2),if_neg (by omega)]
   generalize hL:aH _ (([]:List UInt8),(0:Int))=L
   have key:L=some ((d.drop off.toNat).take (min n.toNat 64)):=by
    rw [<- hL]
    refine tT (fun k (t:List UInt8×Int)=>t=(((d.take k).drop off.toNat).take (min n.toNat 64),(k:Int))) _ d.length (by simp) ?_ ?_
    ·rintro k _ hk rfl
     simp only
     rw [if_pos (by omega)]
     refine .inl ⟨_,?_,rfl⟩
     rw [<- aI3 d off.toNat n.toNat k (by omega)]
     have hl:(((d.take k).drop off.toNat).take (min n.toNat 64)).length<=64:=by simp;omega
     have hb:(if off<=(k:Int) then (if IntKind.i64.wrap ((k:Int)-off)<n then some (decide (IntKind.i64.wrap ((k:Int)-off)<64)) else some false) else some false)=some (decide (k<d.length/\off.toNat<=k/\k-off.toNat<min n.toNat 64)):=by
      by_cases e1:off<=(k:Int)
      ·rw [if_pos e1,aF (n:=(k:Int)-off) (by omega) (by omega)]
       by_cases e2:(k:Int)-off<n
       ·rw [if_pos e2]
        congr 1
        exact decide_eq_decide.2 (by omega)
       ·rw [if_neg e2,decide_eq_false (by omega)]
      ·rw [if_neg e1,decide_eq_false (by omega)]
     rw [hb]
     simp only [obS]
     by_cases e:k<d.length/\off.toNat<=k/\k-off.toNat<min n.toNat 64
     ·rw [decide_eq_true e,if_pos rfl,if_pos e,iT 0 rfl hk]
      simp only [obS]
      rw [xZ]
      simp only [obS]
      rw [cR (by simp only [List.length_cons,List.length_nil];omega)]
      simp only [obS]
      rw [aF (by omega) (by omega)];rfl
     ·rw [decide_eq_false e,if_neg (by decide),if_neg e,List.append_nil]
      simp only [obS]
      rw [aF (by omega) (by omega)];rfl
    ·rintro _ rfl
     simp only
     rw [if_neg (by omega),List.take_length]
     exact ⟨_,rfl,rfl⟩
   rw [key]
   simp only [obS,Sum.elim_inl]
   rw [bI (by simp only [List.length_nil];omega)]
   simp only [obS,List.nil_append]
   rw [cM h3]
   refine ⟨_,rfl,?_,by simp⟩
   have:=vD hE h3 (false,d)
   rw [aEl h4] at this
   exact this
 ·rw [if_neg h0,vO h0,if_neg h0]
  exact ⟨l,rfl,hE,rfl⟩
theorem aK8 (hs:Snd s) (hE:Enum s l) (hl:l.length<=1000000) (o:Opr) (ho:o.1=4):∃ l',rChange l o=some (l',(wr s o).1)/\Enum (if (wr s o).1.1=0 then (wr s o).2 else s) l'/\l'.length=l.length:=by
 obtain ⟨kd,p,t,off,n,D⟩:=o
 simp only at ho
 subst ho
 unfold rChange wr
 simp only
 obtain ⟨a,g1,g2⟩:=lI hE hl p
 rw [g1]
 simp only [obS]
 by_cases h0:(lk s p).2=0
 ·obtain ⟨i,f,rfl,h3,h4,h5⟩:=g2 h0
  rw [if_pos h0,cM h3]
  simp only [obS]
  obtain ⟨b,d⟩:=f
  cases b with
  | true =>
   rw [if_pos rfl,vR h5]
   exact ⟨l,rfl,hE,rfl⟩
  | false =>
   rw [if_neg (show ¬ ((false:Bool)=true) by decide),vA h5]
   have hd:=hs.len _ _ h4
   simp only at hd
   simp only [show ((4:Int)=3)=False from by simp,show ((4:Int)=5)=False from by simp,if_false,if_true,false_and,or_false]
   simp only [obS]
   by_cases h2:n<0
   ·rw [if_pos (decide_eq_true h2),if_pos h2]
    exact ⟨l,rfl,hE,rfl⟩
   rw [if_neg (by simpa using h2),if_neg h2]
   by_cases h1:192<n
   ·rw [if_pos h1,if_pos h1]
    exact ⟨l,rfl,hE,rfl⟩
   rw [if_neg h1,if_neg h1]
   obtain ⟨m,rfl⟩:∃ m:Nat,n=m:=⟨n.toNat,by omega⟩
   rw [aFy _ _ (by omega)]
   simp only [obS,Sum.elim_inl]
   rw [bI (by simp only [List.length_nil];omega)]
   simp only [obS,List.nil_append]
   rw [cM h3]
   exact ⟨_,rfl,vD hE h3 _,by simp⟩
 ·rw [if_neg h0,vO h0,if_neg h0]
  exact ⟨l,rfl,by rw [if_neg h0];exact hE,rfl⟩
theorem aQf (hs:Snd s) (hE:Enum s l) (hl:l.length<=1000000) (o:Opr) (ho:o.1=3) (hD:o.2.2.2.2.2.length<=80000):∃ l',rChange l o=some (l',(wr s o).1)/\Enum (if (wr s o).1.1=0 then (wr s o).2 else s) l'/\l'.length=l.length:=by
 obtain ⟨kd,p,t,off,n,D⟩:=o
 simp only at ho hD
 subst ho
 unfold rChange wr
 simp only
 obtain ⟨a,g1,g2⟩:=lI hE hl p
 rw [g1]
 simp only [obS]
 by_cases h0:(lk s p).2=0
 ·obtain ⟨i,f,rfl,h3,h4,h5⟩:=g2 h0
  rw [if_pos h0,cM h3]
  simp only [obS]
  obtain ⟨b,d⟩:=f
  cases b with
  | true =>
   rw [if_pos rfl,vR h5]
   exact ⟨l,rfl,hE,rfl⟩
  | false =>
   rw [if_neg (show ¬ ((false:Bool)=true) by decide),vA h5]
   have hd:=hs.len _ _ h4
   simp only at hd
   simp only [show ((3:Int)=4)=False from by simp,show ((3:Int)=5)=False from by simp,if_false,if_true,true_and]
   by_cases h1:off<0
   ·rw [if_pos h1,if_pos h1]
    exact ⟨l,rfl,hE,rfl⟩
   rw [if_neg h1,if_neg h1]
   simp only [obS]
   rw [if_neg (by decide)]
   by_cases h2:192<off
   ·rw [if_pos h2,if_pos (.inl h2)]
    exact ⟨l,rfl,hE,rfl⟩
   rw [if_neg h2,aF (by omega) (by omega)]
   by_cases h6:192<off+(D.length:Int)
   ·rw [if_pos h6,if_pos (.inr h6)]
    exact ⟨l,rfl,hE,rfl⟩
   rw [if_neg h6,if_neg (show ¬ (192<off\/192<off+(D.length:Int)) from fun h=>h.elim h2 h6)]
   obtain ⟨m,rfl⟩:∃ m:Nat,off=m:=⟨off.toNat,by omega⟩
   generalize hL:aH _ (d,(0:Int))=L
   have key:L=some (wrt d m D D.length):=by
    rw [<- hL]
    refine tT (fun k (t:List UInt8×Int)=>t=(wrt d m D k,(k:Int))) _ D.length (by simp [wrt]) ?_ ?_
    ·rintro k _ hk rfl
     simp only
     have hl:=tE d m D k (by omega)
     have hl2:(wrt d m D k).length<=3000:=by split at hl<;>omega
     rw [if_pos (by omega),aF (n:=(m:Int)+(k:Int)) (by omega) (by omega),aF (n:=(m:Int)+(k:Int)+1) (by omega) (by omega)]
     refine .inl ⟨_,?_,rfl⟩
     rw [<- aPh d m D k hk]
     have hres:(if ((wrt d m D k).length:Int)<=(m:Int)+(k:Int) then ((m_triremeref11_resized (wrt d m D k) ((m:Int)+(k:Int)+1)).bind fun x8690=>some x8690) else (some (wrt d m D k)))=some (if (wrt d m D k).length<=m+k then szd (wrt d m D k) (m+k+1) else wrt d m D k):=by
      by_cases h1:(wrt d m D k).length<=m+k
      ·rw [if_pos (by omega),if_pos h1,show (m:Int)+(k:Int)+1=((m+k+1:Nat):Int) by omega,aFy _ _ (by omega)];rfl
      ·rw [if_neg (by omega),if_neg h1]
     rw [hres]
     simp only [obS]
     generalize hx:(if (wrt d m D k).length<=m+k then szd (wrt d m D k) (m+k+1) else wrt d m D k)=x
     have hxl:m+k+1<=x.length/\x.length<=4000:=by
      rw [<- hx]
      split
      ·rw [eD];omega
      ·omega
     rw [show (0:Int)=((0:Nat):Int) from rfl,show (m:Int)+(k:Int)=((m+k:Nat):Int) by omega,cD (Nat.zero_le _) (by omega),iT 0 rfl hk,show ((m+k:Nat):Int)+1=((m+k+1:Nat):Int) by omega,cD (by omega) (Nat.le_refl _)]
     simp only [obS,List.drop_zero,List.take_length]
     rw [cR (by simp;omega)]
     simp only [obS,List.nil_append]
     rw [xZ]
     simp only [obS]
     rw [cR (by simp;omega)]
     simp only [obS]
     rw [cR (by simp;omega)]
     simp only [obS]
     rw [aF (by omega) (by omega)];rfl
    ·rintro _ rfl
     simp only
     rw [if_neg (by omega)]
     exact ⟨_,rfl,rfl⟩
   rw [key]
   simp only [obS,Sum.elim_inl]
   rw [bI (by simp only [List.length_nil];omega)]
   simp only [obS,List.nil_append]
   rw [cM h3]
   refine ⟨_,rfl,?_,by simp⟩
   have hput:=vD hE h3 (false,wrt d m D D.length)
   by_cases hz:0<D.length
   ·have hw:wrt d m D D.length=putAt (szd d (max d.length (m+D.length))) m D:=by
     unfold wrt
     rw [if_neg (show ¬ D.length=0 by omega),List.take_length]
    rw [hw] at hput ⊢
    rw [if_pos hz]
    exact hput
   ·have hw:wrt d m D D.length=d:=by
     unfold wrt
     rw [if_pos (show D.length=0 by omega)]
    rw [hw,aEl h4] at hput
    rw [hw,if_neg hz]
    exact hput
 ·rw [if_neg h0,vO h0,if_neg h0]
  exact ⟨l,rfl,by rw [if_neg h0];exact hE,rfl⟩
theorem aL6 (hs:Snd s) (hE:Enum s l) (hl:l.length<=1000000) (o:Opr):∃ l',m_triremeref11_rename l o=some (l',((rn s o.2.1 o.2.2.1).1,0,[],[]))/\Enum (if (rn s o.2.1 o.2.2.1).1=0 then (rn s o.2.1 o.2.2.1).2 else s) l'/\l'.length=l.length:=by
 obtain ⟨kd,F,T,off,n,D⟩:=o
 unfold m_triremeref11_rename rn
 simp only
 rw [lQ,lQ]
 simp only [obS]
 by_cases h1:okP F=true
 case neg =>
  rw [if_neg h1,if_pos (by simpa using h1)]
  exact ⟨l,rfl,hE,rfl⟩
 rw [if_neg (by rw [h1];decide),if_pos h1]
 by_cases h2:okP T=true
 case neg =>
  rw [if_neg h2,if_pos (by simpa using h2)]
  exact ⟨l,rfl,hE,rfl⟩
 rw [if_neg (by rw [h2];decide),if_pos h2]
 obtain ⟨a,g1,_⟩:=lI hE hl F
 rw [g1]
 simp only [obS]
 by_cases h3:(lk s F).2=0
 case neg =>
  rw [if_neg h3,if_neg h3]
  exact ⟨l,rfl,by rw [if_neg h3];exact hE,rfl⟩
 rw [if_pos h3,if_pos h3]
 by_cases h4:F=[47]
 ·rw [if_pos h4,if_pos h4]
  exact ⟨l,rfl,hE,rfl⟩
 rw [if_neg h4,if_neg h4,aCe]
 simp only [obS]
 by_cases h5:aK F T=true
 ·rw [if_pos h5,if_pos h5]
  exact ⟨l,rfl,hE,rfl⟩
 rw [if_neg h5,if_neg h5,aE6 hE hl]
 simp only [obS]
 by_cases h6:rm s T=0
 case neg =>
  rw [if_neg h6,if_neg h6]
  exact ⟨l,rfl,by rw [if_neg h6];exact hE,rfl⟩
 rw [if_pos h6,if_pos h6]
 have hR:=xF hs h1 h3 h4 (by simpa using h5) h6
 have hF24:=(bJ h1).2.2
 have hT24:=(bJ h2).2.2
 have hkl:∀ x∈l,x.1.length<=24:=fun x hx=>(bJ (hs.ok _ _ ((bC hE).1 hx))).2.2
 generalize hL:aH _ (([]:List T_triremeref11_Node),(0:Int))=L
 have key:∃ r,L=some r/\((r=.inl (l.map fun x=>(ren F T x.1,x.2))/\¬ badR s F T)\/(r=.inr (l,(90,0,[],[]))/\badR s F T)):=by
  rw [<- hL]
  refine mW (fun k (t:List T_triremeref11_Node×Int)=>t=((l.take k).map fun x=>(ren F T x.1,x.2),(k:Int))/\∀ x∈l.take k,aK F x.1=true->(mvP F T x.1).length<=24) (fun (r:List T_triremeref11_Node ⊕ List T_triremeref11_Node×T_api_Answer)=>(r=.inl (l.map fun x=>(ren F T x.1,x.2))/\¬ badR s F T)\/(r=.inr (l,(90,0,[],[]))/\badR s F T)) l.length ?_ ?_ l.length 0 (([]:List T_triremeref11_Node),(0:Int)) (by omega) ⟨by simp,by simp⟩
  ·rintro k _ hk ⟨rfl,hI⟩
   simp only
   rw [if_pos (by omega),aX hk]
   simp only [obS]
   rw [aCe]
   simp only [obS]
   have htk:l.take (k+1)=l.take k++[l[k]]:=List.take_succ_eq_append_getElem hk
   have hx24:=hkl _ (List.getElem_mem hk)
   have hmem:=(bC hE).1 (show (l[k].1,l[k].2)∈l from List.getElem_mem hk)
   by_cases hw:aK F l[k].1=true
   ·have hFl:F.length<=l[k].1.length:=by
     obtain ⟨_,c,hc⟩:=(cY h1).1 hw
     have e1:=(bJ h1).2.1
     have e2:=(bJ (kY hw).2).2.1
     have e3:=oZ (fN h1 h4) c
     rw [<- hc,<- e1,<- e2] at e3
     rw [e3];simp
    rw [if_pos hw,cD hFl (Nat.le_refl _),List.take_length]
    simp only [obS]
    rw [cR (by simp;omega)]
    simp only [obS]
    by_cases hb:24<((T++l[k].1.drop F.length).length:Int)
    ·rw [if_pos hb]
     refine .inr ⟨_,rfl,.inr ⟨rfl,⟨l[k].1,l[k].2,hmem,hw,?_⟩⟩⟩
     unfold mvP;omega
    ·rw [if_neg hb]
     simp only [obS,Sum.elim_inl]
     rw [bI (by simp;omega)]
     simp only [obS,Sum.elim_inl]
     rw [aF (by omega) (by omega)]
     refine .inl ⟨_,rfl,?_,?_⟩
     ·rw [htk,List.map_append]
      simp only [List.map_cons,List.map_nil,ren,if_pos hw,mvP]
      congr 1
     ·intro x hx hwx
      rw [htk] at hx
      rcases List.mem_append.1 hx with hx | hx
      ·exact hI x hx hwx
      ·simp at hx;rw [hx];unfold mvP;omega
   ·rw [if_neg hw]
    simp only [obS,Sum.elim_inl]
    rw [bI (by simp;omega)]
    simp only [obS,Sum.elim_inl]
    rw [aF (by omega) (by omega)]
    refine .inl ⟨_,rfl,?_,?_⟩
    ·rw [htk,List.map_append]
     simp only [List.map_cons,List.map_nil,ren,if_neg hw]
     congr 1
    ·intro x hx hwx
     rw [htk] at hx
     rcases List.mem_append.1 hx with hx | hx
     ·exact hI x hx hwx
     ·simp at hx;rw [hx] at hwx;exact absurd hwx hw
  ·rintro _ ⟨rfl,hI⟩
   simp only
   rw [if_neg (by omega),List.take_length] at *
   refine ⟨_,rfl,.inl ⟨rfl,?_⟩⟩
   rintro ⟨p,f,hp,hw,hb⟩
   have hle:(mvP F T p).length<=24:=hI (p,f) ((bC hE).2 hp) hw
   omega
 obtain ⟨r,k1,k2⟩:=key
 rw [k1]
 simp only [obS]
 rcases k2 with ⟨rfl,hb⟩ | ⟨rfl,hb⟩
 ·rw [if_neg hb]
  exact ⟨_,rfl,hR.enum hb hE,by simp⟩
 ·rw [if_pos hb]
  exact ⟨_,rfl,hE,rfl⟩
end
section
variable {s:FS} {l:List Ent}
theorem aNz (hE:Enum s l) {p:List UInt8} (h:s p=none) (f:Bool×List UInt8):Enum (aI p f s) (l++[(p,f)]):=by
 have hp:p ∉ l.map (·.1):=fun hm=>by rw [yH hE,h] at hm;cases hm
 have h1:=sO hE p f
 rw [vY hp] at h1
 have hpm:(l++[(p,f)]).Perm ((p,f)::l):=List.perm_append_comm (l₁:=l) (l₂:=[(p,f)])
 have hnd:((l++[(p,f)]).map (·.1)).Nodup:=((hpm.map (·.1)).nodup_iff).2 h1.1
 refine ⟨hnd,fun q=>?_⟩
 rw [h1.2 q]
 cases hq:aZ q ((p,f)::l) with
 | none =>
  symm
  refine gN fun hm=>?_
  have h2:q∈((p,f)::l).map (·.1):=((hpm.map (·.1)).mem_iff).1 hm
  have h3:=(iP q ((p,f)::l)).2 h2
  rw [hq] at h3;cases h3
 | some g =>
  symm
  refine cO hnd ((hpm.mem_iff).2 ?_)
  exact (bC h1).2 (by rw [h1.2 q];exact hq)
theorem aK5 (hE:Enum s l) {i:Nat} {p:List UInt8} {f:Bool×List UInt8} (h:l[i]?=some (p,f)):Enum (bZ p s) (l.take i++l.drop (i+1)):=by
 have hi:=(List.getElem?_eq_some_iff.1 h).1
 have hx:=(List.getElem?_eq_some_iff.1 h).2
 have hsplit:l=l.take i++(p,f)::l.drop (i+1):=by
  conv=>lhs;rw [<- List.take_append_drop i l]
  rw [List.drop_eq_getElem_cons hi,hx]
 have hnd:=hE.1
 rw [hsplit,List.map_append,List.map_cons,List.nodup_append] at hnd
 obtain ⟨n1,n2,n3⟩:=hnd
 rw [List.nodup_cons] at n2
 have hf:l.filter (fun x=>x.1≠p)=l.take i++l.drop (i+1):=by
  conv=>lhs;rw [hsplit]
  rw [List.filter_append,List.filter_cons]
  rw [vY (k:=p) (l:=l.take i) (fun hm=>n3 p hm p (by simp) rfl),vY (k:=p) (l:=l.drop (i+1)) n2.1]
  simp
 rw [<- hf]
 exact vL hE p
theorem aNm (B:List (List UInt8)) (t:List UInt8) (hB:B.length<=1000000) (k:Nat) (hk:k<B.length):(((B.take k).filter fun x=>!cA x t).take 6)++(if eY (B[k]'hk) t=true/\((((B.take k).filter fun x=>!cA x t).take 6).length:Int)<6 then [B[k]'hk] else [])=((B.take (k+1)).filter fun x=>!cA x t).take 6:=by
 rw [List.take_succ_eq_append_getElem hk,List.filter_append]
 have hg:eY (B[k]'hk) t=!cA (B[k]'hk) t:=rfl
 rw [hg]
 generalize hu:(B.take k).filter (fun x=>!cA x t)=u
 cases hc:(!cA (B[k]'hk) t) with
 | false=>simp [hc]
 | true =>
  have e:[B[k]'hk].filter (fun x=>!cA x t)=[B[k]'hk]:=by simp [hc]
  rw [e]
  by_cases h6:u.length<6
  ·have e2:u.take 6=u:=List.take_of_length_le (by omega)
   have e3:(u++[B[k]'hk]).take 6=u++[B[k]'hk]:=List.take_of_length_le (by simp;omega)
   rw [e2,e3,if_pos ⟨rfl,by omega⟩]
  ·have e3:(u++[B[k]'hk]).take 6=u.take 6:=List.take_append_of_le_length (by omega)
   rw [e3,if_neg (by simp;omega),List.append_nil]
theorem aMp (hs:Snd s) (hE:Enum s l) (hl:l.length<=200000) (o:Opr) (hd:o.2.2.2.2.2.length<=80000):∃ l',m_triremeref11_Do l o=some (l',(doP s o).1)/\Enum (nx s o) l'/\l'.length<=l.length+1:=by
 have hc:Crd s l.length:=⟨l,hE,Nat.le_refl _⟩
 obtain ⟨k,p,t,off,n,D⟩:=o
 simp only at hd
 unfold m_triremeref11_Do nx
 simp only
 by_cases h12:k=1\/k=2
 ·have h1:(if k=1 then (some (decide (k=1))) else some (decide (k=2)))=some true:=by
   rcases h12 with h | h<;>subst h<;>rfl
  have hdo:doP s (k,p,t,off,n,D)=((rm s p,0,[],[]),if rm s p=0 then aI p (decide (k=2),[]) s else s):=by unfold doP;rw [if_pos h12]
  rw [h1,hdo]
  simp only [obS,if_true]
  rw [aE6 hE (by omega)]
  simp only [obS]
  by_cases h0:rm s p=0
  ·rw [if_pos h0,bI (by simp only [List.length_nil];omega)]
   simp only [obS,List.nil_append]
   rw [bI (by simp only [List.length_cons,List.length_nil];omega)]
   simp only [obS,Sum.elim_inr]
   rw [h0]
   refine ⟨_,rfl,?_,by simp⟩
   rw [if_pos rfl,if_pos rfl]
   exact aNz hE (lH h0).2.2.2 _
  ·rw [if_neg h0]
   exact ⟨l,rfl,by rw [if_neg h0];exact hE,by omega⟩
 have h1:(if k=1 then (some (decide (k=1))) else some (decide (k=2)))=some false:=by
  rw [if_neg (fun h=>h12 (.inl h)),decide_eq_false (fun h=>h12 (.inr h))]
 rw [h1]
 simp only [obS,Bool.false_eq_true,if_false]
 by_cases h345:k=3\/k=4\/k=5
 ·have h2:(if k=3 then (some (decide (k=3))) else (Option.bind (α:=Bool) (if k=4 then some (decide (k=4)) else some (decide (k=5))) fun r457=>some r457))=some true:=by
   rcases h345 with h | h | h<;>subst h<;>rfl
  rw [h2]
  simp only [obS,if_true]
  rcases h345 with h | h | h
  ·obtain ⟨l',e1,e2,e3⟩:=aQf hs hE (by omega) (k,p,t,off,n,D) h hd
   rw [e1,aFo (.inl h)]
   exact ⟨l',rfl,e2,by omega⟩
  ·obtain ⟨l',e1,e2,e3⟩:=aK8 hs hE (by omega) (k,p,t,off,n,D) h
   rw [e1,aFo (.inr h)]
   exact ⟨l',rfl,e2,by omega⟩
  ·obtain ⟨l',e1,e2,e3⟩:=aKk hs hE (by omega) (k,p,t,off,n,D) h
   rw [e1,doP5 h]
   refine ⟨l',rfl,?_,by omega⟩
   simp only [ite_self]
   exact e2
 have h2:(if k=3 then (some (decide (k=3))) else (Option.bind (α:=Bool) (if k=4 then some (decide (k=4)) else some (decide (k=5))) fun r457=>some r457))=some false:=by
  rw [if_neg (by omega),if_neg (by omega),decide_eq_false (by omega)];rfl
 rw [h2]
 simp only [obS,Bool.false_eq_true,if_false]
 by_cases h6:k=6
 ·obtain ⟨l',e1,e2,e3⟩:=aL6 hs hE (by omega) (k,p,t,off,n,D)
  have hdo:doP s (k,p,t,off,n,D)=(((rn s p t).1,0,[],[]),(rn s p t).2):=by
   unfold doP;rw [if_neg h12,if_neg (by simp only;omega),if_neg (by simp only;omega),if_pos h6]
  rw [if_pos h6,e1,hdo]
  exact ⟨l',rfl,e2,by omega⟩
 rw [if_neg h6]
 by_cases h789:k=7\/k=8\/k=9
 case neg =>
  have h3:(if k=7 then (some (decide (k=7))) else (Option.bind (α:=Bool) (if k=8 then some (decide (k=8)) else some (decide (k=9))) fun r457=>some r457))=some false:=by
   rw [if_neg (by omega),if_neg (by omega),decide_eq_false (by omega)];rfl
  have hdo:doP s (k,p,t,off,n,D)=((1,0,[],[]),s):=by
   unfold doP;rw [if_neg h12,if_neg (by simp only;omega),if_neg (by simp only;omega),if_neg h6,if_neg (by simp only;omega),if_neg (by simp only;omega),if_neg (by simp only;omega)]
  rw [h3,hdo]
  simp only [obS,Bool.false_eq_true,if_false]
  exact ⟨l,rfl,hE,by omega⟩
 have h3:(if k=7 then (some (decide (k=7))) else (Option.bind (α:=Bool) (if k=8 then some (decide (k=8)) else some (decide (k=9))) fun r457=>some r457))=some true:=by
  rcases h789 with h | h | h<;>subst h<;>rfl
 rw [h3]
 simp only [obS,if_true,Sum.elim_inl]
 obtain ⟨a,g1,g2⟩:=lI hE (by omega) p
 rw [g1]
 simp only [obS]
 have hB:=hs.below hc (by omega) p
 have hbl:blL l p=bl s p:=by
  have h1:=wK hE (by omega) (fun x hx=>by have:=(bJ (hs.ok _ _ ((bC hE).1 hx))).2.2;omega) p
  rw [hB.eq] at h1
  exact (Option.some.inj h1).symm
 by_cases h0:(lk s p).2=0
 case neg =>
  rw [if_neg h0]
  rcases h789 with h | h | h
  ·have hdo:doP s (k,p,t,off,n,D)=(((rv s p).1,0,[],[]),(rv s p).2):=by
    unfold doP;rw [if_neg h12,if_neg (by simp only;omega),if_neg (by simp only;omega),if_neg h6,if_pos h]
   have:rv s p=((lk s p).2,s):=by unfold rv;rw [if_neg h0]
   rw [hdo,this]
   exact ⟨l,rfl,by simp only [ite_self];exact hE,by omega⟩
  ·have hdo:doP s (k,p,t,off,n,D)=(ls s (k,p,t,off,n,D),s):=by
    unfold doP;rw [if_neg h12,if_neg (by simp only;omega),if_neg (by simp only;omega),if_neg h6,if_neg (by simp only;omega),if_pos h]
   have:ls s (k,p,t,off,n,D)=((lk s p).2,0,[],[]):=by unfold ls;rw [if_neg h0]
   rw [hdo,this]
   exact ⟨l,rfl,by simp only [ite_self];exact hE,by omega⟩
  ·have hdo:doP s (k,p,t,off,n,D)=(stt s p,s):=by
    unfold doP;rw [if_neg h12,if_neg (by simp only;omega),if_neg (by simp only;omega),if_neg h6,if_neg (by simp only;omega),if_neg (by simp only;omega),if_pos h]
   have:stt s p=((lk s p).2,0,[],[]):=by unfold stt;rw [if_neg h0]
   rw [hdo,this]
   exact ⟨l,rfl,by simp only [ite_self];exact hE,by omega⟩
 obtain ⟨i,f,rfl,g3,g4,g5⟩:=g2 h0
 have hi:=(List.getElem?_eq_some_iff.1 g3).1
 rw [if_pos h0,cM g3]
 simp only [obS]
 rw [aM3 (by omega),hbl]
 simp only [obS]
 obtain ⟨b,d⟩:=f
 have hBl:=hB.len
 rcases h789 with h | h | h
 ·have hdo:doP s (k,p,t,off,n,D)=(((rv s p).1,0,[],[]),(rv s p).2):=by
   unfold doP;rw [if_neg h12,if_neg (by simp only;omega),if_neg (by simp only;omega),if_neg h6,if_pos h]
  rw [hdo,if_neg (by omega),if_neg (by omega)]
  unfold rv
  rw [if_pos h0]
  by_cases hr:p=[47]
  ·rw [if_pos hr,if_pos hr]
   exact ⟨l,rfl,hE,by omega⟩
  rw [if_neg hr,if_neg hr]
  by_cases hz:0<(bl s p).length
  ·rw [if_pos hz,if_pos (by omega)]
   exact ⟨l,rfl,hE,by omega⟩
  rw [if_neg hz,if_neg (by omega),aF (by omega) (by omega),show (0:Int)=((0:Nat):Int) from rfl,cD (Nat.zero_le _) (by omega),show (i:Int)+1=((i+1:Nat):Int) by omega,cD (by omega) (Nat.le_refl _)]
  simp only [obS,List.drop_zero,List.take_length]
  rw [bI (by simp;omega)]
  simp only [obS,List.nil_append]
  rw [bI (by simp;omega)]
  exact ⟨_,rfl,aK5 hE g3,by simp;omega⟩
 ·have hdo:doP s (k,p,t,off,n,D)=(ls s (k,p,t,off,n,D),s):=by
   unfold doP;rw [if_neg h12,if_neg (by simp only;omega),if_neg (by simp only;omega),if_neg h6,if_neg (by simp only;omega),if_pos h]
  rw [hdo,if_neg (by omega),if_pos h]
  unfold ls
  simp only
  rw [if_pos h0,g5]
  cases b with
  | false=>exact ⟨l,rfl,hE,by omega⟩
  | true =>
   rw [if_neg (by decide),if_pos rfl]
   generalize hL:aH _ (([]:List (List UInt8)),(0:Int))=L
   have key:L=some (((bl s p).filter fun x=>!cA x t).take 6):=by
    rw [<- hL]
    generalize bl s p=B at hBl
    refine tT (fun k (u:List (List UInt8)×Int)=>u=(((B.take k).filter fun x=>!cA x t).take 6,(k:Int))) _ B.length (by simp) ?_ ?_
    ·rintro k _ hk rfl
     simp only
     rw [if_pos (by omega),aX hk]
     simp only [obS]
     refine .inl ⟨_,?_,rfl⟩
     rw [<- aNm B t (by omega) k hk]
     generalize hu:((B.take k).filter fun x=>!cA x t).take 6=u
     have hu6:u.length<=6:=by rw [<- hu];simp;omega
     by_cases e1:eY B[k] t=true
     ·rw [if_pos e1]
      by_cases e2:(u.length:Int)<6
      ·rw [if_pos e2,if_pos ⟨e1,e2⟩,bI (by simp;omega)]
       simp only [obS]
       rw [aF (by omega) (by omega)];rfl
      ·rw [if_neg e2,if_neg (fun h=>e2 h.2),List.append_nil]
       simp only [obS]
       rw [aF (by omega) (by omega)];rfl
     ·rw [if_neg e1,if_neg (fun h=>e1 h.1),List.append_nil]
      simp only [obS]
      rw [aF (by omega) (by omega)];rfl
    ·rintro _ rfl
     simp only
     rw [if_neg (by omega),List.take_length]
     exact ⟨_,rfl,rfl⟩
   rw [key]
   exact ⟨l,rfl,hE,by omega⟩
 ·have hdo:doP s (k,p,t,off,n,D)=(stt s p,s):=by
   unfold doP;rw [if_neg h12,if_neg (by simp only;omega),if_neg (by simp only;omega),if_neg h6,if_neg (by simp only;omega),if_neg (by simp only;omega),if_pos h]
  rw [hdo,if_pos h]
  unfold stt
  rw [if_pos h0,g5]
  cases b with
  | false =>
   rw [if_neg (show ¬ ((false:Bool)=true) by decide),if_neg (show ¬ ((false:Bool)=true) by decide),show u8O 102=some 102 from rfl]
   exact ⟨l,rfl,hE,by omega⟩
  | true =>
   rw [if_pos rfl,if_pos rfl,show u8O 100=some 100 from rfl]
   exact ⟨l,rfl,hE,by omega⟩
end
theorem aAd {s:FS} {l:List Ent} (hs:Snd s) (hE:Enum s l) (hl:l.length<=200000):m_triremeref11_Pairs l=some (bK s):=by
 rw [sH hs hE (by omega)]
 refine aMf hE.1 (by omega) fun x hx=>?_
 have h:=(bC hE).1 hx
 have:=(bJ (hs.ok _ _ h)).2.2
 exact ⟨by omega,hs.len _ _ h⟩
abbrev RSn:=List UInt8×Int×List Ent
abbrev RSt:=List Ent×List RSn
def fsL (l:List Ent):FS:=fun p=>aZ p l
structure NdL (l:List Ent):Prop where
 nd:(l.map (·.1)).Nodup
 sn:Snd (fsL l)
 len:l.length<=1000
theorem NdL.enum {l:List Ent} (h:NdL l):Enum (fsL l) l:=⟨h.nd,fun _=>rfl⟩
theorem NdL.crd {l:List Ent} (h:NdL l):Crd (fsL l) 1000:=⟨l,h.enum,h.len⟩
theorem NdL.of {s:FS} {l:List Ent} (hs:Snd s) (hE:Enum s l) (hl:l.length<=1000):NdL l/\fsL l=s:=by
 have e:fsL l=s:=funext fun p=>(hE.2 p).symm
 exact ⟨⟨hE.1,by grind,hl⟩,e⟩
noncomputable def prL (l:List Ent):List P2:=bK (fsL l)
theorem NdL.pairs {l:List Ent} (h:NdL l):m_triremeref11_Pairs l=some (prL l):=aAd h.sn h.enum (by have:=h.len;omega)
theorem NdL.back {l:List Ent} (h:NdL l):rdF (prL l)=fsL l:=(h.sn.prs h.crd (by omega)).2.1
theorem NdL.rf {l:List Ent} (h:NdL l):RF (prL l):=RF.of h.sn h.crd (by omega)
theorem NdL.le {l:List Ent} (h:NdL l):l.length<=(prL l).length:=by
 obtain ⟨l2,hE,hl⟩:=iU (prL l)
 rw [h.back] at hE
 have:=(h.enum.perm hE).length_eq
 omega
noncomputable def wrS (m:RSt):SS:=(prL m.1,m.2.map fun x=>(x.1,x.2.1,prL x.2.2))
structure RtM (m:RSt):Prop where
 nd:NdL m.1
 sn:∀ x∈m.2,NdL x.2.2
 rt:Rt (wrS m)
structure RtM' (m:RSt):Prop where
 nd:NdL m.1
 sn:∀ x∈m.2,NdL x.2.2
 len:m.2.length<=400
 rt:Rt' (wrS m)
theorem RtM'.rtM {m:RSt} (h:RtM' m) (hu:unN (wrS m)<=48):RtM m:=⟨h.nd,h.sn,h.rt.rt hu⟩
theorem aBn {m:RSt} (h1:NdL m.1) (h2:∀ x∈m.2,NdL x.2.2) (hl:m.2.length<=1000) (hf:(prL m.1).length<=1000) (hx:∀ x∈m.2,(prL x.2.2).length<=1000):rUnits m=some (unN (wrS m):Int):=by
 have hsum:∀ k,((m.2.take k).map fun x:RSn=>1+(prL x.2.2).length).sum<=1000*1001:=fun k=>by
  have h4:=vX (fun x:RSn=>1+(prL x.2.2).length) 1001 (m.2.take k) (fun x hm=>by have:=hx x (List.mem_of_mem_take hm);omega)
  have h5:(m.2.take k).length<=1000:=by rw [List.length_take];omega
  exact Nat.le_trans h4 (Nat.mul_le_mul_right 1001 h5)
 unfold rUnits
 rw [h1.pairs]
 simp only [obS]
 refine cK (fun k (q:Int×Int)=>q=(((prL m.1).length:Int)+(((m.2.take k).map fun x:RSn=>1+(prL x.2.2).length).sum:Nat),(k:Int))) (fun r=>r=(unN (wrS m):Int)) m.2.length (by simp) ?_ ?_ ?_
 ·rintro k _ hk rfl
  simp only
  rw [if_pos (by omega),aX hk]
  simp only [obS]
  rw [(h2 _ (List.getElem_mem hk)).pairs]
  simp only [obS]
  have h6:=hx _ (List.getElem_mem hk)
  have h7:=hsum k
  refine .inl ⟨_,rfl,?_⟩
  rw [show IntKind.i64.wrap (1+((prL m.2[k].2.2).length:Int))=1+((prL m.2[k].2.2).length:Int) from aF (by omega) (by omega),aF (by omega) (by omega),aF (by omega) (by omega),List.take_succ_eq_append_getElem hk]
  simp only [List.map_append,List.map_cons,List.map_nil,List.sum_append,List.sum_cons,List.sum_nil]
  congr 1
  omega
 ·rintro _ rfl
  simp only
  rw [if_neg (by omega),List.take_length]
  refine ⟨_,rfl,?_⟩
  unfold unN wrS
  simp only [List.map_map]
  rw [show ((fun x:Sn=>1+x.2.2.length) ∘ fun x:RSn=>(x.1,x.2.1,prL x.2.2))=fun x:RSn=>1+(prL x.2.2).length from rfl]
  omega
 ·rintro _ rfl;rfl
theorem aIy {m:RSt} (h1:NdL m.1) (h2:∀ x∈m.2,NdL x.2.2) (hl:m.2.length<=400):rWriteS m=some (wrS m):=by
 unfold rWriteS
 rw [h1.pairs]
 simp only [obS]
 refine cK (fun k (q:SS×Int)=>q=((prL m.1,(m.2.take k).map fun x=>(x.1,x.2.1,prL x.2.2)),(k:Int))) (fun r=>r=wrS m) m.2.length (by simp) ?_ ?_ ?_
 ·rintro k _ hk rfl
  simp only
  rw [if_pos (by omega),aX hk]
  simp only [obS]
  rw [(h2 _ (List.getElem_mem hk)).pairs]
  simp only [obS]
  rw [bI (by simp;omega)]
  simp only [obS]
  rw [aF (by omega) (by omega)]
  refine .inl ⟨_,rfl,?_⟩
  rw [List.take_succ_eq_append_getElem hk,List.map_append];rfl
 ·rintro _ rfl
  simp only
  rw [if_neg (by omega),List.take_length]
  exact ⟨_,rfl,rfl⟩
 ·rintro _ rfl;rfl
theorem aJ8 {A B:List RSn} {y:RSn} {T:List UInt8} (hA:∀ a∈A,a.1≠T) (hy:y.1=T) {l:List Ent} (hl:(A++y::B).length<=1000):rFindS (l,A++y::B) T=some (A.length:Int):=by
 unfold rFindS
 refine cK (fun k (q:RSt×Int)=>q=((l,A++y::B),(k:Int))/\k<=A.length) (fun r=>r=.inr (A.length:Int)) (A.length+1) ⟨by simp,by omega⟩ ?_ ?_ ?_
 ·rintro k _ hk ⟨rfl,hk2⟩
  simp only
  have hkl:k<(A++y::B).length:=by simp;omega
  rw [if_pos (by omega),aX hkl]
  simp only [obS]
  by_cases h:k=A.length
  ·subst h
   rw [if_pos (by simp [hy])]
   exact .inr ⟨_,rfl,rfl⟩
  ·have hk3:k<A.length:=by omega
   rw [if_neg (by rw [List.getElem_append_left hk3];exact hA _ (List.getElem_mem hk3)),aF (by omega) (by omega)]
   exact .inl ⟨_,rfl,rfl,by omega⟩
 ·rintro _ ⟨_,h⟩;omega
 ·rintro _ rfl;rfl
theorem aOr {xs:List RSn} {T:List UInt8} (h:∀ a∈xs,a.1≠T) {l:List Ent} (hl:xs.length<=1000):rFindS (l,xs) T=some (-1):=by
 unfold rFindS
 refine cK (fun k (q:RSt×Int)=>q=((l,xs),(k:Int))) (fun r=>r=.inl (l,xs)) xs.length (by simp) ?_ ?_ ?_<;>grind [aX,List.getElem_mem,aF]
noncomputable def wr1 (x:RSn):Sn:=(x.1,x.2.1,prL x.2.2)
theorem wr_lo (xs:List RSn) (T:List UInt8):loS (xs.map wr1) T=(loS xs T).map wr1:=by unfold loS;rw [List.filter_map];rfl
theorem wr_hi (xs:List RSn) (T:List UInt8):hiS (xs.map wr1) T=(hiS xs T).map wr1:=by unfold hiS;rw [List.filter_map];rfl
theorem wr_at (xs:List RSn) (T:List UInt8):atS (xs.map wr1) T=(atS xs T).map wr1:=by unfold atS;rw [List.find?_map];rfl
theorem aA2 {α τ:Type} (e:List α->τ) (lt:α->α->Bool) {f:τ×Int->Option ((τ×Int) ⊕ τ)} (hf0:∀ xs,f (e xs,0)=some (.inr (e xs))) (hf:∀ (a:List α) (y x:α) (c:List α),a.length+c.length<=100000000->f (e (a++y::x::c),((a.length+1:Nat):Int))=some (if lt x y=true then .inl (e (a++x::y::c),(a.length:Int)) else .inr (e (a++y::x::c)))) :
  ∀ (n:Nat) (a:List α) (x:α) (c:List α),a.length=n->a.length+c.length<=100000000->∃ a1 a2,a=a1++a2/\aH f (e (a++x::c),(a.length:Int))=some (e (a1++x::(a2++c)))/\(∀ y∈a2,lt x y=true)/\∀ y,a1.getLast?=some y->lt x y=false
 | 0,a,x,c,h,_=>by
  have:a=[]:=List.eq_nil_of_length_eq_zero h
  subst this
  refine ⟨[],[],rfl,?_,by simp,by simp⟩
  rw [dN,show ((([]:List α).length:Nat):Int)=0 from rfl,hf0];rfl
 | n+1,a,x,c,h,hb=>by
  have hne:a≠[]:=fun e=>by rw [e] at h;simp at h
  obtain ⟨b,y,rfl⟩:∃ b y,a=b++[y]:=⟨a.dropLast,a.getLast hne,(List.dropLast_concat_getLast hne).symm⟩
  simp only [List.length_append,List.length_cons,List.length_nil] at h hb
  have e1:(b++[y])++x::c=b++y::x::c:=by simp
  have e2:(((b++[y]).length:Nat):Int)=((b.length+1:Nat):Int):=by simp
  rw [e1,e2,dN,hf b y x c (by omega)]
  by_cases hl:lt x y=true
  ·rw [if_pos hl]
   obtain ⟨a1,a2,h1,h2,h3,h4⟩:=aA2 e lt hf0 hf n b x (y::c) (by omega) (by simp;omega)
   refine ⟨a1,a2++[y],by rw [h1];simp,?_,?_,h4⟩
   ·simp only [obS]
    rw [h2];simp
   ·intro z hz
    rcases List.mem_append.1 hz with hz | hz
    ·exact h3 z hz
    ·simp at hz;rw [hz];exact hl
  ·rw [if_neg hl]
   refine ⟨b++[y],[],by simp,by simp,by simp,fun z hz=>?_⟩
   simp at hz;rw [<- hz];simpa using hl
theorem aQg {m:RSt} (h:RtM m) (o:Opr) (gen:Int) (hk:o.1=10\/o.1=11\/o.1=12):∃ m1,rSnap m o gen=some (m1,(snP (wrS m) o gen).1)/\NdL m1.1/\(∀ x∈m1.2,NdL x.2.2)/\m1.2.length<=400/\wrS m1=(snP (wrS m) o gen).2:=by
  obtain ⟨l,xs⟩:=m
  obtain ⟨b1,b2,b3⟩:=h.rt.len
  have hxl:xs.length<=48:=by simpa [wrS] using b2
  have hsrt:xs.Pairwise fun a b=>a.1<b.1:=by have:=h.rt.srt;simpa [wrS,List.pairwise_map] using this
  have hnd:=h.nd
  have hsn:=h.sn
  simp only at hnd hsn
  have hw:wrS (l,xs)=(prL l,xs.map wr1):=rfl
  unfold rSnap snP
  rw [hw,tY]
  simp only [obS]
  cases hn:bB o.2.1 with
  | false =>
    rw [if_pos (show (!false)=true from rfl),if_pos rfl]
    exact ⟨_,rfl,hnd,hsn,by simp only;omega,rfl⟩
  | true =>
    rw [if_neg (show ¬ (!true)=true by simp),if_neg (show ¬ true=false by simp)]
    have hp:=aHs hsrt o.2.1
    rw [bI (by simp only [List.length_nil];omega),wr_at,wr_lo,wr_hi]
    cases ha:atS xs o.2.1 with
    | none =>
      rw [ha] at hp
      simp only [Option.toList_none,List.nil_append] at hp
      rw [aOr (aFf ha) (by omega)]
      simp only [obS,List.nil_append,Option.map_none]
      by_cases h10:o.1=10
      case neg =>
        rw [if_neg h10,if_neg h10,if_pos (by omega)]
        exact ⟨_,rfl,hnd,hsn,by simp only;omega,rfl⟩
      rw [if_pos h10,if_pos h10,if_neg (by omega),bI (by simp;omega)]
      simp only [obS]
      have hlen:IntKind.i64.wrap (((xs++[(o.2.1,gen,l)]).length:Int)-1)=(xs.length:Int):=by
        rw [aF (by simp) (by simp;omega)];simp
      rw [hlen]
      obtain ⟨a1,a2,e1,e2,e3,e4⟩:=aA2 (α:=RSn) (fun ys=>((l,ys):RSt)) (fun x y=>aT x.1 y.1) (f:=fun (s184:T_triremeref12_State_o×Int)=>if 0<s184.2 then ((aD s184.1.2 s184.2).bind fun x190 =>
(aD s184.1.2 (IntKind.i64.wrap (s184.2-1))).bind fun x195 =>
if (aT x190.1 x195.1)=true then ((aD s184.1.2 s184.2).bind fun x200 =>
(aD s184.1.2 (IntKind.i64.wrap (s184.2-1))).bind fun x203 =>
(aD s184.1.2 s184.2).bind fun x205 =>
(aD ((s184.1.2).set (s184.2:Int).toNat x203) (IntKind.i64.wrap (s184.2-1))).bind fun x207 =>
some (.inl ((s184.1.1,((s184.1.2).set (s184.2:Int).toNat x203).set (IntKind.i64.wrap (s184.2-1):Int).toNat x200),IntKind.i64.wrap (s184.2-1))))
 else (some (.inr s184.1)))
 else (some (.inr s184.1))) (fun xs=>rfl) (fun a y x c hb=>by
        simp only
        rw [if_pos (by omega)]
        have g1:aD (a++y::x::c) ((a.length+1:Nat):Int)=some x:=cM (by simp)
        have g2:aD (a++y::x::c) (IntKind.i64.wrap (((a.length+1:Nat):Int)-1))=some y:=by
          rw [aF (by omega) (by omega),show ((a.length+1:Nat):Int)-1=(a.length:Int) by omega]
          exact cM (by simp)
        rw [g1,g2]
        simp only [obS]
        by_cases hlt:aT x.1 y.1=true
        · rw [if_pos hlt,if_pos hlt]
          have g3:aD ((a++y::x::c).set (((a.length+1:Nat):Int)).toNat y) (IntKind.i64.wrap (((a.length+1:Nat):Int)-1))=some y:=by
            rw [aF (by omega) (by omega),show ((a.length+1:Nat):Int)-1=(a.length:Int) by omega]
            refine cM ?_
            rw [Int.toNat_natCast,List.getElem?_set_ne (by omega)]
            simp
          rw [g3]
          simp only [obS]
          rw [aF (by omega) (by omega),show ((a.length+1:Nat):Int)-1=(a.length:Int) by omega,Int.toNat_natCast,Int.toNat_natCast,vQ]
        · rw [if_neg hlt,if_neg hlt]) xs.length xs (o.2.1,gen,l) [] rfl (by simp;omega)
      rw [e2]
      simp only [obS,List.append_nil]
      have hne:=aFf ha
      have hA:∀ a∈a1,a.1<o.2.1:=by
        intro a haa
        have hn1:a1≠[]:=fun e=>by rw [e] at haa;cases haa
        have hl:=e4 (a1.getLast hn1) (List.getLast?_eq_some_getLast hn1)
        simp only at hl
        have hlm:a1.getLast hn1∈xs:=by rw [e1];exact List.mem_append_left _ (List.getLast_mem hn1)
        have hlast:(a1.getLast hn1).1<o.2.1:=by
          rcases vK (a1.getLast hn1).1 o.2.1 with h1 | h1 | h1
          · exact h1
          · exact absurd h1 (hne _ hlm)
          · rw [(fI _ _).2 h1] at hl;cases hl
        have hs1:a1.Pairwise fun a b=>a.1<b.1:=by rw [e1] at hsrt;exact (List.pairwise_append.1 hsrt).1
        rw [<- List.dropLast_concat_getLast hn1] at haa hs1
        rcases List.mem_append.1 haa with haa | haa
        · exact eN ((List.pairwise_append.1 hs1).2.2 a haa _ (by simp)) hlast
        · simp at haa;rw [haa];exact hlast
      have hB:∀ b∈a2,o.2.1<b.1:=fun b hb=>(fI _ _).1 (e3 b hb)
      have hlo:loS xs o.2.1=a1:=by rw [e1];exact lo_of hA fun b hb h4=>dZ _ (eN h4 (hB b hb))
      have hhi:hiS xs o.2.1=a2:=by rw [e1];exact hi_of (fun a ha h4=>dZ _ (eN h4 (hA a ha))) hB
      rw [hlo,hhi]
      have hal:a1.length+a2.length=xs.length:=by rw [e1];simp
      refine ⟨_,rfl,hnd,fun x hx=>?_,by simp;omega,?_⟩
      · simp only [List.mem_append,List.mem_cons] at hx
        rcases hx with hx | rfl | hx
        · exact hsn x (by rw [e1];exact List.mem_append_left _ hx)
        · exact hnd
        · exact hsn x (by rw [e1];exact List.mem_append_right _ hx)
      · show (prL l,(a1++(o.2.1,gen,l)::a2).map wr1)=_
        rw [List.map_append];rfl
    | some y =>
      have hy:=at_eq ha
      rw [ha] at hp
      have hp':xs=loS xs o.2.1++y::hiS xs o.2.1:=hp
      have hf:rFindS (l,xs) o.2.1=some ((loS xs o.2.1).length:Int):=by
        have:=aJ8 (A:=loS xs o.2.1) (B:=hiS xs o.2.1) (y:=y) (T:=o.2.1) (l:=l) (fun a haa e=>by have:=mN a haa;rw [e] at this;exact dZ _ this) hy.1 (by rw [<- hp'];omega)
        rw [<- hp'] at this;exact this
      have hll:(loS xs o.2.1).length<xs.length:=by have:=congrArg List.length hp';simp at this;omega
      rw [hf]
      simp only [obS,List.nil_append,Option.map_some]
      by_cases h10:o.1=10
      · rw [if_pos h10,if_pos h10,if_pos (by omega)]
        exact ⟨_,rfl,hnd,hsn,by simp only;omega,rfl⟩
      rw [if_neg h10,if_neg h10,if_neg (by omega)]
      by_cases h12:o.1=12
      · rw [if_pos h12,if_neg (by omega),cM (show xs[(loS xs o.2.1).length]?=some y from (sA hp).2)]
        simp only [obS]
        exact ⟨_,rfl,hsn y hy.2,hsn,by simp only;omega,rfl⟩
      rw [if_neg h12,if_pos (by omega),aF (by omega) (by omega),show (0:Int)=((0:Nat):Int) from rfl,cD (Nat.zero_le _) (by omega),show ((loS xs o.2.1).length:Int)+1=(((loS xs o.2.1).length+1:Nat):Int) by omega,cD (by omega) (Nat.le_refl _)]
      simp only [obS,List.drop_zero,List.take_length]
      rw [bI (by simp;omega)]
      simp only [obS,List.nil_append]
      rw [bI (by simp;omega)]
      simp only [obS]
      have hc:=(sA hp).1
      rw [hc]
      refine ⟨_,rfl,hnd,fun x hx=>?_,?_,?_⟩
      · rcases List.mem_append.1 hx with hx | hx
        · exact hsn x (wC hx)
        · exact hsn x (uZ hx)
      · have h1:=congrArg List.length hp'
        simp only [List.length_append,List.length_cons] at h1 ⊢;omega
      · show (prL l,(loS xs o.2.1++hiS xs o.2.1).map wr1)=_
        rw [List.map_append]
noncomputable def kS (r0:Ans×RSt×RSt):Option (RSt×Ans):=if r0.1.1=0 then ((rUnits r0.2.1).bind fun x0 =>
if 48<x0 then (some (r0.2.2,(98,0,([]:List UInt8),([]:List (List UInt8)))))
 else (if r0.1.1=0 then (some (r0.2.1,(r0.1.1,r0.1.2.1,r0.1.2.2.1,r0.1.2.2.2)))
 else (some (r0.2.2,(r0.1.1,0,([]:List UInt8),([]:List (List UInt8)))))))
 else (if r0.1.1=0 then (some (r0.2.1,(r0.1.1,r0.1.2.1,r0.1.2.2.1,r0.1.2.2.2)))
 else (some (r0.2.2,(r0.1.1,0,([]:List UInt8),([]:List (List UInt8))))))
theorem aOq {s:SS} {o:Opr} {gen:Int} (h:(opP s o gen).2.1≠0):(opP s o gen).2=((opP s o gen).2.1,0,[],[]):=by
 unfold opP at h ⊢
 split
 ·rfl
 ·rename_i h1
  rw [if_neg h1] at h
  split
  ·rename_i h2
   rw [if_pos h2] at h
   exact absurd rfl h
  ·rename_i h2
   rw [if_neg h2] at h
   exact aIw h
theorem kS_eq {m m1:RSt} (h:RtM m) (o:Opr) (gen:Int) (h1:RtM' m1) (hw:wrS m1=(opP (wrS m) o gen).1):∃ m',kS ((opP (wrS m) o gen).2,m1,m)=some (m',(stP (wrS m) o gen).2)/\RtM m'/\wrS m'=(stP (wrS m) o gen).1:=by
 unfold kS stP
 simp only
 by_cases h0:(opP (wrS m) o gen).2.1=0
 ·rw [if_pos h0,if_pos h0,if_pos h0,aBn h1.nd h1.sn (by have:=h1.len;omega) (by have:=h1.rt.fln;exact Nat.le_trans this (by decide)) (fun x hx=>by have:=(h1.rt.sn (x.1,x.2.1,prL x.2.2) (List.mem_map.2 ⟨x,hx,rfl⟩)).2.2;simp only at this;omega),hw]
  simp only [obS]
  by_cases h2:48<unN (opP (wrS m) o gen).1
  ·rw [if_pos (by omega),if_pos h2]
   exact ⟨m,rfl,h,rfl⟩
  ·rw [if_neg (by omega),if_neg h2]
   exact ⟨m1,rfl,h1.rtM (by rw [hw];omega),hw⟩
 ·rw [if_neg h0,if_neg h0,if_neg h0]
  refine ⟨m,?_,h,rfl⟩
  rw [aOq h0]
theorem aN2 {m:RSt} (h:RtM m) (o:Opr) (gen:Int) (hd:o.2.2.2.2.2.length<=80000):∃ m',rDoS m o gen=some (m',(stP (wrS m) o gen).2)/\RtM m'/\wrS m'=(stP (wrS m) o gen).1:=by
 have hrt:=uH h.rt o gen
 obtain ⟨b1,b2,b3⟩:=h.rt.len
 have hml:m.2.length<=48:=by simpa [wrS] using b2
 have hm1:m.1.length<=48:=by have:=h.nd.le;have e:(wrS m).1=prL m.1:=rfl;rw [e] at b1;omega
 have hkk:∀ (X Y:Option (Ans×RSt×RSt)) (p:Ans×RSt×RSt),(Option.bind (α:=Bool) (if o.1=10 then (some (decide (o.1=10))) else (Option.bind (α:=Bool) (if o.1=11 then (some (decide (o.1=11))) else (some (decide (o.1=12)))) fun r1369=>some r1369)) fun r1366=>Option.bind (α:=Ans×RSt×RSt) (if r1366=true then X else Y) fun r2037=>some (r2037.1,r2037.2.1,r2037.2.2))=(if o.1=10\/o.1=11\/o.1=12 then X else Y):=by
  intro X Y p
  have e2:∀ Z:Option (Ans×RSt×RSt),(Option.bind Z fun r139=>some (r139.1,r139.2.1,r139.2.2))=Z:=fun Z=>by cases Z<;>rfl
  by_cases h1:o.1=10
  ·simp only [h1,if_pos,obS,decide_true,e2,true_or]
  ·by_cases h2:o.1=11
   ·rw [if_neg h1,if_pos h2]
    simp only [obS,h2,decide_true,if_pos,e2,true_or,or_true]
   ·rw [if_neg h1,if_neg h2]
    simp only [obS,e2,h1,h2,false_or,decide_eq_true_eq]
 have fin:∀ (m1:RSt) (X Y:Option (Ans×RSt×RSt)),NdL m1.1->(∀ x∈m1.2,NdL x.2.2)->m1.2.length<=400->wrS m1=(opP (wrS m) o gen).1->(if o.1=10\/o.1=11\/o.1=12 then X else Y)=some ((opP (wrS m) o gen).2,m1,m)->rDoS m o gen=Option.bind (Option.bind (α:=Bool) (if o.1=10 then (some (decide (o.1=10))) else (Option.bind (α:=Bool) (if o.1=11 then (some (decide (o.1=11))) else (some (decide (o.1=12)))) fun r1369=>some r1369)) fun r1366=>Option.bind (α:=Ans×RSt×RSt) (if r1366=true then X else Y) fun r2037=>some (r2037.1,r2037.2.1,r2037.2.2)) kS->∃ m',rDoS m o gen=some (m',(stP (wrS m) o gen).2)/\RtM m'/\wrS m'=(stP (wrS m) o gen).1:=by
  intro m1 X Y g1 g2 g3 g4 g5 g6
  rw [hkk X Y (((0,0,[],[]),m,m))] at g6
  rw [g6,g5]
  exact kS_eq h o gen ⟨g1,g2,g3,by rw [g4];exact hrt⟩ g4
 by_cases h1:o.1=10\/o.1=11\/o.1=12
 ·obtain ⟨m1,e1,e2,e3,e4,e5⟩:=aQg h o gen h1
  refine fin m1 _ _ e2 e3 e4 (by unfold opP;rw [if_pos h1];exact e5) ?_ (by unfold rDoS;rfl)
  rw [if_pos h1,show rSnap m (o.1,o.2.1,o.2.2.1,o.2.2.2.1,o.2.2.2.2.1,o.2.2.2.2.2) gen=_ from e1]
  unfold opP
  rw [if_pos h1];rfl
 by_cases h2:o.1=13
 ·refine fin m _ _ h.nd h.sn (by omega) (by unfold opP;rw [if_neg h1,if_pos h2]) ?_ (by unfold rDoS;rfl)
  rw [if_neg h1,if_pos h2]
  unfold opP
  rw [if_neg h1,if_pos h2]
  generalize hL:aH _ (([]:List (List UInt8)),(0:Int))=L
  have key:L=some (((m.2.map (·.1)).filter fun n=>aT o.2.2.1 n).take 6):=by
   rw [<- hL]
   refine tT (fun k (q:List (List UInt8)×Int)=>q=((((m.2.map (·.1)).take k).filter fun n=>aT o.2.2.1 n).take 6,(k:Int))) _ m.2.length (by simp) ?_ ?_
   ·rintro k _ hk rfl
    simp only
    rw [if_pos (by omega),aX hk]
    simp only [obS,aAx]
    have hk':k<(m.2.map (·.1)).length:=by simpa using hk
    have hs:=aDu (m.2.map (·.1)) o.2.2.1 k hk'
    simp only [List.getElem_map] at hs
    refine .inl ⟨_,?_,rfl⟩
    rw [<- hs,aF (by omega) (by omega)]
    by_cases h1:aT o.2.2.1 m.2[k].1=true
    ·rw [if_pos h1,if_pos h1]
     by_cases h2:((((((m.2.map (·.1)).take k).filter fun n=>aT o.2.2.1 n).take 6).length:Nat):Int)<6
     ·rw [if_pos h2,if_pos h2,bI (by rw [List.length_take];simp;omega)];rfl
     ·rw [if_neg h2,if_neg h2];rfl
    ·rw [if_neg h1,if_neg h1];rfl
   ·rintro _ rfl
    simp only
    rw [if_neg (by omega),show (m.2.map (·.1)).take m.2.length=m.2.map (·.1) from List.take_of_length_le (by simp)];exact ⟨_,rfl,rfl⟩
  rw [key]
  have e:(wrS m).2.map (·.1)=m.2.map (·.1):=by unfold wrS;simp only [List.map_map];rfl
  have el:(wrS m).2.length=m.2.length:=by unfold wrS;simp
  unfold lsP
  rw [e,el];rfl
 ·have hb:=h.nd.back
  have hE:=h.nd.enum
  obtain ⟨l',e1,e2,e3⟩:=aMp h.nd.sn hE (by omega) o hd
  obtain ⟨k1,k2⟩:=yS h.nd.sn h.nd.crd (by omega) o
  obtain ⟨n1,n2⟩:=NdL.of k1 e2 (by omega)
  have e:(wrS m).1=prL m.1:=rfl
  refine fin (l',m.2) _ _ n1 h.sn (by simp only;omega) ?_ ?_ (by unfold rDoS;rfl)
  ·unfold opP
   rw [if_neg h1,if_neg h2,e,hb]
   show (prL l',_)=_
   unfold prL
   rw [n2];rfl
  ·rw [if_neg h1,if_neg h2,show m_triremeref11_Do m.1 (o.1,o.2.1,o.2.2.1,o.2.2.2.1,o.2.2.2.2.1,o.2.2.2.2.2)=_ from e1]
   unfold opP
   rw [if_neg h1,if_neg h2,e,hb];rfl
theorem qF (l:List Ent) (hl:l.length<=1000000) (p:List UInt8):(rFindO l p=some (-1)/\∀ x∈l,x.1≠p)\/∃ (i:Nat) (f:Bool×List UInt8),rFindO l p=some (i:Int)/\l[i]?=some (p,f):=by
 unfold rFindO
 refine dR (C:=fun o=>(o=some (-1)/\∀ x∈l,x.1≠p)\/∃ (i:Nat) (f:Bool×List UInt8),o=some (i:Int)/\l[i]?=some (p,f)) (fun k (t:Int)=>t=(k:Int)/\∀ j (hj:j<l.length),j<k->l[j].1≠p) (fun r=>(r=.inl ()/\∀ x∈l,x.1≠p)\/∃ (i:Nat) (f:Bool×List UInt8),r=.inr (i:Int)/\l[i]?=some (p,f)) l.length ⟨rfl,fun j hj hk=>by omega⟩ ?_ ?_ ?_<;>grind [aX,aF,List.getElem_of_mem]
def nd1 (x:P2):Option Ent:=match x.1 with
 | []=>none
 | a::r=>if a=110/\x.2≠[] then some (r,decide (x.2=[100]),[]) else none
theorem sM {x:P2} {e:Ent} (h:nd1 x=some e):x.1=110::e.1/\x.2≠[]/\e=(e.1,decide (x.2=[100]),[]):=by grind [nd1]
theorem aBf {p v:List UInt8} (h:v≠[]):nd1 (110::p,v)=some (p,decide (v=[100]),[]):=by grind [nd1]
theorem rE:∀ {L:List P2},(L.map (·.1)).Nodup->((L.filterMap nd1).map (·.1)).Nodup
 | [],_=>by simp
 | x::L,h=>by
  rw [List.map_cons,List.nodup_cons] at h
  have ih:=rE h.2
  rw [List.filterMap_cons]
  split
  ·exact ih
  ·rename_i e he
   rw [List.map_cons,List.nodup_cons]
   refine ⟨fun hm=>h.1 ?_,ih⟩
   obtain ⟨e',he',e1⟩:=List.mem_map.1 hm
   obtain ⟨y,hy,e2⟩:=List.mem_filterMap.1 he'
   have a1:=(sM he).1
   have a2:=(sM e2).1
   rw [a1,<- e1,<- a2]
   exact List.mem_map.2 ⟨y,hy,rfl⟩
theorem tM {L:List P2} (h:RF L) (hL:L.length<=1000):∃ l,vN l/\Enum (rdF L) l/\L=cH l/\(L.map (·.1)).Nodup:=by
 obtain ⟨h1,h2⟩:=h
 obtain ⟨l,hE,hl⟩:=iU L
 have hk:=h1.ent hE
 have e:=sH h1 hE (by omega)
 rw [h2] at e
 refine ⟨l,hk,hE,e,?_⟩
 rw [e]
 exact ((List.mergeSort_perm _ leP).map _).nodup_iff.2 (sB hk.nd hk.len)
theorem aNu {l:List Ent} {x:P2} (h:x∈cH l):∃ e∈l,(x.1=110::e.1/\x.2≠[]/\decide (x.2=[100])=e.2.1)\/(e.2.1=false/\∃ c,x.1=99::(e.1++[0,c])):=by grind [prs2_mem,bM,kD]
theorem aHe {l:List Ent} {e:Ent} (h:e∈l):(e.1,e.2.1,[])∈(cH l).filterMap nd1:=by
 rw [List.mem_filterMap]
 by_cases hd:e.2.1=true
 ·refine ⟨(110::e.1,[100]),prs2_mem.2 ⟨e,h,by grind [bM]⟩,?_⟩
  rw [aBf (by simp),hd];simp
 ·refine ⟨(110::e.1,102::gU e.2.2.length),prs2_mem.2 ⟨e,h,by grind [bM]⟩,?_⟩
  simp_all [aBf]
def shp (l:List Ent):List (List UInt8×Bool):=l.map fun x=>(x.1,x.2.1)
theorem vC {l l':List Ent} (h:shp l=shp l'):l.map (·.1)=l'.map (·.1):=by
 have e:∀ l:List Ent,(shp l).map (·.1)=l.map (·.1):=fun l=>by simp [shp]
 grind
structure N2 (L:List P2) (l1:List Ent) (k:Nat) (l:List Ent):Prop where
 sh:shp l=shp l1
 ln:∀ (j:Nat) x,l[j]?=some x->x.2.2.length<=k*10000
 dr:∀ (j:Nat) x,l[j]?=some x->x.2.1=true->x.2.2=[]
 rf:RF L->∀ (j:Nat) x,l[j]?=some x->x.2.2=((L.take k).filterMap (cof x.1)).flatten
def GdN (l:List Ent) (x:Ent):Prop:=okP x.1=true/\x.2.2.length<=192/\(x.1=[47]->x.2.1=true)/\(x.1≠[47]->∃ (i:Nat) (d:List UInt8),rFindO l (par x.1)=some (i:Int)/\l[i]?=some (par x.1,true,d))
theorem aC3 {l:List Ent} (hn:(l.map (·.1)).Nodup) {i j:Nat} {x y:Ent} (hi:l[i]?=some x) (hj:l[j]?=some y) (h:x.1=y.1):i=j/\x=y:=by
 have a1:(l.map (·.1))[i]?=some x.1:=by grind
 have a2:(l.map (·.1))[j]?=some x.1:=by grind
 grind [List.getElem_inj]
theorem aJ0 (L:List P2) (hL:L.length<=1000000):∃ b,oF L=some b/\(b=true↔∀ i (hi:i+1<L.length),L[i].1<L[i+1].1):=by
 unfold oF
 refine dR (C:=fun o=>∃ b,o=some b/\(b=true↔∀ i (hi:i+1<L.length),L[i].1<L[i+1].1)) (fun k (t:Int)=>t=((k+1:Nat):Int)/\∀ i (hi:i+1<L.length),i<k->L[i].1<L[i+1].1) (fun r=>(r=.inl ()/\∀ i (hi:i+1<L.length),L[i].1<L[i+1].1)\/(r=.inr false/\¬ ∀ i (hi:i+1<L.length),L[i].1<L[i+1].1)) (L.length-1) ⟨rfl,fun i hi h=>by omega⟩ ?_ ?_ ?_
 ·rintro k _ hk ⟨rfl,h⟩
  have hk1:k+1<L.length:=by omega
  rw [if_pos (by omega),aF (by omega) (by omega),show ((k+1:Nat):Int)-1=(k:Int) by omega,aX (show k<L.length by omega),aX hk1]
  simp only [obS]
  have hg:mL L[k].1 L[k+1].1=true↔¬ L[k].1<L[k+1].1:=by
   have:mL L[k].1 L[k+1].1=!aT L[k].1 L[k+1].1:=rfl
   rw [this,<- fI];simp
  by_cases hlt:L[k].1<L[k+1].1
  ·rw [if_neg (fun h=>hg.1 h hlt),aF (by omega) (by omega)]
   refine .inl ⟨_,rfl,by omega,fun i hi hik=>?_⟩
   by_cases e:i=k
   ·subst e;exact hlt
   ·exact h i hi (by omega)
  ·rw [if_pos (hg.2 hlt)]
   exact .inr ⟨_,rfl,.inr ⟨rfl,fun h=>hlt (h k hk1)⟩⟩
 ·rintro _ ⟨rfl,h⟩
  refine ⟨_,by rw [if_neg (by omega)],.inl ⟨rfl,fun i hi=>h i hi (by omega)⟩⟩
 ·rintro _ (⟨rfl,h⟩ | ⟨rfl,h⟩)
  ·exact ⟨true,rfl,by simpa using h⟩
  ·exact ⟨false,rfl,by simpa using h⟩
theorem aIp {L:List P2} (h:∀ i (hi:i+1<L.length),L[i].1<L[i+1].1):(L.map (·.1)).Nodup:=by
 have hp:∀ m i (hi:i+1+m<L.length),(L[i]'(by omega)).1<(L[i+1+m]'hi).1:=by
  intro m
  induction m with
  | zero=>intro i hi;exact h i hi
  | succ m ih=>intro i hi;exact eN (ih i (by omega)) (h (i+1+m) (by omega))
 rw [List.nodup_iff_pairwise_ne,List.pairwise_map,List.pairwise_iff_getElem]
 intro i j hi hj hij e
 have:=hp (j-i-1) i (by omega)
 grind
theorem aQa {L:List P2} (h:RF L) (hL:L.length<=1000):∀ i (hi:i+1<L.length),L[i].1<L[i+1].1:=by
 obtain ⟨l,hk,_,e,_⟩:=tM h hL
 have hs:L.Pairwise ltP:=by rw [e];exact oE (sB hk.nd hk.len)
 intro i hi
 have:=List.pairwise_iff_getElem.1 hs i (i+1) (by omega) hi (by omega)
 exact (fX _ _).1 this
theorem aF2 {α β:Type} {X:Option α} {K:α->Option β} {C:Option β->Prop} (Q:α->Prop) (hX:∃ a,X=some a/\Q a) (hK:∀ a,Q a->C (K a)):C (X.bind K):=by grind
theorem aAr {a:UInt8} {n:Nat} (hn:n<256) (h:((a.toNat:Nat):Int)=(n:Int)):a=UInt8.ofNat n:=by
 obtain rfl:n=a.toNat:=by omega
 simp
section
variable {L:List P2} {l1 l:List Ent} {k:Nat}
theorem N2.skip (h:N2 L l1 k l) (hk:k<L.length) (hc:RF L->∀ p,cof p L[k]=none):N2 L l1 (k+1) l:=by
 refine ⟨h.sh,fun j x hx=>Nat.le_trans (h.ln j x hx) (Nat.mul_le_mul_right _ (by omega)),h.dr,fun hr j x hx=>?_⟩
 rw [h.rf hr j x hx,List.take_succ_eq_append_getElem hk,List.filterMap_append,List.filterMap_cons,hc hr]
 simp
theorem aGd {a:UInt8} {r v p:List UInt8} (h:a≠99):cof p (a::r,v)=none:=by grind [cof]
theorem aD1 (hr:RF L) (hL:L.length<=1000) (hk:k<L.length) {r v:List UInt8} (hx:L[k]=(99::r,v)):∃ p c,r=p++[0,c]/\(p,false,[])∈L.filterMap nd1/\∀ q,cof q L[k]=if p=q then some v else none:=by
 obtain ⟨le,hk',hE,eL,hnd⟩:=tM hr hL
 have hm:L[k]∈cH le:=by rw [<- eL];exact List.getElem_mem hk
 obtain ⟨e,he,⟨h1,_⟩ | ⟨h1,c,h2⟩⟩:=aNu hm
 ·rw [hx] at h1;simp at h1
 ·rw [hx] at h2
  simp only [List.cons.injEq,true_and] at h2
  have hn:=aHe he
  rw [<- eL,h1] at hn
  refine ⟨e.1,c,h2,hn,fun q=>?_⟩
  rw [hx]
  unfold cof
  simp only [true_and]
  rw [h2,yA (yQ (hk'.ok e he))]
theorem aNw (hr:RF L) (hL:L.length<=1000) (hk:k<L.length) {a:UInt8} {r v:List UInt8} (hx:L[k]=(a::r,v)) (h:r.length<2):a≠99:=by grind [aD1]
end
theorem vP {L:List P2} {j:Nat} {x:Ent} (h:(L.filterMap nd1)[j]?=some x):x.2.2=[]:=by
 obtain ⟨y,_,hy⟩:=List.mem_filterMap.1 (List.mem_of_getElem? h)
 grind [sM]
theorem uD {L:List P2} (hr:RF L) (hL:L.length<=1000) {l:List Ent} (h:N2 L (L.filterMap nd1) L.length l):Enum (rdF L) l:=by
 obtain ⟨le,hk',hE,eL,hnd⟩:=tM hr hL
 have hkey:=vC h.sh
 have hn:(l.map (·.1)).Nodup:=by rw [hkey];exact rE hnd
 refine ⟨hn,fun q=>?_⟩
 cases hq:aZ q l with
 | none =>
  cases hf:rdF L q with
  | none=>rfl
  | some f =>
   have hm:=(bC hE).2 hf
   have h1:=aHe hm
   rw [<- eL] at h1
   have h2:q∈l.map (·.1):=by rw [hkey];exact List.mem_map.2 ⟨_,h1,rfl⟩
   obtain ⟨y,hy,rfl⟩:=List.mem_map.1 h2
   rw [cO hn (show (y.1,y.2)∈l from hy)] at hq
   cases hq
 | some f =>
  have hm:=dT hq
  obtain ⟨j,hj,hx⟩:=List.getElem_of_mem hm
  have hj':l[j]?=some (q,f):=by rw [List.getElem?_eq_getElem hj,hx]
  have hd:=h.rf hr j _ hj'
  rw [List.take_length] at hd
  have h3:(q,f.1)∈shp (L.filterMap nd1):=by rw [<- h.sh];exact List.mem_map.2 ⟨_,hm,rfl⟩
  obtain ⟨y,hy,e⟩:=List.mem_map.1 h3
  obtain ⟨z,hz,hyz⟩:=List.mem_filterMap.1 hy
  obtain ⟨a1,_,a3⟩:=sM hyz
  obtain ⟨zk,zv⟩:=z
  simp only at a1
  have e1:y.1=q:=congrArg (·.1) e
  have e2:y.2.1=f.1:=congrArg (·.2) e
  rw [a3] at e2
  simp only at e2
  subst a1
  rw [e1] at hz
  have ht:=rH q zv L (bG,bG) hnd hz
  unfold rdF gE
  rw [ht,e2]
  obtain ⟨fb,fd⟩:=f
  cases fb with
  | true =>
   have:=h.dr j _ hj' rfl
   simp only at this
   rw [this]
  | false =>
   simp only at hd ⊢
   rw [rC q L,hd]
   simp [bG]
theorem aJl {L:List P2} (hr:RF L) {l:List Ent} (hE:Enum (rdF L) l) (hl:l.length<=1000000):∀ x∈l,GdN l x:=by
 intro x hx
 obtain ⟨p,f⟩:=x
 have hs:=hr.1
 have hf:=(bC hE).1 hx
 refine ⟨hs.ok _ _ hf,hs.len _ _ hf,fun e=>?_,fun e=>?_⟩
 ·obtain ⟨d,hd⟩:=hs.root
  simp only at e
  rw [e,hd] at hf
  cases hf;rfl
 ·obtain ⟨d,hd⟩:=hs.up _ _ hf e
  have hm:=(bC hE).2 hd
  rcases qF l hl (par p) with ⟨_,h2⟩ | ⟨i,g,h1,h2⟩
  ·exact absurd rfl (h2 _ hm)
  ·have:=(bC hE).1 (List.mem_of_getElem? h2)
   rw [hd] at this
   cases this
   exact ⟨i,d,h1,h2⟩
theorem aGq (L:List P2) (h:SmL L):∃ l b,rNodes L=some (l,b)/\l.length<=L.length/\(b=true->RF L/\(l.map (·.1)).Nodup/\Snd (fsL l)/\bK (fsL l)=L)/\(RF L->b=true):=by
 obtain ⟨hL,hb⟩:=h
 have hl1:(L.filterMap nd1).length<=L.length:=List.length_filterMap_le _ _
 unfold rNodes
 refine dR (C:=fun (o:Option (List Ent×Bool))=>∃ l b,o=some (l,b)/\l.length<=L.length/\(b=true->RF L/\(l.map (·.1)).Nodup/\Snd (fsL l)/\bK (fsL l)=L)/\(RF L->b=true)) (fun k (q:List Ent×Int)=>q=((L.take k).filterMap nd1,(k:Int))) (fun r=>r=L.filterMap nd1) L.length rfl ?_ ?_ ?_
 ·rintro k _ hk rfl
  simp only
  rw [if_pos (by omega),aX hk]
  simp only [obS]
  have hacc:((L.take k).filterMap nd1).length<=1000:=Nat.le_trans (List.length_filterMap_le _ _) (by rw [List.length_take];omega)
  have hnx:(L.take (k+1)).filterMap nd1=(L.take k).filterMap nd1++(nd1 L[k]).toList:=by
   rw [List.take_succ_eq_append_getElem hk,List.filterMap_append]
   cases hh:nd1 L[k]<;>simp [List.filterMap_cons,hh]
  generalize (L.take k).filterMap nd1=acc at hacc hnx ⊢
  refine .inl ⟨((L.take (k+1)).filterMap nd1,((k+1:Nat):Int)),?_,rfl⟩
  obtain ⟨key,v,hx⟩:∃ key v,L[k]=(key,v):=⟨_,_,rfl⟩
  rw [hnx,hx,aF (by omega) (by omega)]
  simp only
  cases key with
  | nil =>
   rw [if_pos (by simp)]
   simp [nd1]
  | cons a r =>
   rw [if_neg (by simp only [List.length_cons];omega),show aD (a::r) 0=some a from cM (i:=0) rfl]
   simp only [obS]
   by_cases ha:a=110
   ·subst ha
    rw [if_pos (by rfl)]
    cases v with
    | nil =>
     rw [if_pos (by simp)]
     simp [nd1]
    | cons c v =>
     rw [if_neg (by simp only [List.length_cons];omega),show (1:Int)=((1:Nat):Int) from rfl,cD (by simp) (Nat.le_refl _)]
     simp only [obS,List.take_length,List.drop_succ_cons,List.drop_zero]
     rw [bI (by simp;omega)]
     simp [nd1]
   ·rw [if_neg (fun h=>ha (by have:=aAr (n:=110) (by omega) h;exact this))]
    simp [nd1,ha]
 ·rintro _ rfl
  simp only
  rw [if_neg (by omega),List.take_length]
  exact ⟨_,rfl,rfl⟩
 rintro _ rfl
 refine dR (C:=fun (o:Option (List Ent×Bool))=>∃ l b,o=some (l,b)/\l.length<=L.length/\(b=true->RF L/\(l.map (·.1)).Nodup/\Snd (fsL l)/\bK (fsL l)=L)/\(RF L->b=true)) (fun k (q:List Ent×Int)=>q.2=(k:Int)/\N2 L (L.filterMap nd1) k q.1) (fun (r:List Ent ⊕ (List Ent×Bool))=>(∃ l,r=.inl l/\N2 L (L.filterMap nd1) L.length l)\/∃ l,r=.inr (l,false)/\l.length<=L.length/\¬ RF L) L.length (s0:=((L.filterMap nd1,0):List Ent×Int)) ⟨rfl,rfl,fun j x hx=>by rw [vP hx];simp,fun j x hx _=>vP hx,fun _ j x hx=>by rw [vP hx];simp⟩ ?_ ?_ ?_
 ·rintro k ⟨l,i⟩ hk ⟨h1,h2⟩
  simp only at h1 h2
  subst h1
  have hll:l.length<=L.length:=by
   have:=congrArg List.length h2.sh
   unfold shp at this
   simp only [List.length_map] at this;omega
  simp only
  rw [if_pos (by omega),aX hk]
  simp only [obS]
  refine aF2 (C:=fun (o:Option ((List Ent×Int) ⊕ (List Ent ⊕ (List Ent×Bool))))=>(∃ s',o=some (Sum.inl s')/\(s'.2=((k+1:Nat):Int)/\N2 L (L.filterMap nd1) (k+1) s'.1))\/∃ r,o=some (Sum.inr r)/\((∃ l,r=.inl l/\N2 L (L.filterMap nd1) L.length l)\/∃ l,r=.inr (l,false)/\l.length<=L.length/\¬ RF L)) (fun (o:List Ent ⊕ (List Ent×Bool))=>(∃ l',o=.inl l'/\N2 L (L.filterMap nd1) (k+1) l')\/∃ l',o=.inr (l',false)/\l'.length<=L.length/\¬ RF L) ?_ ?_
  ·obtain ⟨key,v,hx⟩:∃ key v,L[k]=(key,v):=⟨_,_,rfl⟩
   have hbx:=hb _ (List.getElem_mem hk)
   rw [hx] at hbx
   simp only at hbx
   have hskip:(RF L->∀ p,cof p (key,v)=none)->N2 L (L.filterMap nd1) (k+1) l:=fun hc=>h2.skip hk (by rw [hx];exact hc)
   rw [hx]
   simp only
   by_cases h3:(key.length:Int)<3
   ·rw [if_pos h3]
    refine ⟨_,rfl,.inl ⟨l,rfl,hskip fun hr p=>?_⟩⟩
    cases key with
    | nil=>rfl
    | cons a r=>exact aGd (aNw hr hL hk hx (by simp only [List.length_cons] at h3;omega))
   rw [if_neg h3]
   cases key with
   | nil=>simp at h3
   | cons a r =>
    rw [show aD (a::r) 0=some a from cM (i:=0) rfl]
    simp only [obS]
    by_cases ha:a=99
    case neg =>
     rw [if_neg (fun h=>ha (by have:=aAr (n:=99) (by omega) h;exact this))]
     exact ⟨_,rfl,.inl ⟨l,rfl,hskip fun _ p=>aGd ha⟩⟩
    subst ha
    simp only [List.length_cons] at h3 hbx
    rw [if_pos (by rfl),aF (by simp only [List.length_cons];omega) (by simp only [List.length_cons];omega),show (1:Int)=((1:Nat):Int) from rfl,show ((99::r).length:Int)-2=((r.length-1:Nat):Int) by simp only [List.length_cons];omega,cD (by omega) (by simp only [List.length_cons];omega)]
    simp only [obS]
    generalize hpp:List.drop 1 (List.take (r.length-1) (99::r))=p
    have hpr:RF L->∃ c,r=p++[0,c]/\(p,false,[])∈L.filterMap nd1/\∀ q,cof q L[k]=if p=q then some v else none:=fun hr=>by
     obtain ⟨p',c,e,e2,e3⟩:=aD1 hr hL hk hx
     have:p=p':=by
      rw [<- hpp,e]
      simp
     rw [this]
     exact ⟨c,e,e2,e3⟩
    have hpm:RF L->∃ x∈l,x.1=p/\x.2.1=false:=fun hr=>by
     obtain ⟨c,_,e2,_⟩:=hpr hr
     have:(p,false)∈shp l:=by rw [h2.sh];exact List.mem_map.2 ⟨_,e2,rfl⟩
     obtain ⟨x,hx,e⟩:=List.mem_map.1 this
     exact ⟨x,hx,congrArg (·.1) e,congrArg (·.2) e⟩
    have hnd:RF L->(l.map (·.1)).Nodup:=fun hr=>by
     rw [vC h2.sh]
     obtain ⟨_,_,_,_,h⟩:=tM hr hL
     exact rE h
    rcases qF l (by omega) p with ⟨e,hne⟩ | ⟨i,f,e,hi⟩
    ·rw [e]
     simp only [obS]
     rw [if_pos (by omega)]
     refine ⟨_,rfl,.inr ⟨l,rfl,hll,fun hr=>?_⟩⟩
     obtain ⟨x,hx,e,_⟩:=hpm hr
     exact hne x hx e
    ·have hfi:RF L->f.1=false:=fun hr=>by
      obtain ⟨x,hx,e1,e2⟩:=hpm hr
      obtain ⟨j,hj,hxj⟩:=List.getElem_of_mem hx
      have hj':l[j]?=some x:=by rw [List.getElem?_eq_getElem hj,hxj]
      have:=(aC3 (hnd hr) hi hj' e1.symm).2
      rw [<- this] at e2;exact e2
     rw [e]
     simp only [obS]
     rw [if_neg (by omega),cM hi]
     simp only [obS]
     obtain ⟨fb,fd⟩:=f
     simp only at hfi ⊢
     have hln:=h2.ln i _ hi
     simp only at hln
     cases fb with
     | true =>
      rw [if_pos rfl]
      exact ⟨_,rfl,.inr ⟨l,rfl,hll,fun hr=>by have:=hfi hr;cases this⟩⟩
     | false =>
      have hfd:fd.length<=1000*10000:=Nat.le_trans hln (Nat.mul_le_mul_right 10000 (show k<=1000 by omega))
      simp only [Nat.reduceMul] at hfd
      have ha1:([]:List UInt8).length+fd.length<=100000000:=by clear hln h2;simp only [List.length_nil];omega
      have ha2:fd.length+v.length<=100000000:=by clear hln h2;omega
      rw [if_neg (by simp),bI (Nat.le_trans ha1 (by decide))]
      simp only [obS,List.nil_append]
      rw [bI (Nat.le_trans ha2 (by decide))]
      simp only [obS,Int.toNat_natCast]
      have hil:=(List.getElem?_eq_some_iff.1 hi).1
      have hx0:=(List.getElem?_eq_some_iff.1 hi).2
      refine ⟨_,rfl,.inl ⟨_,rfl,?_,fun j x hj=>?_,fun j x hj hd=>?_,fun hr j x hj=>?_⟩⟩
      ·rw [<- h2.sh]
       unfold shp
       rw [List.map_set]
       apply List.ext_getElem?
       intro j
       rw [List.getElem?_set]
       by_cases ej:i=j
       ·subst ej
        rw [if_pos rfl,if_pos (by simpa using hil),List.getElem?_map,hi];rfl
       ·rw [if_neg ej]
      ·rw [List.getElem?_set] at hj
       by_cases ej:i=j
       ·rw [if_pos ej,if_pos hil] at hj
        cases hj
        have hv:(fd++v).length<=k*10000+10000:=by rw [List.length_append];exact Nat.add_le_add hln hbx.2
        exact Nat.le_trans hv (Nat.le_of_eq (Nat.succ_mul k 10000).symm)
       ·rw [if_neg ej] at hj
        exact Nat.le_trans (h2.ln j x hj) (Nat.mul_le_mul_right _ (by omega))
      ·rw [List.getElem?_set] at hj
       by_cases ej:i=j
       ·rw [if_pos ej,if_pos hil] at hj
        cases hj
        cases hd
       ·rw [if_neg ej] at hj
        exact h2.dr j x hj hd
      ·obtain ⟨c,_,_,e3⟩:=hpr hr
       rw [List.take_succ_eq_append_getElem hk,List.filterMap_append,List.filterMap_cons,e3 x.1]
       rw [List.getElem?_set] at hj
       by_cases ej:i=j
       ·rw [if_pos ej,if_pos hil] at hj
        cases hj
        have:=h2.rf hr i _ hi
        simp only at this
        simp only [if_true]
        rw [this];simp
       ·rw [if_neg ej] at hj
        have hne:p≠x.1:=fun e=>ej (aC3 (hnd hr) hi hj e).1
        rw [if_neg hne,h2.rf hr j x hj];simp
  ·rintro _ (⟨l',rfl,h⟩ | ⟨l',rfl,h,h'⟩)
   ·refine .inl ⟨(l',_),rfl,?_,h⟩
    simp only
    rw [aF (by omega) (by omega)];rfl
   ·exact .inr ⟨_,rfl,.inr ⟨l',rfl,h,h'⟩⟩
 ·rintro ⟨l,i⟩ ⟨h1,h2⟩
  simp only at h1 h2
  subst h1
  simp only
  rw [if_neg (by omega)]
  exact ⟨_,rfl,.inl ⟨l,rfl,h2⟩⟩
 rintro _ (⟨l,rfl,h2⟩ | ⟨l,rfl,h3,h4⟩)
 case inr=>exact ⟨l,false,rfl,h3,(fun h=>by cases h),fun hr=>absurd hr h4⟩
 have hll:l.length<=L.length:=by
  have:=congrArg List.length h2.sh
  unfold shp at this
  simp only [List.length_map] at this;omega
 simp only [Sum.elim_inl]
 refine dR (C:=fun (o:Option (List Ent×Bool))=>∃ l b,o=some (l,b)/\l.length<=L.length/\(b=true->RF L/\(l.map (·.1)).Nodup/\Snd (fsL l)/\bK (fsL l)=L)/\(RF L->b=true)) (fun k (t:Int)=>t=(k:Int)/\∀ (j:Nat) x,l[j]?=some x->j<k->GdN l x) (fun (r:Unit ⊕ (List Ent×Bool))=>(r=.inl ()/\∀ x∈l,GdN l x)\/(r=.inr (l,false)/\∃ x∈l,¬ GdN l x)) l.length ⟨rfl,fun j x _ h=>by omega⟩ ?_ ?_ ?_
 ·rintro k _ hk ⟨rfl,hg⟩
  rw [if_pos (by omega),aX hk]
  simp only [obS]
  rw [lQ]
  simp only [obS]
  have hmk:=List.getElem_mem hk
  have hxk:l[k]?=some l[k]:=List.getElem?_eq_getElem hk
  generalize l[k]=x at hmk hxk ⊢
  refine aF2 (C:=fun (o:Option (Int ⊕ (Unit ⊕ (List Ent×Bool))))=>(∃ s',o=some (Sum.inl s')/\(s'=((k+1:Nat):Int)/\∀ (j:Nat) x,l[j]?=some x->j<k+1->GdN l x))\/∃ r,o=some (Sum.inr r)/\((r=.inl ()/\∀ x∈l,GdN l x)\/(r=.inr (l,false)/\∃ x∈l,¬ GdN l x))) (fun (o:Unit ⊕ (List Ent×Bool))=>(o=.inl ()/\GdN l x)\/(o=.inr (l,false)/\¬ GdN l x)) ?_ ?_
  ·cases hok:okP x.1 with
   | false =>
    rw [if_pos (by rfl)]
    exact ⟨_,rfl,.inr ⟨rfl,fun h=>by have:=h.1;rw [hok] at this;cases this⟩⟩
   | true =>
    rw [if_neg (by simp)]
    by_cases h192:192<(x.2.2.length:Int)
    ·rw [if_pos h192]
     exact ⟨_,rfl,.inr ⟨rfl,fun h=>by have:=h.2.1;omega⟩⟩
    rw [if_neg h192]
    by_cases hroot:x.1=[47]
    ·rw [if_pos hroot]
     cases hd:x.2.1 with
     | false =>
      rw [if_pos (by rfl)]
      exact ⟨_,rfl,.inr ⟨rfl,fun h=>by have:=h.2.2.1 hroot;rw [hd] at this;cases this⟩⟩
     | true =>
      rw [if_neg (by simp)]
      exact ⟨_,rfl,.inl ⟨rfl,hok,by omega,fun _=>hd,fun h=>absurd hroot h⟩⟩
    rw [if_neg hroot,vH]
    simp only [obS]
    rcases qF l (by omega) (par x.1) with ⟨e,hne⟩ | ⟨i,f,e,hi⟩
    ·rw [e]
     simp only [obS]
     rw [if_pos (by omega)]
     refine ⟨_,rfl,.inr ⟨rfl,fun h=>?_⟩⟩
     obtain ⟨i,d,h1,_⟩:=h.2.2.2 hroot
     rw [e] at h1
     cases h1
    ·rw [e]
     simp only [obS]
     rw [if_neg (by omega),cM hi]
     simp only [obS]
     obtain ⟨fb,fd⟩:=f
     cases fb with
     | false =>
      rw [if_pos (by rfl)]
      refine ⟨_,rfl,.inr ⟨rfl,fun h=>?_⟩⟩
      obtain ⟨i',d,h1,h3⟩:=h.2.2.2 hroot
      rw [e] at h1
      have:i=i':=by have:=Option.some.inj h1;omega
      subst this
      rw [hi] at h3
      cases h3
     | true =>
      rw [if_neg (by simp)]
      exact ⟨_,rfl,.inl ⟨rfl,hok,by omega,fun h=>absurd h hroot,fun _=>⟨i,fd,e,hi⟩⟩⟩
  ·rintro _ (⟨rfl,h⟩ | ⟨rfl,h⟩)
   ·refine .inl ⟨_,rfl,?_,fun j y hj hjk=>?_⟩
    ·rw [aF (by omega) (by omega)];rfl
    ·by_cases e:j=k
     ·subst e
      rw [hxk] at hj
      cases hj;exact h
     ·exact hg j y hj (by omega)
   ·exact .inr ⟨_,rfl,.inr ⟨rfl,x,hmk,h⟩⟩
 ·rintro _ ⟨rfl,hg⟩
  rw [if_neg (by omega)]
  refine ⟨_,rfl,.inl ⟨rfl,fun x hx=>?_⟩⟩
  obtain ⟨j,hj,rfl⟩:=List.getElem_of_mem hx
  exact hg j _ (List.getElem?_eq_getElem hj) hj
 rintro _ (⟨rfl,hg⟩ | ⟨rfl,x,hx,hg⟩)
 case inr=>exact ⟨l,false,rfl,hll,(fun h=>by cases h),fun hr=>absurd (aJl hr (uD hr hL h2) (by omega) x hx) hg⟩
 simp only [Sum.elim_inl]
 rcases qF l (by omega) [47] with ⟨e,hne⟩ | ⟨i,f,e,hi⟩
 ·rw [e]
  simp only [obS]
  rw [if_neg (by omega)]
  refine ⟨l,false,rfl,hll,(fun h=>by cases h),fun hr=>?_⟩
  obtain ⟨d,hd⟩:=hr.1.root
  exact absurd rfl (hne _ ((bC (uD hr hL h2)).2 hd))
 rw [e]
 simp only [obS]
 rw [if_pos (by omega)]
 obtain ⟨b,hb1,hb2⟩:=aJ0 L (by omega)
 rw [hb1]
 simp only [obS]
 cases b with
 | false =>
  rw [if_neg (by simp)]
  exact ⟨l,false,rfl,hll,(fun h=>by cases h),fun hr=>by have:=hb2.2 (aQa hr hL);cases this⟩
 | true =>
  rw [if_pos rfl]
  have hnd:(l.map (·.1)).Nodup:=by rw [vC h2.sh];exact rE (aIp (hb2.1 rfl))
  have hE:Enum (fsL l) l:=⟨hnd,fun _=>rfl⟩
  have hs:Snd (fsL l):=by
   have hmem:∀ p f,fsL l p=some f->(p,f)∈l:=fun p f h=>(bC hE).2 h
   refine ⟨?_,fun p f h=>(hg _ (hmem p f h)).1,fun p f h=>(hg _ (hmem p f h)).2.1,fun p d h=>?_,fun p f h hp=>?_⟩
   ·obtain ⟨fb,fd⟩:=f
    have:=(hg _ (List.mem_of_getElem? hi)).2.2.1 rfl
    simp only at this
    subst this
    exact ⟨fd,(bC hE).1 (List.mem_of_getElem? hi)⟩
   ·obtain ⟨j,hj,hx⟩:=List.getElem_of_mem (hmem p _ h)
    exact h2.dr j (p,true,d) (by rw [List.getElem?_eq_getElem hj,hx]) rfl
   ·obtain ⟨i',d,_,h3⟩:=(hg _ (hmem p f h)).2.2.2 hp
    exact ⟨d,(bC hE).1 (List.mem_of_getElem? h3)⟩
  have hc:Crd (fsL l) 1000:=⟨l,hE,by omega⟩
  have hbk:=hs.prs hc (by omega)
  rw [aAd hs hE (by omega)]
  simp only [obS]
  rw [vG _ _ (by have:=hbk.2.2.1;omega)]
  simp only [obS]
  refine ⟨l,_,rfl,hll,fun h=>?_,fun hr=>decide_eq_true ?_⟩
  ·have e:=of_decide_eq_true h
   have e2:rdF L=fsL l:=by rw [<- e];exact hbk.2.1
   exact ⟨⟨by rw [e2];exact hs,by rw [e2];exact e⟩,hnd,hs,e⟩
  ·have e2:rdF L=fsL l:=funext fun p=>(uD hr hL h2).2 p
   rw [<- e2];exact hr.2
end Go.Proofs.YtkcgdaihfblncaaGreatDoor
