/- Texts Pth, Fil, FilP, FilQ, FilO, FilD, FilM. -/
import Derived.Test.YtnagibpmfabkjaaGreatDoorQ13
import Derived.Test.YtnagibpmfabkjaaGreatDoorQ6
set_option linter.unusedSimpArgs false
set_option linter.unusedVariables false
namespace Go.Tri
open Go.RowKit
section
variable {α σ ρ:Type}
theorem tJ (xs:List α) (g:α->Option ρ) (e:ρ) {f:Int->Option (Int ⊕ ρ)} (h1:∀ (i:Nat) (h:i<xs.length),f (i:Int)=some (match g xs[i] with | none=>.inl ((i+1:Nat):Int) | some r=>.inr r)) (h2:f (xs.length:Int)=some (.inr e)):aU f 0=some ((xs.findSome? g).getD e):=by
 have key:∀ (m i:Nat),i+m=xs.length->aU f (i:Int)=some (((xs.drop i).findSome? g).getD e):=by
  intro m
  induction m with
  | zero =>
   intro i h;obtain rfl:i=xs.length:=by omega
   rw [fR,h2];simp
  | succ m ih =>
   intro i h;have hi:i<xs.length:=by omega
   rw [fR,h1 i hi,List.drop_eq_getElem_cons hi];cases hg:g xs[i] with
   | none=>simp only [obS,List.findSome?_cons,hg];exact ih (i+1) (by omega)
   | some r=>simp only [obS,List.findSome?_cons,hg,Option.getD_some]
 have:=key xs.length 0 (by omega);simpa using this
theorem aCp {τ:Type} (mk:σ->Int->τ) (xs:List α) (g:σ->α->σ) (fin:σ->ρ) (s0:σ) (I:Nat->σ->Prop) {f:τ->Option (τ ⊕ ρ)} (h0:I 0 s0) (h1:∀ (i:Nat) (s:σ) (h:i<xs.length),I i s->f (mk s (i:Int))=some (.inl (mk (g s xs[i]) ((i+1:Nat):Int)))/\I (i+1) (g s xs[i])) (h2:∀ s,I xs.length s->f (mk s (xs.length:Int))=some (.inr (fin s))):aU f (mk s0 0)=some (fin (xs.foldl g s0))/\I xs.length (xs.foldl g s0):=by
 have key:∀ (m i:Nat) (s:σ),i+m=xs.length->I i s->aU f (mk s (i:Int))=some (fin ((xs.drop i).foldl g s))/\I xs.length ((xs.drop i).foldl g s):=by
  intro m
  induction m with
  | zero =>
   intro i s h hi;obtain rfl:i=xs.length:=by omega
   rw [fR,h2 s hi];simp [hi]
  | succ m ih =>
   intro i s h hs;have hi:i<xs.length:=by omega
   obtain ⟨h3,h4⟩:=h1 i s hi hs;rw [fR,h3,List.drop_eq_getElem_cons hi];exact ih (i+1) _ (by omega) h4
 have:=key xs.length 0 s0 (by omega) h0;simpa using this
theorem yL {β:Type} {f:σ->β->Option (σ ⊕ ρ)} (g:σ->β->σ):∀ (l:List β) (s:σ),(∀ x∈l,∀ s,f s x=some (.inl (g s x)))->dC f s l=some (.inl (l.foldl g s))
 | [],_,_=>rfl
 | x::l,s,h=>by
  show (f s x).bind _=_;rw [h x List.mem_cons_self];exact yL g l _ fun y hy=>h y (List.mem_cons_of_mem _ hy)
theorem zD {β:Type} {f:σ->β->Option (σ ⊕ ρ)} (g:σ->β->σ) (I:List β->σ->Prop) (l0:List β):∀ (l pre:List β) (s:σ),pre++l=l0->I pre s->(∀ pre x post s,pre++x::post=l0->I pre s->f s x=some (.inl (g s x))/\I (pre++[x]) (g s x))->dC f s l=some (.inl (l.foldl g s))/\I l0 (l.foldl g s)
 | [],pre,s,he,hi,_=>⟨rfl,by simpa [<- he] using hi⟩
 | x::l,pre,s,he,hi,h=>by
  obtain ⟨h1,h2⟩:=h pre x l s he hi;have h3:=zD g I l0 l (pre++[x]) (g s x) (by simpa using he) h2 h;refine ⟨?_,h3.2⟩;show (f s x).bind _=_;rw [h1];exact h3.1
end
def nmC (c:UInt8):Bool:=decide (33<=c.toNat)&&decide (c.toNat<=126)&&decide (c.toNat≠47)
def bS (x:List UInt8):Bool:=x.all nmC&&decide (x≠[])&&decide (x.length<=8)
def NP (xs:List (List UInt8)):Prop:=∀ x∈xs,bS x=true
def pth (xs:List (List UInt8)):List UInt8:=47::jn xs
theorem aI3 {x:List UInt8} (h:bS x=true):∀ c∈x,c≠47:=by
 intro c hc e;simp only [bS,Bool.and_eq_true,List.all_eq_true] at h;have:=h.1.1 c hc;simp only [nmC,Bool.and_eq_true,decide_eq_true_eq] at this;exact this.2 (by rw [e];rfl)
theorem aK8 {x:List UInt8} (h:bS x=true):∀ c∈x,c≠0:=by
 intro c hc e;simp only [bS,Bool.and_eq_true,List.all_eq_true] at h;have:=h.1.1 c hc;simp only [nmC,Bool.and_eq_true,decide_eq_true_eq] at this;have h0:=this.1.1;rw [e] at h0;exact absurd h0 (by decide)
theorem aOe {x:List UInt8} (h:bS x=true):x≠[]:=by
 simp only [bS,Bool.and_eq_true,decide_eq_true_eq] at h;exact h.1.2
theorem tB:jn []=[]:=rfl
theorem nY (x:List UInt8):jn [x]=x:=by simp [jn,Lib.join,List.intercalate,List.intersperse]
theorem lO (x y:List UInt8) (r:List (List UInt8)):jn (x::y::r)=x++47::jn (y::r):=by simp [jn,Lib.join,List.intercalate,List.intersperse]
theorem rH:∀ (a b:List (List UInt8)),a≠[]->b≠[]->jn (a++b)=jn a++47::jn b
 | [],_,h,_=>(h rfl).elim
 | [x],y::r,_,_=>by rw [nY];exact lO x y r
 | [_],[],_,h=>(h rfl).elim
 | x::y::a,b,_,h=>by
  have:=rH (y::a) b (by simp) h;rw [List.cons_append,List.cons_append,lO,lO,<- List.cons_append,this];simp
theorem aBd (r:List UInt8):sp r≠[]:=by
 cases r with
 | nil=>simp [sp]
 | cons c r =>
  simp only [sp];split
  ·simp
  ·split<;>simp
theorem xL:∀ r:List UInt8,jn (sp r)=r
 | []=>rfl
 | c::r=>by
  have ih:=xL r;obtain ⟨h,t,e⟩:∃ h t,sp r=h::t:=by
   cases hs:sp r with
   | nil=>exact (aBd r hs).elim
   | cons h t=>exact ⟨h,t,rfl⟩
  simp only [sp];rw [e] at ih ⊢;split
  ·rename_i hc;rw [lO,ih,hc];rfl
  ·cases t with
   | nil=>rw [nY] at ih ⊢;rw [ih]
   | cons y t=>rw [lO] at ih ⊢;rw [<- ih];rfl
theorem wZ:∀ {x:List UInt8},(∀ c∈x,c≠47)->sp x=[x]
 | [],_=>rfl
 | c::x,h=>by
  have:=wZ (x:=x) fun c hc=>h c (List.mem_cons_of_mem _ hc);simp [sp,this,h c List.mem_cons_self]
theorem zP:∀ {x:List UInt8} (r:List UInt8),(∀ c∈x,c≠47)->sp (x++47::r)=x::sp r
 | [],r,_=>by simp [sp]
 | c::x,r,h=>by
  have:=zP (x:=x) r fun c hc=>h c (List.mem_cons_of_mem _ hc);simp [sp,this,h c List.mem_cons_self]
theorem qG:∀ {xs:List (List UInt8)},xs≠[]->(∀ x∈xs,∀ c∈x,c≠47)->sp (jn xs)=xs
 | [],h,_=>(h rfl).elim
 | [x],_,h=>by rw [nY];exact wZ (h x List.mem_cons_self)
 | x::y::r,_,h=>by
  rw [lO,zP _ (h x List.mem_cons_self),qG (by simp) fun z hz=>h z (List.mem_cons_of_mem _ hz)]
theorem aCe (r:List UInt8):(sp r).length<=r.length+1:=by
 induction r with
 | nil=>simp [sp]
 | cons c r ih =>
  simp only [sp];split
  ·simp;omega
  ·split
   ·rename_i e;rw [e] at ih;simp at ih ⊢;omega
   ·simp
def okP (p:List UInt8):Bool:=decide (p=[47]) || ((p.head?==some 47)&&decide (p.length<=24)&&(sp p.tail).all bS)
def nmP (p:List UInt8):List (List UInt8):=if p=[47] then [] else if okP p=true then sp p.tail else []
theorem NP.sl {xs:List (List UInt8)} (h:NP xs):∀ x∈xs,∀ c∈x,c≠47:=fun x hx=>aI3 (h x hx)
theorem jn_ne {xs:List (List UInt8)} (h:NP xs) (hn:xs≠[]):jn xs≠[]:=by
 intro e;have:=qG hn h.sl;rw [e] at this;have h1:([]:List UInt8)∈xs:=by rw [<- this];simp [sp]
 exact aOe (h _ h1) rfl
theorem xA {xs:List (List UInt8)} (h:NP xs) (hl:(pth xs).length<=24):okP (pth xs)=true:=by
 unfold okP;by_cases hn:xs=[]
 ·subst hn;rfl
 ·have h1:(pth xs).head?=some 47:=rfl;have h2:(pth xs).tail=jn xs:=rfl;rw [h1,h2,qG hn h.sl];simp only [Bool.or_eq_true,Bool.and_eq_true,decide_eq_true_eq,List.all_eq_true];exact .inr ⟨⟨rfl,hl⟩,h⟩
theorem tS {xs:List (List UInt8)} (h:NP xs) (hl:(pth xs).length<=24):nmP (pth xs)=xs:=by
 unfold nmP;by_cases hn:xs=[]
 ·subst hn;rfl
 ·have h2:(pth xs).tail=jn xs:=rfl;rw [if_neg (fun e=>jn_ne h hn (by simpa [pth] using e)),if_pos (xA h hl),h2,qG hn h.sl]
theorem bZ {p:List UInt8} (h:okP p=true):NP (nmP p)/\p=pth (nmP p)/\p.length<=24:=by
 have h':=h;unfold okP at h;simp only [Bool.or_eq_true,Bool.and_eq_true,decide_eq_true_eq,List.all_eq_true] at h;by_cases hp:p=[47]
 ·subst hp;exact ⟨fun x hx=>by simp [nmP] at hx,rfl,by decide⟩
 ·obtain ⟨⟨h1,h2⟩,h3⟩:=h.resolve_left hp;unfold nmP;rw [if_neg hp,if_pos h'];refine ⟨h3,?_,h2⟩;unfold pth;rw [xL];cases p with
  | nil=>simp at h1
  | cons c p=>simp at h1;subst h1;rfl
theorem oF {p:List UInt8} (h:okP p=false):nmP p=[]:=by
 unfold nmP;split
 ·rfl
 ·rw [if_neg (by rw [h];decide)]
theorem yN:nmP [47]=[]:=rfl
theorem jK {p:List UInt8} (h:okP p=true) (hr:p≠[47]):nmP p≠[]:=fun e=>hr (by rw [(bZ h).2.1,e];rfl)
theorem pI (p:List UInt8):(nmP p).length<=p.length+1:=by
 unfold nmP;split
 ·simp
 ·split
  ·have:=aCe p.tail;simp at this;omega
  ·simp
theorem mH {xs:List (List UInt8)} (i:Nat):(jn (xs.take i)).length<=(jn xs).length:=by
 by_cases h1:xs.take i=[]
 ·rw [h1];simp [tB]
 ·by_cases h2:xs.drop i=[]
  ·rw [List.take_of_length_le (List.drop_eq_nil_iff.1 h2)];exact Nat.le_refl _
  ·have:=rH _ _ h1 h2;rw [List.take_append_drop] at this;rw [this];simp
theorem aDt (p:List UInt8):(jn (nmP p)).length<=p.length:=by
 by_cases h:okP p=true
 ·have:=(bZ h).2.1;have h2:=congrArg List.length this;simp only [pth,List.length_cons] at h2;omega
 ·rw [oF (by simpa using h)];simp [tB]
end Go.Tri
namespace Go.Proofs.YtnagibpmfabkjaaGreatDoor
open Go.RowKit Go.Tri
theorem tO (x:List UInt8) (h:x.length<=1500000000):mB x=some (bS x):=by
 unfold mB;rw [tJ x (fun c=>if nmC c=true then none else some (.inr false)) (.inl ()) (fun i hi=>?_) ?_]
 ·simp only [obS];by_cases ha:x.all nmC=true
  ·have:x.findSome? (fun c=>if nmC c=true then none else some (Sum.inr false:Unit ⊕ Bool))=none:=by
    rw [List.findSome?_eq_none_iff];intro c hc;rw [if_pos (List.all_eq_true.1 ha c hc)]
   rw [this];show (if x=[] then some false else some (decide ((x.length:Int)<=8)))=_;unfold bS;rw [ha];by_cases hx:x=[]
   ·simp [hx]
   ·rw [if_neg hx];simp [hx];omega
  ·have:x.findSome? (fun c=>if nmC c=true then none else some (Sum.inr false:Unit ⊕ Bool))=some (.inr false):=by
    have ha':¬ ∀ c∈x,nmC c=true:=fun h=>ha (List.all_eq_true.2 h);clear ha h
    induction x with
    | nil=>exact (ha' (by simp)).elim
    | cons c x ih =>
     rw [List.findSome?_cons];by_cases hc:nmC c=true
     ·rw [if_pos hc];exact ih fun h=>ha' fun d hd=>by
       rcases List.mem_cons.1 hd with rfl | hd
       ·exact hc
       ·exact h d hd
     ·rw [if_neg hc]
   rw [this];show some false=_;unfold bS;rw [show x.all nmC=false by simpa using ha];rfl
 ·rw [if_neg (by omega)]
 ·rw [if_pos (by omega),bP hi];simp only [obS];unfold nmC;by_cases h1:(x[i].toNat:Int)<33
  ·rw [if_pos h1,if_neg (by simp;omega)]
  ·rw [if_neg h1];by_cases h2:126<(x[i].toNat:Int)
   ·rw [if_pos h2,if_neg (by simp;omega)]
   ·rw [if_neg h2];by_cases h3:(x[i].toNat:Int)=47
    ·rw [if_pos h3,if_neg (by simp;omega)]
    ·rw [if_neg h3,if_pos (by simp;omega),aI (by omega) (by omega)];rfl
theorem aMg (xs:List (List UInt8)) (hx:xs.length<=2000000001) (h:∀ x∈xs,x.length<=1500000000):rC xs=some (!xs.all bS):=by
 unfold rC vA;have key:∀ (i:Nat) (hi:i<xs.length),sG xs[i]=some (!bS xs[i]):=fun i hi=>by
  unfold sG;rw [tO _ (h _ (List.getElem_mem _))];rfl
 refine (congrArg (fun o=>Option.bind o _) (eJ (t:=if xs.all bS=true then (-1:Int) else ((xs.findIdx fun x=>!bS x:Nat):Int)) (fun k (s:Int)=>s=(k:Int)/\∀ j (hj:j<xs.length),j<k->bS xs[j]=true) (fun r=>(r=.inl ()/\xs.all bS=true)\/(∃ k:Nat,r=.inr (k:Int)/\∃ hk:k<xs.length,bS xs[k]=false/\∀ j (hj:j<xs.length),j<k->bS xs[j]=true)) xs.length ⟨rfl,fun j hj hk=>by omega⟩ ?_ ?_ ?_)).trans ?_
 ·rintro i _ hi ⟨rfl,hne⟩;simp only [key i hi,bP hi,obS];rw [if_pos (by omega)];by_cases hb:bS xs[i]=true
  ·rw [if_neg (by rw [hb];decide),aI (by omega) (by omega)];exact .inl ⟨_,rfl,rfl,fun j hj hk=>by
    by_cases e:j=i
    ·subst e;exact hb
    ·exact hne j hj (by omega)⟩
  ·have hb:bS xs[i]=false:=by simpa using hb
   rw [if_pos (by rw [hb];rfl)];exact .inr ⟨_,rfl,.inr ⟨i,rfl,hi,hb,hne⟩⟩
 ·rintro _ ⟨rfl,hne⟩;refine ⟨.inl (),by rw [if_neg (by omega)],.inl ⟨rfl,List.all_eq_true.2 fun x hx=>?_⟩⟩;obtain ⟨j,hj,rfl⟩:=List.getElem_of_mem hx;exact hne j hj hj
 ·rintro _ (⟨rfl,h1⟩ | ⟨k,rfl,hk,hb,hne⟩)
  ·rw [if_pos h1];rfl
  ·have hall:¬ xs.all bS=true:=fun hh=>by
    have:=List.all_eq_true.1 hh _ (List.getElem_mem hk);rw [hb] at this;cases this
   have hf:xs.findIdx (fun x=>!bS x)=k:=by
    rw [List.findIdx_eq hk];exact ⟨by simp [hb],fun j hj=>by simp [hne j (by omega) hj]⟩
   rw [if_neg hall,hf];rfl
 ·simp only [obS];by_cases ha:xs.all bS=true
  ·rw [if_pos ha,ha];rfl
  ·rw [if_neg ha,show xs.all bS=false by simpa using ha];simp
theorem aLb (r:List UInt8):∀ x∈sp r,x.length<=r.length:=by
 induction r with
 | nil=>intro x hx;simp [sp] at hx;simp [hx]
 | cons c r ih =>
  intro x hx;simp only [sp] at hx;split at hx
  ·rcases List.mem_cons.1 hx with rfl | hx
   ·simp
   ·have:=ih x hx;simp;omega
  ·split at hx
   ·rename_i h t e;rw [e] at ih;rcases List.mem_cons.1 hx with rfl | hx
    ·have:=ih h List.mem_cons_self;simp;omega
    ·have:=ih x (List.mem_cons_of_mem _ hx);simp;omega
   ·simp at hx;simp [hx]
theorem oJ (p:List UInt8) (h:p.length<=1500000000):jC p=some (nmP p,okP p):=by
 unfold jC;by_cases hr:p=[47]
 ·rw [if_pos hr,hr];rfl
 rw [if_neg hr];have hcut:pU p [47]=some (if p.head?=some 47 then p.tail else p,decide (p.head?=some 47)):=by
  unfold pU Lib.trimPrefix Lib.hasPrefix;cases p with
  | nil=>rfl
  | cons c p =>
   by_cases hc:c=47
   ·subst hc;simp [List.isPrefixOf]
   ·have:([47]:List UInt8).isPrefixOf (c::p)=false:=by simp [List.isPrefixOf,Ne.symm hc]
    rw [this];simp [hc]
 rw [hcut];simp only [obS];generalize hq:(if p.head?=some 47 then p.tail else p)=q;have hql:q.length<=p.length:=by
  rw [<- hq];split
  ·simp
  ·exact Nat.le_refl _
 have hsplit:sJ q [47]=some (sp q):=by
  unfold sJ genSplit tH;rw [if_pos ⟨rfl,rfl,rfl,by omega⟩];rfl
 rw [hsplit];simp only [obS];by_cases h1:p.head?=some 47
 ·rw [if_pos h1] at hq;subst hq;rw [if_neg (by simp [h1])];by_cases h2:24<(p.length:Int)
  ·rw [if_pos h2];have hk:okP p=false:=by
    unfold okP;rw [decide_eq_false hr,decide_eq_false (show ¬ p.length<=24 by omega)];simp
   rw [oF hk,hk]
  ·rw [if_neg h2,aMg _ (by have:=aCe p.tail;omega) fun x hx=>by have:=aLb _ x hx;omega];simp only [obS];have hk:okP p=(sp p.tail).all bS:=by
    unfold okP;rw [decide_eq_false hr,decide_eq_true (show p.length<=24 by omega),h1];simp
   by_cases h3:(sp p.tail).all bS=true
   ·rw [h3] at hk;rw [if_neg (by rw [h3];decide)];unfold nmP;rw [if_neg hr,if_pos hk,hk]
   ·have h3':(sp p.tail).all bS=false:=by simpa using h3
    rw [h3'] at hk;rw [if_pos (by rw [h3'];rfl),oF hk,hk]
 ·have hk:okP p=false:=by
   unfold okP;rw [decide_eq_false hr];simp [h1]
  rw [if_pos (by simp [h1]),oF hk,hk]
theorem qX (p:List UInt8) (h:p.length<=1500000000):jP p=some (if okP p=true then 0 else 90):=by
 unfold jP;rw [oJ p h];simp only [obS];cases okP p<;>rfl
theorem aB2 (xs:List (List UInt8)) (h1:xs.length<=2000000000) (h2:(jn xs).length<=2000000000):lZ xs=some (pth xs):=by
 unfold lZ tX tA;rw [if_pos ⟨rfl,h1,h2⟩];simp only [obS];rw [eU (by simp;omega)];rfl
def par (p:List UInt8):List UInt8:=if nmP p=[] then [] else pth (nmP p).dropLast
def bas (p:List UInt8):List UInt8:=(nmP p).getLast?.getD []
theorem aAq (p:List UInt8) (h:p.length<=1500000000):mV p=some (par p):=by
 unfold mV par;rw [oJ p (by omega)];simp only [obS];have hl:=pI p;have hj:=aDt p;by_cases h0:nmP p=[]
 ·rw [if_pos (by rw [h0];rfl),if_pos h0]
 ·have hp:0<(nmP p).length:=List.length_pos_iff.2 h0;rw [if_neg (by omega),if_neg h0,aI (by omega) (by omega)];rw [show ((nmP p).length:Int)-1=(((nmP p).length-1:Nat):Int) by omega,show (0:Int)=((0:Nat):Int) from rfl,dM (Nat.zero_le _) (by omega)];simp only [obS,List.drop_zero];have ht:(nmP p).take ((nmP p).length-1)=(nmP p).dropLast:=by rw [List.dropLast_eq_take]
  have:=mH (xs:=nmP p) ((nmP p).length-1);rw [ht] at this ⊢;rw [aB2 _ (by simp;omega) (by omega)];rfl
theorem aIw (p:List UInt8) (h:p.length<=1500000000):rE p=some (bas p):=by
 unfold rE bas;rw [oJ p (by omega)];simp only [obS];have hl:=pI p;by_cases h0:nmP p=[]
 ·rw [if_pos (by rw [h0];rfl),h0];rfl
 ·have hp:0<(nmP p).length:=List.length_pos_iff.2 h0;rw [if_neg (by omega),aI (by omega) (by omega),show ((nmP p).length:Int)-1=(((nmP p).length-1:Nat):Int) by omega,bP (by omega)];simp only [obS];rw [List.getLast?_eq_getElem?,List.getElem?_eq_getElem (by omega)];rfl
theorem aGp (x y:List (List UInt8)) (hx:x.length<=2000000001):pC x y=some (decide (x=y)):=by
 unfold pC;by_cases hl:(x.length:Int)=(y.length:Int)
 ·rw [if_pos hl];refine eJ (fun k (s:Int)=>s=(k:Int)/\∀ j,j<k->x.getD j []=y.getD j []) (fun r=>(r=.inl ()/\x=y)\/(r=.inr false/\x≠y)) x.length ⟨rfl,fun j hj=>by omega⟩ ?_ ?_ ?_
  ·rintro k _ hk ⟨rfl,hne⟩;rw [if_pos (by omega),lI [] rfl hk,lI [] rfl (show k<y.length by omega)];simp only [obS];by_cases e:x.getD k []=y.getD k []
   ·rw [if_pos e,aI (by omega) (by omega)];exact .inl ⟨_,rfl,rfl,fun j hj=>by
     by_cases ej:j=k
     ·subst ej;exact e
     ·exact hne j (by omega)⟩
   ·rw [if_neg e];exact .inr ⟨_,rfl,.inr ⟨rfl,fun h=>e (by rw [h])⟩⟩
  ·rintro _ ⟨rfl,hne⟩;refine ⟨.inl (),?_,.inl ⟨rfl,List.ext_getElem (by omega) fun j h1 h2=>?_⟩⟩
   ·rw [if_neg (by omega)]
   ·have:=hne j h1;simpa [List.getD_eq_getElem?_getD,List.getElem?_eq_getElem h1,List.getElem?_eq_getElem h2] using this
  ·rintro _ (⟨rfl,h1⟩ | ⟨rfl,h1⟩)
   ·simp [h1]
   ·simp [h1]
 ·rw [if_neg hl,decide_eq_false fun h=>hl (by rw [h])]
def aS (p q:List UInt8):Bool:=okP p&&okP q&&decide (nmP p <+: nmP q)
theorem aEv (p q:List UInt8) (hp:p.length<=1500000000) (hq:q.length<=1500000000):nN p q=some (aS p q):=by
 unfold nN aS;rw [oJ p (by omega),oJ q (by omega)];simp only [obS];have hl:=pI p;cases okP p with
 | false=>rfl
 | true =>
  cases okP q with
  | false=>rfl
  | true =>
   rw [if_pos rfl,if_pos rfl];by_cases hle:((nmP p).length:Int)<=((nmP q).length:Int)
   ·rw [if_pos hle,show (0:Int)=((0:Nat):Int) from rfl,dM (Nat.zero_le _) (by omega)];simp only [obS,List.drop_zero];rw [aGp _ _ (by omega)];simp only [obS,Bool.true_and]
    congr 1
    rw [decide_eq_decide];constructor
    ·intro h;rw [h];exact List.take_prefix _ _
    ·intro h;exact List.prefix_iff_eq_take.1 h
   ·rw [if_neg hle]
    congr 1
    symm
    simp only [Bool.true_and,decide_eq_false_iff_not];intro h;have:=h.length_le;omega
theorem aPt (p:List UInt8) (h:p.length<=1500000000):qJ p=some ((List.range (nmP p).length).map fun i=>pth ((nmP p).take i)):=by
  unfold qJ;rw [oJ p (by omega)];simp only [obS];have hl:=pI p;have hj:=aDt p;have key:=aI1 (σ:=List (List UInt8)) (ρ:=List (List UInt8)) (f:=(fun (s47:(List (List UInt8))×Int)=>if s47.2<(((nmP p,okP p).1).length:Int) then ((bN (nmP p,okP p).1 0 s47.2).bind fun x51 =>
(lZ x51).bind fun x52 =>
(aY s47.1 ([x52])).bind fun x55 =>
some (.inl (x55,IntKind.i64.wrap (s47.2+1))))
 else (some (.inr s47.1)))) (fun i s=>s++[pth ((nmP p).take i)]) id (nmP p).length (fun i s=>s=(List.range i).map fun j=>pth ((nmP p).take j)) (fun i s hi hs=>?_) (fun s hs=>?_) (s0:=[]) rfl
  · rw [key.1]
    simp only [obS,id]
    rw [key.2]
  · have ht:=mH (xs:=nmP p) i
    refine ⟨?_,by rw [hs,List.range_succ,List.map_append];rfl⟩
    show (if (i:Int)<((nmP p).length:Int) then _ else _)=_
    rw [if_pos (by omega),show (0:Int)=((0:Nat):Int) from rfl,dM (Nat.zero_le _) (by show i<=(nmP p).length;omega)]
    simp only [obS,List.drop_zero]
    rw [aB2 _ (by simp;omega) (by omega)]
    simp only [obS]
    rw [cI (by rw [hs];simp;omega)]
    simp only [obS]
    rw [aI (by omega) (by omega)];rfl
  · show (if ((nmP p).length:Int)<((nmP p).length:Int) then _ else _)=_
    rw [if_neg (by omega)];rfl
abbrev FS:=List UInt8->Option (Bool×List UInt8)
abbrev CS:=List UInt8->Option (List UInt8)
def tw (r:List UInt8):List UInt8:=r.takeWhile (·≠0)
theorem aK2 (r:List UInt8) (h:r.length<=1000000):∃ b c,rX r [0]=some (tw r,b,c):=by
 have key:∀ r:List UInt8,(Lib.indexByte r 0=-1/\tw r=r)\/∃ i:Nat,Lib.indexByte r 0=i/\i<r.length/\tw r=r.take i:=by
  intro r
  induction r with
  | nil=>exact .inl ⟨rfl,rfl⟩
  | cons c r ih =>
   by_cases hc:c=0
   ·subst hc;exact .inr ⟨0,by simp [Lib.indexByte],by simp,by simp [tw]⟩
   ·have h1:tw (c::r)=c::tw r:=by simp [tw,hc]
    rcases ih with ⟨h2,h3⟩ | ⟨i,h2,h3,h4⟩
    ·exact .inl ⟨by simp [Lib.indexByte,hc,h2],by rw [h1,h3]⟩
    ·refine .inr ⟨i+1,?_,by simp;omega,by rw [h1,h4];rfl⟩;simp only [Lib.indexByte,h2];rw [if_neg (by simpa using hc),if_neg (by simp)];omega
 unfold rX vB vG vM;simp only [obS];rcases key r with ⟨h1,h2⟩ | ⟨i,h1,h2,h3⟩
 ·rw [h1,if_neg (by omega)];exact ⟨_,_,by rw [h2];rfl⟩
 ·rw [h1,if_pos (by omega),show (0:Int)=((0:Nat):Int) from rfl,dM (Nat.zero_le _) (by omega)];simp only [obS,List.drop_zero,List.length_cons,List.length_nil];rw [aI (by omega) (by omega),show ((i:Int)+((0+1:Nat):Int))=((i+1:Nat):Int) by omega,dM (by omega) (Nat.le_refl _)];exact ⟨_,_,by rw [h3];rfl⟩
def r1 (s:CS×FS) (x:P2):CS×FS:=match x.1 with
 | []=>s
 | a::r=>if a=99 then (aQ (tw r) ((s.1 (tw r)).getD []++x.2) s.1,s.2) else if a=110 then (s.1,aQ r (decide (x.2=[100]),[]) s.2) else s
def iX (s:CS×FS):FS:=fun p=>match s.2 p with
 | some (false,_)=>some (false,(s.1 p).getD [])
 | x=>x
def rdF (L:List P2):FS:=iX (L.foldl r1 (bV,bV))
theorem zZ (s:CS×FS) (x:P2) (n m:Nat) (h:∀ p,((s.1 p).getD []).length<=n) (hx:x.2.length<=m):∀ p,(((r1 s x).1 p).getD []).length<=n+m:=by
 intro p;unfold r1;split
 ·have:=h p;omega
 ·split
  ·simp only [aQ];split
   ·have:=h (tw ‹List UInt8›);simp;omega
   ·have:=h p;omega
  ·split
   ·exact Nat.le_trans (h p) (Nat.le_add_right _ _)
   ·exact Nat.le_trans (h p) (Nat.le_add_right _ _)
def Crd {β:Type} (m:List UInt8->Option β) (n:Nat):Prop:=∃ l,Enum m l/\l.length<=n
theorem Crd.nil {β:Type}:Crd (bV:List UInt8->Option β) 0:=⟨[],⟨List.nodup_nil,fun _=>rfl⟩,Nat.le_refl _⟩
theorem Crd.mono {β:Type} {m:List UInt8->Option β} {n k:Nat} (h:Crd m n) (hn:n<=k):Crd m k:=by
 obtain ⟨l,h1,h2⟩:=h;exact ⟨l,h1,by omega⟩
theorem bQ {β:Type} {m:List UInt8->Option β} {l:List (List UInt8×β)} (h:Enum m l) {k:List UInt8} {v:β}:(k,v)∈l↔m k=some v:=by
 rw [h.2 k];exact ⟨fun hm=>eB h.1 hm,fY⟩
theorem yJ {β:Type} {m:List UInt8->Option β} {l:List (List UInt8×β)} (h:Enum m l) (k:List UInt8):Enum (dR k m) (l.filter fun x=>x.1≠k):=by
 have hn:((l.filter fun x=>x.1≠k).map (·.1)).Nodup:=List.Nodup.sublist (List.Sublist.map _ List.filter_sublist) h.1;refine ⟨hn,fun j=>?_⟩;unfold dR;by_cases e:j=k
 ·rw [if_pos e]
  symm
  refine kG fun hm=>?_;obtain ⟨x,hx,hj⟩:=List.mem_map.1 hm;have:=(List.mem_filter.1 hx).2;simp only [decide_eq_true_eq] at this;exact this (by rw [hj,e])
 ·rw [if_neg e];cases hv:m j with
  | some v=>exact (eB hn (List.mem_filter.2 ⟨(bQ h).2 hv,by simpa using e⟩)).symm
  | none =>
   symm
   refine kG fun hm=>?_;obtain ⟨x,hx,hj⟩:=List.mem_map.1 hm;obtain ⟨a,b⟩:=x;have:=(bQ h).1 (List.mem_filter.1 hx).1;simp only at hj;rw [hj,hv] at this;cases this
theorem uN {β:Type} {m:List UInt8->Option β} {l:List (List UInt8×β)} (h:Enum m l) (k:List UInt8) (v:β):Enum (aQ k v m) ((k,v)::l.filter fun x=>x.1≠k):=by
 have hd:=yJ h k;refine ⟨?_,fun j=>?_⟩
 ·simp only [List.map_cons,List.nodup_cons];refine ⟨fun hm=>?_,hd.1⟩;obtain ⟨x,hx,hj⟩:=List.mem_map.1 hm;have:=(List.mem_filter.1 hx).2;simp only [decide_eq_true_eq] at this;exact this hj
 ·simp only [bG];unfold aQ;by_cases e:j=k
  ·rw [if_pos e,if_pos e.symm]
  ·rw [if_neg e,if_neg (Ne.symm e),<- hd.2 j];unfold dR;rw [if_neg e]
theorem Crd.set {β:Type} {m:List UInt8->Option β} {n:Nat} (h:Crd m n) (k:List UInt8) (v:β):Crd (aQ k v m) (n+1):=by
 obtain ⟨l,h1,h2⟩:=h;refine ⟨_,uN h1 k v,?_⟩;have:=List.length_filter_le (fun x:List UInt8×β=>decide (x.1≠k)) l;simp only [List.length_cons];omega
theorem Crd.del {β:Type} {m:List UInt8->Option β} {n:Nat} (h:Crd m n) (k:List UInt8):Crd (dR k m) n:=by
 obtain ⟨l,h1,h2⟩:=h;refine ⟨_,yJ h1 k,?_⟩;have:=List.length_filter_le (fun x:List UInt8×β=>decide (x.1≠k)) l;omega
theorem wT (s:CS×FS) (x:P2) (n:Nat) (h:Crd s.2 n):Crd (r1 s x).2 (n+1):=by
 unfold r1;split
 ·exact h.mono (by omega)
 ·split
  ·exact h.mono (by omega)
  ·split
   ·exact h.set _ _
   ·exact h.mono (by omega)
open Classical in
theorem aJj (c:CS) (t:FS):∀ (l:List (List UInt8×(Bool×List UInt8))),(∀ k v,(k,v)∈l->t k=some v)->∀ p,(l.foldl (fun (s:FS) x=>if x.2.1=false then aQ x.1 (false,(c x.1).getD []) s else s) t) p=if (∃ d,(p,false,d)∈l) then some (false,(c p).getD []) else t p:=by
 have key:∀ (l:List (List UInt8×(Bool×List UInt8))) (u:FS) p,(l.foldl (fun (s:FS) x=>if x.2.1=false then aQ x.1 (false,(c x.1).getD []) s else s) u) p=if (∃ d,(p,false,d)∈l) then some (false,(c p).getD []) else u p:=by
  intro l
  induction l with
  | nil=>intro u p;rw [if_neg (by simp)];rfl
  | cons x l ih =>
   intro u p;obtain ⟨k,b,d⟩:=x;rw [List.foldl_cons,ih];by_cases h1:∃ d,(p,false,d)∈l
   ·rw [if_pos h1,if_pos (by obtain ⟨d,h⟩:=h1;exact ⟨d,List.mem_cons_of_mem _ h⟩)]
   ·rw [if_neg h1];by_cases hb:b=false
    ·subst hb;simp only [if_true];by_cases e:p=k
     ·subst e;rw [if_pos ⟨d,List.mem_cons_self⟩];simp [aQ]
     ·rw [if_neg]
      ·simp [aQ,e]
      ·rintro ⟨d',h⟩;rcases List.mem_cons.1 h with h | h
       ·cases h;exact e rfl
       ·exact h1 ⟨d',h⟩
    ·rw [if_neg (by simpa using hb),if_neg];rintro ⟨d',h⟩;rcases List.mem_cons.1 h with h | h
     ·cases h;exact hb rfl
     ·exact h1 ⟨d',h⟩
 intro l _ p;exact key l t p
theorem zQ (L:List P2) (hn:L.length<=1000000) (hb:∀ x∈L,x.1.length<=100000/\x.2.length<=100000):pJ L=some (rdF L):=by
 unfold pJ;rw [(aCp (fun (s:CS×FS) (i:Int)=>(s.1,s.2,i)) L r1 id (bV,bV) (fun i s=>(∀ p,((s.1 p).getD []).length<=i*100000)/\Crd s.2 i) ⟨fun p=>by simp [bV],Crd.nil⟩ (fun i s hi hI=>⟨?_,fun p=>by have:=zZ s L[i] (i*100000) 100000 hI.1 (hb _ (List.getElem_mem hi)).2 p;omega,wT s _ i hI.2⟩) (fun s _=>?_)).1]
 ·have hI:=(aCp (f:=fun (t:CS×FS×Int)=>if t.2.2<(L.length:Int) then (aD L t.2.2).bind fun x=>some (.inl ((r1 (t.1,t.2.1) x).1,(r1 (t.1,t.2.1) x).2,t.2.2+1)) else some (.inr (t.1,t.2.1))) (fun (s:CS×FS) (i:Int)=>(s.1,s.2,i)) L r1 id (bV,bV) (fun i s=>(∀ p,((s.1 p).getD []).length<=i*100000)/\Crd s.2 i) ⟨fun p=>by simp [bV],Crd.nil⟩ (fun i s hi hI=>⟨by
    show (if (i:Int)<_ then _ else _)=_
    rw [if_pos (by omega),show aD L ((s.1,s.2,(i:Int)):CS×FS×Int).2.2=some L[i] from bP hi];rfl,fun p=>by have:=zZ s L[i] (i*100000) 100000 hI.1 (hb _ (List.getElem_mem hi)).2 p;omega,wT s _ i hI.2⟩) (fun s _=>by
    show (if (L.length:Int)<_ then _ else _)=_
    rw [if_neg (by omega)];rfl)).2
  simp only [obS,id];generalize hS:L.foldl r1 (bV,bV)=S at hI ⊢;obtain ⟨l,hE,hl⟩:=hI.2;refine nM hE fun l' hE'=>?_;rw [yL (fun (s:FS) x=>if x.2.1=false then aQ x.1 (false,(S.1 x.1).getD []) s else s) l' S.2 (fun x _ s=>by
   obtain ⟨k,b,d⟩:=x
   cases b<;>rfl)]
  simp only [obS,Sum.elim_inl]
  congr 1
  funext p;rw [aJj S.1 S.2 l' (fun k v h=>(bQ hE').1 h) p];unfold rdF iX;rw [hS];by_cases h:∃ d,(p,false,d)∈l'
  ·rw [if_pos h];obtain ⟨d,h⟩:=h;rw [(bQ hE').1 h]
  ·rw [if_neg h];cases hp:S.2 p with
   | none=>rfl
   | some v =>
    obtain ⟨b,d⟩:=v;cases b with
    | false=>exact (h ⟨d,(bQ hE').2 hp⟩).elim
    | true=>rfl
 ·have hbi:=hb _ (List.getElem_mem hi);show (if (i:Int)<(L.length:Int) then _ else _)=_;rw [if_pos (by omega),show aD L ((i:Nat):Int)=some L[i] from bP hi];generalize hx:L[i]=x at hbi ⊢;obtain ⟨k,v⟩:=x;simp only [obS];rw [aI (by omega) (by omega)];cases k with
  | nil =>
   rw [if_neg (by simp)];simp only [obS];rw [if_neg (by simp),if_neg (by simp)];rfl
  | cons a r =>
   have hs1:bN (a::r) 0 1=some [a]:=by
    have:=dM (xs:=a::r) (i:=0) (j:=1) (by omega) (by simp);simpa using this
   have hs2:bN (a::r) 1 ((a::r).length:Int)=some r:=by
    have:=dM (xs:=a::r) (i:=1) (j:=(a::r).length) (by simp) (Nat.le_refl _);simpa using this
   rw [if_pos (by simp),hs1,hs2];simp only [obS,List.cons.injEq,and_true];simp only [List.length_cons] at hbi;unfold r1;by_cases h99:a=99
   ·obtain ⟨b',c',hc⟩:=aK2 r (by omega);have hl:=hI.1 (tw r);rw [if_pos h99,hc];simp only [obS,if_pos h99];rw [eU (by omega)];rfl
   ·rw [if_neg h99];simp only [if_neg h99];by_cases h110:a=110
    ·simp only [if_pos h110];by_cases hv:(v.length:Int)=1
     ·obtain ⟨y,rfl⟩:∃ y,v=[y]:=List.length_eq_one_iff.1 (by omega);rw [if_pos hv,show aD [y] 0=some y from rfl];simp only [obS];have:((y.toNat:Int)=100)↔([y]=([100]:List UInt8)):=by
       rw [List.cons.injEq];simp only [and_true];rw [<- UInt8.toNat_inj];show _↔y.toNat=100;omega
      rw [decide_eq_decide.2 this];rfl
     ·rw [if_neg hv];have:¬ v=[100]:=fun e=>hv (by rw [e];rfl);rw [decide_eq_false this];rfl
    ·simp only [if_neg h110];rfl
 ·show (if (L.length:Int)<(L.length:Int) then _ else _)=_;rw [if_neg (by omega)];rfl
theorem lF (L:List P2):Crd (rdF L) L.length:=by
 have key:∀ (L:List P2) (s:CS×FS) (n:Nat),Crd s.2 n->Crd (L.foldl r1 s).2 (n+L.length):=by
  intro L
  induction L with
  | nil=>intro s n h;exact h
  | cons x L ih=>intro s n h;exact (ih (r1 s x) (n+1) (wT s x n h)).mono (by simp;omega)
 obtain ⟨l,hE,hl⟩:=key L (bV,bV) 0 Crd.nil;generalize hS:L.foldl r1 (bV,bV)=S at hE;refine ⟨l.map fun x=>(x.1,if x.2.1=false then (false,(S.1 x.1).getD []) else x.2),⟨by rw [List.map_map];exact hE.1,fun p=>?_⟩,by simp;omega⟩;unfold rdF iX;rw [hS];have hnd:((l.map fun x:List UInt8×(Bool×List UInt8)=>(x.1,if x.2.1=false then (false,(S.1 x.1).getD []) else x.2)).map (·.1)).Nodup:=by rw [List.map_map];exact hE.1
 cases hp:S.2 p with
 | none =>
  symm
  refine kG fun hm=>?_;rw [List.map_map] at hm;obtain ⟨⟨a,b⟩,hx,hj⟩:=List.mem_map.1 hm;have:=(bQ hE).1 hx;replace hj:a=p:=hj;rw [hj,hp] at this;cases this
 | some v =>
  obtain ⟨b,d⟩:=v;have hm:=(bQ hE).2 hp
  symm
  refine (eB hnd (List.mem_map.2 ⟨_,hm,rfl⟩)).trans ?_;cases b<;>rfl
def kI (n:Nat):List UInt8:=[u8 ((n / 256 ^ 1 % 256:Nat):Int),u8 ((n / 256 ^ 0 % 256:Nat):Int)]
theorem aAb (s:List UInt8) (h:s.length<=274877906944):mJ s=some s:=by
 unfold mJ;rw [cI (by simp;omega)];rfl
theorem aNh (p b:List UInt8) (h:p.length+b.length<=274877906944):qY p b=some (p++b):=by
 unfold qY;rw [cI h];rfl
theorem aA0 {α β:Type} (g:β->α):∀ (l:List β) (s:List α),l.foldl (fun s i=>s++[g i]) s=s++l.map g
 | [],s=>by simp
 | b::l,s=>by simp [aA0 g l]
theorem aNs (p:List UInt8) (n:Nat) (hn:n<=65535) (hp:p.length<=600):sX p (n:Int) 2=some (0,p++kI n):=by
 unfold sX;rw [if_neg (by omega),if_neg (by omega),if_pos (by omega)];rw [show IntKind.i64.wrap (8*2)=((16:Nat):Int) from rfl,show IntKind.i64.wrap (2-1)=((2:Nat):Int)-1 from rfl];have hsh:jM .u64 (n:Int) ((16:Nat):Int)=some (gN .u64 (n:Int) ((16:Nat):Int)):=by unfold jM;rw [if_pos (by omega)]
 rw [hsh];simp only [obS];rw [aFw .u64 _ _ (by show 16<=64;omega),if_neg (by have:n / 2 ^ 16=0:=Nat.div_eq_of_lt (by omega);omega)];rw [aEl (fun (k:Nat) (s:List UInt8)=>s++[u8 ((n / 256 ^ k % 256:Nat):Int)]) (fun s=>s) (fun (k:Nat) (s:List UInt8)=>k<=8/\s.length<=10000-k) ?hs2 ?he2 2 _ ⟨by omega,by omega⟩]
 case he2=>intro s _;rw [if_neg (by omega)]
 case hs2 =>
  intro k s ⟨hk,hl⟩;refine ⟨?_,by omega,by simp;omega⟩;rw [if_pos (by omega)];have h8:IntKind.i64.wrap (8*(k:Int))=((8*k:Nat):Int):=by rw [aI (by omega) (by omega)];omega
  rw [h8];have hsh:jM .u64 (n:Int) ((8*k:Nat):Int)=some (gN .u64 (n:Int) ((8*k:Nat):Int)):=by unfold jM;rw [if_pos (by omega)]
  rw [hsh];simp only [obS];have hw:IntKind.u8.wrap (gN .u64 (n:Int) ((8*k:Nat):Int))=((n / 256 ^ k % 256:Nat):Int):=by
   rw [aFw .u64 _ _ (by show 8*k<=64;omega),wrap_u8',Nat.pow_mul];rfl
  rw [hw,rI (by omega) (by omega)];simp only [obS];rw [cI (by simp;omega)];simp only [obS];rw [aI (by omega) (by omega)]
 simp only [obS];rw [aA0 (fun k=>u8 ((n / 256 ^ k % 256:Nat):Int))];rfl
def chk (p:List UInt8):Nat->List (List UInt8)->List P2
 | _,[]=>[]
 | i,c::cs=>(99::(p++[0,u8 (i:Int)]),c)::chk p (i+1) cs
abbrev Ent:=List UInt8×(Bool×List UInt8)
def cA (x:Ent):List P2:=if x.2.1=true then [(110::x.1,[100])] else (110::x.1,102::kI x.2.2.length)::chk x.1 0 (fG 64 x.2.2)
def dT (l:List Ent):List P2:=iF (l.flatMap cA)
theorem mO {γ:Type} (xs:List γ) (n:Nat):(fG n xs).length=gM n xs.length:=by simp [fG,eD]
theorem zF {len:Nat} (h:len<=192):gM 64 len<=3:=by
 unfold gM;have:=(Nat.div_lt_iff_lt_mul (k:=64) (by omega) (x:=len+64-1) (y:=4)).2 (by omega);omega
theorem aAn {len:Nat} (h:len<=12000):gM 64 len<=188:=by
 unfold gM;have:=(Nat.div_lt_iff_lt_mul (k:=64) (by omega) (x:=len+64-1) (y:=189)).2 (by omega);omega
theorem uB (p:List UInt8):∀ (i:Nat) (cs:List (List UInt8)),(chk p i cs).length=cs.length
 | _,[]=>rfl
 | i,c::cs=>by simp [chk,uB p (i+1) cs]
theorem aJx {x:Ent} (h:x.2.2.length<=192):(cA x).length<=4:=by
 unfold cA;split
 ·simp
 ·have:=zF h;simp only [List.length_cons,uB,mO];omega
theorem xK (p:List UInt8):∀ (i:Nat) (cs:List (List UInt8)),(chk p i cs).map (·.2)=cs
 | _,[]=>rfl
 | i,c::cs=>by simp [chk,xK p (i+1) cs]
theorem mP {p:List UInt8}:∀ {i:Nat} {cs:List (List UInt8)} {x:P2},x∈chk p i cs->∃ j,i<=j/\j<i+cs.length/\x.1=99::(p++[0,u8 (j:Int)])
 | _,[],x,h=>by cases h
 | i,c::cs,x,h=>by
  rcases List.mem_cons.1 h with rfl | h
  ·exact ⟨i,Nat.le_refl _,by simp,rfl⟩
  ·obtain ⟨j,h1,h2,h3⟩:=mP h;exact ⟨j,by omega,by simp at h2 ⊢;omega,h3⟩
theorem aD9:∀ p a b:List UInt8,Lib.compareBytes (p++a) (p++b)=Lib.compareBytes a b
 | [],_,_=>rfl
 | c::p,a,b=>by simp [Lib.compareBytes,aD9 p a b]
theorem u8_lt {i j:Nat} (h:i<j) (hj:j<256):u8 (i:Int)<u8 (j:Int):=by
 rw [UInt8.lt_iff_toNat_lt];unfold u8;simp;omega
theorem xX {p:List UInt8}:∀ {i:Nat} {cs:List (List UInt8)},i+cs.length<=256->(chk p i cs).Pairwise ltP
 | _,[],_=>List.Pairwise.nil
 | i,c::cs,h=>by
  refine List.pairwise_cons.2 ⟨fun x hx=>?_,xX (by simp at h;omega)⟩;obtain ⟨j,h1,h2,h3⟩:=mP hx;simp only [List.length_cons] at h;unfold ltP ltK;rw [h3];show Lib.compareBytes ((99::p)++[0,u8 (i:Int)]) ((99::p)++[0,u8 (j:Int)])<0;rw [aD9];simp only [Lib.compareBytes];rw [if_neg (by decide),if_neg (by decide),if_pos (u8_lt (by omega) (by omega))];omega
theorem aLy {a b:P2} (h:ltP a b):a.1≠b.1:=fun e=>by unfold ltP ltK at h;rw [e,nS] at h;omega
theorem rQ {e:Ent} {x:P2} (h:x∈cA e):x.1=110::e.1\/∃ c,x.1=99::(e.1++[0,c]):=by
 unfold cA at h;split at h
 ·simp at h;exact .inl (by rw [h])
 ·rcases List.mem_cons.1 h with rfl | h
  ·exact .inl rfl
  ·obtain ⟨j,_,_,h3⟩:=mP h;exact .inr ⟨_,h3⟩
theorem aHk {e e':Ent} {x y:P2} (h:x∈cA e) (h':y∈cA e') (hk:x.1=y.1):e.1=e'.1:=by
 rcases rQ h with h1 | ⟨c,h1⟩
 ·rcases rQ h' with h2 | ⟨c',h2⟩
  ·rw [h1,h2] at hk;injection hk
  ·rw [h1,h2] at hk;injection hk with hk;exact absurd hk (by decide)
 ·rcases rQ h' with h2 | ⟨c',h2⟩
  ·rw [h1,h2] at hk;injection hk with hk;exact absurd hk (by decide)
  ·rw [h1,h2] at hk;injection hk with _ hk;have:=congrArg List.length hk;exact (List.append_inj hk (by simpa using this)).1
theorem vJ {l:List Ent} (hn:(l.map (·.1)).Nodup) (hb:∀ x∈l,x.2.2.length<=12000):((l.flatMap cA).map (·.1)).Nodup:=by
 rw [List.nodup_iff_pairwise_ne,List.pairwise_map,List.pairwise_flatMap];rw [List.nodup_iff_pairwise_ne,List.pairwise_map] at hn;refine ⟨fun e he=>?_,hn.imp fun {a b} h x hx y hy e=>h (aHk hx hy e)⟩;unfold cA;split
 ·simp
 ·refine List.pairwise_cons.2 ⟨fun x hx e2=>?_,(xX ?_).imp fun h=>aLy h⟩
  ·obtain ⟨j,_,_,h3⟩:=mP hx;rw [h3] at e2;injection e2 with e2;exact absurd e2 (by decide)
  ·have:=aAn (hb e he);rw [mO];omega
theorem tL {l:List Ent} (hn:(l.map (·.1)).Nodup) (hb:∀ x∈l,x.2.2.length<=192):((l.flatMap cA).map (·.1)).Nodup:=vJ hn fun x hx=>Nat.le_trans (hb x hx) (by decide)
theorem aBw {l:List Ent} (hb:∀ x∈l,x.2.2.length<=12000):(l.flatMap cA).length<=190*l.length:=by
 induction l with
 | nil=>simp
 | cons x l ih =>
  have h1:(cA x).length<=190:=by
   have:=aAn (hb x List.mem_cons_self);unfold cA;split
   ·simp
   ·simp only [List.length_cons,uB,mO];omega
  have h2:=ih fun y hy=>hb y (List.mem_cons_of_mem _ hy);simp only [List.flatMap_cons,List.length_append,List.length_cons];omega
theorem wR {l:List Ent} (hb:∀ x∈l,x.2.2.length<=192):(l.flatMap cA).length<=4*l.length:=by
 induction l with
 | nil=>simp
 | cons x l ih =>
  have h1:=aJx (hb x List.mem_cons_self);have h2:=ih fun y hy=>hb y (List.mem_cons_of_mem _ hy);simp only [List.flatMap_cons,List.length_append,List.length_cons];omega
theorem aK0 {l l':List Ent} (hn:(l.map (·.1)).Nodup) (hb:∀ x∈l,x.2.2.length<=12000) (hp:l'.Perm l):dT l'=dT l:=by
 have h1:(l'.flatMap cA).Perm (l.flatMap cA):=hp.flatMap_right cA;have hn':(l'.map (·.1)).Nodup:=(hp.map _).nodup_iff.2 hn;have hb':∀ x∈l',x.2.2.length<=12000:=fun x hx=>hb x (hp.mem_iff.1 hx);refine vC (qN (vJ hn' hb')) (qN (vJ hn hb)) fun k=>?_;exact (List.mergeSort_perm _ leP).mem_iff.trans (h1.mem_iff.trans (List.mergeSort_perm _ leP).mem_iff.symm)
theorem aC2 (p:List UInt8) (hp:p.length<=100000) {f:Int×List P2->List UInt8->Option ((Int×List P2) ⊕ Empty)} (hf:∀ (i:Nat) (out:List P2) c,i<200->out.length<=100000000->c.length<=1000->f ((i:Int),out) c=some (.inl (((i+1:Nat):Int),out++[(99::(p++[0,u8 (i:Int)]),c)]))) :
  ∀ (cs:List (List UInt8)) (i:Nat) (out:List P2),i+cs.length<=200->out.length+cs.length<=100000000->(∀ c∈cs,c.length<=1000)->dC f ((i:Int),out) cs=some (.inl (((i+cs.length:Nat):Int),out++chk p i cs))
 | [],i,out,_,_,_=>by simp [dC,chk]
 | c::cs,i,out,h1,h2,h3=>by
  simp only [List.length_cons] at h1 h2;show (f ((i:Int),out) c).bind _=_;rw [hf i out c (by omega) (by omega) (h3 c List.mem_cons_self)];show dC f (((i+1:Nat):Int),out++[(99::(p++[0,u8 (i:Int)]),c)]) cs=_;rw [aC2 p hp hf cs (i+1) _ (by omega) (by simp;omega) fun d hd=>h3 d (List.mem_cons_of_mem _ hd)];simp only [chk,List.length_cons,List.append_assoc,List.cons_append,List.nil_append]
  congr 4;omega
theorem aE5 {xs:List UInt8} {c:List UInt8} (h:c∈fG 64 xs):c.length<=64:=by
 unfold fG eD at h;rw [List.map_map] at h;obtain ⟨k,_,rfl⟩:=List.mem_map.1 h;simp;omega
set_option maxHeartbeats 1000000 in
theorem aGk {s:FS} {l:List Ent} (hE:Enum s l) (hl:l.length<=10000000) (hb:∀ x∈l,x.1.length<=100000/\x.2.2.length<=12000) (hz:∀ l':List Ent,l'.length<=l.length->(∀ x∈l',x∈l)->(l'.flatMap cA).length<=10000000):gT s=some (dT l):=by
 unfold gT;refine nM hE fun l' hE'=>?_;have hp:l'.Perm l:=hE'.perm hE;have hb':∀ x∈l',x.1.length<=100000/\x.2.2.length<=12000:=fun x hx=>hb x (hp.mem_iff.1 hx);have hl':l'.length<=10000000:=by rw [hp.length_eq];exact hl
 rw [(zD (fun (out:List P2) (x:Ent)=>out++cA x) (fun pre out=>out=pre.flatMap cA) l' l' [] [] rfl rfl ?_).1]
 ·simp only [obS,Sum.elim_inl];have:l'.foldl (fun (out:List P2) (x:Ent)=>out++cA x) []=l'.flatMap cA:=by
   have key:∀ (l':List Ent) (o:List P2),l'.foldl (fun (out:List P2) (x:Ent)=>out++cA x) o=o++l'.flatMap cA:=by
    intro l'
    induction l' with
    | nil=>intro o;simp
    | cons x l' ih=>intro o;simp [ih]
   simpa using key l' []
  rw [this];unfold vN vQ;rw [if_pos ⟨vJ hE'.1 fun x hx=>(hb' x hx).2,by have:=hz l' (by rw [hp.length_eq];exact Nat.le_refl _) (fun x hx=>hp.mem_iff.1 hx);omega⟩];simp only [obS]
  congr 1
  exact aK0 hE.1 (fun x hx=>(hb x hx).2) hp
 ·rintro pre ⟨p,b,d⟩ post out hpp rfl;refine ⟨?_,by simp⟩;obtain ⟨hp1,hd1⟩:=hb' (p,b,d) (by rw [<- hpp];simp);simp only at hp1 hd1;have hol:(pre.flatMap cA).length<=10000000:=hz pre (by rw [<- hp.length_eq,<- hpp];simp) fun x hx=>hp.mem_iff.1 (by rw [<- hpp];exact List.mem_append_left _ hx);generalize pre.flatMap cA=out at hol ⊢;simp only;rw [eU (by simp;omega)];simp only [obS,List.cons_append,List.nil_append];cases b with
  | true =>
   simp only [if_true,cA];rw [show u8O 100=some 100 from rfl];simp only [obS];rw [cI (by simp;omega)];rfl
  | false =>
   simp only [cA];rw [show u8O 102=some 102 from rfl];simp only [obS,Bool.false_eq_true,if_false];rw [aNh _ _ (by simp)];simp only [obS,List.nil_append];rw [aFf (by omega) (by omega),aNs _ _ (by omega) (by simp)];simp only [obS];unfold tP;rw [aAb _ (by simp [kI])];simp only [obS];rw [cI (by simp;omega)];simp only [obS];have hcn:rY 64 d.length=some 64:=by unfold rY;rw [if_pos ⟨by omega,by omega,by omega⟩];rfl
   rw [hcn];simp only [obS];have hcl:=aAn hd1;refine (congrArg (fun o=>Option.bind (Option.bind o _) _) (aC2 p hp1 (fun i o c hi ho hc=>?_) (fG 64 d) 0 (out++[(110::p,[102]++kI d.length)]) (by rw [mO];omega) (by simp [mO];omega) fun c hc=>by have:=aE5 hc;omega)).trans ?_
   ·simp only;rw [eU (by simp;omega)];simp only [obS];rw [show u8O 0=some 0 from rfl,wrap_u8',show ((i:Int) % 256)=(i:Int) by omega,rI (by omega) (by omega)];simp only [obS];rw [eU (by simp;omega)];simp only [obS];rw [aAb _ (by omega)];simp only [obS];rw [cI (by simp;omega)];simp only [obS];rw [aI (by omega) (by omega)];simp
   ·simp
theorem aA9 {s:FS} {l:List Ent} (hE:Enum s l) (hl:l.length<=1000000) (hb:∀ x∈l,x.1.length<=100000/\x.2.2.length<=192):gT s=some (dT l) :=
 aGk hE (by omega) (fun x hx=>⟨(hb x hx).1,Nat.le_trans (hb x hx).2 (by decide)⟩) fun l' h1 h2=>by
  have:=wR (l:=l') fun x hx=>(hb x (h2 x hx)).2;omega
theorem aLo (n:Nat) (hn:0<n) (xs:List UInt8):(fG n xs).flatten=xs:=by
 have key:∀ m:Nat,((List.range m).map fun k=>(xs.drop (k*n)).take n).flatten=xs.take (m*n):=by
  intro m
  induction m with
  | zero=>simp
  | succ m ih =>
   rw [List.range_succ,List.map_append,List.flatten_append,ih];simp only [List.map_cons,List.map_nil,List.flatten_cons,List.flatten_nil,List.append_nil];rw [Nat.succ_mul,List.take_add]
 unfold fG eD;rw [List.map_map];refine (key _).trans (List.take_of_length_le ?_);have:=(not_congr (nD (n:=n) (len:=xs.length) (k:=gM n xs.length) hn)).1 (Nat.lt_irrefl _);omega
theorem jn_nz {xs:List (List UInt8)} (h:∀ x∈xs,∀ c∈x,c≠0):∀ c∈jn xs,c≠0:=by
 induction xs with
 | nil=>intro c hc;simp [tB] at hc
 | cons x r ih =>
  cases r with
  | nil=>intro c hc;rw [nY] at hc;exact h x List.mem_cons_self c hc
  | cons y r =>
   intro c hc;rw [lO] at hc;rcases List.mem_append.1 hc with hc | hc
   ·exact h x List.mem_cons_self c hc
   ·rcases List.mem_cons.1 hc with rfl | hc
    ·decide
    ·exact ih (fun z hz=>h z (List.mem_cons_of_mem _ hz)) c hc
theorem xT {p:List UInt8} (h:okP p=true):∀ c∈p,c≠0:=by
 obtain ⟨h1,h2,_⟩:=bZ h;rw [h2];intro c hc;rcases List.mem_cons.1 hc with rfl | hc
 ·decide
 ·exact jn_nz (fun x hx=>aK8 (h1 x hx)) c hc
theorem zW {p r:List UInt8} (h:∀ c∈p,c≠0):tw (p++0::r)=p:=by
 unfold tw
 induction p with
 | nil=>simp
 | cons c p ih =>
  have h1:=h c List.mem_cons_self;rw [List.cons_append,List.takeWhile_cons,if_pos (by simpa using h1),ih fun d hd=>h d (List.mem_cons_of_mem _ hd)]
def cof (p:List UInt8) (x:P2):Option (List UInt8):=match x.1 with
 | []=>none
 | a::r=>if a=99/\tw r=p then some x.2 else none
theorem uZ (p:List UInt8):∀ (L:List P2) (s:CS×FS),((L.foldl r1 s).1 p).getD []=(s.1 p).getD []++(L.filterMap (cof p)).flatten
 | [],s=>by simp
 | x::L,s=>by
  obtain ⟨k,v⟩:=x;rw [List.foldl_cons,uZ p L,List.filterMap_cons];cases k with
  | nil=>rfl
  | cons a r =>
   simp only [r1,cof];by_cases h99:a=99
   ·subst h99;simp only [if_true,true_and,aQ];by_cases e:p=tw r
    ·rw [if_pos e,if_pos e.symm,<- e];simp
    ·rw [if_neg e,if_neg (Ne.symm e)]
   ·rw [if_neg h99,if_neg (show ¬ (a=99/\tw r=p) from fun h=>h99 h.1)];split<;>rfl
theorem wO (p:List UInt8):∀ (L:List P2) (s:CS×FS),(∀ v,(110::p,v) ∉ L)->(L.foldl r1 s).2 p=s.2 p
 | [],s,_=>rfl
 | x::L,s,h=>by
  obtain ⟨k,v⟩:=x;rw [List.foldl_cons,wO p L _ fun u hu=>h u (List.mem_cons_of_mem _ hu)];cases k with
  | nil=>rfl
  | cons a r =>
   simp only [r1];by_cases h99:a=99
   ·rw [if_pos h99]
   ·rw [if_neg h99];by_cases h110:a=110
    ·rw [if_pos h110];have e:p≠r:=fun e=>h v (by rw [e,h110];exact List.mem_cons_self);simp [aQ,e]
    ·rw [if_neg h110]
theorem wJ (p v:List UInt8):∀ (L:List P2) (s:CS×FS),(L.map (·.1)).Nodup->(110::p,v)∈L->(L.foldl r1 s).2 p=some (decide (v=[100]),[])
 | [],_,_,h=>by cases h
 | x::L,s,hn,h=>by
  simp only [List.map_cons,List.nodup_cons] at hn;rw [List.foldl_cons];rcases List.mem_cons.1 h with rfl | h
  ·rw [wO p L _ fun u hu=>hn.1 (List.mem_map.2 ⟨_,hu,rfl⟩)];simp [r1,aQ]
  ·exact wJ p v L _ hn.2 h
theorem xJ {α β:Type} (f:α->Option β) (g:α->β) (hg:∀ x y,f x=some y->y=g x):∀ l:List α,l.filterMap f=(l.filter fun x=>(f x).isSome).map g
 | []=>rfl
 | x::l=>by
  rw [List.filterMap_cons,List.filter_cons];cases h:f x with
  | none=>simp [xJ f g hg l]
  | some y=>simp [xJ f g hg l,hg x y h]
structure xM (l:List Ent):Prop where
 nd:(l.map (·.1)).Nodup
 ok:∀ x∈l,okP x.1=true
 len:∀ x∈l,x.2.2.length<=192
 dir:∀ x∈l,x.2.1=true->x.2.2=[]
theorem prs2_mem {l:List Ent} {x:P2}:x∈dT l↔∃ e∈l,x∈cA e:=by
 unfold dT iF;rw [(List.mergeSort_perm _ leP).mem_iff,List.mem_flatMap]
theorem aLt {l:List Ent} (h:xM l):∀ p,rdF (dT l) p=bG p l:=by
 have hnd:=tL h.nd h.len;have hst:=qN hnd;have hkn:((dT l).map (·.1)).Nodup:=((List.mergeSort_perm _ leP).map _).nodup_iff.2 hnd;intro p;unfold rdF iX;by_cases hp:∃ f,(p,f)∈l
 ·obtain ⟨⟨b,d⟩,hf⟩:=hp;rw [eB h.nd hf];cases b with
  | true =>
   have hm:(110::p,[100])∈dT l:=prs2_mem.2 ⟨_,hf,by simp [cA]⟩;rw [wJ p _ _ _ hkn hm];have:=h.dir _ hf rfl;simp only at this;rw [this];rfl
  | false =>
   have hm:(110::p,102::kI d.length)∈dT l:=prs2_mem.2 ⟨_,hf,by simp [cA]⟩;rw [wJ p _ _ _ hkn hm];have hne:¬ (102::kI d.length=([100]:List UInt8)):=by simp
   rw [decide_eq_false hne];simp only;rw [uZ p,xJ (cof p) (·.2) (fun x y hxy=>by
    unfold cof at hxy
    split at hxy
    ·cases hxy
    ·split at hxy
     ·exact (Option.some.inj hxy).symm
     ·cases hxy)]
   have hfil:(dT l).filter (fun x=>(cof p x).isSome)=chk p 0 (fG 64 d):=by
    refine vC (List.Pairwise.sublist List.filter_sublist hst) (xX (by have:=zF (h.len _ hf);rw [mO];simp only at this;omega)) fun x=>?_;rw [List.mem_filter,prs2_mem];constructor
    ·rintro ⟨⟨e,he,hx⟩,hc⟩;obtain ⟨q,b',d'⟩:=e;have hq:=xT (h.ok _ he);unfold cA at hx;simp only at hx;cases b' with
     | true=>simp at hx;rw [hx] at hc;simp [cof] at hc
     | false =>
      simp only [Bool.false_eq_true,if_false] at hx;rcases List.mem_cons.1 hx with rfl | hx
      ·simp [cof] at hc
      ·obtain ⟨j,_,_,h3⟩:=mP hx;unfold cof at hc;rw [h3] at hc;simp only [true_and] at hc;rw [zW hq] at hc;by_cases e:q=p
       ·subst e;have:=eB h.nd he;rw [eB h.nd hf] at this;cases this;exact hx
       ·rw [if_neg e] at hc;cases hc
    ·intro hx;refine ⟨⟨_,hf,by simp [cA,hx]⟩,?_⟩;obtain ⟨j,_,_,h3⟩:=mP hx;unfold cof;rw [h3];simp only [true_and];rw [zW (xT (h.ok _ hf)),if_pos rfl];rfl
   rw [hfil,xK,aLo 64 (by omega)];rfl
 ·have hn:∀ v,(110::p,v) ∉ dT l:=fun v hv=>by
   obtain ⟨e,he,hx⟩:=prs2_mem.1 hv;rcases rQ hx with h1 | ⟨c,h1⟩
   ·simp only at h1;injection h1 with _ h1;exact hp ⟨e.2,by rw [h1];exact he⟩
   ·simp only at h1;injection h1 with h1;exact absurd h1 (by decide)
  rw [wO p _ _ hn]
  symm
  refine kG fun hm=>?_;obtain ⟨⟨a,b⟩,hx,hj⟩:=List.mem_map.1 hm;simp only at hj;exact hp ⟨b,by rw [<- hj];exact hx⟩
structure Snd (s:FS):Prop where
 root:∃ d,s [47]=some (true,d)
 ok:∀ p f,s p=some f->okP p=true
 len:∀ p f,s p=some f->f.2.length<=192
 dir:∀ p d,s p=some (true,d)->d=[]
 up:∀ p f,s p=some f->p≠[47]->∃ d,s (par p)=some (true,d)
theorem Snd.ent {s:FS} (h:Snd s) {l:List Ent} (hE:Enum s l):xM l :=
 ⟨hE.1,fun x hx=>h.ok x.1 x.2 ((bQ hE).1 hx),fun x hx=>h.len x.1 x.2 ((bQ hE).1 hx),fun x hx hd=>h.dir x.1 x.2.2 (by rw [<- hd];exact (bQ hE).1 hx)⟩
noncomputable def cN (s:FS):List P2:=(gT s).getD []
theorem Snd.prs {s:FS} (h:Snd s) {n:Nat} (hc:Crd s n) (hn:n<=1000000):gT s=some (cN s)/\rdF (cN s)=s/\(cN s).length<=4*n/\∀ x∈cN s,x.1.length<=100/\x.2.length<=100:=by
 obtain ⟨l,hE,hl⟩:=hc;have hk:=h.ent hE;have h1:gT s=some (dT l):=aA9 hE (by omega) fun x hx=>⟨by have:=(bZ (hk.ok x hx)).2.2;omega,hk.len x hx⟩;have h2:cN s=dT l:=by unfold cN;rw [h1];rfl
 rw [h2];refine ⟨h1,?_,?_,fun x hx=>?_⟩
 ·funext p;rw [aLt hk p];exact (hE.2 p).symm
 ·unfold dT iF;rw [(List.mergeSort_perm _ leP).length_eq];have:=wR hk.len;omega
 ·obtain ⟨e,he,hx⟩:=prs2_mem.1 hx;have hp:=(bZ (hk.ok e he)).2.2;refine ⟨?_,?_⟩
  ·rcases rQ hx with h1 | ⟨c,h1⟩
   ·rw [h1];simp;omega
   ·rw [h1];simp;omega
  ·have hmem:∀ i (cs:List (List UInt8)),x∈chk e.1 i cs->x.2∈cs:=by
    intro i cs hh;have:=xK e.1 i cs;rw [<- this];exact List.mem_map.2 ⟨x,hh,rfl⟩
   unfold cA at hx;split at hx
   ·simp at hx;rw [hx];simp
   ·rcases List.mem_cons.1 hx with rfl | hx
    ·simp [kI]
    ·have:=aE5 (hmem 0 _ hx);omega
theorem aDk {β:Type} {f:Unit->β->Option (Unit ⊕ Bool)} (good:β->Bool):∀ (l:List β),(∀ x∈l,f () x=some (if good x=true then .inl () else .inr false))->dC f () l=some (if l.all good=true then .inl () else .inr false)
 | [],_=>rfl
 | x::l,h=>by
  show (f () x).bind _=_;rw [h x List.mem_cons_self];by_cases hg:good x=true
  ·rw [if_pos hg];simp only [obS];rw [aDk good l fun y hy=>h y (List.mem_cons_of_mem _ hy)];simp [hg]
  ·rw [if_neg hg];simp [show good x=false by simpa using hg]
def gd (s:FS) (x:Ent):Bool:=okP x.1&&decide (x.2.2.length<=192)&&(decide (x.1=[47]) || ((s (par x.1)).getD (false,[])).1)
theorem aJs {s:FS} {l:List Ent} (hE:Enum s l) (hb:∀ x∈l,x.1.length<=90000/\x.2.2.length<=1000000000000000):rT s=some (l.all (gd s)&&((s [47]).getD (false,[])).1):=by
 unfold rT;refine nM hE fun l' hE'=>?_;have hp:l'.Perm l:=hE'.perm hE;rw [aDk (gd s) l' fun x hx=>?_]
 ·have:l'.all (gd s)=l.all (gd s):=by
   rw [Bool.eq_iff_iff,List.all_eq_true,List.all_eq_true];exact ⟨fun h x hx=>h x (hp.mem_iff.2 hx),fun h x hx=>h x (hp.mem_iff.1 hx)⟩
  rw [this];cases l.all (gd s)<;>rfl
 ·obtain ⟨h1,h2⟩:=hb x (hp.mem_iff.1 hx);unfold gd;rw [qX _ (by omega)];simp only [obS];cases okP x.1 with
  | false=>rfl
  | true =>
   rw [if_pos rfl,if_pos rfl];by_cases h3:192<(x.2.2.length:Int)
   ·rw [if_pos h3,decide_eq_false (show ¬ x.2.2.length<=192 by omega)];rfl
   ·rw [if_neg h3,decide_eq_true (show x.2.2.length<=192 by omega)];by_cases h4:x.1=[47]
    ·rw [if_pos h4,decide_eq_true h4];rfl
    ·rw [if_neg h4,decide_eq_false h4,aAq _ (by omega)];simp only [obS];cases ((s (par x.1)).getD (false,[])).1<;>rfl
theorem aCk (L:List P2):∀ p d,rdF L p=some (true,d)->d=[]:=by
 have key:∀ (L:List P2) (s:CS×FS),(∀ p f,s.2 p=some f->f.2=[])->∀ p f,(L.foldl r1 s).2 p=some f->f.2=[]:=by
  intro L
  induction L with
  | nil=>intro s h;exact h
  | cons x L ih =>
   intro s h;refine ih (r1 s x) fun p f hp=>?_;obtain ⟨k,v⟩:=x;cases k with
   | nil=>exact h p f hp
   | cons a r =>
    simp only [r1] at hp;split at hp
    ·exact h p f hp
    ·split at hp
     ·simp only [aQ] at hp;split at hp
      ·cases hp;rfl
      ·exact h p f hp
     ·exact h p f hp
 intro p d h;unfold rdF iX at h;split at h
 ·cases h
 ·exact key L (bV,bV) (fun p f h=>by cases h) p _ h
theorem aLx (x y:List P2) (hx:x.length<=100000000):qI x y=some (decide (x=y)):=by
 have hs:∀ a b:P2,pW a b=some (decide (a=b)):=fun a b=>by
  obtain ⟨a1,a2⟩:=a;obtain ⟨b1,b2⟩:=b;unfold pW sF;simp only [obS];by_cases h1:a1=b1
  ·rw [if_pos (decide_eq_true h1)];by_cases h2:a2=b2
   ·rw [decide_eq_true h2,decide_eq_true (by rw [h1,h2])]
   ·rw [decide_eq_false h2,decide_eq_false (by simp [h2])]
  ·rw [if_neg (by simp [h1]),decide_eq_false (by simp [h1])]
 unfold qI;by_cases hl:(x.length:Int)=(y.length:Int)
 ·rw [if_pos hl];refine eJ (fun k (s:Int)=>s=(k:Int)/\∀ j,j<k->x.getD j ([],[])=y.getD j ([],[])) (fun r=>(r=.inl ()/\x=y)\/(r=.inr false/\x≠y)) x.length ⟨rfl,fun j hj=>by omega⟩ ?_ ?_ ?_
  ·rintro k _ hk ⟨rfl,hne⟩;rw [if_pos (by omega),lI ([],[]) rfl hk,lI ([],[]) rfl (show k<y.length by omega)];simp only [obS,hs];by_cases e:x.getD k ([],[])=y.getD k ([],[])
   ·rw [if_neg (by rw [decide_eq_true e];decide),aI (by omega) (by omega)];exact .inl ⟨_,rfl,rfl,fun j hj=>by
     by_cases ej:j=k
     ·subst ej;exact e
     ·exact hne j (by omega)⟩
   ·rw [if_pos (by rw [decide_eq_false e];rfl)];exact .inr ⟨_,rfl,.inr ⟨rfl,fun h=>e (by rw [h])⟩⟩
  ·rintro _ ⟨rfl,hne⟩;refine ⟨.inl (),?_,.inl ⟨rfl,List.ext_getElem (by omega) fun j h1 h2=>?_⟩⟩
   ·rw [if_neg (by omega)]
   ·have:=hne j h1;simpa [List.getD_eq_getElem?_getD,List.getElem?_eq_getElem h1,List.getElem?_eq_getElem h2] using this
  ·rintro _ (⟨rfl,h1⟩ | ⟨rfl,h1⟩)
   ·simp [h1]
   ·simp [h1]
 ·rw [if_neg hl,decide_eq_false fun h=>hl (by rw [h])]
theorem aL5 (L:List P2) (hn:L.length<=1000) (hb:∀ x∈L,x.1.length<=10000/\x.2.length<=10000):(jR L=some 0/\Snd (rdF L)/\cN (rdF L)=L)\/(jR L=some 22/\¬ (Snd (rdF L)/\cN (rdF L)=L)):=by
 unfold jR;rw [zQ L (by omega) fun x hx=>by have:=hb x hx;omega];simp only [obS];obtain ⟨l,hE,hl⟩:=lF L;have hkey:∀ p f,rdF L p=some f->p.length<=10000/\f.2.length<=100000000:=by
  have key:∀ (L:List P2) (s:CS×FS) (n:Nat),(∀ x∈L,x.1.length<=10000/\x.2.length<=10000)->(∀ p f,s.2 p=some f->p.length<=10000)->(∀ p,((s.1 p).getD []).length<=n)->(∀ p f,(L.foldl r1 s).2 p=some f->p.length<=10000)/\∀ p,(((L.foldl r1 s).1 p).getD []).length<=n+L.length*10000:=by
   intro L
   induction L with
   | nil=>intro s n _ h1 h2;exact ⟨h1,fun p=>by have:=h2 p;simpa using this⟩
   | cons x L ih =>
    intro s n hb h1 h2;obtain ⟨h3,h4⟩:=hb x List.mem_cons_self;obtain ⟨h5,h6⟩:=ih (r1 s x) (n+10000) (fun y hy=>hb y (List.mem_cons_of_mem _ hy)) (fun p f hp=>by
     obtain ⟨k,v⟩:=x
     cases k with
     | nil=>exact h1 p f hp
     | cons a r =>
      simp only [r1] at hp
      split at hp
      ·exact h1 p f hp
      ·split at hp
       ·simp only [aQ] at hp
        split at hp
        ·rename_i e;subst e;simp at h3;omega
        ·exact h1 p f hp
       ·exact h1 p f hp) (zZ s x n 10000 h2 h4)
    exact ⟨h5,fun p=>by have:=h6 p;simp only [List.foldl_cons,List.length_cons] at this ⊢;omega⟩
  obtain ⟨h1,h2⟩:=key L (bV,bV) 0 hb (fun p f h=>by cases h) (fun p=>by simp [bV]);intro p f hp;unfold rdF iX at hp;split at hp
  ·rename_i b e;cases hp;exact ⟨h1 p _ e,by have:=h2 p;simp only;omega⟩
  ·rename_i e1 e2;refine ⟨h1 p f hp,?_⟩;obtain ⟨b,d⟩:=f;cases b with
   | false=>exact absurd hp (e2 d)
   | true =>
    have:=aCk L p d (by unfold rdF iX;simp only [hp]);rw [this];simp
 have hbl:∀ x∈l,x.1.length<=90000/\x.2.2.length<=1000000000000000:=fun x hx=>by
  have:=hkey x.1 x.2 ((bQ hE).1 hx);omega
 rw [aJs hE hbl];simp only [obS];have hsnd:(l.all (gd (rdF L))&&((rdF L [47]).getD (false,[])).1)=true↔Snd (rdF L):=by
  rw [Bool.and_eq_true,List.all_eq_true];have hdd:∀ p,((rdF L p).getD (false,[])).1=true↔∃ d,rdF L p=some (true,d):=fun p=>by
   cases h:rdF L p with
   | none=>simp
   | some v=>obtain ⟨b,d⟩:=v;cases b<;>simp
  rw [hdd];have hg:∀ x,gd (rdF L) x=true↔okP x.1=true/\x.2.2.length<=192/\(x.1≠[47]->∃ d,rdF L (par x.1)=some (true,d)):=fun x=>by
   unfold gd;simp only [Bool.and_eq_true,Bool.or_eq_true,decide_eq_true_eq,hdd];constructor
   ·rintro ⟨⟨a,b⟩,c⟩;exact ⟨a,b,fun h=>c.resolve_left h⟩
   ·rintro ⟨a,b,c⟩;refine ⟨⟨a,b⟩,?_⟩;by_cases h:x.1=[47]
    ·exact .inl h
    ·exact .inr (c h)
  constructor
  ·rintro ⟨h1,h2⟩;exact ⟨h2,fun p f hp=>((hg (p,f)).1 (h1 _ ((bQ hE).2 hp))).1,fun p f hp=>((hg (p,f)).1 (h1 _ ((bQ hE).2 hp))).2.1,aCk L,fun p f hp=>((hg (p,f)).1 (h1 _ ((bQ hE).2 hp))).2.2⟩
  ·intro h;exact ⟨fun x hx=>(hg x).2 ⟨h.ok _ _ ((bQ hE).1 hx),h.len _ _ ((bQ hE).1 hx),h.up _ _ ((bQ hE).1 hx)⟩,h.root⟩
 by_cases hs:(l.all (gd (rdF L))&&((rdF L [47]).getD (false,[])).1)=true
 ·have hS:=hsnd.1 hs;rw [if_neg (by rw [hs];decide)];obtain ⟨h1,_,h3,_⟩:=hS.prs ⟨l,hE,hl⟩ (by omega);rw [h1];simp only [obS];rw [aLx _ _ (by omega)];simp only [obS];by_cases he:cN (rdF L)=L
  ·rw [if_neg (by simp [he])];exact .inl ⟨rfl,hS,he⟩
  ·rw [if_pos (by simp [he])];exact .inr ⟨rfl,fun h=>he h.2⟩
 ·rw [if_pos (by simp only [show (l.all (gd (rdF L))&&((rdF L [47]).getD (false,[])).1)=false by simpa using hs];rfl)];exact .inr ⟨rfl,fun h=>hs (hsnd.2 h.1)⟩
def zf:Bool×List UInt8:=(false,[])
def ag (s:FS) (a:List UInt8):Option Int:=match s a with
 | none=>some 91
 | some f=>if f.1=true then none else some 93
def eH (p:List UInt8):List (List UInt8):=(List.range (nmP p).length).map fun i=>pth ((nmP p).take i)
def lk (s:FS) (p:List UInt8):(Bool×List UInt8)×Int:=if okP p=true then (match (eH p).findSome? (ag s) with
 | some e=>(zf,e)
 | none=>match s p with
  | none=>(zf,91)
  | some f=>(f,0)) else (zf,90)
theorem look_eq (s:FS) (p:List UInt8) (h:p.length<=1500000000):jH s p=some (lk s p):=by
 unfold jH lk;rw [qX _ (by omega)];simp only [obS];by_cases hk:okP p=true
 ·rw [if_pos hk,if_pos rfl,if_pos hk,aPt _ h];simp only [obS];have hlen:(eH p).length<=2000000001:=by have:=pI p;simp [eH];omega
  rw [show ((List.range (nmP p).length).map fun i=>pth ((nmP p).take i))=eH p from rfl];rw [tJ (eH p) (fun a=>(ag s a).map fun e=>(Sum.inr (zf,e):Unit ⊕ (Bool×List UInt8)×Int)) (.inl ()) (fun i hi=>?_) ?_]
  ·simp only [obS];have:(eH p).findSome? (fun a=>(ag s a).map fun e=>(Sum.inr (zf,e):Unit ⊕ (Bool×List UInt8)×Int))=((eH p).findSome? (ag s)).map fun e=>(Sum.inr (zf,e):Unit ⊕ (Bool×List UInt8)×Int):=by
    generalize eH p=l
    induction l with
    | nil=>rfl
    | cons x l ih =>
     rw [List.findSome?_cons,List.findSome?_cons];cases ag s x with
     | none=>exact ih
     | some e=>rfl
   rw [this];cases (eH p).findSome? (ag s) with
   | some e=>rfl
   | none =>
    simp only [Option.map_none,Option.getD_none,Sum.elim_inl];cases s p with
    | none=>rfl
    | some f=>rfl
  ·rw [if_neg (by omega)]
  ·rw [if_pos (by omega),bP hi];simp only [obS];unfold ag;cases hs:s (eH p)[i] with
   | none=>rfl
   | some f =>
    obtain ⟨b,d⟩:=f;cases b with
    | true=>rw [if_neg (by simp),if_neg (by simp),aI (by omega) (by omega)];rfl
    | false=>rfl
 ·rw [if_neg hk,if_neg (by omega),if_neg hk];rfl
theorem sM {s:FS} {p:List UInt8} (h:(lk s p).2=0):okP p=true/\∃ f,s p=some f/\lk s p=(f,0):=by
 unfold lk at h ⊢;by_cases hk:okP p=true
 ·rw [if_pos hk] at h ⊢;refine ⟨hk,?_⟩;cases hf:(eH p).findSome? (ag s) with
  | some e =>
   rw [hf] at h;simp only at h;subst h;obtain ⟨a,_,ha⟩:=List.exists_of_findSome?_eq_some hf;unfold ag at ha;split at ha
   ·cases ha
   ·split at ha<;>cases ha
  | none =>
   rw [hf] at h;simp only at h ⊢;cases hp:s p with
   | none=>rw [hp] at h;cases h
   | some f=>exact ⟨f,rfl,rfl⟩
 ·rw [if_neg hk] at h;cases h
theorem aPo {s:FS} (hs:Snd s) {p:List UInt8} {f:Bool×List UInt8} (hp:s p=some f):∀ i,i<(nmP p).length->∃ d,s (pth ((nmP p).take i))=some (true,d):=by
 obtain ⟨h1,h2,h3⟩:=bZ (hs.ok p f hp);have hlen:∀ i,(pth ((nmP p).take i)).length<=24:=fun i=>by
  have:=mH (xs:=nmP p) i;rw [h2] at h3;simp only [pth,List.length_cons] at h3 ⊢;omega
 have hnp:∀ i,NP ((nmP p).take i):=fun i x hx=>h1 x (List.mem_of_mem_take hx);have key:∀ k i,i+k=(nmP p).length->0<k->∃ d,s (pth ((nmP p).take i))=some (true,d):=by
  intro k
  induction k with
  | zero=>intro i _ h0;omega
  | succ k ih =>
   intro i hi _;have hx:∃ g,s (pth ((nmP p).take (i+1)))=some g:=by
    by_cases hk:k=0
    ·subst hk;rw [List.take_of_length_le (show (nmP p).length<=i+1 by omega),<- h2];exact ⟨f,hp⟩
    ·obtain ⟨d,hd⟩:=ih (i+1) (by omega) (by omega);exact ⟨_,hd⟩
   obtain ⟨g,hg⟩:=hx;have hn:=tS (hnp (i+1)) (hlen (i+1));have hne:(nmP p).take (i+1)≠[]:=by
    intro e;have:=congrArg List.length e;rw [List.length_take,List.length_nil] at this;omega
   obtain ⟨d,hd⟩:=hs.up _ g hg (fun e=>hne (by rw [<- hn,e];rfl));refine ⟨d,?_⟩;rw [<- hd];unfold par;rw [hn,if_neg hne,List.dropLast_eq_take,List.take_take,List.length_take];rw [show min (min (i+1) (nmP p).length-1) (i+1)=i by omega]
 intro i hi;exact key ((nmP p).length-i) i (by omega) (by omega)
def rg (s:FS) (p:List UInt8):(Bool×List UInt8)×Int:=if (lk s p).2=0 then (if (lk s p).1.1=true then (zf,94) else lk s p) else lk s p
theorem aEm (s:FS) (p:List UInt8) (h:p.length<=1500000000):oT s p=some (rg s p):=by
 unfold oT rg;rw [look_eq s p h];simp only [obS];split
 ·split<;>rfl
 ·rfl
theorem wB {s:FS} {p:List UInt8} (h:(rg s p).2=0):∃ d,s p=some (false,d)/\rg s p=((false,d),0):=by
 unfold rg at h ⊢;by_cases h1:(lk s p).2=0
 ·rw [if_pos h1] at h ⊢;obtain ⟨_,f,h2,h3⟩:=sM h1;obtain ⟨b,d⟩:=f;rw [h3] at h ⊢;cases b with
  | true=>cases h
  | false=>exact ⟨d,h2,rfl⟩
 ·rw [if_neg h1] at h;exact absurd h h1
def rm (s:FS) (p:List UInt8):Int:=if okP p=true then (if p=[47] then 92 else if (lk s (par p)).2=0 then (if (lk s (par p)).1.1=true then (if (s p).isSome=true then 92 else 0) else 93) else (lk s (par p)).2) else 90
theorem aBm {p:List UInt8} (h:okP p=true):(par p).length<=24:=by
 obtain ⟨h1,h2,h3⟩:=bZ h;unfold par;split
 ·simp
 ·have:=mH (xs:=nmP p) ((nmP p).length-1);rw [<- List.dropLast_eq_take] at this;rw [h2] at h3;simp only [pth,List.length_cons] at h3 ⊢;omega
theorem yX (s:FS) (p:List UInt8) (h:p.length<=1500000000):nK s p=some (rm s p):=by
 unfold nK rm;rw [qX _ (by omega)];simp only [obS];by_cases hk:okP p=true
 ·rw [if_pos hk,if_pos rfl,if_pos hk];by_cases hr:p=[47]
  ·rw [if_pos hr,if_pos hr]
  ·rw [if_neg hr,if_neg hr,aAq _ h];simp only [obS];rw [look_eq _ _ (by have:=aBm hk;omega)];simp only [obS];by_cases he:(lk s (par p)).2=0
   ·rw [if_pos he,if_pos he];cases (lk s (par p)).1.1 with
    | false=>rfl
    | true =>
     cases s p<;>rfl
   ·rw [if_neg he,if_neg he]
 ·rw [if_neg hk,if_neg (by omega),if_neg hk]
theorem pE {s:FS} {p:List UInt8} (h:rm s p=0):okP p=true/\p≠[47]/\(∃ d,s (par p)=some (true,d))/\s p=none:=by
 unfold rm at h;by_cases hk:okP p=true
 ·rw [if_pos hk] at h;by_cases hr:p=[47]
  ·rw [if_pos hr] at h;cases h
  ·rw [if_neg hr] at h;by_cases he:(lk s (par p)).2=0
   ·rw [if_pos he] at h;obtain ⟨_,f,h2,h3⟩:=sM he;obtain ⟨b,d⟩:=f;rw [h3] at h;cases b with
    | false=>cases h
    | true =>
     cases hp:s p with
     | none=>exact ⟨hk,hr,⟨d,h2⟩,rfl⟩
     | some g=>rw [hp] at h;cases h
   ·rw [if_neg he] at h;exact absurd h he
 ·rw [if_neg hk] at h;cases h
def tle (x y:List UInt8):Bool:=decide (x<=y)
theorem wA (xs:List (List UInt8)):(xs.mergeSort tle).Pairwise (·<=·):=by
 refine (List.pairwise_mergeSort (le:=tle) (fun a b c h1 h2=>?_) (fun a b=>?_) xs).imp fun h=>of_decide_eq_true h
 ·exact decide_eq_true (List.le_trans (of_decide_eq_true h1) (of_decide_eq_true h2))
 ·rcases List.le_total a b with h | h
  ·simp [tle,h]
  ·simp [tle,h]
theorem aNj {xs ys:List (List UInt8)} (h:xs.Perm ys):xs.mergeSort tle=ys.mergeSort tle :=
 List.Perm.eq_of_pairwise (le:=(·<=·)) (fun a b _ _ h1 h2=>List.le_antisymm h1 h2) (wA xs) (wA ys) ((List.mergeSort_perm xs tle).trans (h.trans (List.mergeSort_perm ys tle).symm))
def inD (p:List UInt8) (x:Ent):Bool:=decide (x.1≠[47])&&decide (par x.1=p)
def blL (l:List Ent) (p:List UInt8):List (List UInt8):=((l.filter (inD p)).map fun x=>bas x.1).mergeSort tle
theorem yP {s:FS} {l:List Ent} (hE:Enum s l) (hl:l.length<=1000000) (hb:∀ x∈l,x.1.length<=1500000000) (p:List UInt8):jA s p=some (blL l p):=by
 unfold jA;refine nM hE fun l' hE'=>?_;have hp:l'.Perm l:=hE'.perm hE;have hl':l'.length<=1000000:=by rw [hp.length_eq];exact hl
 rw [(zD (fun (out:List (List UInt8)) (x:Ent)=>if inD p x=true then out++[bas x.1] else out) (fun pre out=>out=(pre.filter (inD p)).map fun x=>bas x.1) l' l' [] [] rfl rfl ?_).1]
 ·have hfold:l'.foldl (fun (out:List (List UInt8)) (x:Ent)=>if inD p x=true then out++[bas x.1] else out) []=(l'.filter (inD p)).map fun x=>bas x.1:=by
   have key:∀ (l':List Ent) (o:List (List UInt8)),l'.foldl (fun (out:List (List UInt8)) (x:Ent)=>if inD p x=true then out++[bas x.1] else out) o=o++(l'.filter (inD p)).map fun x=>bas x.1:=by
    intro l'
    induction l' with
    | nil=>intro o;simp
    | cons x l' ih =>
     intro o;rw [List.foldl_cons,ih,List.filter_cons];split<;>simp
   simpa using key l' []
  rw [hfold];simp only [obS,Sum.elim_inl];unfold uL vK;have hlen:((l'.filter (inD p)).map fun x=>bas x.1).length<=1000000:=by
   have:=List.length_filter_le (inD p) l';simp only [List.length_map];omega
  rw [if_pos (by omega)];simp only [obS]
  congr 1
  exact aNj ((hp.filter _).map _)
 ·rintro pre x post out hpp rfl;have hxl:=hb x (hp.mem_iff.1 (by rw [<- hpp];simp));have hpl:(pre.filter (inD p)).length<=1000000:=by
   have h1:=List.length_filter_le (inD p) pre;have h2:=congrArg List.length hpp;simp at h2;omega
  refine ⟨?_,?_⟩
  ·unfold inD;by_cases hr:x.1=[47]
   ·rw [if_pos hr];simp [hr]
   ·rw [if_neg hr,aAq _ hxl];simp only [obS];by_cases hq:par x.1=p
    ·rw [if_pos hq,aIw _ hxl];simp only [obS];rw [cI (by simp only [List.length_map,List.length_cons,List.length_nil];unfold inD at hpl;omega)];simp [hr,hq]
    ·rw [if_neg hq];simp [hr,hq]
  ·rw [List.filter_append,List.map_append];by_cases hi:inD p x=true
   ·rw [if_pos hi];simp [hi]
   ·rw [if_neg hi];simp [hi]
def szd (d:List UInt8) (n:Nat):List UInt8:=d.take n++List.replicate (n-d.length) 0
theorem gH (d:List UInt8) (n:Nat):(szd d n).length=n:=by simp [szd];omega
theorem aDo (d:List UInt8) (n:Nat) (h:n<=1000000):sized d (n:Int)=some (szd d n):=by
 unfold sized mkO;rw [if_pos ⟨by omega,by omega⟩];simp only [obS,Int.toNat_natCast]
 congr 1
 unfold putAt szd;simp;rw [Nat.min_comm];omega
abbrev Ans:=Int×Int×List UInt8×List (List UInt8)
abbrev Opr:=Int×List UInt8×List UInt8×Int×Int×List UInt8
def wr (s:FS) (o:Opr):Ans×FS :=
  if (rg s o.2.1).2=0 then
    (if (if o.1=3 then o.2.2.2.1 else o.2.2.2.2.1)<0 then ((1,0,[],[]),s)
     else if 192<(if o.1=3 then o.2.2.2.1 else o.2.2.2.2.1)\/(o.1=3/\192<o.2.2.2.1+(o.2.2.2.2.2.length:Int)) then ((97,0,[],[]),s)
     else if o.1=4 then ((0,0,[],[]),aQ o.2.1 (false,szd (rg s o.2.1).1.2 o.2.2.2.2.1.toNat) s)
     else ((0,(o.2.2.2.2.2.length:Int),[],[]),if 0<o.2.2.2.2.2.length then aQ o.2.1 (false,putAt (szd (rg s o.2.1).1.2 (max (rg s o.2.1).1.2.length ((if o.1=3 then o.2.2.2.1 else o.2.2.2.2.1).toNat+o.2.2.2.2.2.length))) (if o.1=3 then o.2.2.2.1 else o.2.2.2.2.1).toNat o.2.2.2.2.2) s else s))
  else (((rg s o.2.1).2,0,[],[]),s)
theorem aC3 (s:FS) (o:Opr) (hk:o.1=3\/o.1=4) (hp:o.2.1.length<=1500000000) (hd:o.2.2.2.2.2.length<=1500000000) (hf:∀ p f,s p=some f->f.2.length<=100000):sW s o=some (wr s o):=by
 obtain ⟨k,p,t,off,n,d⟩:=o;simp only at hk hp hd;unfold sW wr;simp only;rw [aEm s p hp];simp only [obS];by_cases he:(rg s p).2=0
 ·obtain ⟨fd,h1,h2⟩:=wB he;have hfl:=hf _ _ h1;rw [h2];simp only [if_true] at hfl ⊢;rcases hk with rfl | rfl
  ·simp only [if_true];simp only [obS];by_cases hn:off<0
   ·rw [if_pos hn,if_pos hn];rfl
   ·rw [if_neg hn,if_neg hn];by_cases hb:192<off
    ·rw [if_pos hb,if_pos (.inl hb)];rfl
    ·rw [if_neg hb,aI (by omega) (by omega)];by_cases hb2:192<off+(d.length:Int)
     ·rw [if_pos hb2,if_pos (.inr ⟨trivial,hb2⟩)];rfl
     ·rw [if_neg hb2];rw [if_neg (show ¬ (192<off\/True/\192<off+(d.length:Int)) from fun h=>h.elim hb fun h=>hb2 h.2)];simp only [show ((3:Int)=4)=False from by simp,if_false];by_cases hz:0<d.length
      ·rw [if_pos (by omega),if_pos hz];obtain ⟨m,rfl⟩:∃ m:Nat,off=m:=⟨off.toNat,by omega⟩;rw [show max ((fd.length:Nat):Int) ((m:Int)+(d.length:Int))=((max fd.length (m+d.length):Nat):Int) by omega,aDo _ _ (by omega)];simp only [obS];rw [dM (by rw [gH];omega) (Nat.le_refl _)];simp only [obS,Int.toNat_natCast];rw [List.take_of_length_le (l:=d) (by simp [gH];omega)]
      ·rw [if_neg (by omega),if_neg hz];rfl
  ·simp only [show ((4:Int)=3)=False from by simp,if_false,false_and,or_false];simp only [obS];by_cases hn:n<0
   ·rw [if_pos hn,if_pos hn];rfl
   ·rw [if_neg hn,if_neg hn];by_cases hb:192<n
    ·rw [if_pos hb,if_pos hb];rfl
    ·rw [if_neg hb,if_neg hb];simp only [if_true];obtain ⟨m,rfl⟩:∃ m:Nat,n=m:=⟨n.toNat,by omega⟩;rw [aDo _ _ (by omega)];simp
 ·rw [if_neg he];rcases hk with rfl | rfl
  ·simp only [if_true,obS,if_neg he]
  ·simp only [show ((4:Int)=3)=False from by simp,if_false,obS,if_neg he]
def rdA (s:FS) (o:Opr):Ans :=
 if (rg s o.2.1).2=0 then (if o.2.2.2.1<0\/o.2.2.2.2.1<0 then (1,0,[],[]) else (0,((rg s o.2.1).1.2.length:Int),(((rg s o.2.1).1.2.drop o.2.2.2.1.toNat).take (min o.2.2.2.2.1.toNat 64)),[])) else ((rg s o.2.1).2,0,[],[])
theorem aFu (s:FS) (o:Opr) (hp:o.2.1.length<=1500000000) (hf:∀ p f,s p=some f->f.2.length<=100000):rV s o=some (rdA s o):=by
 obtain ⟨k,p,t,off,n,d⟩:=o;simp only at hp;unfold rV rdA;simp only;rw [aEm s p hp];simp only [obS];by_cases he:(rg s p).2=0
 ·obtain ⟨fd,h1,h2⟩:=wB he;have hfl:=hf _ _ h1;rw [h2];simp only [if_true] at hfl ⊢;by_cases ho:off<0
  ·rw [if_pos ho,if_pos (.inl ho)];rfl
  ·rw [if_neg ho];by_cases hn:n<0
   ·rw [if_pos hn,if_pos (.inr hn)];rfl
   ·rw [if_neg hn,if_neg (by rintro (h | h);exact ho h;exact hn h)];obtain ⟨m,hm⟩:∃ m:Nat,min off ((fd.length:Nat):Int)=m:=⟨(min off ((fd.length:Nat):Int)).toNat,by omega⟩;rw [hm,dM (by omega) (Nat.le_refl _)];simp only [obS,List.take_length];rw [aI (by omega) (by omega)];obtain ⟨q,hq⟩:∃ q:Nat,min (min n 64) (((fd.length:Nat):Int)-(m:Int))=q:=⟨(min (min n 64) (((fd.length:Nat):Int)-(m:Int))).toNat,by omega⟩;rw [hq,show (0:Int)=((0:Nat):Int) from rfl,dM (Nat.zero_le _) (by simp;omega)];simp only [obS,List.drop_zero];rw [aAb _ (by simp;omega)];simp only [obS];have e1:(fd.drop m).take q=(fd.drop off.toNat).take (min n.toNat 64):=by
     by_cases hom:off<=((fd.length:Nat):Int)
     ·have:m=off.toNat:=by omega
      rw [this];by_cases hq2:q=min n.toNat 64
      ·rw [hq2]
      ·rw [List.take_of_length_le (by simp;omega),List.take_of_length_le (by simp;omega)]
     ·rw [List.drop_eq_nil_of_le (by omega),List.drop_eq_nil_of_le (by omega)];simp
    rw [e1]
 ·rw [if_neg he,if_neg he];rfl
def kid (p x:List UInt8):List UInt8:=pth (nmP p++[x])
theorem pX {q:List UInt8} (h:okP q=true) (hr:q≠[47]):nmP (par q)=(nmP q).dropLast/\nmP q=(nmP q).dropLast++[bas q]/\okP (par q)=true:=by
 obtain ⟨h1,h2,h3⟩:=bZ h;have hne:=jK h hr;have hl:(nmP q).dropLast++[bas q]=nmP q:=by
  unfold bas;rw [List.getLast?_eq_some_getLast hne];exact List.dropLast_concat_getLast hne
 have hnp:NP (nmP q).dropLast:=fun x hx=>h1 x (List.dropLast_subset _ hx);have hp:=aBm h;unfold par at hp ⊢;rw [if_neg hne] at hp ⊢;exact ⟨tS hnp hp,hl.symm,xA hnp hp⟩
theorem aFo {q:List UInt8} (h:okP q=true) (hr:q≠[47]):q=kid (par q) (bas q):=by
 obtain ⟨h1,h2,_⟩:=pX h hr;unfold kid;rw [h1,<- h2];exact (bZ h).2.1
noncomputable def bl (s:FS) (p:List UInt8):List (List UInt8):=(jA s p).getD []
structure Bl (s:FS) (p:List UInt8) (n:Nat):Prop where
 eq:jA s p=some (bl s p)
 mem:∀ x,x∈bl s p↔∃ q f,s q=some f/\q≠[47]/\par q=p/\bas q=x
 le:(bl s p).Pairwise (·<=·)
 len:(bl s p).length<=n
 nd:(bl s p).Nodup
theorem Snd.below {s:FS} (hs:Snd s) {n:Nat} (hc:Crd s n) (hn:n<=1000000) (p:List UInt8):Bl s p n:=by
 obtain ⟨l,hE,hl⟩:=hc;have h1:=yP hE (by omega) (fun x hx=>by have:=(bZ (hs.ok _ _ ((bQ hE).1 hx))).2.2;omega) p;have h2:bl s p=blL l p:=by unfold bl;rw [h1];rfl
 have hpm:=List.mergeSort_perm ((l.filter (inD p)).map fun x=>bas x.1) tle;refine ⟨by rw [h1,h2],fun x=>?_,by rw [h2];exact wA _,?_,?_⟩
 ·rw [h2];unfold blL;rw [hpm.mem_iff,List.mem_map];constructor
  ·rintro ⟨⟨q,f⟩,hq,rfl⟩;obtain ⟨h3,h4⟩:=List.mem_filter.1 hq;simp only [inD,Bool.and_eq_true,decide_eq_true_eq] at h4;exact ⟨q,f,(bQ hE).1 h3,h4.1,h4.2,rfl⟩
  ·rintro ⟨q,f,h3,h4,h5,rfl⟩;exact ⟨(q,f),List.mem_filter.2 ⟨(bQ hE).2 h3,by simp [inD,h4,h5]⟩,rfl⟩
 ·rw [h2];unfold blL;rw [hpm.length_eq,List.length_map];have:=List.length_filter_le (inD p) l;omega
 ·rw [h2];unfold blL;rw [hpm.nodup_iff,List.nodup_iff_pairwise_ne,List.pairwise_map,List.pairwise_filter];have hn:=hE.1;rw [List.nodup_iff_pairwise_ne,List.pairwise_map] at hn;refine hn.imp_of_mem fun {a b} ha hb hne hda hdb e=>hne ?_;simp only [inD,Bool.and_eq_true,decide_eq_true_eq] at hda hdb;rw [aFo (hs.ok _ _ ((bQ hE).1 ha)) hda.1,aFo (hs.ok _ _ ((bQ hE).1 hb)) hdb.1,hda.2,hdb.2,e]
def BlB (s:FS):Prop:=∀ p,jA s p=some (bl s p)/\(bl s p).length<=1000000
theorem Snd.blB {s:FS} (hs:Snd s) {n:Nat} (hc:Crd s n) (hn:n<=1000000):BlB s:=fun p=>⟨(hs.below hc hn p).eq,Nat.le_trans (hs.below hc hn p).len hn⟩
noncomputable def rv (s:FS) (p:List UInt8):Int×FS:=if (lk s p).2=0 then (if p=[47] then (96,s) else if 0<(bl s p).length then (95,s) else (0,dR p s)) else ((lk s p).2,s)
theorem aFj {s:FS} (hB:BlB s) (p:List UInt8) (h:p.length<=1500000000):qQ s p=some (rv s p):=by
 unfold qQ rv;rw [look_eq s p h];simp only [obS];split
 ·split
  ·rfl
  ·rw [(hB p).1];simp only [obS];by_cases h0:0<(bl s p).length
   ·rw [if_pos h0,if_pos (by omega)]
   ·rw [if_neg h0,if_neg (by omega)]
 ·rfl
noncomputable def ls (s:FS) (o:Opr):Ans:=if (lk s o.2.1).2=0 then (if (lk s o.2.1).1.1=true then (0,((bl s o.2.1).length:Int),[],((bl s o.2.1).filter fun x=>!dH x o.2.2.1).take 6) else (93,0,[],[])) else ((lk s o.2.1).2,0,[],[])
theorem aNd (s:List (List UInt8)) (h:s.length<=274877906944):rA s=some s:=by
 unfold rA;rw [cI (by simp;omega)];rfl
theorem aGm {s:FS} (hB:BlB s) (o:Opr) (h:o.2.1.length<=1500000000):sS s o=some (ls s o):=by
 unfold sS ls;rw [look_eq s _ h];simp only [obS];by_cases h1:(lk s o.2.1).2=0
 ·rw [if_pos h1,if_pos h1];cases hb:(lk s o.2.1).1.1 with
  | false=>rfl
  | true =>
   rw [if_neg (by decide),if_pos rfl,(hB o.2.1).1];simp only [obS];unfold sV;rw [if_pos (by have:=(hB o.2.1).2;omega)];simp only [obS];have hfl:=List.length_filter_le (fun x=>!dH x o.2.2.1) (bl s o.2.1);have hbl:=(hB o.2.1).2;obtain ⟨m,hm⟩:∃ m:Nat,min ((((bl s o.2.1).filter fun x=>!dH x o.2.2.1).length:Nat):Int) 6=m:=⟨(min ((((bl s o.2.1).filter fun x=>!dH x o.2.2.1).length:Nat):Int) 6).toNat,by omega⟩;rw [hm,show (0:Int)=((0:Nat):Int) from rfl,dM (Nat.zero_le _) (by omega)];simp only [obS,List.drop_zero];rw [aNd _ (by simp;omega)];simp only [obS];have:((bl s o.2.1).filter fun x=>!dH x o.2.2.1).take m=((bl s o.2.1).filter fun x=>!dH x o.2.2.1).take 6:=by
    by_cases h6:m=6
    ·rw [h6]
    ·rw [List.take_of_length_le (by omega),List.take_of_length_le (by omega)]
   rw [this];try rfl
 ·rw [if_neg h1,if_neg h1];rfl
noncomputable def stt (s:FS) (p:List UInt8):Ans:=if (lk s p).2=0 then (if (lk s p).1.1=true then (0,((bl s p).length:Int),[100],[]) else (0,((lk s p).1.2.length:Int),[102],[])) else ((lk s p).2,0,[],[])
theorem aAx {s:FS} (hB:BlB s) (p:List UInt8) (h:p.length<=1500000000):qS s p=some (stt s p):=by
 unfold qS stt;rw [look_eq s _ h];simp only [obS];by_cases h1:(lk s p).2=0
 ·rw [if_pos h1,if_pos h1];cases hb:(lk s p).1.1 with
  | false =>
   rw [if_neg (by decide),if_neg (by decide),show u8O 102=some 102 from rfl];rfl
  | true =>
   rw [if_pos rfl,if_pos rfl,show u8O 100=some 100 from rfl];simp only [obS];rw [(hB p).1];rfl
 ·rw [if_neg h1,if_neg h1];rfl
def rst (c:List (List UInt8)):List UInt8:=if c=[] then [] else pth c
theorem qD {a:List (List UInt8)} (ha:a≠[]) (c:List (List UInt8)):pth (a++c)=pth a++rst c:=by
 unfold rst;by_cases hc:c=[]
 ·rw [if_pos hc,hc];simp
 ·rw [if_neg hc];unfold pth;rw [rH a c ha hc];rfl
theorem aOs {a:List (List UInt8)} (ha:a≠[]) (c:List (List UInt8)):(pth (a++c)).drop (pth a).length=rst c:=by
 rw [qD ha c,List.drop_left]
theorem eW {p q:List UInt8} (hp:okP p=true):aS p q=true↔okP q=true/\∃ c,nmP q=nmP p++c:=by
 unfold aS;rw [hp];simp only [Bool.true_and,Bool.and_eq_true,decide_eq_true_eq];constructor
 ·rintro ⟨h1,c,h2⟩;exact ⟨h1,c,h2.symm⟩
 ·rintro ⟨h1,c,h2⟩;exact ⟨h1,c,h2.symm⟩
theorem oV {p q:List UInt8} (h:aS p q=true):okP p=true/\okP q=true:=by
 unfold aS at h;simp only [Bool.and_eq_true] at h;exact h.1
def mvP (F T p:List UInt8):List UInt8:=T++p.drop F.length
structure Ren (s:FS) (F T:List UInt8):Prop where
 snd:Snd s
 okF:okP F=true
 okT:okP T=true
 neF:F≠[47]
 neT:T≠[47]
 out:aS F T=false
 up:∃ d,s (par T)=some (true,d)
 noT:s T=none
 isF:∃ f,s F=some f
section
variable {s:FS} {F T:List UInt8}
theorem aG6 (hs:Snd s) (hT:okP T=true) (h0:s T=none) {q:List UInt8} (hq:aS T q=true):s q=none:=by
 cases hf:s q with
 | none=>rfl
 | some f =>
  obtain ⟨hk,c,hc⟩:=(eW hT).1 hq;by_cases hcn:c=[]
  ·have e:q=T:=by rw [(bZ hk).2.1,(bZ hT).2.1,hc,hcn,List.append_nil]
   rw [e,h0] at hf;cases hf
  ·obtain ⟨d,hd⟩:=aPo hs hf (nmP T).length (by rw [hc,List.length_append];have:=List.length_pos_iff.2 hcn;omega);rw [hc,List.take_left,<- (bZ hT).2.1,h0] at hd;cases hd
theorem Ren.notT (h:Ren s F T) {q:List UInt8} (hq:aS T q=true):s q=none:=aG6 h.snd h.okT h.noT hq
theorem Ren.apart (h:Ren s F T) {q:List UInt8} (h1:aS F q=true) (h2:aS T q=true):False:=by
 obtain ⟨hk,c,hc⟩:=(eW h.okF).1 h1;obtain ⟨_,c',hc'⟩:=(eW h.okT).1 h2;rcases Nat.le_total (nmP F).length (nmP T).length with hl | hl
 ·have:nmP F <+: nmP T:=List.prefix_of_prefix_length_le ⟨c,hc.symm⟩ ⟨c',hc'.symm⟩ hl;obtain ⟨d,hd⟩:=this;have:=(eW h.okF).2 ⟨h.okT,d,hd.symm⟩;rw [h.out] at this;cases this
 ·have:nmP T <+: nmP F:=List.prefix_of_prefix_length_le ⟨c',hc'.symm⟩ ⟨c,hc.symm⟩ hl;obtain ⟨d,hd⟩:=this;have:=(eW h.okT).2 ⟨h.okF,d,hd.symm⟩;have:=h.notT this;obtain ⟨f,hf⟩:=h.isF;rw [hf] at this;cases this
theorem sK {c:List (List UInt8)} {p:List UInt8} (hF:okP F=true) (hT:okP T=true) (hF0:F≠[47]) (hT0:T≠[47]) (hp:okP p=true) (hc:nmP p=nmP F++c):mvP F T p=pth (nmP T++c)/\p=pth (nmP F++c):=by
 have e:=(bZ hp).2.1;rw [hc] at e;refine ⟨?_,e⟩;unfold mvP;have hf:=(bZ hF).2.1;have ht:=(bZ hT).2.1;have hd:p.drop F.length=rst c:=by
  rw [e];have:=aOs (jK hF hF0) c;rwa [<- hf] at this
 rw [hd,qD (jK hT hT0),<- ht]
theorem oS (hF:okP F=true) (hT:okP T=true) (hF0:F≠[47]) (hT0:T≠[47]) {p:List UInt8} (hp:aS F p=true) (hl:(mvP F T p).length<=24):aS T (mvP F T p)=true/\mvP T F (mvP F T p)=p:=by
 obtain ⟨hk,c,hc⟩:=(eW hF).1 hp;obtain ⟨h1,h2⟩:=sK hF hT hF0 hT0 hk hc;have hnp:NP (nmP T++c):=fun x hx=>by
  rcases List.mem_append.1 hx with hx | hx
  ·exact (bZ hT).1 x hx
  ·exact (bZ hk).1 x (by rw [hc];exact List.mem_append_right _ hx)
 rw [h1] at hl ⊢;have hn:=tS hnp hl;have hk2:=xA hnp hl;refine ⟨(eW hT).2 ⟨hk2,c,hn⟩,?_⟩;rw [(sK hT hF hT0 hF0 hk2 hn).1,<- h2]
open Classical in
noncomputable def rnF (s:FS) (F T:List UInt8):FS:=fun q=>if aS F q=true then none else if aS T q=true then s (mvP T F q) else s q
def badR (s:FS) (F T:List UInt8):Prop:=∃ p f,s p=some f/\aS F p=true/\24<(mvP F T p).length
theorem aB5 {β σ ρ:Type} {f:σ->β->Option (σ ⊕ ρ)} (bad:β->Bool) (r:ρ) (g:σ->β->σ):∀ (l:List β) (s:σ),(∀ x∈l,∀ s,f s x=some (if bad x=true then .inr r else .inl (g s x)))->dC f s l=some (if l.any bad=true then .inr r else .inl (l.foldl g s))
 | [],_,_=>rfl
 | x::l,s,h=>by
  show (f s x).bind _=_;rw [h x List.mem_cons_self];by_cases hb:bad x=true
  ·rw [if_pos hb];simp [hb]
  ·rw [if_neg hb];simp only [obS];rw [aB5 bad r g l _ fun y hy=>h y (List.mem_cons_of_mem _ hy)];simp [hb]
theorem aEo (hap:∀ {q:List UInt8},aS F q=true->aS T q=true->False):∀ (l:List (List UInt8×List UInt8)) (u:FS),(l.map (·.1)).Nodup->(∀ x∈l,aS F x.1=true/\aS T x.2=true/\mvP T F x.2=x.1) ->
  ∀ q,(l.foldl (fun (u:FS) x=>dR x.1 (aQ x.2 ((u x.1).getD (false,[])) u)) u) q=if q∈l.map (·.1) then none else if (mvP T F q,q)∈l then some ((u (mvP T F q)).getD (false,[])) else u q
 | [],u,_,_,q=>by simp
 | (p,t)::l,u,hn,hx,q=>by
  simp only [List.map_cons,List.nodup_cons] at hn;have hx':=fun x hx'=>hx x (List.mem_cons_of_mem _ hx');obtain ⟨g1,g2,g3⟩:=hx (p,t) List.mem_cons_self;simp only at g1 g2 g3;rw [List.foldl_cons,aEo hap l _ hn.2 hx' q];by_cases h1:q∈l.map (·.1)
  ·rw [if_pos h1,if_pos (show q∈((p,t)::l).map (·.1) from List.mem_cons_of_mem _ h1)]
  ·rw [if_neg h1];by_cases h2:(mvP T F q,q)∈l
   ·obtain ⟨k1,k2,k3⟩:=hx' _ h2;simp only at k1 k2;have hqp:q≠p:=fun e=>hap g1 (by rw [<- e];exact k2);rw [if_pos h2,if_neg (show ¬ q∈((p,t)::l).map (·.1) from fun hm=>(List.mem_cons.1 hm).elim hqp h1),if_pos (show (mvP T F q,q)∈(p,t)::l from List.mem_cons_of_mem _ h2)];have e1:mvP T F q≠p:=fun e=>hn.1 (List.mem_map.2 ⟨_,h2,e⟩);have e2:mvP T F q≠t:=fun e=>hap k1 (by rw [e];exact g2);simp [dR,aQ,e1,e2]
   ·rw [if_neg h2];by_cases e:q=p
    ·rw [if_pos (show q∈((p,t)::l).map (·.1) from by rw [e];exact List.mem_cons_self)];simp [dR,e]
    ·rw [if_neg (show ¬ q∈((p,t)::l).map (·.1) from fun hm=>(List.mem_cons.1 hm).elim e h1)];by_cases e2:q=t
     ·have e3:mvP T F q=p:=by rw [e2];exact g3
      rw [if_pos (show (mvP T F q,q)∈(p,t)::l from by rw [e3,e2];exact List.mem_cons_self),e3];simp [dR,aQ,e2,show ¬ t=p from fun e'=>e (e2.trans e')]
     ·rw [if_neg (fun hm=>by
       rcases List.mem_cons.1 hm with hm | hm
       ·injection hm with _ hm;exact e2 hm
       ·exact h2 hm)]
      simp [dR,aQ,e,e2]
end
open Classical in
noncomputable def rn (s:FS) (F T:List UInt8):Int×FS :=
 if okP F=true then (if okP T=true then (if (lk s F).2=0 then (if F=[47] then (96,s) else if aS F T=true then (96,s) else if rm s T=0 then (if badR s F T then (90,s) else (0,rnF s F T)) else (rm s T,s)) else ((lk s F).2,s)) else (90,s)) else (90,s)
theorem wN {s:FS} (hs:Snd s) {F T:List UInt8} (h1:okP F=true) (h2:(lk s F).2=0) (h3:F≠[47]) (h4:aS F T=false) (h5:rm s T=0):Ren s F T:=by
 obtain ⟨_,f,hf,_⟩:=sM h2;obtain ⟨a,b,c,d⟩:=pE h5;exact ⟨hs,h1,a,h3,b,h4,c,d,f,hf⟩
noncomputable def rnM (s:FS) (F T:List UInt8):CS:=fun p=>if (s p).isSome=true/\aS F p=true then some (mvP F T p) else none
noncomputable def rnG (s:FS) (F T:List UInt8):FS:=fun q=>if (rnM s F T q).isSome=true then none else if rnM s F T (mvP T F q)=some q then some ((s (mvP T F q)).getD (false,[])) else s q
open Classical in
noncomputable def rnW (s:FS) (F T:List UInt8):Int×FS :=
 if okP F=true then (if okP T=true then (if (lk s F).2=0 then (if F=[47] then (96,s) else if aS F T=true then (96,s) else if rm s T=0 then (if badR s F T then (90,s) else (0,rnG s F T)) else (rm s T,s)) else ((lk s F).2,s)) else (90,s)) else (90,s)
theorem lk_up {s:FS} {p:List UInt8} (h:(lk s p).2=0):∀ i,i<(nmP p).length->s (pth ((nmP p).take i))≠none:=by
 intro i hi e;unfold lk at h;have hk:=(sM (s:=s) (p:=p) (by unfold lk;exact h)).1;rw [if_pos hk] at h;cases hf:(eH p).findSome? (ag s) with
 | some e =>
  rw [hf] at h;simp only at h;subst h;obtain ⟨a,_,ha⟩:=List.exists_of_findSome?_eq_some hf;unfold ag at ha;split at ha
  ·cases ha
  ·split at ha<;>cases ha
 | none =>
  have:=List.findSome?_eq_none_iff.1 hf (pth ((nmP p).take i)) (List.mem_map.2 ⟨i,List.mem_range.2 hi,rfl⟩);unfold ag at this;rw [e] at this;cases this
theorem aPm {s:FS} {F T q:List UInt8} (hF:okP F=true) (h3:(lk s F).2=0) (hout:aS F T=false) (h6:rm s T=0) (h1:aS F q=true) (h2:aS T q=true):False:=by
 obtain ⟨hT,neT,_,noT⟩:=pE h6;obtain ⟨hk,c,hc⟩:=(eW hF).1 h1;obtain ⟨_,c',hc'⟩:=(eW hT).1 h2;rcases Nat.le_total (nmP F).length (nmP T).length with hl | hl
 ·have:nmP F <+: nmP T:=List.prefix_of_prefix_length_le ⟨c,hc.symm⟩ ⟨c',hc'.symm⟩ hl;obtain ⟨d,hd⟩:=this;have:=(eW hF).2 ⟨hT,d,hd.symm⟩;rw [hout] at this;cases this
 ·have:nmP T <+: nmP F:=List.prefix_of_prefix_length_le ⟨c',hc'.symm⟩ ⟨c,hc.symm⟩ hl;have e:nmP T=(nmP F).take (nmP T).length:=List.prefix_iff_eq_take.1 this;by_cases hlt:(nmP T).length<(nmP F).length
  ·have:=lk_up h3 _ hlt;rw [<- e,<- (bZ hT).2.1] at this;exact this noT
  ·rw [List.take_of_length_le (by omega)] at e;have e2:T=F:=by rw [(bZ hT).2.1,(bZ hF).2.1,e]
   obtain ⟨_,f,hf,_⟩:=sM h3;rw [e2,hf] at noT;cases noT
theorem aE4 {s:FS} (hks:∀ p f,s p=some f->p.length<=1500000000) {n:Nat} (hc:Crd s n) (o:Opr) (hF:o.2.1.length<=1100000000) (hT:o.2.2.1.length<=1100000000):nP s o=some (rnW s o.2.1 o.2.2.1):=by
 obtain ⟨k,F,T,r⟩:=o;simp only at hF hT;unfold nP rnW;simp only;rw [qX F (by omega),qX T (by omega)];simp only [obS];by_cases h1:okP F=true
 ·rw [if_pos h1,if_pos rfl,if_pos h1];by_cases h2:okP T=true
  ·rw [if_pos h2,if_pos rfl,if_pos h2,look_eq _ _ (by omega)];simp only [obS];by_cases h3:(lk s F).2=0
   ·rw [if_pos h3,if_pos h3];by_cases h4:F=[47]
    ·rw [if_pos h4,if_pos h4]
    ·rw [if_neg h4,if_neg h4,aEv _ _ (by omega) (by omega)];simp only [obS];by_cases h5:aS F T=true
     ·rw [if_pos h5,if_pos h5]
     ·rw [if_neg h5,if_neg h5,yX _ _ (by omega)];simp only [obS];by_cases h6:rm s T=0
      ·rw [if_pos h6,if_pos h6];obtain ⟨_,neT,_,_⟩:=pE h6;have hap:∀ {q:List UInt8},aS F q=true->aS T q=true->False:=fun {q}=>aPm h1 h3 (by simpa using h5) h6;obtain ⟨l,hE,hl⟩:=hc;refine nM hE fun l' hE'=>?_;have hkl:∀ x∈l',x.1.length<=1500000000:=fun x hx=>hks _ _ ((bQ hE').1 hx);have hF24:=(bZ h1).2.2;have hT24:=(bZ h2).2.2;rw [aB5 (fun x:Ent=>aS F x.1&&decide (24<(mvP F T x.1).length)) ((90,s):Int×FS) (fun (m:CS) x=>if aS F x.1=true then aQ x.1 (mvP F T x.1) m else m) l' bV fun x hx m=>?_]
       ·simp only [obS];have hb:(l'.any fun x:Ent=>aS F x.1&&decide (24<(mvP F T x.1).length))=true↔badR s F T:=by
         rw [List.any_eq_true];constructor
         ·rintro ⟨⟨p,f⟩,hx,hb⟩;simp only [Bool.and_eq_true,decide_eq_true_eq] at hb;exact ⟨p,f,(bQ hE').1 hx,hb.1,hb.2⟩
         ·rintro ⟨p,f,hp,a,b⟩;exact ⟨(p,f),(bQ hE').2 hp,by simp [a,b]⟩
        by_cases hbad:badR s F T
        ·rw [if_pos (hb.2 hbad),if_pos hbad];rfl
        ·rw [if_neg (fun h=>hbad (hb.1 h)),if_neg hbad];simp only [Sum.elim_inl];have hmov:∀ p,(l'.foldl (fun (m:CS) x=>if aS F x.1=true then aQ x.1 (mvP F T x.1) m else m) bV) p=if (s p).isSome=true/\aS F p=true then some (mvP F T p) else none:=by
          intro p;have key:∀ (l':List Ent) (m:CS),(l'.foldl (fun (m:CS) x=>if aS F x.1=true then aQ x.1 (mvP F T x.1) m else m) m) p=if p∈l'.map (·.1)/\aS F p=true then some (mvP F T p) else m p:=by
           intro l'
           induction l' with
           | nil=>intro m;simp
           | cons x l' ih =>
            intro m;rw [List.foldl_cons,ih];by_cases hw:aS F p=true
            ·by_cases hi:p∈l'.map (·.1)
             ·rw [if_pos ⟨hi,hw⟩,if_pos (show p∈(x::l').map (·.1)/\aS F p=true from ⟨List.mem_cons_of_mem _ hi,hw⟩)]
             ·rw [if_neg (show ¬ (p∈l'.map (·.1)/\aS F p=true) from fun h=>hi h.1)];by_cases e:p=x.1
              ·have hw':aS F x.1=true:=by rw [<- e];exact hw
               rw [if_pos hw',if_pos (show p∈(x::l').map (·.1)/\aS F p=true from ⟨by rw [e];exact List.mem_cons_self,hw⟩),e];simp [aQ]
              ·rw [if_neg (show ¬ (p∈(x::l').map (·.1)/\aS F p=true) from fun h=>(List.mem_cons.1 h.1).elim e hi)];split
               ·simp [aQ,e]
               ·rfl
            ·rw [if_neg (show ¬ (p∈l'.map (·.1)/\aS F p=true) from fun h=>hw h.2),if_neg (show ¬ (p∈(x::l').map (·.1)/\aS F p=true) from fun h=>hw h.2)];split
             ·rename_i hx;have e:¬ p=x.1:=fun e=>hw (by rw [e];exact hx);simp [aQ,e]
             ·rfl
          rw [key];have:p∈l'.map (·.1)↔(s p).isSome=true:=by rw [hE'.2 p];exact (kV p l').symm
          simp only [this,bV]
         generalize hM:l'.foldl (fun (m:CS) x=>if aS F x.1=true then aQ x.1 (mvP F T x.1) m else m) bV=M at hmov;have hfin:∃ kv,Enum M kv/\kv.map (·.1)=(l'.map (·.1)).filter (aS F):=by
          refine aBv (m:=M) _ M (hE'.1.filter _) fun q=>?_;rw [hmov q,List.mem_filter];have:q∈l'.map (·.1)↔(s q).isSome=true:=by rw [hE'.2 q];exact (kV q l').symm
          rw [this];split
          ·rename_i hh;simp [hh]
          ·rename_i hh;simp only [Option.isSome_none,Bool.false_eq_true,iff_false];exact hh
         obtain ⟨kv,hkv,_⟩:=hfin;rw [nM hkv (r:=rnG s F T) fun kv' hkv'=>?_]
         ·rfl
         ·rw [yL (fun (u:FS) (x:List UInt8×List UInt8)=>dR x.1 (aQ x.2 ((u x.1).getD (false,[])) u)) kv' s fun x _ u=>rfl];simp only [obS,Sum.elim_inl]
          congr 1
          funext q;have hmem:∀ x∈kv',(s x.1).isSome=true/\aS F x.1=true/\x.2=mvP F T x.1:=fun x hx=>by
           have h7:=(bQ hkv').1 hx;rw [hmov] at h7;split at h7
           ·rename_i hh;exact ⟨hh.1,hh.2,(Option.some.inj h7).symm⟩
           ·cases h7
          have hle:∀ p,(s p).isSome=true->aS F p=true->(mvP F T p).length<=24:=fun p hp hw=>by
           obtain ⟨f,hf⟩:=Option.isSome_iff_exists.1 hp;by_cases h24:(mvP F T p).length<=24
           ·exact h24
           ·exact absurd ⟨p,f,hf,hw,by omega⟩ hbad
          rw [aEo hap kv' s hkv'.1 (fun x hx=>by
           obtain ⟨a,b,c⟩:=hmem x hx
           have:=oS h1 h2 h4 neT b (hle _ a b)
           exact ⟨b,by rw [c];exact this.1,by rw [c];exact this.2⟩) q]
          unfold rnG;have hM2:∀ p,rnM s F T p=M p:=fun p=>by rw [hmov p];rfl
          rw [hM2 q,hM2 (mvP T F q)];have e1:q∈kv'.map (·.1)↔(M q).isSome=true:=by rw [<- kV q kv',<- hkv'.2 q]
          have e2:(mvP T F q,q)∈kv'↔M (mvP T F q)=some q:=bQ hkv';by_cases hi:q∈kv'.map (·.1)
          ·rw [if_pos hi,if_pos (e1.1 hi)]
          ·rw [if_neg hi,if_neg (fun h=>hi (e1.2 h))];by_cases hm:(mvP T F q,q)∈kv'
           ·rw [if_pos hm,if_pos (e2.1 hm)]
           ·rw [if_neg hm,if_neg (fun h=>hm (e2.2 h))]
       ·have hx24:=hkl x hx;rw [aEv _ _ (by omega) (by omega)];simp only [obS];by_cases hw:aS F x.1=true
        ·obtain ⟨_,c,hc⟩:=(eW h1).1 hw;have hFl:F.length<=x.1.length:=by
          obtain ⟨_,e⟩:=sK h1 h2 h4 neT (oV hw).2 hc;rw [qD (jK h1 h4),<- (bZ h1).2.1] at e;rw [e,List.length_append];omega
         rw [if_pos hw,dM hFl (Nat.le_refl _),List.take_length];simp only [obS];rw [eU (by simp;omega)];simp only [obS];have e:(aQ x.1 (T++List.drop F.length x.1) m x.1).getD []=mvP F T x.1:=by simp [aQ,mvP]
         rw [e,hw];by_cases h24:24<((mvP F T x.1).length:Int)
         ·rw [if_pos h24,if_pos (by simp;omega)];rfl
         ·rw [if_neg h24,if_neg (by simp;omega),if_pos rfl];rfl
        ·rw [if_neg hw];have hw':aS F x.1=false:=by simpa using hw
         rw [hw'];rfl
      ·rw [if_neg h6,if_neg h6]
   ·rw [if_neg h3,if_neg h3]
  ·rw [if_neg h2,if_neg (by omega),if_neg h2]
 ·rw [if_neg h1,if_neg (by omega),if_neg h1]
theorem aK7 {s:FS} {F T:List UInt8} (hR:Ren s F T) (hbad:¬ badR s F T):rnG s F T=rnF s F T:=by
 have hle:∀ p,(s p).isSome=true->aS F p=true->(mvP F T p).length<=24:=fun p hp hw=>by
  obtain ⟨f,hf⟩:=Option.isSome_iff_exists.1 hp;by_cases h24:(mvP F T p).length<=24
  ·exact h24
  ·exact absurd ⟨p,f,hf,hw,by omega⟩ hbad
 funext q;unfold rnG rnF rnM;by_cases hq:aS F q=true
 ·rw [if_pos hq];cases hs':s q with
  | some f=>rw [if_pos (by rw [if_pos ⟨rfl,hq⟩];rfl)]
  | none =>
   rw [if_neg (by simp),if_neg];intro h7;split at h7
   ·rename_i h8;have:=oS hR.okF hR.okT hR.neF hR.neT h8.2 (hle _ h8.1 h8.2);rw [Option.some.inj h7] at this;exact hR.apart hq this.1
   ·cases h7
 ·rw [if_neg hq,if_neg (by rw [if_neg (fun h=>hq h.2)];simp)];by_cases ht:aS T q=true
  ·rw [if_pos ht];cases hs':s (mvP T F q) with
   | none =>
    rw [if_neg (by simp)];exact hR.notT ht
   | some f =>
    have hl2:=(bZ (hR.snd.ok _ _ hs')).2.2;have:=oS hR.okT hR.okF hR.neT hR.neF ht hl2;rw [if_pos (by rw [if_pos ⟨rfl,this.1⟩,this.2])];rfl
  ·rw [if_neg ht,if_neg];intro h7;split at h7
   ·rename_i h8;have:=oS hR.okF hR.okT hR.neF hR.neT h8.2 (hle _ h8.1 h8.2);rw [Option.some.inj h7] at this;exact ht this.1
   ·cases h7
theorem aH8 {s:FS} (hs:Snd s) {n:Nat} (hc:Crd s n) (o:Opr) (hF:o.2.1.length<=1100000000) (hT:o.2.2.1.length<=1100000000):nP s o=some (rn s o.2.1 o.2.2.1):=by
 rw [aE4 (fun p f h=>by have:=(bZ (hs.ok p f h)).2.2;omega) hc o hF hT]
 congr 1
 obtain ⟨k,F,T,r⟩:=o;simp only;unfold rnW rn;by_cases h1:okP F=true
 ·rw [if_pos h1,if_pos h1];by_cases h2:okP T=true
  ·rw [if_pos h2,if_pos h2];by_cases h3:(lk s F).2=0
   ·rw [if_pos h3,if_pos h3];by_cases h4:F=[47]
    ·rw [if_pos h4,if_pos h4]
    ·rw [if_neg h4,if_neg h4];by_cases h5:aS F T=true
     ·rw [if_pos h5,if_pos h5]
     ·rw [if_neg h5,if_neg h5];by_cases h6:rm s T=0
      ·rw [if_pos h6,if_pos h6];by_cases hb:badR s F T
       ·rw [if_pos hb,if_pos hb]
       ·rw [if_neg hb,if_neg hb,aK7 (wN hs h1 h3 h4 (by simpa using h5) h6) hb]
      ·rw [if_neg h6,if_neg h6]
   ·rw [if_neg h3,if_neg h3]
  ·rw [if_neg h2,if_neg h2]
 ·rw [if_neg h1,if_neg h1]
end Go.Proofs.YtnagibpmfabkjaaGreatDoor
