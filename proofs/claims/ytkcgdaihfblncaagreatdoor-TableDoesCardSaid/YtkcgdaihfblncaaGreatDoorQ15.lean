/- Texts SpA, SpB, SpC, SpD, TbA, TbB, Sma, TbC, RfA. -/
import Derived.Test.YtkcgdaihfblncaaGreatDoorQ14
set_option linter.unusedSimpArgs false
set_option linter.unusedVariables false
namespace Go.Proofs.YtkcgdaihfblncaaGreatDoor
open Go.RowKit Go.Tri
abbrev Sn:=List UInt8×Int×List P2
abbrev SS:=List P2×List Sn
theorem aDv:∀ a b:List UInt8,aT a b=true↔Lib.compareBytes a b<0
 | [],[]=>by simp [aT,Op.bytesLess,Lib.compareBytes]
 | [],b::m=>by simp [aT,Op.bytesLess,Lib.compareBytes]
 | a::l,[]=>by simp [aT,Op.bytesLess,Lib.compareBytes]
 | a::l,b::m=>by
  have ih:=aDv l m
  unfold aT at ih ⊢
  simp only [Op.bytesLess,Lib.compareBytes,Bool.or_eq_true,Bool.and_eq_true,decide_eq_true_eq,beq_iff_eq]
  by_cases h1:a<b
  ·simp [h1]
  ·rw [if_neg h1]
   by_cases h2:b<a
   ·rw [if_pos h2]
    have:a≠b:=fun e=>by rw [e] at h2;exact absurd h2 (UInt8.lt_irrefl _)
    simp [h1,this]
   ·rw [if_neg h2]
    have:a=b:=by
     rw [<- UInt8.toNat_inj]
     rw [UInt8.lt_iff_toNat_lt] at h1 h2
     omega
    simp [this,ih]
theorem fX (a b:List UInt8):Lib.compareBytes a b<0↔a<b:=(aDv a b).symm.trans (fI a b)
theorem dZ (a:List UInt8):¬ a<a:=fun h=>by have:=(fX a a).2 h;rw [lP] at this;omega
theorem eN {a b c:List UInt8} (h1:a<b) (h2:b<c):a<c:=(fX a c).1 (jG a b c ((fX a b).2 h1) ((fX b c).2 h2))
theorem vK (a b:List UInt8):a<b\/a=b\/b<a:=by
 rcases Int.lt_trichotomy (Lib.compareBytes a b) 0 with h | h | h
 ·exact .inl ((fX a b).1 h)
 ·exact .inr (.inl (gY a b h))
 ·exact .inr (.inr ((fX b a).1 (by rw [fL];omega)))
theorem pU (a b:Sn):lG a b=some (Lib.compareBytes a.1 b.1):=rfl
theorem zD (s:List UInt8) (h:s.length<=1000000):gX s=some s:=by
 unfold gX;rw [cR (by simp;omega)];rfl
def SmL (L:List P2):Prop:=L.length<=1000/\∀ x∈L,x.1.length<=10000/\x.2.length<=10000
theorem lD (L:List P2) (h:SmL L):fY L=some L:=by
 obtain ⟨hl,hb⟩:=h
 unfold fY
 refine cK (fun k (s:List P2×Int)=>s=(L.take k,(k:Int))) (fun r=>r=L) L.length rfl ?_ ?_ ?_
 ·rintro k _ hk rfl
  have hx:=hb _ (List.getElem_mem hk)
  simp only
  rw [if_pos (by omega),aX hk]
  simp only [obS]
  rw [zD _ (by omega),zD _ (by omega)]
  simp only [obS]
  rw [bI (by simp only [List.length_take,List.length_cons,List.length_nil];omega)]
  exact .inl ⟨_,rfl,by rw [aF (by omega) (by omega)];exact Prod.ext (List.take_succ_eq_append_getElem hk).symm rfl⟩
 ·rintro _ rfl
  simp only
  rw [if_neg (by omega),List.take_length];exact ⟨_,rfl,rfl⟩
 ·rintro _ rfl;rfl
structure SmS (s:SS):Prop where
 fl:SmL s.1
 len:s.2.length<=1000
 sn:∀ x∈s.2,SmL x.2.2/\x.1.length<=1000
theorem aFa (s:SS) (h:SmS s):kH s=some s:=by
 obtain ⟨h1,h2,h3⟩:=h
 unfold kH
 rw [lD _ h1]
 simp only [obS]
 refine cK (fun k (q:SS×Int)=>q=((s.1,s.2.take k),(k:Int))) (fun r=>r=s) s.2.length rfl ?_ ?_ ?_
 ·rintro k _ hk rfl
  have hx:=h3 _ (List.getElem_mem hk)
  simp only
  rw [if_pos (by omega),aX hk]
  simp only [obS]
  rw [lD _ hx.1]
  simp only [obS]
  rw [bI (by simp only [List.length_take,List.length_cons,List.length_nil];omega)]
  exact .inl ⟨_,rfl,by rw [aF (by omega) (by omega)];exact Prod.ext (Prod.ext rfl (List.take_succ_eq_append_getElem hk).symm) rfl⟩
 ·rintro _ rfl
  simp only
  rw [if_neg (by omega),List.take_length];exact ⟨_,rfl,rfl⟩
 ·rintro _ rfl;rfl
def unN (s:SS):Nat:=s.1.length+(s.2.map fun x=>1+x.2.2.length).sum
theorem vX {α:Type} (f:α->Nat) (m:Nat):∀ l:List α,(∀ x∈l,f x<=m)->(l.map f).sum<=l.length*m
 | [],_=>by simp
 | a::l,h=>by
  have:=vX f m l fun x hx=>h x (List.mem_cons_of_mem _ hx)
  have:=h a (List.mem_cons_self ..)
  simp only [List.map_cons,List.sum_cons,List.length_cons,Nat.succ_mul];omega
theorem aCj {α:Type} (f:α->Nat) (m:Nat):∀ l:List α,(∀ x∈l,m<=f x)->l.length*m<=(l.map f).sum
 | [],_=>by simp
 | a::l,h=>by
  have:=aCj f m l fun x hx=>h x (List.mem_cons_of_mem _ hx)
  have:=h a (List.mem_cons_self ..)
  simp only [List.map_cons,List.sum_cons,List.length_cons,Nat.succ_mul];omega
theorem aEy {α:Type} (f:α->Nat):∀ {l:List α} {x:α},x∈l->f x<=(l.map f).sum
 | a::l,x,h=>by
  simp only [List.map_cons,List.sum_cons]
  rcases List.mem_cons.1 h with rfl | h
  ·omega
  ·have:=aEy f h;omega
theorem aGv (s:SS) (h1:s.1.length<=1000000) (h2:s.2.length<=1001) (h3:∀ x∈s.2,x.2.2.length<=1000):gR s=some (unN s:Int):=by
 unfold gR
 refine cK (fun k (q:Int×Int)=>q=((s.1.length:Int)+(((s.2.take k).map fun x=>1+x.2.2.length).sum:Nat),(k:Int))) (fun r=>r=(unN s:Int)) s.2.length (by simp) ?_ ?_ ?_
 ·rintro k _ hk rfl
  have hx:=h3 _ (List.getElem_mem hk)
  have hs:((s.2.take k).map fun x=>1+x.2.2.length).sum<=1001*1001:=Nat.le_trans (vX _ 1001 _ fun x hx=>by have:=h3 x (List.mem_of_mem_take hx);omega) (Nat.mul_le_mul_right _ (by rw [List.length_take];omega))
  simp only
  rw [if_pos (by omega),aX hk]
  simp only [obS]
  refine .inl ⟨_,rfl,?_⟩
  rw [aF (n:=1+(s.2[k].2.2.length:Int)) (by omega) (by omega),aF (by omega) (by omega),aF (by omega) (by omega),List.take_succ_eq_append_getElem hk]
  refine Prod.ext ?_ rfl
  simp only [List.map_append,List.map_cons,List.map_nil,List.sum_append,List.sum_cons,List.sum_nil];omega
 ·rintro _ rfl
  simp only
  rw [if_neg (by omega),List.take_length];exact ⟨_,rfl,by unfold unN;omega⟩
 ·rintro _ rfl;rfl
theorem aC7 (s:SS) (h:SmS s):gR s=some (unN s:Int):=aGv s (by have:=h.fl.1;omega) (by have:=h.len;omega) fun x hx=>(h.sn x hx).1.1
def RF (L:List P2):Prop:=Snd (rdF L)/\bK (rdF L)=L
structure Rt (s:SS):Prop where
 fl:RF s.1
 sn:∀ x∈s.2,RF x.2.2/\bB x.1=true
 srt:s.2.Pairwise fun a b=>a.1<b.1
 un:unN s<=48
theorem RF.small {L:List P2} (h:RF L) (hl:L.length<=1000):SmL L:=by
 have:=(h.1.prs (iU L) (by omega)).2.2.2
 rw [h.2] at this
 exact ⟨hl,fun x hx=>by have:=this x hx;omega⟩
theorem RF.pos {L:List P2} (h:RF L) (hl:L.length<=1000):1<=L.length:=by
 rcases Nat.eq_zero_or_pos L.length with h0 | h0
 ·obtain rfl:=List.eq_nil_of_length_eq_zero h0
  obtain ⟨d,hd⟩:=h.1.root
  cases hd
 ·exact h0
theorem uL {x:List UInt8} (h:bB x=true):x.length<=8:=by unfold bB at h;simp at h;exact h.2
theorem Rt.len {s:SS} (h:Rt s):s.1.length<=48/\s.2.length<=48/\∀ x∈s.2,x.2.2.length<=48:=by
 have h1:=h.un
 unfold unN at h1
 have h2:=aCj (fun x:Sn=>1+x.2.2.length) 1 s.2 fun x _=>by omega
 refine ⟨by omega,by omega,fun x hx=>?_⟩
 have:1+x.2.2.length<=(s.2.map fun x=>1+x.2.2.length).sum:=aEy (fun x:Sn=>1+x.2.2.length) hx
 omega
theorem Rt.small {s:SS} (h:Rt s):SmS s:=by
 obtain ⟨h1,h2,h3⟩:=h.len
 exact ⟨h.fl.small (by omega),by omega,fun x hx=>⟨(h.sn x hx).1.small (by have:=h3 x hx;omega),by have:=uL (h.sn x hx).2;omega⟩⟩
theorem aAb (L:List P2) (h:SmL L):(gJ L=some 0/\RF L)\/(gJ L=some 22/\¬ RF L):=by
 rcases aHz L (by have:=h.1;omega) h.2 with ⟨h1,h2⟩ | ⟨h1,h2⟩
 ·exact .inl ⟨h1,h2⟩
 ·exact .inr ⟨h1,h2⟩
theorem aP8 {xs:List Sn} (h:∀ i (hi:i+1<xs.length),(xs[i]).1<(xs[i+1]).1):xs.Pairwise fun a b=>a.1<b.1:=by
 rw [List.pairwise_iff_getElem]
 intro i j hi hj hij
 obtain ⟨m,rfl⟩:∃ m,j=i+1+m:=⟨j-(i+1),by omega⟩
 clear hij
 induction m with
 | zero=>exact h i hj
 | succ m ih=>exact eN (ih (by omega)) (h (i+1+m) (by omega))
def GoodS (s:SS) (k:Nat):Prop:=∃ hk:k<s.2.length,RF (s.2[k]).2.2/\bB (s.2[k]).1=true/\(0<k->(s.2[k-1]'(by omega)).1<(s.2[k]).1)
theorem kZ (s:SS):Rt s↔RF s.1/\unN s<=48/\∀ k,k<s.2.length->GoodS s k:=by
 constructor
 ·intro h
  exact ⟨h.fl,h.un,fun k hk=>⟨hk,(h.sn _ (List.getElem_mem hk)).1,(h.sn _ (List.getElem_mem hk)).2,fun h0=>List.pairwise_iff_getElem.1 h.srt (k-1) k (by omega) hk (by omega)⟩⟩
 ·rintro ⟨h1,h2,h3⟩
  refine ⟨h1,fun x hx=>?_,aP8 fun i hi=>?_,h2⟩
  ·obtain ⟨k,hk,rfl⟩:=List.getElem_of_mem hx
   obtain ⟨_,h4,h5,_⟩:=h3 k hk;exact ⟨h4,h5⟩
  ·obtain ⟨_,_,_,h6⟩:=h3 (i+1) hi;exact h6 (by omega)
theorem aJk (s:SS) (h:SmS s):(jJ s=some 0/\Rt s)\/(jJ s=some 22/\¬ Rt s):=by
 unfold jJ
 have hn:=h.len
 rcases aAb s.1 h.fl with ⟨h1,h2⟩ | ⟨h1,h2⟩
 ·rw [h1]
  simp only [obS]
  rw [if_pos trivial,aC7 _ h]
  simp only [obS]
  refine dR (C:=fun o=>(o=some (0:Int)/\Rt s)\/(o=some 22/\¬ Rt s)) (fun k (q:Bool×Int)=>q.2=(k:Int)/\(q.1=false↔unN s<=48/\∀ j,j<k->GoodS s j)) (fun r=>r=false↔Rt s) s.2.length ⟨rfl,?_⟩ ?_ ?_ ?_
  ·simp only [decide_eq_false_iff_not]
   exact ⟨fun h=>⟨by omega,fun j hj=>by omega⟩,fun h=>by omega⟩
  ·rintro k ⟨b,i⟩ hk ⟨h3,h4⟩
   simp only at h3 h4
   subst h3
   simp only
   have hx:=h.sn _ (List.getElem_mem hk)
   have bad:∀ {c:Bool},c=true->¬ GoodS s k->((c,((k:Int)+1)).2=((k+1:Nat):Int)/\(((c,((k:Int)+1)):Bool×Int).1=false↔unN s<=48/\∀ j,j<k+1->GoodS s j)):=fun hc hg=>⟨rfl,by simp only [hc];exact ⟨fun h=>(by cases h),fun h=>absurd (h.2 k (by omega)) hg⟩⟩
   rw [if_pos (by omega),aX hk]
   simp only [obS]
   rw [aF (n:=(k:Int)+1) (by omega) (by omega)]
   cases b with
   | true =>
    rw [if_pos rfl]
    exact .inl ⟨_,rfl,rfl,⟨fun h=>(by cases h),fun h=>absurd (h4.2 ⟨h.1,fun j hj=>h.2 j (by omega)⟩) (by simp)⟩⟩
   | false =>
    rw [if_neg (by simp)]
    have h5:=h4.1 rfl
    rcases aAb _ hx.1 with ⟨h6,h7⟩ | ⟨h6,h7⟩
    ·rw [h6]
     simp only [obS]
     rw [if_pos trivial,tL _ (by omega)]
     simp only [obS]
     cases h8:bB s.2[k].1 with
     | false =>
      rw [if_pos (show (!false)=true from rfl)]
      exact .inl ⟨_,rfl,bad rfl fun ⟨_,_,h9,_⟩=>by rw [h8] at h9;cases h9⟩
     | true =>
      rw [if_neg (by simp)]
      by_cases h9:0<(k:Int)
      ·rw [if_pos h9,aF (n:=(k:Int)-1) (by omega) (by omega),show (k:Int)-1=((k-1:Nat):Int) by omega,aX (show k-1<s.2.length by omega)]
       simp only [obS,pU]
       refine .inl ⟨_,rfl,rfl,?_⟩
       simp only [decide_eq_false_iff_not,Int.not_le,fX]
       constructor
       ·intro h10
        refine ⟨h5.1,fun j hj=>?_⟩
        by_cases e:j=k
        ·subst e;exact ⟨hk,h7,h8,fun _=>h10⟩
        ·exact h5.2 j (by omega)
       ·rintro ⟨_,h10⟩
        obtain ⟨_,_,_,h11⟩:=h10 k (by omega)
        exact h11 (by omega)
      ·rw [if_neg h9]
       refine .inl ⟨_,rfl,rfl,⟨fun _=>⟨h5.1,fun j hj=>?_⟩,fun _=>rfl⟩⟩
       by_cases e:j=k
       ·subst e;exact ⟨hk,h7,h8,fun h=>by omega⟩
       ·exact h5.2 j (by omega)
    ·rw [h6]
     simp only [obS]
     rw [if_neg (by decide)]
     exact .inl ⟨_,rfl,bad rfl fun ⟨_,h9,_⟩=>h7 h9⟩
  ·rintro ⟨b,i⟩ ⟨h3,h4⟩
   simp only at h3 h4
   subst h3
   simp only
   rw [if_neg (by omega)]
   exact ⟨_,rfl,h4.trans ⟨fun h=>(kZ s).2 ⟨h2,h.1,h.2⟩,fun h=>((kZ s).1 h).2⟩⟩
  ·rintro b hb
   cases b with
   | true=>exact .inr ⟨by rw [if_pos rfl],fun h=>by have:=hb.2 h;cases this⟩
   | false=>exact .inl ⟨by rw [if_neg (by simp)],hb.1 rfl⟩
 ·rw [h1]
  simp only [obS]
  rw [if_neg (by decide)]
  refine .inr ⟨?_,fun h=>h2 h.fl⟩
  refine cK (fun k (q:Int)=>q=(k:Int)) (fun _=>True) s.2.length rfl ?_ ?_ ?_
  ·rintro k _ hk rfl
   rw [if_pos (by omega),aX hk]
   exact .inl ⟨_,rfl,by rw [aF (by omega) (by omega)];rfl⟩
  ·rintro _ rfl
   rw [if_neg (by omega)];exact ⟨_,rfl,trivial⟩
  ·intros;rfl
theorem vJ {σ ρ:Type} {f:σ->Option (σ ⊕ ρ)} (I:σ->Prop) (Q:ρ->Prop) (m:σ->Nat) (hs:∀ s,I s->(∃ s',f s=some (.inl s')/\I s'/\m s'<m s)\/∃ r,f s=some (.inr r)/\Q r):∀ (n:Nat) (s:σ),m s<n->I s->∃ r,aH f s=some r/\Q r
 | 0,_,h,_=>by omega
 | n+1,s,h,hi=>by
  rcases hs s hi with ⟨s',h1,h2,h3⟩ | ⟨r,h1,h2⟩
  ·obtain ⟨r,h4,h5⟩:=vJ I Q m hs n s' (by omega) h2
   exact ⟨r,by rw [dN,h1];exact h4,h5⟩
  ·exact ⟨r,by rw [dN,h1];rfl,h2⟩
theorem aBs {σ ρ τ:Type} {f:σ->Option (σ ⊕ ρ)} {k:ρ->Option τ} {t:τ} (I:σ->Prop) (Q:ρ->Prop) (m:σ->Nat) {s0:σ} (h0:I s0)
  (hs:∀ s,I s->(∃ s',f s=some (.inl s')/\I s'/\m s'<m s)\/∃ r,f s=some (.inr r)/\Q r) (hk:∀ r,Q r->k r=some t):Option.bind (aH f s0) k=some t:=by
 obtain ⟨r,h1,h2⟩:=vJ I Q m hs _ s0 (Nat.lt_succ_self _) h0
 rw [h1];exact hk r h2
theorem sV {i j:Nat} (h:i+j<=1000000):IntKind.i64.wrap (cL .u64 (IntKind.u64.wrap (IntKind.i64.wrap ((i:Int)+(j:Int)))) 1)=(((i+j) / 2:Nat):Int):=by
 rw [aF (n:=(i:Int)+j) (by omega) (by omega),lE (by omega) (by omega)]
 have:cL .u64 ((i:Int)+(j:Int)) 1=(((i+j) / 2:Nat):Int):=by
  show Int.fdiv ((i:Int)+(j:Int)) 2=_
  rw [Int.fdiv_eq_ediv_of_nonneg _ (by omega)];omega
 rw [this,aF (by omega) (by omega)]
theorem aD2 (A B:List Sn) (T:List UInt8) (hA:∀ a∈A,a.1<T) (hB:∀ b∈B,¬ b.1<T) (hl:(A++B).length<=100000) (t:Sn) (ht:t.1=T):iB (A++B) t=some ((A.length:Int),decide ((B.head?.map (·.1))=some T)):=by
 subst ht
 have low:∀ (k:Nat) (h:k<(A++B).length),k<A.length->((A++B)[k]).1<t.1:=fun k h hk=>by rw [List.getElem_append_left hk];exact hA _ (List.getElem_mem _)
 have high:∀ (k:Nat) (h:k<(A++B).length),A.length<=k->¬ ((A++B)[k]).1<t.1:=fun k h hk=>by rw [List.getElem_append_right hk];exact hB _ (List.getElem_mem _)
 unfold iB
 refine aBs (fun s=>∃ i j:Nat,s=((i:Int),(j:Int))/\i<=A.length/\A.length<=j/\j<=(A++B).length) (fun r=>r=(A.length:Int)) (fun s=>(s.2-s.1).toNat) ⟨0,_,rfl,by omega,by simp,by omega⟩ ?_ ?_
 ·rintro _ ⟨i,j,rfl,h3,h4,h5⟩
  simp only
  by_cases h:(i:Int)<(j:Int)
  ·rw [if_pos h,sV (by omega),aX (show (i+j) / 2<(A++B).length by omega)]
   simp only [obS,pU,fX]
   by_cases h6:((A++B)[(i+j) / 2]'(by omega)).1<t.1
   ·rw [if_pos h6,aF (by omega) (by omega)]
    have h7:(i+j) / 2<A.length:=by
     rcases Nat.lt_or_ge ((i+j) / 2) A.length with h8 | h8
     ·exact h8
     ·exact absurd h6 (high _ (by omega) h8)
    exact .inl ⟨_,rfl,⟨(i+j) / 2+1,j,rfl,by omega,by omega,by omega⟩,by simp only;omega⟩
   ·rw [if_neg h6]
    have h7:A.length<=(i+j) / 2:=by
     rcases Nat.lt_or_ge ((i+j) / 2) A.length with h8 | h8
     ·exact absurd (low _ (by omega) h8) h6
     ·exact h8
    exact .inl ⟨_,rfl,⟨i,(i+j) / 2,rfl,by omega,by omega,by omega⟩,by simp only;omega⟩
  ·rw [if_neg h]
   exact .inr ⟨_,rfl,by omega⟩
 ·rintro _ rfl
  cases B with
  | nil =>
   rw [if_neg (by simp)];simp
  | cons b B =>
   rw [if_pos (by simp;omega),aX (show A.length<(A++b::B).length by simp)]
   simp only [obS,pU,List.getElem_append_right (Nat.le_refl A.length),Nat.sub_self,List.getElem_cons_zero,List.head?_cons,Option.map_some,Option.some.injEq]
   congr 2
   have:(Lib.compareBytes b.1 t.1=0)↔b.1=t.1:=⟨fun h=>gY _ _ h,fun h=>by rw [h];exact lP _⟩
   exact propext this
section
variable {β:Type}
def loS (xs:List (List UInt8×β)) (T:List UInt8):List (List UInt8×β):=xs.filter fun x=>decide (x.1<T)
def hiS (xs:List (List UInt8×β)) (T:List UInt8):List (List UInt8×β):=xs.filter fun x=>decide (T<x.1)
def atS (xs:List (List UInt8×β)) (T:List UInt8):Option (List UInt8×β):=xs.find? fun x=>decide (x.1=T)
theorem lo_of {A B:List (List UInt8×β)} {T:List UInt8} (hA:∀ a∈A,a.1<T) (hB:∀ b∈B,¬ b.1<T):loS (A++B) T=A:=by
 unfold loS
 rw [List.filter_append,List.filter_eq_self.2 fun a ha=>decide_eq_true (hA a ha),List.filter_eq_nil_iff.2 fun b hb=>by simpa using hB b hb,List.append_nil]
theorem hi_of {A B:List (List UInt8×β)} {T:List UInt8} (hA:∀ a∈A,¬ T<a.1) (hB:∀ b∈B,T<b.1):hiS (A++B) T=B:=by
 unfold hiS
 rw [List.filter_append,List.filter_eq_nil_iff.2 fun a ha=>by simpa using hA a ha,List.filter_eq_self.2 fun b hb=>decide_eq_true (hB b hb),List.nil_append]
theorem aHs {xs:List (List UInt8×β)} (h:xs.Pairwise fun a b=>a.1<b.1) (T:List UInt8):xs=loS xs T++((atS xs T).toList++hiS xs T):=by
 induction xs with
 | nil=>rfl
 | cons x xs ih =>
  obtain ⟨h1,h2⟩:=List.pairwise_cons.1 h
  rcases vK x.1 T with h3 | h3 | h3
  ·have e1:loS (x::xs) T=x::loS xs T:=by unfold loS;rw [List.filter_cons,if_pos (decide_eq_true h3)]
   have e2:hiS (x::xs) T=hiS xs T:=by unfold hiS;rw [List.filter_cons,if_neg (by simpa using fun h4=>dZ _ (eN h3 h4))]
   have e3:atS (x::xs) T=atS xs T:=by unfold atS;rw [List.find?_cons_of_neg (by simpa using fun h4=>dZ T (by rw [h4] at h3;exact h3))]
   rw [e1,e2,e3,List.cons_append,<- ih h2]
  ·have e1:loS (x::xs) T=[]:=List.filter_eq_nil_iff.2 fun y hy=>by
    rcases List.mem_cons.1 hy with rfl | hy
    ·simp [h3,dZ T]
    ·have:=h1 y hy;rw [h3] at this;simpa using fun h4=>dZ _ (eN this h4)
   have e2:hiS (x::xs) T=xs:=by
    unfold hiS
    rw [List.filter_cons,if_neg (by rw [h3];simp [dZ T]),List.filter_eq_self.2 fun y hy=>decide_eq_true (by rw [<- h3];exact h1 y hy)]
   have e3:atS (x::xs) T=some x:=by unfold atS;rw [List.find?_cons_of_pos (by simpa using h3)]
   rw [e1,e2,e3];rfl
  ·have hall:∀ y∈x::xs,T<y.1:=fun y hy=>by
    rcases List.mem_cons.1 hy with rfl | hy
    ·exact h3
    ·exact eN h3 (h1 y hy)
   have e1:loS (x::xs) T=[]:=List.filter_eq_nil_iff.2 fun y hy=>by simpa using fun h4=>dZ _ (eN (hall y hy) h4)
   have e2:hiS (x::xs) T=x::xs:=List.filter_eq_self.2 fun y hy=>decide_eq_true (hall y hy)
   have e3:atS (x::xs) T=none:=List.find?_eq_none.2 fun y hy=>by simpa using fun h4=>dZ T (by have:=hall y hy;rw [h4] at this;exact this)
   rw [e1,e2,e3];rfl
theorem mN {xs:List (List UInt8×β)} {T:List UInt8}:∀ a∈loS xs T,a.1<T:=fun a ha=>of_decide_eq_true (List.mem_filter.1 ha).2
theorem kV {xs:List (List UInt8×β)} {T:List UInt8}:∀ a∈hiS xs T,T<a.1:=fun a ha=>of_decide_eq_true (List.mem_filter.1 ha).2
theorem at_eq {xs:List (List UInt8×β)} {T:List UInt8} {x:List UInt8×β} (h:atS xs T=some x):x.1=T/\x∈xs:=⟨by simpa using List.find?_some h,List.mem_of_find?_eq_some h⟩
theorem aFf {xs:List (List UInt8×β)} {T:List UInt8} (h:atS xs T=none):∀ x∈xs,x.1≠T:=fun x hx=>by simpa using List.find?_eq_none.1 h x hx
end
theorem sA {α:Type} {xs A B:List α} {x:α} (h:xs=A++([x]++B)):xs.take A.length++xs.drop (A.length+1)=A++B/\xs[A.length]?=some x:=by
 subst h
 refine ⟨?_,by simp⟩
 rw [List.take_left' rfl,<- List.append_assoc,List.drop_left' (by simp)]
theorem zG {α:Type} {xs A B:List α} (y:List α) (h:xs=A++B):xs.take A.length++y++xs.drop A.length=A++(y++B):=by
 subst h
 rw [List.take_left' rfl,List.drop_left' rfl,List.append_assoc]
def snP (s:SS) (o:Opr) (gen:Int):Int×SS :=
 if bB o.2.1=false then (90,s) else
 match atS s.2 o.2.1 with
 | some x=>if o.1=10 then (92,s) else if o.1=11 then (0,(s.1,loS s.2 o.2.1++hiS s.2 o.2.1)) else (0,(x.2.2,s.2))
 | none=>if o.1=10 then (0,(s.1,loS s.2 o.2.1++(o.2.1,gen,s.1)::hiS s.2 o.2.1)) else (91,s)
theorem aKn (s:SS) (o:Opr) (gen:Int) (hs:s.2.Pairwise fun a b=>a.1<b.1) (h:SmS s) (ho:o.2.1.length<=1500000000):fP s o gen=some (snP s o gen):=by
 unfold fP snP
 rw [tL _ ho]
 simp only [obS]
 cases h1:bB o.2.1 with
 | false=>rw [if_pos (show (!false)=true from rfl),if_pos rfl]
 | true =>
  rw [if_neg (by simp),if_neg (by simp)]
  have hp:=aHs hs o.2.1
  have hl:=h.len
  cases h2:atS s.2 o.2.1 with
  | some x =>
   rw [h2] at hp
   have hx:=at_eq h2
   have hb:iB s.2 (o.2.1,0,[])=some (((loS s.2 o.2.1).length:Int),true):=by
    have:=aD2 (loS s.2 o.2.1) ((some x).toList++hiS s.2 o.2.1) o.2.1 mN (fun b hb=>by
     rcases List.mem_append.1 hb with hb | hb
     ·obtain rfl:b=x:=by simpa using hb
      rw [hx.1];exact dZ _
     ·exact fun h4=>dZ _ (eN h4 (kV b hb))) (by rw [<- hp];omega) (o.2.1,0,[]) rfl
    rw [<- hp] at this
    rw [this];simp [hx.1]
   rw [hb]
   simp only [obS]
   have hlen:(loS s.2 o.2.1).length<s.2.length:=by
    have:=congrArg List.length hp
    simp only [List.length_append,Option.toList_some,List.length_cons,List.length_nil] at this;omega
   by_cases h3:o.1=10
   ·rw [if_pos h3,if_pos trivial]
    simp only [obS,Sum.elim_inr]
    rw [if_pos h3]
   ·rw [if_neg h3,if_neg h3,if_neg (show ¬ (!true)=true by simp)]
    by_cases h4:o.1=11
    ·have hd:iD s.2 ((loS s.2 o.2.1).length:Int) (((loS s.2 o.2.1).length:Int)+1)=some (loS s.2 o.2.1++hiS s.2 o.2.1):=by
      unfold iD pX
      rw [if_pos ⟨by omega,rfl,by omega⟩]
      congr 1
      rw [Int.toNat_natCast]
      exact (sA hp).1
     rw [if_pos h4,aF (by omega) (by omega),hd]
     simp only [obS,Sum.elim_inl,Sum.elim_inr]
     rw [if_neg h3,if_pos h4]
    ·have hgx:s.2[(loS s.2 o.2.1).length]'hlen=x:=by
      have:s.2[(loS s.2 o.2.1).length]?=some x:=(sA hp).2
      rw [List.getElem?_eq_getElem hlen] at this
      exact Option.some.inj this
     rw [if_neg h4,aX hlen,hgx]
     simp only [obS]
     rw [lD _ (h.sn x hx.2).1]
     simp only [obS,Sum.elim_inl,Sum.elim_inr]
     rw [if_neg h3,if_neg h4]
  | none =>
   rw [h2] at hp
   simp only [Option.toList_none,List.nil_append] at hp
   have hb:iB s.2 (o.2.1,0,[])=some (((loS s.2 o.2.1).length:Int),false):=by
    have:=aD2 (loS s.2 o.2.1) (hiS s.2 o.2.1) o.2.1 mN (fun b hb h4=>dZ _ (eN h4 (kV b hb))) (by rw [<- hp];omega) (o.2.1,0,[]) rfl
    rw [<- hp] at this
    rw [this]
    congr 2
    refine decide_eq_false fun h5=>?_
    cases h6:hiS s.2 o.2.1 with
    | nil=>rw [h6] at h5;cases h5
    | cons b B =>
     rw [h6] at h5
     have:=kV b (by rw [h6];exact List.mem_cons_self ..)
     simp at h5
     rw [h5] at this
     exact dZ _ this
   rw [hb]
   simp only [obS]
   have hlen:(loS s.2 o.2.1).length<=s.2.length:=by
    have:=congrArg List.length hp
    simp only [List.length_append] at this;omega
   by_cases h3:o.1=10
   ·have hi:iN s.2 ((loS s.2 o.2.1).length:Int) [(o.2.1,gen,s.1)]=some (loS s.2 o.2.1++(o.2.1,gen,s.1)::hiS s.2 o.2.1):=by
     unfold iN iM
     rw [if_pos ⟨by omega,by omega,by omega,rfl⟩,Int.toNat_natCast]
     congr 1
     exact zG [(o.2.1,gen,s.1)] hp
    rw [if_pos h3,if_neg (by simp),if_pos h3,lD _ h.fl]
    simp only [obS]
    rw [hi]
    simp only [obS,Sum.elim_inl]
    rw [if_pos h3]
   ·rw [if_neg h3,if_neg h3,if_pos (show (!false)=true from rfl)]
    simp only [obS,Sum.elim_inr]
    rw [if_neg h3]
theorem aAx (a b:List UInt8):eY a b=aT b a:=by
 unfold eY
 cases h:aT b a with
 | true =>
  have h1:=(fI b a).1 h
  cases h2:aT a b with
  | true=>exact absurd (eN h1 ((fI a b).1 h2)) (dZ _)
  | false =>
   cases h3:a==b with
   | true=>rw [beq_iff_eq] at h3;rw [h3] at h1;exact absurd h1 (dZ _)
   | false=>rfl
 | false =>
  rcases vK a b with h1 | h1 | h1
  ·rw [(fI a b).2 h1];rfl
  ·rw [h1];simp
  ·rw [(fI b a).2 h1] at h;cases h
def lsP (s:SS) (T:List UInt8):Ans:=(0,(s.2.length:Int),[],((s.2.map (·.1)).filter fun n=>aT T n).take 6)
theorem aDu (B:List (List UInt8)) (T:List UInt8) (k:Nat) (hk:k<B.length):(if aT T B[k]=true then (if ((((B.take k).filter fun n=>aT T n).take 6).length:Int)<6 then (((B.take k).filter fun n=>aT T n).take 6)++[B[k]] else (((B.take k).filter fun n=>aT T n).take 6)) else (((B.take k).filter fun n=>aT T n).take 6))=((B.take (k+1)).filter fun n=>aT T n).take 6:=by
 rw [List.take_succ_eq_append_getElem hk,List.filter_append]
 generalize (B.take k).filter (fun n=>aT T n)=F
 by_cases h:aT T B[k]=true
 ·rw [if_pos h,List.filter_cons,if_pos h,List.filter_nil]
  by_cases h2:F.length<6
  ·rw [if_pos (by rw [List.length_take];omega),List.take_of_length_le (by omega),List.take_of_length_le (by simp;omega)]
  ·rw [if_neg (by rw [List.length_take];omega),List.take_append_of_le_length (by omega)]
 ·rw [if_neg h,List.filter_cons,if_neg h,List.filter_nil,List.append_nil]
theorem aDk (s:SS) (T:List UInt8) (h:s.2.length<=100000):mT s T=some (lsP s T):=by
 unfold mT
 refine cK (fun k (q:List (List UInt8)×Int)=>q=((((s.2.map (·.1)).take k).filter fun n=>aT T n).take 6,(k:Int))) (fun r=>r=((s.2.map (·.1)).filter fun n=>aT T n).take 6) s.2.length (by simp) ?_ ?_ ?_
 ·rintro k _ hk rfl
  simp only
  rw [if_pos (by omega),aX hk]
  simp only [obS,aAx]
  have hk':k<(s.2.map (·.1)).length:=by simpa using hk
  have hs:=aDu (s.2.map (·.1)) T k hk'
  simp only [List.getElem_map] at hs
  refine .inl ⟨_,?_,rfl⟩
  rw [<- hs,aF (by omega) (by omega)]
  by_cases h1:aT T s.2[k].1=true
  ·rw [if_pos h1,if_pos h1]
   by_cases h2:((((((s.2.map (·.1)).take k).filter fun n=>aT T n).take 6).length:Nat):Int)<6
   ·rw [if_pos h2,if_pos h2,bI (by rw [List.length_take];simp;omega)];rfl
   ·rw [if_neg h2,if_neg h2];rfl
  ·rw [if_neg h1,if_neg h1];rfl
 ·rintro _ rfl
  simp only
  rw [if_neg (by omega),show (s.2.map (·.1)).take s.2.length=s.2.map (·.1) from List.take_of_length_le (by simp)];exact ⟨_,rfl,rfl⟩
 ·rintro _ rfl;rfl
noncomputable def opP (s:SS) (o:Opr) (gen:Int):SS×Ans :=
 if o.1=10\/o.1=11\/o.1=12 then ((snP s o gen).2,((snP s o gen).1,0,[],[]))
 else if o.1=13 then (s,lsP s o.2.2.1)
 else ((bK (nx (rdF s.1) o),s.2),(doP (rdF s.1) o).1)
noncomputable def stP (s:SS) (o:Opr) (gen:Int):SS×Ans :=
 if (opP s o gen).2.1=0 then (if 48<unN (opP s o gen).1 then (s,(98,0,[],[])) else opP s o gen) else (s,(opP s o gen).2)
theorem aPr {s:FS} (hs:Snd s) {n:Nat} (hc:Crd s n) (hn:n<=1000):(bK s).length<=4*n/\∀ x∈bK s,x.1.length<=100/\x.2.length<=100:=(hs.prs hc (by omega)).2.2
theorem RF.of {s:FS} (hs:Snd s) {n:Nat} (hc:Crd s n) (hn:n<=1000):RF (bK s):=by
 have h:=(hs.prs hc (by omega)).2.1
 exact ⟨by rw [h];exact hs,by rw [h]⟩
theorem RF.nx {L:List P2} (h:RF L) (hl:L.length<=100) (o:Opr):RF (bK (nx (rdF L) o))/\(bK (nx (rdF L) o)).length<=4*(L.length+1):=by
 obtain ⟨h1,h2⟩:=yS h.1 (iU L) (by omega) o
 exact ⟨RF.of h1 h2 (by omega),(aPr h1 h2 (by omega)).1⟩
structure Rt' (s:SS):Prop where
 fl:RF s.1
 fln:s.1.length<=400
 sn:∀ x∈s.2,RF x.2.2/\bB x.1=true/\x.2.2.length<=400
 srt:s.2.Pairwise fun a b=>a.1<b.1
 len:s.2.length<=400
theorem Rt.w {s:SS} (h:Rt s):Rt' s:=by
 obtain ⟨h1,h2,h3⟩:=h.len
 exact ⟨h.fl,by omega,fun x hx=>⟨(h.sn x hx).1,(h.sn x hx).2,by have:=h3 x hx;omega⟩,h.srt,by omega⟩
theorem Rt'.rt {s:SS} (h:Rt' s) (hn:unN s<=48):Rt s:=⟨h.fl,fun x hx=>⟨(h.sn x hx).1,(h.sn x hx).2.1⟩,h.srt,hn⟩
theorem Rt'.small {s:SS} (h:Rt' s):SmS s:=⟨h.fl.small (by have:=h.fln;omega),by have:=h.len;omega,fun x hx=>⟨(h.sn x hx).1.small (by have:=(h.sn x hx).2.2;omega),by have:=uL (h.sn x hx).2.1;omega⟩⟩
theorem wC {β:Type} {xs:List (List UInt8×β)} {T:List UInt8} {x:List UInt8×β} (h:x∈loS xs T):x∈xs:=(List.mem_filter.1 h).1
theorem uZ {β:Type} {xs:List (List UInt8×β)} {T:List UInt8} {x:List UInt8×β} (h:x∈hiS xs T):x∈xs:=(List.mem_filter.1 h).1
theorem aN9 {s:SS} (h:Rt s) (o:Opr) (gen:Int):Rt' (snP s o gen).2:=by
 have hw:=h.w
 obtain ⟨l1,l2,l3⟩:=h.len
 have hlo:(loS s.2 o.2.1).length<=s.2.length:=List.length_filter_le _ _
 have hhi:(hiS s.2 o.2.1).length<=s.2.length:=List.length_filter_le _ _
 have slo:(loS s.2 o.2.1).Pairwise fun a b=>a.1<b.1:=h.srt.filter _
 have shi:(hiS s.2 o.2.1).Pairwise fun a b=>a.1<b.1:=h.srt.filter _
 unfold snP
 split
 ·exact hw
 ·rename_i hnm
  split
  ·rename_i x hx
   split
   ·exact hw
   ·split
    ·refine ⟨hw.fl,hw.fln,fun y hy=>?_,?_,?_⟩
     ·rcases List.mem_append.1 hy with hy | hy
      ·exact hw.sn y (wC hy)
      ·exact hw.sn y (uZ hy)
     ·exact List.pairwise_append.2 ⟨slo,shi,fun a ha b hb=>eN (mN a ha) (kV b hb)⟩
     ·simp only [List.length_append];omega
    ·have hm:=(at_eq hx).2
     exact ⟨(h.sn x hm).1,by have:=l3 x hm;simp only;omega,hw.sn,hw.srt,hw.len⟩
  ·split
   ·refine ⟨hw.fl,hw.fln,fun y hy=>?_,?_,?_⟩
    ·rcases List.mem_append.1 hy with hy | hy
     ·exact hw.sn y (wC hy)
     ·rcases List.mem_cons.1 hy with rfl | hy
      ·exact ⟨h.fl,by simpa using hnm,hw.fln⟩
      ·exact hw.sn y (uZ hy)
    ·refine List.pairwise_append.2 ⟨slo,List.pairwise_cons.2 ⟨fun b hb=>kV b hb,shi⟩,fun a ha b hb=>?_⟩
     rcases List.mem_cons.1 hb with rfl | hb
     ·exact mN a ha
     ·exact eN (mN a ha) (kV b hb)
    ·simp only [List.length_append,List.length_cons];omega
   ·exact hw
theorem uH {s:SS} (h:Rt s) (o:Opr) (gen:Int):Rt' (opP s o gen).1:=by
 have hw:=h.w
 obtain ⟨l1,l2,l3⟩:=h.len
 unfold opP
 split
 ·exact aN9 h o gen
 ·split
  ·exact hw
  ·obtain ⟨h1,h2⟩:=h.fl.nx (by omega) o
   exact ⟨h1,by simp only;omega,hw.sn,hw.srt,hw.len⟩
theorem aQb {s:SS} (h:Rt s) (o:Opr) (gen:Int):Rt (stP s o gen).1:=by
 unfold stP
 split
 ·split
  ·exact h
  ·exact (uH h o gen).rt (by omega)
 ·exact h
theorem aDb {s:SS} (h:Rt s) (o:Opr) (gen:Int) (ho:eX o):nDo s o gen=some (stP s o gen):=by
 obtain ⟨l1,l2,l3⟩:=h.len
 have hc:=aFa s h.small
 have hfd:fDo s.1 o=some (bK (nx (rdF s.1) o),(doP (rdF s.1) o).1):=by
  have:=aI6 h.fl.1 (iU s.1) (by omega) o ho
  rw [h.fl.2] at this;exact this
 have hrt:=uH h o gen
 unfold nDo
 rw [hc]
 simp only [obS]
 have key:∀ (K:(SS×Ans×SS)->Option (SS×Ans)),(Option.bind (α:=(SS×Ans×SS)) (Option.bind (α:=Bool) (if o.1=10 then (some (decide (o.1=10))) else (Option.bind (α:=Bool) (if o.1=11 then (some (decide (o.1=11))) else (some (decide (o.1=12)))) fun r104=>some r104)) fun r101=>Option.bind (α:=(SS×Ans×SS)) (if r101=true then ((fP (s.1,s.2) (o.1,o.2.1,o.2.2.1,o.2.2.2.1,o.2.2.2.2.1,o.2.2.2.2.2) gen).bind fun x143 =>
   some (x143.2,(x143.1,0,([]:List UInt8),([]:List (List UInt8))),s))
   else (Option.bind (α:=(SS×Ans×SS)) (if o.1=13 then ((mT s o.2.2.1).bind fun x162=>some ((s.1,s.2),x162,s))
   else ((fDo s.1 (o.1,o.2.1,o.2.2.1,o.2.2.2.1,o.2.2.2.2.1,o.2.2.2.2.2)).bind fun x168=>some ((x168.1,(s.1,s.2).2),x168.2,(s.1,s.2)))) fun r158=>some (r158.1,r158.2.1,r158.2.2))) fun r139=>some (r139.1,r139.2.1,r139.2.2)) fun r94=>K r94)=K ((opP s o gen).1,(opP s o gen).2,s):=by
  intro K
  have e:∀ (b:Bool) (X Y:Option (SS×Ans×SS)),(Option.bind (α:=Bool) (if o.1=10 then (some (decide (o.1=10))) else (Option.bind (α:=Bool) (if o.1=11 then (some (decide (o.1=11))) else (some (decide (o.1=12)))) fun r104=>some r104)) fun r101=>Option.bind (α:=(SS×Ans×SS)) (if r101=true then X else Y) fun r139=>some (r139.1,r139.2.1,r139.2.2))=(if o.1=10\/o.1=11\/o.1=12 then X else Y):=by
   intro b X Y
   have e2:∀ Z:Option (SS×Ans×SS),(Option.bind Z fun r139=>some (r139.1,r139.2.1,r139.2.2))=Z:=fun Z=>by cases Z<;>rfl
   by_cases h1:o.1=10
   ·simp only [h1,if_pos,obS,decide_true,e2,true_or]
   ·by_cases h2:o.1=11
    ·rw [if_neg h1,if_pos h2]
     simp only [obS,h2,decide_true,if_pos,e2,true_or,or_true]
    ·rw [if_neg h1,if_neg h2]
     simp only [obS,e2,h1,h2,false_or,decide_eq_true_eq]
  rw [e true]
  unfold opP
  by_cases h1:o.1=10\/o.1=11\/o.1=12
  ·rw [if_pos h1,if_pos h1,show fP (s.1,s.2) (o.1,o.2.1,o.2.2.1,o.2.2.2.1,o.2.2.2.2.1,o.2.2.2.2.2) gen=some (snP s o gen) from aKn s o gen h.srt h.small (by have:=ho.p;omega)]
   rfl
  ·rw [if_neg h1,if_neg h1]
   by_cases h2:o.1=13
   ·rw [if_pos h2,if_pos h2,aDk s _ (by omega)];rfl
   ·rw [if_neg h2,if_neg h2,show fDo s.1 (o.1,o.2.1,o.2.2.1,o.2.2.2.1,o.2.2.2.2.1,o.2.2.2.2.2)=_ from hfd];rfl
 refine (key _).trans ?_
 simp only
 unfold stP
 by_cases h1:(opP s o gen).2.1=0
 ·rw [if_pos h1,if_pos h1,show gR ((opP s o gen).1.1,(opP s o gen).1.2)=_ from aC7 (opP s o gen).1 hrt.small]
  simp only [obS]
  by_cases h2:48<unN (opP s o gen).1
  ·rw [if_pos (by omega),if_pos h2]
   simp only [obS]
   rw [if_neg (by decide),hc];rfl
  ·rw [if_neg (by omega),if_neg h2]
   simp only [obS]
   rw [if_pos h1]
 ·rw [if_neg h1,if_neg h1,if_neg h1,hc];rfl
theorem aQc (a b:SS) (ha:SmS a):pW a b=some (decide (a=b)):=by
 obtain ⟨a1,a2⟩:=a
 obtain ⟨b1,b2⟩:=b
 obtain ⟨h1,h2,h3⟩:=ha
 simp only at h1 h2 h3
 unfold pW
 simp only
 rw [vG _ _ (by have:=h1.1;omega)]
 simp only [obS]
 by_cases e1:a1=b1
 ·rw [if_neg (by simp [e1])]
  by_cases hl:(a2.length:Int)=(b2.length:Int)
  ·rw [if_pos hl]
   have hl':a2.length=b2.length:=by omega
   refine cK (fun k (s:Int)=>s=(k:Int)/\∀ j (h:j<a2.length),j<k->a2[j]=b2[j]'(by omega)) (fun r=>(r=.inl ()/\a2=b2)\/(r=.inr false/\a2≠b2)) a2.length ⟨rfl,fun j _ hj=>by omega⟩ ?_ ?_ ?_
   ·rintro k _ hk ⟨rfl,hne⟩
    rw [if_pos (by omega),aX hk,aX (show k<b2.length by omega)]
    simp only [obS]
    have bad:a2[k]≠b2[k]->a2≠b2:=fun h e=>h (by subst e;rfl)
    by_cases e2:a2[k].1=b2[k].1
    ·rw [if_pos e2]
     by_cases e3:a2[k].2.1=b2[k].2.1
     ·rw [if_pos e3,vG _ _ (by have:=(h3 _ (List.getElem_mem hk)).1.1;omega)]
      simp only [obS]
      by_cases e4:a2[k].2.2=b2[k].2.2
      ·rw [if_neg (by simp [e4]),aF (by omega) (by omega)]
       exact .inl ⟨_,rfl,rfl,fun j hj hjk=>by
        by_cases ej:j=k
        ·subst ej;exact Prod.ext e2 (Prod.ext e3 e4)
        ·exact hne j hj (by omega)⟩
      ·rw [if_pos (by simp [e4])]
       exact .inr ⟨_,rfl,.inr ⟨rfl,bad fun h=>e4 (by rw [h])⟩⟩
     ·rw [if_neg e3]
      exact .inr ⟨_,rfl,.inr ⟨rfl,bad fun h=>e3 (by rw [h])⟩⟩
    ·rw [if_neg e2]
     exact .inr ⟨_,rfl,.inr ⟨rfl,bad fun h=>e2 (by rw [h])⟩⟩
   ·rintro _ ⟨rfl,hne⟩
    refine ⟨.inl (),by rw [if_neg (by omega)],.inl ⟨rfl,List.ext_getElem hl' fun j h1 h2=>hne j h1 h1⟩⟩
   ·rintro _ (⟨rfl,h⟩ | ⟨rfl,h⟩)
    ·simp [e1,h]
    ·simp [e1,h]
  ·rw [if_neg hl,decide_eq_false fun h=>hl (by rw [(Prod.mk.inj h).2])]
 ·rw [if_pos (by simp [e1]),decide_eq_false fun h=>e1 (Prod.mk.inj h).1]
theorem aGb (s:SS):iF s=some true\/(iF s=some false/\SmS s/\s.1.length<=60/\s.2.length<=40):=by
 unfold iF
 rcases aD5 s.1 with h | ⟨h,hb⟩
 ·rw [h];exact .inl rfl
 ·rw [h]
  simp only [obS,Bool.false_eq_true,if_false]
  by_cases h1:60<(s.1.length:Int)
  ·rw [if_pos h1];exact .inl rfl
  ·rw [if_neg h1]
   by_cases h2:40<(s.2.length:Int)
   ·rw [if_pos h2];exact .inl rfl
   ·rw [if_neg h2]
    refine dR (C:=fun o=>o=some true\/(o=some false/\SmS s/\s.1.length<=60/\s.2.length<=40)) (fun k (q:Int)=>q=(k:Int)/\∀ j (hj:j<s.2.length),j<k->SmL s.2[j].2.2/\s.2[j].1.length<=1000) (fun r=>r=.inr true\/(r=.inl ()/\∀ x∈s.2,SmL x.2.2/\x.1.length<=1000)) s.2.length ⟨rfl,fun j _ hj=>by omega⟩ ?_ ?_ ?_
    ·rintro k _ hk ⟨rfl,hq⟩
     rw [if_pos (by omega),aX hk]
     simp only [obS]
     rcases aD5 s.2[k].2.2 with h3 | ⟨h3,h4⟩
     ·rw [h3];exact .inr ⟨_,rfl,.inl rfl⟩
     ·rw [h3]
      simp only [obS,Bool.false_eq_true,if_false]
      by_cases h5:60<(s.2[k].2.2.length:Int)
      ·rw [if_pos h5];exact .inr ⟨_,rfl,.inl rfl⟩
      ·rw [if_neg h5]
       by_cases h6:50<(s.2[k].1.length:Int)
       ·rw [if_pos h6];exact .inr ⟨_,rfl,.inl rfl⟩
       ·rw [if_neg h6,aF (by omega) (by omega)]
        refine .inl ⟨_,rfl,rfl,fun j hj hjk=>?_⟩
        by_cases e:j=k
        ·subst e;exact ⟨⟨by omega,fun x hx=>by have:=h4 x hx;omega⟩,by omega⟩
        ·exact hq j hj (by omega)
    ·rintro _ ⟨rfl,hq⟩
     rw [if_neg (by omega)]
     refine ⟨_,rfl,.inr ⟨rfl,fun x hx=>?_⟩⟩
     obtain ⟨j,hj,rfl⟩:=List.getElem_of_mem hx
     exact hq j hj hj
    ·rintro _ (rfl | ⟨rfl,hq⟩)
     ·exact .inl rfl
     ·exact .inr ⟨rfl,⟨⟨by omega,fun x hx=>by have:=hb x hx;omega⟩,by omega,hq⟩,by omega,by omega⟩
theorem aJz:bK s00=[([110,47],[100])]:=by
 rw [sH s00_snd uG (by simp)];decide +kernel
def s1f:FS:=aI [47,97] (false,[]) s00
theorem aNk:rm s00 [47,97]=0:=by decide +kernel
theorem aPk:Snd s1f:=s00_snd.create aNk false
theorem aPs:(bK s1f).length=2:=by
 rw [sH aPk (sO uG [47,97] (false,[])) (by decide),aOn];decide
noncomputable def S0:SS:=(bK s00,[])
noncomputable def S1:SS:=(bK s00,[([115],1,bK s00)])
noncomputable def S2:SS:=(bK s1f,[([115],1,bK s00)])
theorem S0_rt:Rt S0:=⟨RF.of s00_snd wB (by omega),(fun x hx=>by cases hx),List.Pairwise.nil,(by unfold S0;rw [aJz];decide)⟩
theorem aNd:pN=some S0:=by unfold pN;rw [aNs];rfl
theorem aOb:rdF (bK s00)=s00:=(s00_snd.prs wB (by omega)).2.1
structure RA (a:Ans):Prop where
 c0:0<=a.1
 c1:a.1<=65535
 n0:0<=a.2.1
 n1:a.2.1<=65535
 d:a.2.2.1.length<=64
 nl:a.2.2.2.length<=6
 nm:∀ x∈a.2.2.2,x≠[]/\x.length<=8
theorem RA.code {c:Int} (h:0<=c/\c<=100):RA (c,0,[],[]):=⟨h.1,(by grind),(by simp),(by simp),(by simp),(by simp),(fun x hx=>by grind)⟩
theorem mM (s:FS) (p:List UInt8):0<=(lk s p).2/\(lk s p).2<=100:=by
 unfold lk
 split
 ·split
  ·rename_i e he
   obtain ⟨a,_,ha⟩:=List.exists_of_findSome?_eq_some he
   grind [ag]
  grind
 simp
theorem aG0 (s:FS) (p:List UInt8):0<=(rg s p).2/\(rg s p).2<=100:=by
 unfold rg
 split
 ·grind
 simp [mM]
theorem aGw (s:FS) (p:List UInt8):0<=rm s p/\rm s p<=100:=by
 unfold rm
 split
 ·split
  ·omega
  ·split
   ·grind
   simp [mM]
 simp
theorem aPp (s:FS) (F T:List UInt8):0<=(rn s F T).1/\(rn s F T).1<=100:=by
 unfold rn
 split
 ·split
  ·split
   ·split
    ·simp
    ·split
     ·simp
     ·split
      ·split<;>simp
      ·exact aGw s T
   ·exact mM s F
  ·simp
 ·simp
theorem aIo (s:FS) (p:List UInt8):0<=(rv s p).1/\(rv s p).1<=100:=by
 unfold rv
 split
 ·grind
 simp [mM]
theorem aCm {x:List UInt8} (h:bB x=true):x≠[]/\x.length<=8:=⟨aBy h,uL h⟩
theorem bl_nm {s:FS} (hs:Snd s) {n:Nat} (hc:Crd s n) (hn:n<=1000) (p:List UInt8):∀ x∈bl s p,x≠[]/\x.length<=8:=fun x hx=>by
 obtain ⟨q,f,h1,h2,h3,rfl⟩:=((hs.below hc (by omega) p).mem x).1 hx
 have hk:=hs.ok q f h1
 refine aCm ((bJ hk).1 _ ?_)
 grind [kQ]
theorem aOg {s:FS} (hs:Snd s) {n:Nat} (hc:Crd s n) (hn:n<=1000) (o:Opr):RA (doP s o).1:=by
 have hbl:=fun p=>(hs.below hc (by omega) p).len
 unfold doP
 split
 ·exact .code (aGw s _)
 ·split
  ·rename_i h34
   unfold wr
   split
   ·generalize hm:(if o.1=3 then o.2.2.2.1 else o.2.2.2.2.1)=m
    by_cases h0:m<0
    ·rw [if_pos h0];exact .code ⟨by omega,by omega⟩
    ·rw [if_neg h0]
     by_cases h1:192<m\/(o.1=3/\192<o.2.2.2.1+(o.2.2.2.2.2.length:Int))
     ·rw [if_pos h1];exact .code ⟨by omega,by omega⟩
     ·rw [if_neg h1]
      by_cases h4:o.1=4
      ·rw [if_pos h4];exact .code ⟨by omega,by omega⟩
      ·rw [if_neg h4]
       have h3:o.1=3:=h34.resolve_right h4
       rw [if_pos h3] at hm
       have hd:¬ (192<o.2.2.2.1+(o.2.2.2.2.2.length:Int)):=fun h=>h1 (.inr ⟨h3,h⟩)
       exact ⟨by simp,by simp,by simp,(by simp only;omega),by simp,by simp,(fun x hx=>by cases hx)⟩
   ·exact .code (aG0 s _)
  ·split
   ·unfold rdA
    split
    ·rename_i h0
     split
     ·exact .code ⟨by omega,by omega⟩
     ·obtain ⟨d,h1,h2⟩:=lF h0
      have hl:=hs.len _ _ h1
      rw [h2]
      refine ⟨by simp,by simp,by simp,?_,?_,by simp,(fun x hx=>by cases hx)⟩
      ·simp only at hl ⊢;omega
      ·simp only [List.length_take];omega
    ·exact .code (aG0 s _)
   ·split
    ·exact .code (aPp s _ _)
    ·split
     ·exact .code (aIo s _)
     ·split
      ·unfold ls
       split
       ·split
        ·refine ⟨by simp,by simp,by simp,?_,by simp,?_,fun x hx=>?_⟩
         ·have:=hbl o.2.1;simp only;omega
         ·simp only [List.length_take];omega
         ·exact bl_nm hs hc hn _ x (List.mem_filter.1 (List.mem_of_mem_take hx)).1
        ·exact .code ⟨by omega,by omega⟩
       ·exact .code (mM s _)
      ·split
       ·unfold stt
        split
        ·rename_i h0
         obtain ⟨_,f,h1,h2⟩:=mK h0
         have hl:=hs.len _ _ h1
         split
         ·refine ⟨by simp,by simp,by simp,?_,by simp,by simp,(fun x hx=>by cases hx)⟩
          have:=hbl o.2.1;simp only;omega
         ·refine ⟨by simp,by simp,by simp,?_,by simp,by simp,(fun x hx=>by cases hx)⟩
          rw [h2];simp only;omega
        ·exact .code (mM s _)
       ·exact .code ⟨by omega,by omega⟩
theorem aNl (s:SS) (o:Opr) (gen:Int):0<=(snP s o gen).1/\(snP s o gen).1<=100:=by grind [snP]
theorem aC4 {s:SS} (h:Rt s) (o:Opr) (gen:Int):RA (opP s o gen).2:=by
 obtain ⟨l1,l2,l3⟩:=h.len
 unfold opP
 split
 ·exact .code (aNl s o gen)
 ·split
  ·unfold lsP
   refine ⟨by simp,by simp,by simp,?_,by simp,?_,fun x hx=>?_⟩
   ·simp only;omega
   ·simp only [List.length_take];omega
   ·obtain ⟨y,hy,rfl⟩:=List.mem_map.1 (List.mem_filter.1 (List.mem_of_mem_take hx)).1
    exact aCm (h.sn y hy).2
  ·exact aOg h.fl.1 (iU s.1) (by omega) o
theorem uF {s:SS} (h:Rt s) (o:Opr) (gen:Int):RA (stP s o gen).2:=by
 unfold stP
 split
 ·split
  ·exact .code ⟨by simp,by simp⟩
  grind [aC4]
 grind [aC4]
theorem tS (p:List UInt8) (n k:Nat) (hk:k=1\/k=2) (hn:n<256 ^ k) (hp:p.length<=9000):∃ q,penUint p (n:Int) (k:Int)=some (0,q)/\q.length=p.length+k:=by
 refine ⟨p++((List.range k).reverse.map fun j=>u8 ((n / 256 ^ j % 256:Nat):Int)),?_,by simp⟩
 unfold penUint
 rw [if_neg (by omega),if_neg (by omega),if_pos (by omega)]
 rw [show IntKind.i64.wrap (8*(k:Int))=((8*k:Nat):Int) by rw [aF (by omega) (by omega)];omega,show IntKind.i64.wrap ((k:Int)-1)=(k:Int)-1 by rw [aF (by omega) (by omega)]]
 have hsh:eG .u64 (n:Int) ((8*k:Nat):Int)=some (cL .u64 (n:Int) ((8*k:Nat):Int)):=by unfold eG;rw [if_pos (by omega)]
 rw [hsh]
 simp only [obS]
 rw [qJ .u64 _ _ (by show 8*k<=64;omega),if_neg (by
  have:n / 2 ^ (8*k)=0:=Nat.div_eq_of_lt (by rw [Nat.pow_mul];exact hn)
  omega)]
 rw [wE (fun (k:Nat) (s:List UInt8)=>s++[u8 ((n / 256 ^ k % 256:Nat):Int)]) (fun s=>s) (fun (k:Nat) (s:List UInt8)=>k<=8/\s.length<=10000-k) ?hs2 ?he2 k _ ⟨by omega,by omega⟩]
 case he2=>intro s _;rw [if_neg (by omega)]
 case hs2 =>
  intro k s ⟨hk,hl⟩
  refine ⟨?_,by omega,by simp;omega⟩
  rw [if_pos (by omega)]
  have h8:IntKind.i64.wrap (8*(k:Int))=((8*k:Nat):Int):=by rw [aF (by omega) (by omega)];omega
  rw [h8]
  have hsh:eG .u64 (n:Int) ((8*k:Nat):Int)=some (cL .u64 (n:Int) ((8*k:Nat):Int)):=by unfold eG;rw [if_pos (by omega)]
  rw [hsh]
  simp only [obS]
  have hw:IntKind.u8.wrap (cL .u64 (n:Int) ((8*k:Nat):Int))=((n / 256 ^ k % 256:Nat):Int):=by
   rw [qJ .u64 _ _ (by show 8*k<=64;omega),wrap_u8',Nat.pow_mul];rfl
  rw [hw,lZ (by omega) (by omega)]
  simp only [obS]
  rw [bI (by simp;omega)]
  simp only [obS]
  rw [aF (by omega) (by omega)]
 simp only [obS]
 rw [uQ (fun k=>u8 ((n / 256 ^ k % 256:Nat):Int))]
theorem penT (p b:List UInt8) (hb:b.length<=100) (hp:p.length<=8000):∃ q,penText p b=some (0,q)/\q.length=p.length+2+b.length:=by
 obtain ⟨q,h1,h2⟩:=tS p b.length 2 (.inr rfl) (by omega) (by omega)
 unfold penText
 grind [lE,aAq]
theorem aC5 (n:Int):mG n=some (decide (0<=n/\n<=65535)):=by
 unfold mG
 grind
theorem aJb (xs:List (List UInt8)) (h:xs.length<=100000):pG xs=some (decide (∃ x∈xs,x=[]\/8<x.length)):=by
 unfold pG
 have key:∃ n:Int,oP xs=some n/\(0<=n↔∃ x∈xs,x=[]\/8<x.length):=by
  unfold oP
  refine dR (C:=fun o=>∃ n:Int,o=some n/\(0<=n↔∃ x∈xs,x=[]\/8<x.length)) (fun k (s:Int)=>s=(k:Int)/\∀ j (hj:j<xs.length),j<k->¬ (xs[j]=[]\/8<xs[j].length)) (fun r=>(r=.inl ()/\¬ ∃ x∈xs,x=[]\/8<x.length)\/(∃ n:Int,r=.inr n/\0<=n/\∃ x∈xs,x=[]\/8<x.length)) xs.length ⟨rfl,fun j _ hj=>by omega⟩ ?_ ?_ ?_
  ·rintro k _ hk ⟨rfl,hq⟩
   rw [if_pos (by omega),aX hk]
   simp only [obS]
   have ho:oR xs[k]=some (decide (xs[k]=[]\/8<xs[k].length)):=by
    unfold oR
    by_cases h1:xs[k]=[]
    ·rw [if_pos h1];simp [h1]
    ·rw [if_neg h1];simp [h1];omega
   rw [ho]
   simp only [obS]
   by_cases h2:xs[k]=[]\/8<xs[k].length
   ·rw [if_pos (decide_eq_true h2)]
    exact .inr ⟨_,rfl,.inr ⟨_,rfl,by omega,_,List.getElem_mem hk,h2⟩⟩
   ·rw [if_neg (by simpa using h2),aF (by omega) (by omega)]
    refine .inl ⟨_,rfl,rfl,fun j hj hjk=>?_⟩
    by_cases e:j=k
    ·subst e;exact h2
    ·exact hq j hj (by omega)
  ·rintro _ ⟨rfl,hq⟩
   refine ⟨.inl (),by rw [if_neg (by omega)],.inl ⟨rfl,?_⟩⟩
   rintro ⟨x,hx,h2⟩
   obtain ⟨j,hj,rfl⟩:=List.getElem_of_mem hx
   exact hq j hj hj h2
  ·rintro _ (⟨rfl,h1⟩ | ⟨n,rfl,h0,h1⟩)
   ·exact ⟨-1,rfl,by omega,fun h=>absurd h h1⟩
   ·exact ⟨n,rfl,fun _=>h1,fun _=>h0⟩
 obtain ⟨n,h1,h2⟩:=key
 rw [h1]
 simp only [obS]
 rw [decide_eq_decide.2 h2]
theorem aM0 (a:Ans):∃ b c,pH a=some (b,c)/\(c=0↔RA a):=by
 unfold pH
 rw [aC5]
 simp only [obS]
 by_cases h1:0<=a.1/\a.1<=65535
 ·rw [if_neg (by simp [h1]),aC5]
  simp only [obS]
  by_cases h2:0<=a.2.1/\a.2.1<=65535
  ·rw [if_neg (by simp [h2])]
   by_cases h3:64<(a.2.2.1.length:Int)
   ·rw [if_pos h3];exact ⟨_,_,rfl,by simp,fun hr=>by have:=hr.d;omega⟩
   ·rw [if_neg h3]
    by_cases h4:6<(a.2.2.2.length:Int)
    ·rw [if_pos h4];exact ⟨_,_,rfl,by simp,fun hr=>by have:=hr.nl;omega⟩
    ·rw [if_neg h4,aJb _ (by omega)]
     simp only [obS]
     by_cases h5:∃ x∈a.2.2.2,x=[]\/8<x.length
     ·rw [if_pos (decide_eq_true h5)]
      refine ⟨_,_,rfl,by simp,fun hr=>?_⟩
      obtain ⟨x,hx,h6⟩:=h5
      have:=hr.nm x hx
      rcases h6 with h6 | h6
      ·exact absurd h6 this.1
      ·omega
     ·have hx:∀ x∈a.2.2.2,x≠[]/\x.length<=8:=fun x hx=>⟨fun h6=>h5 ⟨x,hx,.inl h6⟩,by
       rcases Nat.lt_or_ge 8 x.length with h6 | h6
       ·exact absurd ⟨x,hx,.inr h6⟩ h5
       ·exact h6⟩
      have hRA:RA a:=⟨h1.1,h1.2,h2.1,h2.2,by omega,by omega,hx⟩
      rw [if_neg (by simpa using h5),lE (by omega) (by omega),lE (by omega) (by omega),lE (by omega) (by omega)]
      obtain ⟨n1,e1⟩:=Int.eq_ofNat_of_zero_le h1.1
      obtain ⟨n2,e2⟩:=Int.eq_ofNat_of_zero_le h2.1
      rw [e1,e2]
      obtain ⟨q1,g1,l1⟩:=tS [] n1 2 (.inr rfl) (by omega) (by simp)
      rw [show (2:Int)=((2:Nat):Int) from rfl,g1]
      simp only [obS]
      obtain ⟨q2,g2,l2⟩:=tS q1 n2 2 (.inr rfl) (by omega) (by simp at l1;omega)
      rw [g2]
      simp only [obS]
      simp only [List.length_nil] at l1
      obtain ⟨q3,g3,l3⟩:=penT q2 a.2.2.1 (by omega) (by omega)
      rw [g3]
      simp only [obS]
      obtain ⟨q4,g4,l4⟩:=tS q3 a.2.2.2.length 1 (.inl rfl) (by omega) (by omega)
      rw [show (1:Int)=((1:Nat):Int) from rfl,g4]
      simp only [obS]
      refine dR (C:=fun o=>∃ b c,o=some (b,c)/\(c=(0:Int)↔RA a)) (fun k (s:List UInt8×Int)=>s.2=(k:Int)/\s.1.length<=100+10*k) (fun r=>r.length<=1000) a.2.2.2.length ⟨rfl,by simp only;omega⟩ ?_ ?_ ?_
      ·rintro k ⟨s,i⟩ hk ⟨rfl,h6⟩
       simp only at h6 ⊢
       have h7:=(hx _ (List.getElem_mem hk)).2
       rw [if_pos (by omega),aX hk]
       simp only [obS]
       obtain ⟨q,g5,l5⟩:=penT s a.2.2.2[k] (by omega) (by omega)
       rw [g5]
       simp only [obS]
       refine .inl ⟨_,rfl,by simp only;rw [aF (by omega) (by omega)];rfl,by simp only;omega⟩
      ·rintro ⟨s,i⟩ ⟨rfl,h6⟩
       simp only at h6 ⊢
       rw [if_neg (by omega)]
       exact ⟨_,rfl,by omega⟩
      ·intro r hr
       unfold penData cloneB
       rw [bI (by simp;omega)]
       exact ⟨_,_,rfl,fun _=>hRA,fun _=>rfl⟩
  ·rw [if_pos (by simp [h2])];exact ⟨_,_,rfl,by simp,fun hr=>absurd ⟨hr.n0,hr.n1⟩ h2⟩
 ·rw [if_pos (by simp [h1])];exact ⟨_,_,rfl,by simp,fun hr=>absurd ⟨hr.c0,hr.c1⟩ h1⟩
abbrev Seat:=Int×Int×Ans
abbrev WW:=SS×List Seat
def za:Ans:=(0,0,[],[])
theorem pJ (a b:Seat):gH a b=some (if a.1<b.1 then -1 else if b.1<a.1 then 1 else 0):=by
 have hn:∀ x:Int,mE x=some false:=fun x=>by unfold mE;simp
 unfold gH rT
 grind
theorem aKa (A B:List Seat) (T:Int) (hA:∀ a∈A,a.1<T) (hB:∀ b∈B,¬ b.1<T) (hl:(A++B).length<=100000) (t:Seat) (ht:t.1=T):fU (A++B) t=some ((A.length:Int),decide ((B.head?.map (·.1))=some T)):=by
 subst ht
 have low:∀ (k:Nat) (h:k<(A++B).length),k<A.length->((A++B)[k]).1<t.1:=fun k h hk=>by rw [List.getElem_append_left hk];exact hA _ (List.getElem_mem _)
 have high:∀ (k:Nat) (h:k<(A++B).length),A.length<=k->¬ ((A++B)[k]).1<t.1:=fun k h hk=>by rw [List.getElem_append_right hk];exact hB _ (List.getElem_mem _)
 unfold fU
 refine aBs (fun s=>∃ i j:Nat,s=((i:Int),(j:Int))/\i<=A.length/\A.length<=j/\j<=(A++B).length) (fun r=>r=(A.length:Int)) (fun s=>(s.2-s.1).toNat) ⟨0,_,rfl,by omega,by simp,by omega⟩ ?_ ?_
 ·rintro _ ⟨i,j,rfl,h3,h4,h5⟩
  simp only
  by_cases h:(i:Int)<(j:Int)
  ·rw [if_pos h,sV (by omega),aX (show (i+j) / 2<(A++B).length by omega)]
   simp only [obS,pJ]
   by_cases h6:((A++B)[(i+j) / 2]'(by omega)).1<t.1
   ·rw [if_pos h6,if_pos (by decide),aF (by omega) (by omega)]
    have h7:(i+j) / 2<A.length:=by
     rcases Nat.lt_or_ge ((i+j) / 2) A.length with h8 | h8
     ·exact h8
     ·exact absurd h6 (high _ (by omega) h8)
    exact .inl ⟨_,rfl,⟨(i+j) / 2+1,j,rfl,by omega,by omega,by omega⟩,by simp only;omega⟩
   ·rw [if_neg h6,if_neg (by split<;>omega)]
    have h7:A.length<=(i+j) / 2:=by
     rcases Nat.lt_or_ge ((i+j) / 2) A.length with h8 | h8
     ·exact absurd (low _ (by omega) h8) h6
     ·exact h8
    exact .inl ⟨_,rfl,⟨i,(i+j) / 2,rfl,by omega,by omega,by omega⟩,by simp only;omega⟩
  ·rw [if_neg h]
   exact .inr ⟨_,rfl,by omega⟩
 ·rintro _ rfl
  cases B with
  | nil =>
   rw [if_neg (by simp)];simp
  | cons b B =>
   rw [if_pos (by simp;omega),aX (show A.length<(A++b::B).length by simp)]
   have hb:=hB b (List.mem_cons_self ..)
   simp only [obS,pJ,List.getElem_append_right (Nat.le_refl A.length),Nat.sub_self,List.getElem_cons_zero,List.head?_cons,Option.map_some,Option.some.injEq]
   congr 2
   rw [if_neg hb]
   have:((if t.1<b.1 then (1:Int) else 0)=0)↔b.1=t.1:=by split<;>omega
   exact propext this
def loT (xs:List Seat) (T:Int):List Seat:=xs.filter fun x=>decide (x.1<T)
def hiT (xs:List Seat) (T:Int):List Seat:=xs.filter fun x=>decide (T<x.1)
def atT (xs:List Seat) (T:Int):Option Seat:=xs.find? fun x=>decide (x.1=T)
abbrev dO (xs:List Seat):Prop:=xs.Pairwise fun a b=>a.1<b.1
theorem oJ {xs:List Seat} (h:dO xs) (T:Int):xs=loT xs T++((atT xs T).toList++hiT xs T):=by
 induction xs with
 | nil=>rfl
 | cons x xs ih =>
  obtain ⟨h1,h2⟩:=List.pairwise_cons.1 h
  rcases Int.lt_trichotomy x.1 T with h3 | h3 | h3
  ·have e1:loT (x::xs) T=x::loT xs T:=by unfold loT;rw [List.filter_cons,if_pos (decide_eq_true h3)]
   have e2:hiT (x::xs) T=hiT xs T:=by unfold hiT;rw [List.filter_cons,if_neg (by simp;omega)]
   have e3:atT (x::xs) T=atT xs T:=by unfold atT;rw [List.find?_cons_of_neg (by simp;omega)]
   rw [e1,e2,e3,List.cons_append,<- ih h2]
  ·have e1:loT (x::xs) T=[]:=List.filter_eq_nil_iff.2 fun y hy=>by
    rcases List.mem_cons.1 hy with rfl | hy
    ·simp;omega
    ·have:=h1 y hy;simp;omega
   have e2:hiT (x::xs) T=xs:=by
    unfold hiT
    rw [List.filter_cons,if_neg (by simp;omega),List.filter_eq_self.2 fun y hy=>decide_eq_true (by have:=h1 y hy;omega)]
   have e3:atT (x::xs) T=some x:=by unfold atT;rw [List.find?_cons_of_pos (by simpa using h3)]
   rw [e1,e2,e3];rfl
  ·have hall:∀ y∈x::xs,T<y.1:=fun y hy=>by
    rcases List.mem_cons.1 hy with rfl | hy
    ·exact h3
    ·have:=h1 y hy;omega
   have e1:loT (x::xs) T=[]:=List.filter_eq_nil_iff.2 fun y hy=>by have:=hall y hy;simp;omega
   have e2:hiT (x::xs) T=x::xs:=List.filter_eq_self.2 fun y hy=>decide_eq_true (hall y hy)
   have e3:atT (x::xs) T=none:=List.find?_eq_none.2 fun y hy=>by have:=hall y hy;simp;omega
   rw [e1,e2,e3];rfl
theorem oG {xs:List Seat} {T:Int}:∀ a∈loT xs T,a.1<T:=fun a ha=>of_decide_eq_true (List.mem_filter.1 ha).2
theorem nK {xs:List Seat} {T:Int}:∀ a∈hiT xs T,T<a.1:=fun a ha=>of_decide_eq_true (List.mem_filter.1 ha).2
theorem gI {xs:List Seat} {T:Int} {x:Seat} (h:atT xs T=some x):x.1=T/\x∈xs:=⟨by simpa using List.find?_some h,List.mem_of_find?_eq_some h⟩
theorem aG5 {xs:List Seat} (h:dO xs) (hl:xs.length<=100000) (T:Int) (f:List Seat->Int->Option (Int×Bool)) (hf:f=jQ\/f=jB):f xs T=some (((loT xs T).length:Int),(atT xs T).isSome):=by
 have hp:=oJ h T
 have key:∀ t:Seat,t.1=T->fU xs t=some (((loT xs T).length:Int),(atT xs T).isSome):=fun t ht=>by
  have:=aKa (loT xs T) ((atT xs T).toList++hiT xs T) T oG (fun b hb=>by
   rcases List.mem_append.1 hb with hb | hb
   ·cases ha:atT xs T with
    | none=>rw [ha] at hb;cases hb
    | some x =>
     rw [ha] at hb
     obtain rfl:b=x:=by simpa using hb
     have:=(gI ha).1;omega
   ·have:=nK b hb;omega) (by rw [<- hp];exact hl) t ht
  rw [<- hp] at this
  rw [this]
  congr 2
  cases ha:atT xs T with
  | some x=>simp [(gI ha).1]
  | none =>
   refine decide_eq_false fun h5=>?_
   cases h6:hiT xs T with
   | nil=>rw [h6] at h5;cases h5
   | cons b B =>
    rw [h6] at h5
    have:=nK b (by rw [h6];exact List.mem_cons_self ..)
    simp at h5
    omega
 rcases hf with rfl | rfl
 ·unfold jQ;rw [key _ rfl];rfl
 ·unfold jB;rw [show nH=fU from rfl,key _ rfl];rfl
def SmA (a:Ans):Prop:=a.2.2.1.length<=140737488355328/\a.2.2.2.length<=8796093022208
def SmQ (xs:List Seat):Prop:=xs.length<=1000/\∀ x∈xs,SmA x.2.2
theorem oT (a:Ans) (h:SmA a):jV a=some a:=by
 unfold jV
 have hc:gX a.2.2.1=some a.2.2.1:=by unfold gX;rw [cR (by simp;exact h.1)];rfl
 unfold iY;rw [hc,aB8 (by simpa using h.2)];rfl
theorem rV (xs:List Seat) (h:SmQ xs):kO xs=some xs:=by
 obtain ⟨hl,hb⟩:=h
 unfold kO
 refine cK (fun k (s:List Seat×Int)=>s=(xs.take k,(k:Int))) (fun r=>r=xs) xs.length rfl ?_ ?_ ?_
 ·rintro k _ hk rfl
  simp only
  rw [if_pos (by omega),aX hk]
  simp only [obS]
  rw [oT _ (hb _ (List.getElem_mem hk))]
  simp only [obS]
  rw [bI (by simp only [List.length_take,List.length_cons,List.length_nil];omega)]
  exact .inl ⟨_,rfl,by rw [aF (by omega) (by omega)];exact Prod.ext (List.take_succ_eq_append_getElem hk).symm rfl⟩
 ·rintro _ rfl
  simp only
  rw [if_neg (by omega),List.take_length];exact ⟨_,rfl,rfl⟩
 ·rintro _ rfl;rfl
def lkP (xs:List Seat) (client number:Int):Int×Ans :=
 match atT xs client with
 | some x=>if x.2.1<number then (0,za) else if number=x.2.1 then (1,x.2.2) else (2,za)
 | none=>if 0<number then (0,za) else (2,za)
theorem aFt {xs:List Seat} (h:dO xs) {T:Int} {x:Seat} (hx:atT xs T=some x):∃ hlt:(loT xs T).length<xs.length,xs[(loT xs T).length]=x:=by grind [oJ]
theorem aN1 {xs:List Seat} (h:dO xs) (hs:SmQ xs) (client number:Int):jA xs client number=some (lkP xs client number):=by
 unfold jA lkP
 rw [aG5 h (by have:=hs.1;omega) client _ (.inl rfl)]
 simp only [obS]
 cases hx:atT xs client with
 | some x =>
  obtain ⟨hlt,hg⟩:=aFt h hx
  rw [if_pos (show (some x).isSome=true from rfl),aX hlt,hg]
  simp only [obS]
  by_cases h1:x.2.1<number
  ·rw [if_pos h1,if_pos h1];rfl
  ·rw [if_neg h1,if_neg h1,if_pos (show (some x).isSome=true from rfl)]
   by_cases h2:number=x.2.1
   ·rw [if_pos h2,if_pos h2,oT _ (hs.2 x (gI hx).2)];rfl
   ·rw [if_neg h2,if_neg h2];rfl
 | none =>
  rw [if_neg (by simp)]
  simp only [obS]
  by_cases h1:0<number
  ·rw [if_pos h1,if_pos h1];rfl
  ·rw [if_neg h1,if_neg h1,if_neg (by simp)];rfl
def ptP (xs:List Seat) (s:Seat):List Seat:=loT xs s.1++s::hiT xs s.1
theorem aJq {xs:List Seat} (h:dO xs) (hs:SmQ xs) (s:Seat) (hA:SmA s.2.2):iJ xs s=some (ptP xs s):=by
 unfold iJ ptP
 rw [rV _ hs]
 simp only [obS]
 rw [oT _ hA]
 simp only [obS]
 rw [aG5 h (by have:=hs.1;omega) s.1 _ (.inr rfl)]
 simp only [obS]
 have hp:=oJ h s.1
 have hl:=hs.1
 cases hx:atT xs s.1 with
 | some x =>
  obtain ⟨hlt,hg⟩:=aFt h hx
  rw [if_pos (show (some x).isSome=true from rfl),aX hlt]
  simp only [obS]
  rw [hx] at hp
  congr 1
  rw [Int.toNat_natCast]
  have:∀ (A B:List Seat) (y:Seat),(A++([y]++B)).set A.length s=A++s::B:=fun A B y=>by simp
  have h2:=this (loT xs s.1) (hiT xs s.1) x
  rw [show loT xs s.1++([x]++hiT xs s.1)=xs from hp.symm] at h2
  exact h2
 | none =>
  rw [hx] at hp
  simp only [Option.toList_none,List.nil_append] at hp
  rw [if_neg (by simp)]
  have hle:(loT xs s.1).length<=xs.length:=List.length_filter_le _ _
  unfold oC iM
  rw [if_pos ⟨by omega,by omega,by omega,rfl⟩,Int.toNat_natCast]
  simp only [obS]
  congr 1
  exact zG [s] hp
structure RtW (w:WW):Prop where
 st:Rt w.1
 se:∀ x∈w.2,0<=x.1/\x.1<4/\x.2.1≠0/\RA x.2.2
 srt:dO w.2
theorem RA.sm {a:Ans} (h:RA a):SmA a:=⟨by have:=h.d;omega,by have:=h.nl;omega⟩
theorem RtW.sm {w:WW} (h:RtW w) (hl:w.2.length<=1000):SmQ w.2:=⟨hl,fun x hx=>(h.se x hx).2.2.2.sm⟩
theorem aMg {xs:List Seat} (h:dO xs) (hb:∀ x∈xs,0<=x.1/\x.1<4):xs.length<=4:=by
 have key:∀ (i:Nat) (hi:i<xs.length),(i:Int)<=xs[i].1:=by
  intro i
  induction i with
  | zero=>intro hi;exact (hb _ (List.getElem_mem hi)).1
  | succ i ih =>
   grind [List.pairwise_iff_getElem]
 grind
theorem RtW.len {w:WW} (h:RtW w):w.2.length<=4:=aMg h.srt fun x hx=>⟨(h.se x hx).1,(h.se x hx).2.1⟩
theorem zM:eX (0,[],[],0,0,[]):=⟨by simp,by simp,by simp⟩
theorem aA9 {w:WW} (h:RtW w):fV w=some w:=by
 unfold fV
 rw [aDb h.st _ 0 zM]
 rw [rV _ (h.sm (by have:=h.len;omega))];rfl
noncomputable def dP (w:WW) (c:Int×Int×Opr) (gen:Int):WW×Ans×Int :=
  if 0<=c.1/\c.1<4 then
    (if (lkP w.2 c.1 c.2.1).1=0 then (((stP w.1 c.2.2 gen).1,ptP w.2 (c.1,c.2.1,(stP w.1 c.2.2 gen).2)),(stP w.1 c.2.2 gen).2,0)
     else (w,(lkP w.2 c.1 c.2.1).2,(lkP w.2 c.1 c.2.1).1))
  else (w,za,2)
theorem qZ {w:WW} (h:RtW w) (c:Int×Int×Opr) (gen:Int) (ho:eX c.2.2):tDo w c gen=some (dP w c gen):=by
 have hs:=h.sm (by have:=h.len;omega)
 unfold tDo dP
 have hv:fZ c.1=some (decide (0<=c.1/\c.1<4)):=by
  unfold fZ
  by_cases h1:0<=c.1
  ·rw [if_pos h1];simp [h1]
  ·rw [if_neg h1];simp [h1]
 rw [hv]
 simp only [obS]
 by_cases h1:0<=c.1/\c.1<4
 ·rw [if_neg (by simp [h1]),if_pos h1,aN1 h.srt hs]
  simp only [obS]
  by_cases h2:(lkP w.2 c.1 c.2.1).1=0
  ·rw [if_pos h2,if_pos h2,aDb h.st _ gen ho]
   simp only [obS]
   rw [show iJ w.2 (c.1,c.2.1,((stP w.1 c.2.2 gen).2.1,(stP w.1 c.2.2 gen).2.2.1,(stP w.1 c.2.2 gen).2.2.2.1,(stP w.1 c.2.2 gen).2.2.2.2))=_ from aJq h.srt hs (c.1,c.2.1,(stP w.1 c.2.2 gen).2) (uF h.st _ _).sm,h2];rfl
  ·rw [if_neg h2,if_neg h2,show fV (w.1,w.2)=some w from aA9 h];rfl
 ·rw [if_pos (by rw [decide_eq_false h1];rfl),if_neg h1,aA9 h];rfl
theorem aNo {xs:List Seat} {T:Int} {x:Seat} (h:x∈loT xs T):x∈xs:=(List.mem_filter.1 h).1
theorem aIm {xs:List Seat} {T:Int} {x:Seat} (h:x∈hiT xs T):x∈xs:=(List.mem_filter.1 h).1
theorem aO3 {xs:List Seat} (h:dO xs) (s:Seat):dO (ptP xs s):=by
 refine List.pairwise_append.2 ⟨h.filter _,List.pairwise_cons.2 ⟨fun b hb=>nK b hb,h.filter _⟩,fun a ha b hb=>?_⟩
 rcases List.mem_cons.1 hb with rfl | hb
 ·exact oG a ha
 ·have:=oG a ha;have:=nK b hb;omega
theorem zT {xs:List Seat} {s x:Seat} (h:x∈ptP xs s):x=s\/x∈xs:=by grind [ptP,aNo,aIm]
def Nn (w:WW):Prop:=∀ x∈w.2,0<=x.2.1
theorem aPb {w:WW} (hn:Nn w) {client number:Int} (h:(lkP w.2 client number).1=0):0<number:=by
 unfold lkP at h
 cases hx:atT w.2 client with
 | some x =>
  rw [hx] at h
  have:=hn x (gI hx).2
  grind
 | none =>
  grind
theorem aDi {w:WW} (h:RtW w) (hn:Nn w) (c:Int×Int×Opr) (gen:Int):RtW (dP w c gen).1/\Nn (dP w c gen).1:=by
 unfold dP
 by_cases h1:0<=c.1/\c.1<4
 ·rw [if_pos h1]
  by_cases h2:(lkP w.2 c.1 c.2.1).1=0
  ·rw [if_pos h2]
   have hp:=aPb hn h2
   refine ⟨⟨aQb h.st _ _,fun x hx=>?_,aO3 h.srt _⟩,fun x hx=>?_⟩
   ·rcases zT hx with rfl | hx
    ·exact ⟨h1.1,h1.2,by simp only;omega,uF h.st _ _⟩
    ·exact h.se x hx
   ·rcases zT hx with rfl | hx
    ·simp only;omega
    ·exact hn x hx
  ·rw [if_neg h2];exact ⟨h,hn⟩
 ·rw [if_neg h1];exact ⟨h,hn⟩
theorem aL9 (x y:List (List UInt8)) (hx:x.length<=1000000):nC x y=some (decide (x=y)):=by
 have:nC x y=kX x y:=rfl
 rw [this,aGa x y (by omega)]
theorem xD (a b:Ans) (h:a.2.2.2.length<=1000000):gP a b=some (decide (a=b)):=by
 obtain ⟨a1,a2,a3,a4⟩:=a
 obtain ⟨b1,b2,b3,b4⟩:=b
 simp only at h
 unfold gP
 simp only
 by_cases h1:a1=b1
 ·rw [if_pos h1]
  by_cases h2:a2=b2
  ·rw [if_pos h2]
   by_cases h3:a3=b3
   ·rw [if_pos h3,aL9 _ _ h]
    simp [h1,h2,h3]
   ·rw [if_neg h3];simp [h3]
  ·rw [if_neg h2];simp [h2]
 ·rw [if_neg h1];simp [h1]
theorem aOs (L:List P2) (h:SmL L):kK L=some L:=by
 obtain ⟨hl,hb⟩:=h
 unfold kK
 refine cK (fun k (s:List P2×Int)=>s=(L.take k,(k:Int))) (fun r=>r=L) L.length rfl ?_ ?_ ?_
 ·rintro k _ hk rfl
  have hx:=hb _ (List.getElem_mem hk)
  simp only
  rw [if_pos (by omega),aX hk]
  simp only [obS]
  rw [bI (by simp only [List.length_nil];omega),bI (by simp only [List.length_nil];omega)]
  simp only [obS,List.nil_append]
  rw [bI (by simp only [List.length_take,List.length_cons,List.length_nil];omega)]
  simp only [obS]
  exact .inl ⟨_,rfl,by rw [aF (by omega) (by omega)];exact Prod.ext (List.take_succ_eq_append_getElem hk).symm rfl⟩
 ·rintro _ rfl
  simp only
  rw [if_neg (by omega),List.take_length];exact ⟨_,rfl,rfl⟩
 ·rintro _ rfl;rfl
def eH (w:WW) (k:Nat):Prop:=∃ hk:k<w.2.length,0<=(w.2[k]).1/\(w.2[k]).1<4/\(w.2[k]).2.1≠0/\RA (w.2[k]).2.2/\(0<k->(w.2[k-1]'(by omega)).1<(w.2[k]).1)
theorem aFl {xs:List Seat} (h:∀ i (hi:i+1<xs.length),(xs[i]).1<(xs[i+1]).1):dO xs:=by
 rw [dO,List.pairwise_iff_getElem]
 intro i j hi hj hij
 obtain ⟨m,rfl⟩:∃ m,j=i+1+m:=⟨j-(i+1),by omega⟩
 clear hij
 induction m with
 | zero=>exact h i hj
 | succ m ih=>exact Int.lt_trans (ih (by omega)) (h (i+1+m) (by omega))
theorem vE (w:WW):RtW w↔Rt w.1/\∀ k,k<w.2.length->eH w k:=by
 constructor
 ·intro h
  refine ⟨h.st,fun k hk=>?_⟩
  obtain ⟨a,b,c,d⟩:=h.se _ (List.getElem_mem hk)
  exact ⟨hk,a,b,c,d,fun h0=>List.pairwise_iff_getElem.1 h.srt (k-1) k (by omega) hk (by omega)⟩
 ·rintro ⟨h1,h3⟩
  refine ⟨h1,fun x hx=>?_,aFl fun i hi=>?_⟩
  ·obtain ⟨k,hk,rfl⟩:=List.getElem_of_mem hx
   obtain ⟨_,a,b,c,d,_⟩:=h3 k hk;exact ⟨a,b,c,d⟩
  ·obtain ⟨_,_,_,_,_,h6⟩:=h3 (i+1) hi;exact h6 (by omega)
theorem aMr (w:WW) (hs:SmS w.1) (hl:w.2.length<=1000):(gW w=some 0/\RtW w)\/(gW w=some 22/\¬ RtW w):=by
 unfold gW
 obtain ⟨c0,hc,hc0⟩:∃ c0,jJ w.1=some c0/\(c0=0↔Rt w.1):=by
  rcases aJk w.1 hs with ⟨h,hr⟩ | ⟨h,hr⟩
  ·exact ⟨0,h,fun _=>hr,fun _=>rfl⟩
  ·exact ⟨22,h,(fun h=>by cases h),fun h=>absurd h hr⟩
 rw [hc]
 simp only [obS]
 refine dR (C:=fun o=>(o=some (0:Int)/\RtW w)\/(o=some 22/\¬ RtW w)) (fun k (q:Bool×Int)=>q.2=(k:Int)/\(q.1=false↔Rt w.1/\∀ j,j<k->eH w j)) (fun r=>r=false↔RtW w) w.2.length ⟨rfl,?_⟩ ?_ ?_ ?_
 ·simp only [Bool.not_eq_false',decide_eq_true_eq,hc0]
  exact ⟨fun h=>⟨h,fun j hj=>by omega⟩,fun h=>h.1⟩
 ·rintro k ⟨b,i⟩ hk ⟨h3,h4⟩
  simp only at h3 h4
  subst h3
  simp only
  have bad:∀ {c:Bool},c=true->¬ eH w k->((c,((k:Int)+1)).2=((k+1:Nat):Int)/\(((c,((k:Int)+1)):Bool×Int).1=false↔Rt w.1/\∀ j,j<k+1->eH w j)):=fun hc hg=>⟨rfl,by simp only [hc];exact ⟨fun h=>(by cases h),fun h=>absurd (h.2 k (by omega)) hg⟩⟩
  have good:(eH w k)->(Rt w.1/\∀ j,j<k->eH w j)->(Rt w.1/\∀ j,j<k+1->eH w j):=fun hg h=>⟨h.1,fun j hj=>by
   by_cases e:j=k
   ·subst e;exact hg
   ·exact h.2 j (by omega)⟩
  rw [if_pos (by omega),aX hk]
  simp only [obS]
  obtain ⟨by_,c1,hw,hc1⟩:=aM0 w.2[k].2.2
  rw [hw]
  simp only [obS]
  rw [aF (n:=(k:Int)+1) (by omega) (by omega)]
  cases b with
  | true =>
   rw [if_pos rfl]
   exact .inl ⟨_,rfl,rfl,⟨fun h=>(by cases h),fun h=>absurd (h4.2 ⟨h.1,fun j hj=>h.2 j (by omega)⟩) (by simp)⟩⟩
  | false =>
   rw [if_neg (by simp)]
   have h5:=h4.1 rfl
   by_cases h6:c1=0
   ·have hra:=hc1.1 h6
    rw [if_pos h6]
    have hv:fZ w.2[k].1=some (decide (0<=w.2[k].1/\w.2[k].1<4)):=by
     unfold fZ
     by_cases h1:0<=w.2[k].1
     ·rw [if_pos h1];simp [h1]
     ·rw [if_neg h1];simp [h1]
    rw [hv]
    simp only [obS]
    by_cases h7:0<=w.2[k].1/\w.2[k].1<4
    ·rw [if_neg (by simp [h7])]
     by_cases h8:w.2[k].2.1=0
     ·rw [if_pos h8]
      exact .inl ⟨_,rfl,bad rfl fun ⟨_,_,_,h9,_⟩=>h9 h8⟩
     ·rw [if_neg h8]
      by_cases h9:0<(k:Int)
      ·rw [if_pos h9,aF (n:=(k:Int)-1) (by omega) (by omega),show (k:Int)-1=((k-1:Nat):Int) by omega,aX (show k-1<w.2.length by omega)]
       simp only [obS,pJ]
       refine .inl ⟨_,rfl,rfl,?_⟩
       have e:(decide (0<=(if w.2[k-1].1<w.2[k].1 then (-1:Int) else if w.2[k].1<w.2[k-1].1 then 1 else 0))=false)↔w.2[k-1].1<w.2[k].1:=by
        by_cases h10:w.2[k-1].1<w.2[k].1
        ·simp [h10]
        ·rw [if_neg h10];simp only [h10,iff_false];split<;>simp
       refine e.trans ⟨fun h10=>good ⟨hk,h7.1,h7.2,h8,hra,fun _=>h10⟩ h5,?_⟩
       rintro ⟨_,h10⟩
       obtain ⟨_,_,_,_,_,h11⟩:=h10 k (by omega)
       exact h11 (by omega)
      ·rw [if_neg h9]
       exact .inl ⟨_,rfl,rfl,⟨fun _=>good ⟨hk,h7.1,h7.2,h8,hra,fun h=>by omega⟩ h5,fun _=>rfl⟩⟩
    ·rw [if_pos (by rw [decide_eq_false h7];rfl)]
     exact .inl ⟨_,rfl,bad rfl fun ⟨_,h9,h10,_⟩=>h7 ⟨h9,h10⟩⟩
   ·rw [if_neg h6]
    exact .inl ⟨_,rfl,bad rfl fun ⟨_,_,_,_,h9,_⟩=>h6 (hc1.2 h9)⟩
 ·rintro ⟨b,i⟩ ⟨h3,h4⟩
  simp only at h3 h4
  subst h3
  simp only
  rw [if_neg (by omega)]
  exact ⟨_,rfl,h4.trans (vE w).symm⟩
 ·rintro b hb
  cases b with
  | true=>exact .inr ⟨by rw [if_pos rfl],fun h=>by have:=hb.2 h;cases this⟩
  | false=>exact .inl ⟨by rw [if_neg (by simp)],hb.1 rfl⟩
theorem aEt {w:WW} (h:RtW w):iH w w=some true:=by
 have hl:=h.len
 unfold iH
 rw [aQc _ _ h.st.small,decide_eq_true rfl]
 simp only [obS]
 rw [if_pos trivial]
 have:nB w.2 w.2=some true:=by
  unfold nB
  rw [if_pos rfl]
  refine cK (fun k (q:Int)=>q=(k:Int)) (fun r=>r=.inl ()) w.2.length rfl ?_ ?_ ?_
  ·rintro k _ hk rfl
   have:=(h.se _ (List.getElem_mem hk)).2.2.2.nl
   rw [if_pos (by omega),aX hk]
   simp only [obS]
   simp only [if_true]
   rw [xD _ _ (by omega),decide_eq_true rfl]
   simp only [obS]
   rw [if_neg (by simp),aF (by omega) (by omega)]
   exact .inl ⟨_,rfl,rfl⟩
  ·rintro _ rfl
   exact ⟨_,by rw [if_neg (by omega)],rfl⟩
  ·rintro _ rfl;rfl
 rw [this];rfl
theorem aFm:RtW (S0,[]):=⟨S0_rt,(fun x hx=>by grind),List.Pairwise.nil⟩
theorem W0_nn:Nn (S0,[]):=fun x hx=>by grind
theorem aKw:oH=some (S0,[]):=by unfold oH;simp [aNd]
theorem st_C:stP S0 (1,[47,97],[],0,0,[]) 1=((bK s1f,[]),(0,0,[],[])):=by
 have d:doP s00 (1,[47,97],[],0,0,[])=((0,0,[],[]),s1f):=by
  rfl
 have e:opP S0 (1,[47,97],[],0,0,[]) 1=((bK s1f,[]),(0,0,[],[])):=by
  unfold opP
  have hn:nx s00 (1,[47,97],[],0,0,[])=s1f:=by unfold nx;rw [d];rfl
  show ((bK (nx (rdF (bK s00)) _),_),(doP (rdF (bK s00)) _).1)=_
  rw [aOb,hn,d];rfl
 grind [stP,unN,aPs]
theorem aJr (xs:List Seat) (s:Seat):atT (ptP xs s) s.1=some s:=by
 unfold atT ptP
 rw [List.find?_append,List.find?_eq_none.2 fun a ha=>by have:=oG a ha;grind]
 simp
theorem aO8 {xs:List Seat} (h:dO xs) (s:Seat) {T:Int} (hT:T≠s.1):atT (ptP xs s) T=atT xs T:=by
 have hp:=oJ h s.1
 have e1:atT (ptP xs s) T=(atT (loT xs s.1) T).or (atT (hiT xs s.1) T):=by
  grind [ptP,atT]
 have e2:atT xs T=(atT (loT xs s.1) T).or (atT (hiT xs s.1) T):=by
  have e3:atT xs T=atT (loT xs s.1++((atT xs s.1).toList++hiT xs s.1)) T:=by rw [<- hp]
  rw [e3]
  cases hx:atT xs s.1 with
  | none=>unfold atT;rw [List.find?_append];rfl
  | some x =>
   grind [atT]
 rw [e1,e2]
theorem aJu:nZ=some true:=by
 have hok:eX (1,[47,97],[],0,0,[]):=opOk (by decide) (by decide) (by decide)
 have d1:dP (S0,[]) (1,5,1,[47,97],[],0,0,[]) 1=(((bK s1f,[]),[(1,5,0,0,[],[])]),(0,0,[],[]),0):=by
  unfold dP
  rw [if_pos (by decide),if_pos (by decide),st_C];rfl
 have r1:=aDi aFm W0_nn (1,5,1,[47,97],[],0,0,[]) 1
 rw [d1] at r1
 have d2:dP ((bK s1f,[]),[(1,5,0,0,[],[])]) (1,5,1,[47,97],[],0,0,[]) 2=(((bK s1f,[]),[(1,5,0,0,[],[])]),(0,0,[],[]),1):=by
  unfold dP
  rw [if_pos (by decide),if_neg (by decide)];rfl
 have d3:(dP ((bK s1f,[]),[(1,5,0,0,[],[])]) (1,4,1,[47,97],[],0,0,[]) 3).2.2=2:=by
  unfold dP
  rw [if_pos (by decide),if_neg (by decide)];rfl
 unfold nZ
 rw [aKw]
 simp only [obS]
 rw [qZ aFm _ 1 hok,d1]
 simp only [obS]
 rw [qZ r1.1 _ 2 hok,d2]
 simp only [obS]
 rw [qZ r1.1 _ 3 hok]
 simp only [obS,d3]
 rw [xD _ _ (by simp)]
 rfl
theorem aLt (a:Ans) (h:a.2.2.2.length<=6):gP (a.1,a.2.1,a.2.2.1,a.2.2.2) (a.1,a.2.1,a.2.2.1,a.2.2.2)=some true:=by grind [xD]
theorem aKx (w:WW):gM w=some true\/(gM w=some false/\SmS w.1/\w.2.length<=20):=by
 unfold gM
 rcases aGb w.1 with h | ⟨h,hs,_⟩
 ·grind
 ·rw [h]
  by_cases h1:20<(w.2.length:Int)<;>grind
theorem aM9 {w:WW} (h:RtW w) (client number:Int):(lkP w.2 client number).2.2.2.2.length<=6:=by
 unfold lkP
 cases hx:atT w.2 client with
 | some x =>
  simp only
  split
  ·simp [za]
  ·split
   ·exact (h.se x (gI hx).2).2.2.2.nl
   ·simp [za]
 | none=>simp only;split<;>simp [za]
theorem tY (x:List UInt8):m_triremeref09_Name x=some (bB x):=by
 unfold m_triremeref09_Name
 by_cases h1:(x.length:Int)<1
 ·rw [if_pos h1]
  have:x=[]:=List.eq_nil_of_length_eq_zero (by omega)
  rw [this];rfl
 rw [if_neg h1]
 by_cases h2:8<(x.length:Int)
 ·rw [if_pos h2]
  unfold bB
  rw [decide_eq_false (show ¬ x.length<=8 by omega)];simp
 rw [if_neg h2]
 rw [rY x (fun c=>if nmC c=true then none else some (.inr false)) (.inl ()) (fun i hi=>?_) ?_]
 ·simp only [obS]
  have hne:x≠[]:=fun e=>by rw [e] at h1;simp at h1
  by_cases ha:x.all nmC=true
  ·have:x.findSome? (fun c=>if nmC c=true then none else some (Sum.inr false:Unit ⊕ Bool))=none:=by
    rw [List.findSome?_eq_none_iff]
    intro c hc
    rw [if_pos (List.all_eq_true.1 ha c hc)]
   rw [this]
   unfold bB
   rw [ha,decide_eq_true hne,decide_eq_true (show x.length<=8 by omega)];rfl
  ·have:x.findSome? (fun c=>if nmC c=true then none else some (Sum.inr false:Unit ⊕ Bool))=some (.inr false):=by
    have ha':¬ ∀ c∈x,nmC c=true:=fun h=>ha (List.all_eq_true.2 h)
    clear ha h1 h2 hne
    induction x with
    | nil=>exact (ha' (by simp)).elim
    | cons c x ih =>
     rw [List.findSome?_cons]
     by_cases hc:nmC c=true
     ·rw [if_pos hc]
      exact ih fun h=>ha' fun d hd=>by
       rcases List.mem_cons.1 hd with rfl | hd
       ·exact hc
       ·exact h d hd
     ·rw [if_neg hc]
   rw [this]
   unfold bB
   rw [show x.all nmC=false by simpa using ha];rfl
 ·rw [if_neg (by omega)]
 ·rw [if_pos (by omega),aX hi]
  simp only [obS]
  unfold nmC
  by_cases h1:(x[i].toNat:Int)<33
  ·rw [if_pos h1,if_neg (by simp;omega)]
  ·rw [if_neg h1]
   by_cases h2:126<(x[i].toNat:Int)
   ·rw [if_pos h2,if_neg (by simp;omega)]
   ·rw [if_neg h2]
    by_cases h3:(x[i].toNat:Int)=47
    ·rw [if_pos h3,if_neg (by simp;omega)]
    ·rw [if_neg h3,if_pos (by simp;omega),aF (by omega) (by omega)]
     rfl
def btw (p:List UInt8) (i j:Nat):List UInt8:=(p.take j).drop i
theorem zV {p:List UInt8} {i j:Nat} {c:UInt8} (h:c∈btw p i j):∃ k,∃ hk:k<p.length,i<=k/\k<j/\p[k]=c:=by
 unfold btw at h
 obtain ⟨k,hk,rfl⟩:=List.getElem_of_mem h
 simp only [List.length_drop,List.length_take] at hk
 exact ⟨i+k,by omega,by omega,by omega,by simp⟩
theorem aIs {p:List UInt8} {i j:Nat} (h:i<=j) (hj:j<p.length):p.drop i=btw p i j++p[j]::p.drop (j+1):=by
 unfold btw
 rw [<- List.drop_eq_getElem_cons hj]
 conv=>lhs;rw [<- List.take_append_drop j p]
 rw [List.drop_append_of_le_length (by simp;omega)]
theorem aHh {p:List UInt8} {i:Nat}:btw p i p.length=p.drop i:=by unfold btw;rw [List.take_length]
structure SpI (p:List UInt8) (out:List (List UInt8)) (fr i:Nat):Prop where
 fr1:1<=fr
 le:fr<=i
 il:i<=p.length
 sp:sp p.tail=out++sp (p.drop fr)
 ok:∀ x∈out,bB x=true
 no:∀ k (hk:k<p.length),fr<=k->k<i->p[k]≠47
 ol:out.length<=fr
theorem rD (p:List UInt8):m_triremeref09_Split p=some (nmP p,okP p):=by
 unfold m_triremeref09_Split
 by_cases hr:p=[47]
 ·rw [if_pos hr,hr];rfl
 rw [if_neg hr]
 have hbad:okP p=false->some (([]:List (List UInt8)),false)=some (nmP p,okP p):=fun h=>by rw [lR h,h]
 by_cases h1:(p.length:Int)<2
 ·rw [if_pos h1]
  refine hbad ?_
  unfold okP
  rw [decide_eq_false hr]
  cases p with
  | nil=>rfl
  | cons c p =>
   cases p with
   | nil =>
    have:c≠47:=fun e=>hr (by rw [e])
    simp [this]
   | cons d p=>simp at h1;omega
 rw [if_neg h1]
 by_cases h2:24<(p.length:Int)
 ·rw [if_pos h2]
  refine hbad ?_
  unfold okP
  rw [decide_eq_false hr,decide_eq_false (show ¬ p.length<=24 by omega)];simp
 rw [if_neg h2]
 have h0:0<p.length:=by omega
 rw [show (0:Int)=((0:Nat):Int) from rfl,aX h0]
 simp only [obS]
 have hhead:p.head?=some p[0]:=by
  cases p with
  | nil=>simp at h0
  | cons c p=>rfl
 by_cases h3:(p[0].toNat:Int)=47
 ·rw [if_pos h3]
  have hp0:p[0]=47:=by rw [<- UInt8.toNat_inj];show p[0].toNat=47;omega
  have hok:okP p=(sp p.tail).all bB:=by
   unfold okP
   rw [decide_eq_false hr,decide_eq_true (show p.length<=24 by omega),hhead,hp0];simp
  have htail:p.tail=p.drop 1:=by simp
  refine cK (fun k (t:(List (List UInt8))×Int×Int)=>t.2.2=((k+1:Nat):Int)/\∃ fr:Nat,t.2.1=(fr:Int)/\((k+1<=p.length/\SpI p t.1 fr (k+1))\/(k=p.length/\sp p.tail=t.1/\∀ x∈t.1,bB x=true))) (fun r=>(∃ out,r=.inl out/\sp p.tail=out/\∀ x∈out,bB x=true)\/(r=.inr (([]:List (List UInt8)),false)/\okP p=false)) p.length ⟨rfl,1,rfl,.inl ⟨by omega,⟨Nat.le_refl _,Nat.le_refl _,by omega,by rw [htail];rfl,by simp,fun k hk a b=>by omega,by simp⟩⟩⟩ ?_ ?_ ?_
  ·rintro k ⟨out,f0,i0⟩ hk ⟨e1,fr,e2,e3⟩
   simp only at e1 e2 e3
   subst e1 e2
   have hI:SpI p out fr (k+1):=e3.resolve_right (fun h=>by omega) |>.2
   obtain ⟨q1,q2,q3,q4,q5,q6,q7⟩:=hI
   simp only
   rw [if_pos (by omega)]
   by_cases hlt:k+1<p.length
   ·rw [if_pos (by omega),aX hlt]
    simp only [obS]
    by_cases hc:(p[k+1].toNat:Int)=47
    ·have hc':p[k+1]=47:=by rw [<- UInt8.toNat_inj];show p[k+1].toNat=47;omega
     rw [if_pos hc,cD q2 (by omega)]
     simp only [obS,tY]
     have hx:sp (p.drop fr)=btw p fr (k+1)::sp (p.drop (k+1+1)):=by
      rw [aIs q2 hlt,hc']
      exact xX _ fun c hc2=>by
       obtain ⟨j,hj,a,b,rfl⟩:=zV hc2
       exact q6 j hj a b
     show _\/_
     by_cases hn:bB (btw p fr (k+1))=true
     ·refine .inl ?_
      rw [show (p.take (k+1)).drop fr=btw p fr (k+1) from rfl,hn,if_neg (by decide)]
      rw [bI (by simp;omega)]
      simp only [obS,Sum.elim_inl]
      rw [aF (by omega) (by omega)]
      refine ⟨_,rfl,?_,k+1+1,?_,.inl ⟨by omega,⟨by omega,Nat.le_refl _,by omega,?_,?_,fun j hj a b=>by omega,by simp;omega⟩⟩⟩
      ·simp only;omega
      ·simp only;omega
      ·simp only
       rw [q4,hx]
       show _=(out++[btw p fr (k+1)])++_
       simp
      ·intro y hy
       rcases List.mem_append.1 hy with hy | hy
       ·exact q5 y hy
       ·simp at hy;rw [hy];exact hn
     ·refine .inr ?_
      have hn':bB (btw p fr (k+1))=false:=by simpa using hn
      rw [show (p.take (k+1)).drop fr=btw p fr (k+1) from rfl,hn',if_pos (show (!false)=true from rfl)]
      refine ⟨_,rfl,.inr ⟨rfl,?_⟩⟩
      rw [hok,q4,hx]
      simp [hn']
    ·rw [if_neg hc]
     simp only [obS,Sum.elim_inl]
     rw [aF (by omega) (by omega)]
     refine .inl ⟨_,rfl,?_,fr,rfl,.inl ⟨by omega,⟨q1,by omega,by omega,q4,q5,fun j hj a b=>?_,q7⟩⟩⟩
     ·simp only;omega
     ·by_cases e:j=k+1
      ·subst e
       intro e2
       exact hc (by rw [e2];rfl)
      ·exact q6 j hj a (by omega)
   ·have hkp:k+1=p.length:=by omega
    rw [if_neg (by omega),cD q2 (by omega)]
    simp only [obS,tY]
    have hx:sp (p.drop fr)=[btw p fr (k+1)]:=by
     rw [hkp,aHh]
     refine wU fun c hc2=>?_
     rw [<- aHh] at hc2
     obtain ⟨j,hj,a,b,rfl⟩:=zV hc2
     exact q6 j hj a (by omega)
    by_cases hn:bB (btw p fr (k+1))=true
    ·refine .inl ?_
     rw [show (p.take (k+1)).drop fr=btw p fr (k+1) from rfl,hn,if_neg (by decide)]
     rw [bI (by simp;omega)]
     simp only [obS,Sum.elim_inl]
     rw [aF (by omega) (by omega)]
     refine ⟨_,rfl,?_,k+1+1,?_,.inr ⟨by omega,?_,?_⟩⟩
     ·simp only;omega
     ·simp only;omega
     ·simp only
      rw [q4,hx];try rfl
     ·intro y hy
      rcases List.mem_append.1 hy with hy | hy
      ·exact q5 y hy
      ·simp at hy;rw [hy];exact hn
    ·refine .inr ?_
     have hn':bB (btw p fr (k+1))=false:=by simpa using hn
     rw [show (p.take (k+1)).drop fr=btw p fr (k+1) from rfl,hn',if_pos (show (!false)=true from rfl)]
     refine ⟨_,rfl,.inr ⟨rfl,?_⟩⟩
     rw [hok,q4,hx]
     simp [hn']
  ·rintro ⟨out,f0,i0⟩ ⟨e1,fr,e2,e3⟩
   simp only at e1 e2 e3
   subst e1 e2
   obtain ⟨_,g1,g2⟩:=e3.resolve_left (fun h=>by omega)
   simp only
   rw [if_neg (by omega)]
   exact ⟨_,rfl,.inl ⟨out,rfl,g1,g2⟩⟩
  ·rintro _ (⟨out,rfl,g1,g2⟩ | ⟨rfl,g⟩)
   ·have hk:okP p=true:=by rw [hok,g1];exact List.all_eq_true.2 g2
    simp only [Sum.elim_inl]
    unfold nmP
    rw [if_neg hr,if_pos hk,hk,g1]
   ·simp only [Sum.elim_inr]
    exact hbad g
 ·rw [if_neg h3]
  refine hbad ?_
  unfold okP
  rw [decide_eq_false hr,hhead]
  have:p[0]≠47:=fun e=>h3 (by rw [e];rfl)
  simp [this]
theorem aE3 (xs:List (List UInt8)) (h:(pth xs).length<=100000) (hn:xs.length<=100000):m_triremeref09_Join xs=some (pth xs):=by
 unfold m_triremeref09_Join
 by_cases h0:(xs.length:Int)=0
 ·rw [if_pos h0]
  have:xs=[]:=List.eq_nil_of_length_eq_zero (by omega)
  rw [this];rfl
 rw [if_neg h0]
 have hstep:∀ i,i<xs.length->(rst (xs.take i)).length<=100001:=fun i hi=>by
  unfold rst
  split
  ·simp
  ·have:=jS (xs:=xs) i
   simp only [pth,List.length_cons] at h ⊢
   omega
 have hrst:∀ i (hi:i<xs.length),rst (xs.take i)++47::xs[i]=rst (xs.take (i+1)):=fun i hi=>by
  rw [List.take_succ_eq_append_getElem hi]
  unfold rst
  by_cases hz:xs.take i=[]
  ·rw [if_pos hz,if_neg (fun e=>List.cons_ne_nil _ _ (List.append_eq_nil_iff.1 e).2),hz];simp [pth,mI]
  ·rw [if_neg hz,if_neg (fun e=>List.cons_ne_nil _ _ (List.append_eq_nil_iff.1 e).2)]
   unfold pth
   rw [oL _ _ hz (by simp),mI];simp
 refine cK (fun k (t:List UInt8×Int)=>t=(rst (xs.take k),(k:Int))) (fun r=>r=pth xs) xs.length rfl ?_ ?_ ?_
 ·rintro k _ hk rfl
  simp only
  have h1:=hstep k hk
  have h2:(rst (xs.take (k+1))).length<=100001:=by
   by_cases e:k+1<xs.length
   ·exact hstep _ e
   ·rw [List.take_of_length_le (by omega)]
    unfold rst
    split
    ·simp
    ·omega
  have h3:=congrArg List.length (hrst k hk)
  simp only [List.length_append,List.length_cons] at h3
  rw [if_pos (by omega),aX hk]
  simp only [obS]
  rw [cR (by simp;omega)]
  simp only [obS]
  rw [cR (by simp;omega)]
  simp only [obS]
  rw [aF (by omega) (by omega)]
  refine .inl ⟨_,rfl,?_⟩
  rw [<- hrst k hk];rfl
 ·rintro _ rfl
  simp only
  rw [if_neg (by omega),List.take_length]
  refine ⟨_,rfl,?_⟩
  unfold rst
  rw [if_neg (fun e=>h0 (by rw [e];rfl))]
 ·rintro _ rfl;rfl
theorem lQ (p:List UInt8):m_triremeref09_Right p=some (okP p):=by
 unfold m_triremeref09_Right;rw [rD];rfl
theorem xY (p:List UInt8):(nmP p).length<=25/\(pth (nmP p)).length<=25:=by
 by_cases h:okP p=true
 ·have h1:=(bJ h).2.2
  have h2:=(bJ h).2.1
  have h3:=lC p
  rw [<- h2];omega
 ·rw [lR (by simpa using h)];simp [pth,qQ]
theorem vH (p:List UInt8):m_triremeref09_Parent p=some (par p):=by
 unfold m_triremeref09_Parent par
 rw [rD p]
 simp only [obS]
 obtain ⟨hl,hj⟩:=xY p
 by_cases h0:nmP p=[]
 ·rw [if_pos (by rw [h0];rfl),if_pos h0]
 ·have hp:0<(nmP p).length:=List.length_pos_iff.2 h0
  rw [if_neg (by omega),if_neg h0,aF (by omega) (by omega)]
  rw [show ((nmP p).length:Int)-1=(((nmP p).length-1:Nat):Int) by omega,show (0:Int)=((0:Nat):Int) from rfl,cD (Nat.zero_le _) (by omega)]
  simp only [obS,List.drop_zero]
  have ht:(nmP p).take ((nmP p).length-1)=(nmP p).dropLast:=by rw [List.dropLast_eq_take]
  have:=jS (xs:=nmP p) ((nmP p).length-1)
  rw [ht] at this ⊢
  simp only [pth,List.length_cons] at hj
  rw [aE3 _ (by simp only [pth,List.length_cons];omega) (by simp;omega)];rfl
theorem aPq (p:List UInt8):m_triremeref09_Base p=some (bas p):=by
 unfold m_triremeref09_Base bas
 rw [rD p]
 simp only [obS]
 obtain ⟨hl,hj⟩:=xY p
 by_cases h0:nmP p=[]
 ·rw [if_pos (by rw [h0];rfl),h0];rfl
 ·have hp:0<(nmP p).length:=List.length_pos_iff.2 h0
  rw [if_neg (by omega),aF (by omega) (by omega),show ((nmP p).length:Int)-1=(((nmP p).length-1:Nat):Int) by omega,aX (by omega)]
  simp only [obS]
  rw [List.getLast?_eq_getElem?,List.getElem?_eq_getElem (by omega)];rfl
theorem aCe (p q:List UInt8):m_triremeref09_Within p q=some (aK p q):=by
 unfold m_triremeref09_Within
 rw [lQ,lQ]
 simp only [obS]
 by_cases hp:okP p=true
 ·rw [if_neg (by rw [hp];decide)]
  by_cases hq:okP q=true
  ·rw [if_neg (by rw [hq];decide)]
   obtain ⟨p1,p2,p3⟩:=bJ hp
   obtain ⟨q1,q2,q3⟩:=bJ hq
   by_cases hr:p=[47]
   ·rw [if_pos hr]
    have:aK p q=true:=(cY hp).2 ⟨hq,nmP q,by rw [hr,uI];rfl⟩
    rw [this]
   rw [if_neg hr]
   by_cases he:p=q
   ·rw [if_pos he]
    have:aK p q=true:=(cY hp).2 ⟨hq,[],by rw [he];simp⟩
    rw [this]
   rw [if_neg he]
   have hkey:aK p q=true↔∃ r,q=p++47::r:=by
    rw [cY hp]
    constructor
    ·rintro ⟨_,c,hc⟩
     have hcn:c≠[]:=fun e=>he (by rw [p2,q2,hc,e,List.append_nil])
     rw [hc,oZ (fN hp hr) c,<- p2] at q2
     unfold rst at q2
     rw [if_neg hcn] at q2
     exact ⟨jn c,q2⟩
    ·rintro ⟨r,hrr⟩
     refine ⟨hq,sp r,?_⟩
     have h1:sp q.tail=nmP q:=by
      have hq47:q≠[47]:=fun e=>by
       rw [e] at hrr
       have:=congrArg List.length hrr
       simp at this
       have hp0:=congrArg List.length p2
       simp [pth] at hp0
       omega
      unfold nmP
      rw [if_neg hq47,if_pos hq]
     rw [<- h1,hrr]
     have hp2:p=47::jn (nmP p):=p2
     rw [hp2]
     show sp (jn (nmP p)++47::r)=_
     have h3:jn (nmP p)++47::r=jn (nmP p++sp r):=by rw [oL _ _ (fN hp hr) (aEv r),xR]
     have h4:∀ x∈nmP p++sp r,∀ c∈x,c≠47:=fun x hx=>by
      rcases List.mem_append.1 hx with hx | hx
      ·exact p1.sl x hx
      ·have hall:∀ (r:List UInt8),∀ x∈sp r,∀ c∈x,c≠47:=by
        intro r
        induction r with
        | nil=>intro x hx;simp [sp] at hx;simp [hx]
        | cons c r ih =>
         intro x hx
         simp only [sp] at hx
         split at hx
         ·rcases List.mem_cons.1 hx with rfl | hx
          ·simp
          ·exact ih x hx
         ·rename_i hc
          split at hx
          ·rename_i h t e
           rw [e] at ih
           rcases List.mem_cons.1 hx with rfl | hx
           ·intro d hd
            rcases List.mem_cons.1 hd with rfl | hd
            ·exact hc
            ·exact ih h List.mem_cons_self d hd
           ·exact ih x (List.mem_cons_of_mem _ hx)
          ·simp at hx;subst hx;intro d hd;simp at hd;rw [hd];exact hc
       exact hall r x hx
     rw [h3,mY (by simp [fN hp hr]) h4]
     have h5:nmP (47::jn (nmP p))=nmP p:=by rw [<- hp2]
     rw [h5]
   by_cases hlt:(p.length:Int)<(q.length:Int)
   ·rw [if_pos hlt,show (0:Int)=((0:Nat):Int) from rfl,cD (Nat.zero_le _) (by omega)]
    simp only [obS,List.drop_zero]
    by_cases ht:q.take p.length=p
    ·rw [if_pos ht,aX (show p.length<q.length by omega)]
     simp only [obS]
     have hsplit:q=p++q[p.length]::q.drop (p.length+1):=by
      conv=>lhs;rw [<- List.take_append_drop p.length q]
      rw [ht,List.drop_eq_getElem_cons (show p.length<q.length by omega)]
     congr 1
     by_cases hc:(q[p.length].toNat:Int)=47
     ·rw [decide_eq_true hc]
      have hc':q[p.length]=47:=by rw [<- UInt8.toNat_inj];show q[p.length].toNat=47;omega
      exact (hkey.2 ⟨q.drop (p.length+1),by rw [<- hc'];exact hsplit⟩).symm
     ·rw [decide_eq_false hc]
      cases hw:aK p q with
      | false=>rfl
      | true =>
       obtain ⟨r,hr2⟩:=hkey.1 hw
       refine absurd ?_ hc
       have:q[p.length]?=some 47:=by rw [hr2];simp
       rw [List.getElem?_eq_getElem (show p.length<q.length by omega)] at this
       rw [Option.some.inj this];rfl
    ·rw [if_neg ht]
     cases hw:aK p q with
     | false=>rfl
     | true =>
      obtain ⟨r,hr2⟩:=hkey.1 hw
      exact absurd (by rw [hr2];simp) ht
   ·rw [if_neg hlt]
    cases hw:aK p q with
    | false=>rfl
    | true =>
     obtain ⟨r,hr2⟩:=hkey.1 hw
     have:=congrArg List.length hr2
     simp at this;omega
  ·have hq':okP q=false:=by simpa using hq
   rw [hq',if_pos (show (!false)=true from rfl)]
   unfold aK
   rw [hq'];simp
 ·have hp':okP p=false:=by simpa using hp
  rw [hp',if_pos (show (!false)=true from rfl)]
  unfold aK
  rw [hp'];simp
end Go.Proofs.YtkcgdaihfblncaaGreatDoor
