/- Texts FilS, FilV, SpA, SpB, SpC, SpD, Sma, RfA. -/
import Derived.Test.YtnagibpmfabkjaaGreatDoorQ14
set_option linter.unusedSimpArgs false
set_option linter.unusedVariables false
namespace Go.Proofs.YtnagibpmfabkjaaGreatDoor
open Go.RowKit Go.Tri
theorem wG {s:FS} (hs:Snd s) {l:List Ent} (hE:Enum s l) (hl:l.length<=1000000):cN s=dT l:=by
 have hk:=hs.ent hE;unfold cN;rw [aA9 hE hl fun x hx=>⟨by have:=(bZ (hk.ok x hx)).2.2;omega,hk.len x hx⟩];rfl
theorem aJ6 (l:List Ent):(dT l).length=(l.flatMap cA).length:=by
 unfold dT iF;exact (List.mergeSort_perm _ leP).length_eq
theorem yG {β:Type} {l:List (List UInt8×β)} {k:List UInt8} (h:k ∉ l.map (·.1)):l.filter (fun x=>x.1≠k)=l:=by
 rw [List.filter_eq_self];intro x hx;simp only [decide_eq_true_eq];exact fun e=>h (List.mem_map.2 ⟨x,hx,e⟩)
theorem aO2 {β:Type} {l:List (List UInt8×β)} {k:List UInt8} (h:k∈l.map (·.1)):(l.filter fun x=>x.1≠k).length+1<=l.length:=by
 induction l with
 | nil=>simp at h
 | cons x l ih =>
  rw [List.filter_cons];by_cases e:x.1=k
  ·simp only [e,ne_eq,not_true,decide_false,Bool.false_eq_true,if_false,List.length_cons];have:=List.length_filter_le (fun x:List UInt8×β=>decide (x.1≠k)) l;simp only [ne_eq] at this;omega
  ·have:k∈l.map (·.1):=by
    rcases List.mem_cons.1 h with h | h
    ·exact absurd h.symm e
    ·exact h
   have:=ih this;simp only [ne_eq,e,not_false_eq_true,decide_true,if_true,List.length_cons] at this ⊢;omega
theorem wV {β:Type} {m:List UInt8->Option β} {l:List (List UInt8×β)} (h:Enum m l) (k:List UInt8):k∈l.map (·.1)↔(m k).isSome=true:=by
 rw [h.2 k];exact (kV k l).symm
theorem Crd.upd {β:Type} {m:List UInt8->Option β} {n:Nat} (h:Crd m n) {k:List UInt8} (hk:(m k).isSome=true) (v:β):Crd (aQ k v m) n:=by
 obtain ⟨l,h1,h2⟩:=h;refine ⟨_,uN h1 k v,?_⟩;have:=aO2 ((wV h1 k).2 hk);simp only [List.length_cons];omega
theorem gI {β:Type} {k q:List UInt8} {v:β} {m:List UInt8->Option β} (h:q≠k):aQ k v m q=m q:=by unfold aQ;rw [if_neg h]
theorem nG {β:Type} {k:List UInt8} {v:β} {m:List UInt8->Option β}:aQ k v m k=some v:=by unfold aQ;rw [if_pos rfl]
theorem aPe {q:List UInt8} (h:okP q=true) (hr:q≠[47]):par q≠q:=fun e=>by
 obtain ⟨h1,h2,_⟩:=pX h hr;have h3:=congrArg List.length h1;rw [e,List.length_dropLast] at h3;have:=List.length_pos_iff.2 (jK h hr);omega
theorem Snd.create {s:FS} (hs:Snd s) {p:List UInt8} (h:rm s p=0) (b:Bool):Snd (aQ p (b,[]) s):=by
 obtain ⟨h1,h2,⟨d,h3⟩,h4⟩:=pE h;obtain ⟨dr,hr⟩:=hs.root;refine ⟨⟨dr,by rw [gI (Ne.symm h2)];exact hr⟩,fun q f hq=>?_,fun q f hq=>?_,fun q f hq=>?_,fun q f hq hn=>?_⟩
 ·by_cases e:q=p
  ·rw [e];exact h1
  ·rw [gI e] at hq;exact hs.ok q f hq
 ·by_cases e:q=p
  ·rw [e,nG] at hq;cases hq;simp
  ·rw [gI e] at hq;exact hs.len q f hq
 ·by_cases e:q=p
  ·rw [e,nG] at hq;cases hq;rfl
  ·rw [gI e] at hq;exact hs.dir q f hq
 ·by_cases e:q=p
  ·rw [e,gI (aPe h1 h2)];exact ⟨d,h3⟩
  ·rw [gI e] at hq;obtain ⟨d',hd'⟩:=hs.up q f hq hn;exact ⟨d',by rw [gI (fun e2=>by rw [e2,h4] at hd';cases hd')];exact hd'⟩
theorem Snd.write {s:FS} (hs:Snd s) {p d:List UInt8} (h:s p=some (false,d)) {d':List UInt8} (hd:d'.length<=192):Snd (aQ p (false,d') s):=by
 obtain ⟨dr,hr⟩:=hs.root;refine ⟨⟨dr,by rw [gI (fun e=>by rw [e,h] at hr;cases hr)];exact hr⟩,fun q f hq=>?_,fun q f hq=>?_,fun q f hq=>?_,fun q f hq hn=>?_⟩
 ·by_cases e:q=p
  ·rw [e];exact hs.ok _ _ h
  ·rw [gI e] at hq;exact hs.ok q f hq
 ·by_cases e:q=p
  ·rw [e,nG] at hq;cases hq;exact hd
  ·rw [gI e] at hq;exact hs.len q f hq
 ·by_cases e:q=p
  ·rw [e,nG] at hq;cases hq
  ·rw [gI e] at hq;exact hs.dir q f hq
 ·have hup:∃ d,s (par q)=some (true,d):=by
   by_cases e:q=p
   ·subst e;exact hs.up _ _ h hn
   ·rw [gI e] at hq;exact hs.up q f hq hn
  obtain ⟨d',hd'⟩:=hup;exact ⟨d',by rw [gI (fun e2=>by rw [e2,h] at hd';cases hd')];exact hd'⟩
theorem Snd.remove {s:FS} (hs:Snd s) {p:List UInt8} (hr:p≠[47]) (h:∀ q f,s q=some f->q≠[47]->par q≠p):Snd (dR p s):=by
 obtain ⟨dr,hroot⟩:=hs.root;have hd:∀ q f,dR p s q=some f->q≠p/\s q=some f:=fun q f hq=>by
  unfold dR at hq;split at hq
  ·cases hq
  ·rename_i e;exact ⟨e,hq⟩
 have hk:∀ q,q≠p->dR p s q=s q:=fun q e=>by unfold dR;rw [if_neg e]
 exact ⟨⟨dr,by rw [hk _ (Ne.symm hr)];exact hroot⟩,fun q f hq=>hs.ok q f (hd q f hq).2,fun q f hq=>hs.len q f (hd q f hq).2,fun q f hq=>hs.dir q f (hd q _ hq).2,fun q f hq hn=>by
  obtain ⟨d',hd'⟩:=hs.up q f (hd q f hq).2 hn
  exact ⟨d',by rw [hk _ (h q f (hd q f hq).2 hn)];exact hd'⟩⟩
theorem aDw {p q:List UInt8} (hq:okP q=true) (hr:q≠[47]) (h:aS p (par q)=true):aS p q=true:=by
 have hp:=(oV h).1;obtain ⟨_,c,hc⟩:=(eW hp).1 h;obtain ⟨h1,h2,_⟩:=pX hq hr;exact (eW hp).2 ⟨hq,c++[bas q],by rw [h2,<- h1,hc,List.append_assoc]⟩
section
variable {s:FS} {F T:List UInt8}
def ren (F T p:List UInt8):List UInt8:=if aS F p=true then mvP F T p else p
theorem Ren.back (h:Ren s F T) (hb:¬ badR s F T) {p:List UInt8} {f:Bool×List UInt8} (hp:s p=some f):rnF s F T (ren F T p)=some f/\(aS F p=true->aS T (mvP F T p)=true/\mvP T F (mvP F T p)=p):=by
 by_cases hw:aS F p=true
 ·have hl:(mvP F T p).length<=24:=by
   by_cases h24:(mvP F T p).length<=24
   ·exact h24
   ·exact absurd ⟨p,f,hp,hw,by omega⟩ hb
  have:=oS h.okF h.okT h.neF h.neT hw hl;refine ⟨?_,fun _=>this⟩;unfold ren rnF;rw [if_pos hw,if_neg (fun hh=>h.apart hh this.1),if_pos this.1,this.2];exact hp
 ·refine ⟨?_,fun hh=>absurd hh hw⟩;unfold ren rnF;rw [if_neg hw,if_neg hw,if_neg (fun hh=>by rw [h.notT hh] at hp;cases hp)];exact hp
theorem Ren.from (h:Ren s F T) {q:List UInt8} {f:Bool×List UInt8} (hq:rnF s F T q=some f):aS F q=false/\((aS T q=true/\s (mvP T F q)=some f/\aS F (mvP T F q)=true/\mvP F T (mvP T F q)=q)\/(aS T q=false/\s q=some f)):=by
 unfold rnF at hq;split at hq
 ·cases hq
 ·rename_i h1;refine ⟨by simpa using h1,?_⟩;split at hq
  ·rename_i h2;have hl:=(bZ (h.snd.ok _ _ hq)).2.2;have:=oS h.okT h.okF h.neT h.neF h2 hl;exact .inl ⟨h2,hq,this.1,this.2⟩
  ·rename_i h2;exact .inr ⟨by simpa using h2,hq⟩
theorem Ren.enum (h:Ren s F T) (hb:¬ badR s F T) {l:List Ent} (hE:Enum s l):Enum (rnF s F T) (l.map fun x=>(ren F T x.1,x.2)):=by
 have hnd:((l.map fun x:Ent=>(ren F T x.1,x.2)).map (·.1)).Nodup:=by
  rw [List.map_map,List.nodup_iff_pairwise_ne,List.pairwise_map];have hn:=hE.1;rw [List.nodup_iff_pairwise_ne,List.pairwise_map] at hn;refine hn.imp_of_mem fun {a b} ha hb' hne e=>hne ?_;replace e:ren F T a.1=ren F T b.1:=e;have ha':=(bQ hE).1 (show (a.1,a.2)∈l from ha);have hb'':=(bQ hE).1 (show (b.1,b.2)∈l from hb');have ka:=(h.back hb ha').2;have kb:=(h.back hb hb'').2;unfold ren at e;by_cases h1:aS F a.1=true
  ·by_cases h2:aS F b.1=true
   ·rw [if_pos h1,if_pos h2] at e;rw [<- (ka h1).2,e,(kb h2).2]
   ·rw [if_pos h1,if_neg h2] at e;have:=h.notT (ka h1).1;rw [e,hb''] at this;cases this
  ·by_cases h2:aS F b.1=true
   ·rw [if_neg h1,if_pos h2] at e;have:=h.notT (kb h2).1;rw [<- e,ha'] at this;cases this
   ·rwa [if_neg h1,if_neg h2] at e
 refine ⟨hnd,fun q=>?_⟩;cases hq:rnF s F T q with
 | some f =>
  symm
  refine eB hnd ?_;obtain ⟨h1,⟨h2,h3,h4,h5⟩ | ⟨h2,h3⟩⟩:=h.from hq
  ·exact List.mem_map.2 ⟨_,(bQ hE).2 h3,by simp only [ren,if_pos h4,h5]⟩
  ·exact List.mem_map.2 ⟨_,(bQ hE).2 h3,by simp [ren,h1]⟩
 | none =>
  symm
  refine kG fun hm=>?_;rw [List.map_map] at hm;obtain ⟨x,hx,hj⟩:=List.mem_map.1 hm;replace hj:ren F T x.1=q:=hj;have:=(h.back hb ((bQ hE).1 (show (x.1,x.2)∈l from hx))).1;rw [hj,hq] at this;cases this
theorem Ren.sound (h:Ren s F T) (hb:¬ badR s F T):Snd (rnF s F T):=by
 have hs:=h.snd;have hroot:∀ {p:List UInt8},okP p=true->p≠[47]->aS p [47]=false:=fun {p} hk hn=>by
  cases hw:aS p [47] with
  | false=>rfl
  | true =>
   obtain ⟨_,c,hc⟩:=(eW hk).1 hw;rw [yN] at hc;have:=congrArg List.length hc;have h0:=List.length_pos_iff.2 (jK hk hn);rw [List.length_nil,List.length_append] at this;omega
 refine ⟨?_,fun q f hq=>?_,fun q f hq=>?_,fun q d hq=>?_,fun q f hq hn=>?_⟩
 ·obtain ⟨d,hd⟩:=hs.root;refine ⟨d,?_⟩;unfold rnF;rw [if_neg (by rw [hroot h.okF h.neF];decide),if_neg (by rw [hroot h.okT h.neT];decide)];exact hd
 ·obtain ⟨h1,⟨h2,_⟩ | ⟨h2,h3⟩⟩:=h.from hq
  ·exact (oV h2).2
  ·exact hs.ok _ _ h3
 ·obtain ⟨h1,⟨h2,h3,_⟩ | ⟨h2,h3⟩⟩:=h.from hq
  ·exact hs.len _ _ h3
  ·exact hs.len _ _ h3
 ·obtain ⟨h1,⟨h2,h3,_⟩ | ⟨h2,h3⟩⟩:=h.from hq
  ·exact hs.dir _ _ h3
  ·exact hs.dir _ _ h3
 ·obtain ⟨h1,⟨h2,h3,h4,h5⟩ | ⟨h2,h3⟩⟩:=h.from hq
  ·have hk:=(oV h2).2;obtain ⟨_,c,hc⟩:=(eW h.okT).1 h2;obtain ⟨n1,n2,n3⟩:=pX hk hn;by_cases hcn:c=[]
   ·have e:q=T:=by rw [(bZ hk).2.1,(bZ h.okT).2.1,hc,hcn,List.append_nil]
    subst e;obtain ⟨d,hd⟩:=h.up;refine ⟨d,?_⟩;unfold rnF;rw [if_neg (fun hw=>by rw [aDw hk hn hw] at h1;cases h1),if_neg (fun hw=>by rw [h.notT hw] at hd;cases hd)];exact hd
   ·have hcl:c=c.dropLast++[bas q]:=by
     have e2:nmP q=nmP T++c.dropLast++[c.getLast hcn]:=by
      rw [hc]
      conv=>lhs;rw [<- List.dropLast_concat_getLast hcn]
      rw [List.append_assoc]
     have e3:bas q=c.getLast hcn:=by
      unfold bas;rw [e2];simp
     rw [e3,List.dropLast_concat_getLast]
    have hpT:aS T (par q)=true:=(eW h.okT).2 ⟨n3,c.dropLast,by rw [n1,hc,List.dropLast_append_of_ne_nil hcn]⟩;have hF:=(oV h4).2;have nF:nmP (mvP T F q)=nmP F++c:=by
     obtain ⟨m1,_⟩:=sK h.okT h.okF h.neT h.neF hk hc;rw [m1] at hF ⊢;refine tS (fun x hx=>?_) (bZ hF).2.2;rcases List.mem_append.1 hx with hx | hx
     ·exact (bZ h.okF).1 x hx
     ·exact (bZ hk).1 x (by rw [hc];exact List.mem_append_right _ hx)
    have hFn:mvP T F q≠[47]:=fun e=>by
     rw [e,yN] at nF;exact hcn (List.append_eq_nil_iff.1 nF.symm).2
    obtain ⟨d,hd⟩:=hs.up _ _ h3 hFn;refine ⟨d,?_⟩;have e4:mvP T F (par q)=par (mvP T F q):=by
     have g1:=pX hF hFn;obtain ⟨m1,_⟩:=sK h.okT h.okF h.neT h.neF n3 (show nmP (par q)=nmP T++c.dropLast by rw [n1,hc,List.dropLast_append_of_ne_nil hcn]);rw [m1];unfold par;rw [if_neg (by rw [nF];intro e;exact hcn (List.append_eq_nil_iff.1 e).2),nF,List.dropLast_append_of_ne_nil hcn]
    unfold rnF;rw [if_neg (fun hw=>h.apart hw hpT),if_pos hpT,e4];exact hd
  ·obtain ⟨d,hd⟩:=hs.up _ _ h3 hn;refine ⟨d,?_⟩;have hk:=hs.ok _ _ h3;unfold rnF;rw [if_neg (fun hw=>by rw [aDw hk hn hw] at h1;cases h1),if_neg (fun hw=>by rw [h.notT hw] at hd;cases hd)];exact hd
end
open Classical in
noncomputable def doP (s:FS) (o:Opr):Ans×FS :=
 if o.1=1\/o.1=2 then ((rm s o.2.1,0,[],[]),if rm s o.2.1=0 then aQ o.2.1 (decide (o.1=2),[]) s else s)
 else if o.1=3\/o.1=4 then wr s o
 else if o.1=5 then (rdA s o,s)
 else if o.1=6 then (((rn s o.2.1 o.2.2.1).1,0,[],[]),(rn s o.2.1 o.2.2.1).2)
 else if o.1=7 then (((rv s o.2.1).1,0,[],[]),(rv s o.2.1).2)
 else if o.1=8 then (ls s o,s)
 else if o.1=9 then (stt s o.2.1,s)
 else ((1,0,[],[]),s)
structure lN (o:Opr):Prop where
 p:o.2.1.length<=1100000000
 t:o.2.2.1.length<=1100000000
 d:o.2.2.2.2.2.length<=1100000000
theorem do_eq {s:FS} (hs:Snd s) {n:Nat} (hc:Crd s n) (hn:n<=1000000) (o:Opr) (ho:lN o):sDo s o=some (doP s o):=by
 obtain ⟨hp,ht,hd⟩:=ho;obtain ⟨k,p,t,off,m,d⟩:=o;simp only at hp ht hd;unfold sDo doP;simp only;have hlen:=fun q f hq=>Nat.le_trans (hs.len q f hq) (show 192<=100000 by decide);have hB:BlB s:=hs.blB hc hn;by_cases h12:k=1\/k=2
 ·rw [if_pos h12];have h1:(if k=1 then (some (decide (k=1))) else some (decide (k=2)))=some true:=by
   rcases h12 with h | h<;>subst h<;>rfl
  rw [h1];simp only [obS,if_true];rw [yX s p (by omega)];simp only [obS];by_cases h0:rm s p=0
  ·rw [if_pos h0,if_pos h0];rfl
  ·rw [if_neg h0,if_neg h0];rfl
 ·rw [if_neg h12];have h1:(if k=1 then (some (decide (k=1))) else some (decide (k=2)))=some false:=by
   rw [if_neg (fun h=>h12 (.inl h)),decide_eq_false (fun h=>h12 (.inr h))]
  rw [h1];simp only [obS,Bool.false_eq_true,if_false];by_cases h34:k=3\/k=4
  ·rw [if_pos h34];have h1:(if k=3 then (some (decide (k=3))) else some (decide (k=4)))=some true:=by
    rcases h34 with h | h<;>subst h<;>rfl
   rw [h1];simp only [obS,if_true];rw [aC3 s (k,p,t,off,m,d) h34 (by simp only;omega) (by simp only;omega) hlen];rfl
  ·rw [if_neg h34];have h1:(if k=3 then (some (decide (k=3))) else some (decide (k=4)))=some false:=by
    rw [if_neg (fun h=>h34 (.inl h)),decide_eq_false (fun h=>h34 (.inr h))]
   rw [h1];simp only [obS,Bool.false_eq_true,if_false];by_cases h5:k=5
   ·rw [if_pos h5,if_pos h5,aFu s _ (by simp only;omega) hlen];rfl
   ·rw [if_neg h5,if_neg h5];by_cases h6:k=6
    ·rw [if_pos h6,if_pos h6,aH8 hs hc _ (by simp only;omega) (by simp only;omega)];rfl
    ·rw [if_neg h6,if_neg h6];by_cases h7:k=7
     ·rw [if_pos h7,if_pos h7,aFj hB p (by omega)];rfl
     ·rw [if_neg h7,if_neg h7];by_cases h8:k=8
      ·rw [if_pos h8,if_pos h8,aGm hB _ (by simp only;omega)];rfl
      ·rw [if_neg h8,if_neg h8];by_cases h9:k=9
       ·rw [if_pos h9,if_pos h9,aAx hB _ (by omega)];rfl
       ·rw [if_neg h9,if_neg h9];rfl
noncomputable def nx (s:FS) (o:Opr):FS:=if (doP s o).1.1=0 then (doP s o).2 else s
theorem xI (xs:List UInt8) (d:Nat) (src:List UInt8) (h:d+src.length<=xs.length):(putAt xs d src).length=xs.length:=by
 simp [putAt];omega
theorem aAt {s:FS} (hs:Snd s) {n:Nat} (hc:Crd s n) (hn:n<=1000000) (o:Opr):Snd (nx s o)/\Crd (nx s o) (n+1):=by
 have h0:Snd s/\Crd s (n+1):=⟨hs,hc.mono (by omega)⟩;unfold nx;by_cases hz:(doP s o).1.1=0
 ·rw [if_pos hz];unfold doP at hz ⊢;by_cases h12:o.1=1\/o.1=2
  ·rw [if_pos h12] at hz ⊢;simp only at hz ⊢;rw [if_pos hz];exact ⟨hs.create hz _,hc.set _ _⟩
  ·rw [if_neg h12] at hz ⊢;by_cases h34:o.1=3\/o.1=4
   ·rw [if_pos h34] at hz ⊢;unfold wr at hz ⊢;by_cases h1:(rg s o.2.1).2=0
    ·rw [if_pos h1] at hz ⊢;obtain ⟨fd,h2,h3⟩:=wB h1;have hfl:fd.length<=192:=hs.len _ _ h2;rw [h3] at hz ⊢;generalize hm:(if o.1=3 then o.2.2.2.1 else o.2.2.2.2.1)=m at hz ⊢;by_cases g1:m<0
     ·rw [if_pos g1] at hz;cases hz
     ·rw [if_neg g1] at hz ⊢;by_cases g2:192<m\/(o.1=3/\192<o.2.2.2.1+(o.2.2.2.2.2.length:Int))
      ·rw [if_pos g2] at hz;cases hz
      ·rw [if_neg g2];by_cases h4:o.1=4
       ·rw [if_pos h4];rw [if_neg (by omega)] at hm;refine ⟨hs.write h2 ?_,(hc.upd (by rw [h2];rfl) _).mono (by omega)⟩;rw [gH];have:¬ 192<m:=fun h=>g2 (.inl h);omega
       ·rw [if_neg h4];have h5:o.1=3:=by omega
        rw [if_pos h5] at hm;simp only;split
        ·refine ⟨hs.write h2 ?_,(hc.upd (by rw [h2];rfl) _).mono (by omega)⟩;have:¬ (192<o.2.2.2.1+(o.2.2.2.2.2.length:Int)):=fun h=>g2 (.inr ⟨h5,h⟩);rw [xI _ _ _ (by rw [gH];omega),gH];omega
        ·exact h0
    ·rw [if_neg h1] at hz;exact absurd hz h1
   ·rw [if_neg h34] at hz ⊢;by_cases h5:o.1=5
    ·rw [if_pos h5];exact h0
    ·rw [if_neg h5] at hz ⊢;by_cases h6:o.1=6
     ·rw [if_pos h6] at hz ⊢;simp only at hz ⊢;unfold rn at hz ⊢;by_cases a1:okP o.2.1=true
      ·rw [if_pos a1] at hz ⊢;by_cases a2:okP o.2.2.1=true
       ·rw [if_pos a2] at hz ⊢;by_cases a3:(lk s o.2.1).2=0
        ·rw [if_pos a3] at hz ⊢;by_cases a4:o.2.1=[47]
         ·rw [if_pos a4];exact h0
         ·rw [if_neg a4] at hz ⊢;by_cases a5:aS o.2.1 o.2.2.1=true
          ·rw [if_pos a5];exact h0
          ·rw [if_neg a5] at hz ⊢;by_cases a6:rm s o.2.2.1=0
           ·rw [if_pos a6] at hz ⊢;by_cases a7:badR s o.2.1 o.2.2.1
            ·rw [if_pos a7];exact h0
            ·rw [if_neg a7];have hR:=wN hs a1 a3 a4 (by simpa using a5) a6;obtain ⟨l,hE,hl⟩:=hc;exact ⟨hR.sound a7,_,hR.enum a7 hE,by simp;omega⟩
           ·rw [if_neg a6];exact h0
        ·rw [if_neg a3];exact h0
       ·rw [if_neg a2];exact h0
      ·rw [if_neg a1];exact h0
     ·rw [if_neg h6] at hz ⊢;by_cases h7:o.1=7
      ·rw [if_pos h7] at hz ⊢;simp only at hz ⊢;unfold rv at hz ⊢;by_cases b1:(lk s o.2.1).2=0
       ·rw [if_pos b1] at hz ⊢;by_cases b2:o.2.1=[47]
        ·rw [if_pos b2];exact h0
        ·rw [if_neg b2] at hz ⊢;by_cases b3:0<(bl s o.2.1).length
         ·rw [if_pos b3];exact h0
         ·rw [if_neg b3];have hB:=hs.below hc hn o.2.1;refine ⟨hs.remove b2 fun q f hq hr hp=>b3 ?_,(hc.del _).mono (by omega)⟩;exact List.length_pos_of_mem ((hB.mem (bas q)).2 ⟨q,f,hq,hr,hp,rfl⟩)
       ·rw [if_neg b1];exact h0
      ·rw [if_neg h7] at hz ⊢;by_cases h8:o.1=8
       ·rw [if_pos h8];exact h0
       ·rw [if_neg h8] at hz ⊢;by_cases h9:o.1=9
        ·rw [if_pos h9];exact h0
        ·rw [if_neg h9];exact h0
 ·rw [if_neg hz];exact h0
theorem aMw {s:FS} (hs:Snd s) {n:Nat} (hc:Crd s n) (hn:n<=200000) (o:Opr) (ho:lN o):fDo (cN s) o=some (cN (nx s o),(doP s o).1):=by
 obtain ⟨h1,h2,h3,h4⟩:=hs.prs hc (by omega);unfold fDo;rw [zQ _ (by omega) (fun x hx=>by have:=h4 x hx;omega),h2];simp only [obS,qV];rw [do_eq hs hc (by omega) o ho];simp only [obS];obtain ⟨k1,k2⟩:=aAt hs hc (by omega) o;obtain ⟨h5,_⟩:=k1.prs k2 (by omega);unfold nx at h5 ⊢;by_cases hz:(doP s o).1.1=0
 ·rw [if_pos hz] at h5 ⊢;rw [if_pos hz,h5];rfl
 ·rw [if_neg hz] at h5 ⊢;rw [if_neg hz,h5];rfl
theorem zS (x y:List P2) (hx:x.length<=100000000):lX x y=some (decide (x=y)):=by
 unfold lX;by_cases hl:(x.length:Int)=(y.length:Int)
 ·rw [if_pos hl];refine eJ (fun k (s:Int)=>s=(k:Int)/\∀ j,j<k->x.getD j ([],[])=y.getD j ([],[])) (fun r=>(r=.inl ()/\x=y)\/(r=.inr false/\x≠y)) x.length ⟨rfl,fun j hj=>by omega⟩ ?_ ?_ ?_
  ·rintro k _ hk ⟨rfl,hne⟩;rw [if_pos (by omega),lI ([],[]) rfl hk,lI ([],[]) rfl (show k<y.length by omega)];simp only [obS];by_cases e1:(x.getD k ([],[])).1=(y.getD k ([],[])).1
   ·rw [if_pos e1];by_cases e2:(x.getD k ([],[])).2=(y.getD k ([],[])).2
    ·rw [if_pos e2,aI (by omega) (by omega)];exact .inl ⟨_,rfl,rfl,fun j hj=>by
      by_cases ej:j=k
      ·subst ej;exact Prod.ext e1 e2
      ·exact hne j (by omega)⟩
    ·rw [if_neg e2];exact .inr ⟨_,rfl,.inr ⟨rfl,fun h=>e2 (by rw [h])⟩⟩
   ·rw [if_neg e1];exact .inr ⟨_,rfl,.inr ⟨rfl,fun h=>e1 (by rw [h])⟩⟩
  ·rintro _ ⟨rfl,hne⟩;refine ⟨.inl (),?_,.inl ⟨rfl,List.ext_getElem (by omega) fun j h1 h2=>?_⟩⟩
   ·rw [if_neg (by omega)]
   ·have:=hne j h1;simpa [List.getD_eq_getElem?_getD,List.getElem?_eq_getElem h1,List.getElem?_eq_getElem h2] using this
  ·rintro _ (⟨rfl,h1⟩ | ⟨rfl,h1⟩)
   ·simp [h1]
   ·simp [h1]
 ·rw [if_neg hl,decide_eq_false fun h=>hl (by rw [h])]
theorem aE8 (L:List P2):iV L=some true\/(iV L=some false/\(∀ x∈L,x.1.length<=8000/\x.2.length<=8000)):=by
 unfold iV;refine hZ (C:=fun o=>o=some true\/(o=some false/\∀ x∈L,x.1.length<=8000/\x.2.length<=8000)) (fun k (s:Int×Int)=>s.2=(k:Int)/\8*(k:Int)<=s.1/\s.1<=30000/\k<=1001/\k<=L.length/\∀ j (hj:j<L.length),j<k->L[j].1.length<=8000/\L[j].2.length<=8000) (fun r=>r=.inr true\/(∃ n:Int,r=.inl n/\(8000<n\/∀ x∈L,x.1.length<=8000/\x.2.length<=8000))) (min L.length 1002) ⟨rfl,by omega,by omega,by omega,by omega,fun j hj hk=>by omega⟩ ?_ ?_ ?_
 ·rintro k ⟨n,i⟩ hk ⟨h1,h2,h3,h3',h4,h5⟩;simp only at h1 h2 h3;subst h1;simp only;have hkl:k<L.length:=by omega
  rw [if_pos (by omega)];by_cases h6:n<=8000
  ·rw [if_pos h6];simp only [bP hkl,obS];by_cases h7:8000<(L[k].1.length:Int)
   ·rw [if_pos h7];exact .inr ⟨_,rfl,.inl rfl⟩
   ·rw [if_neg h7];by_cases h8:8000<(L[k].2.length:Int)
    ·rw [if_pos h8];exact .inr ⟨_,rfl,.inl rfl⟩
    ·rw [if_neg h8];rw [aI (n:=8+(L[k].1.length:Int)) (by omega) (by omega),aI (n:=8+(L[k].1.length:Int)+(L[k].2.length:Int)) (by omega) (by omega),aI (n:=n+(8+(L[k].1.length:Int)+(L[k].2.length:Int))) (by omega) (by omega),aI (n:=(k:Int)+1) (by omega) (by omega)];refine .inl ⟨_,rfl,rfl,?_,?_,?_,?_,fun j hj hk2=>?_⟩
     ·simp only;omega
     ·simp only;omega
     ·omega
     ·omega
     ·by_cases e:j=k
      ·subst e;omega
      ·exact h5 j hj (by omega)
  ·rw [if_neg h6];exact .inr ⟨_,rfl,.inr ⟨n,rfl,.inl (by omega)⟩⟩
 ·rintro ⟨n,i⟩ ⟨h1,h2,h3,h3',h4,h5⟩;simp only at h1 h2 h3;subst h1;simp only;by_cases h0:L.length<=1001
  ·rw [if_neg (by omega)];refine ⟨_,rfl,.inr ⟨n,rfl,.inr fun x hx=>?_⟩⟩;obtain ⟨j,hj,rfl⟩:=List.getElem_of_mem hx;exact h5 j hj (by omega)
  ·omega
 ·rintro _ (rfl | ⟨n,rfl,h | h⟩)
  ·exact .inl rfl
  ·exact .inl (by simp only [Sum.elim_inl];rw [decide_eq_true h])
  ·by_cases h8:8000<n
   ·exact .inl (by simp only [Sum.elim_inl];rw [decide_eq_true h8])
   ·exact .inr ⟨by simp only [Sum.elim_inl];rw [decide_eq_false h8],h⟩
theorem aPb (o:Opr):pK o=some true\/(pK o=some false/\o.2.1.length<=400/\o.2.2.1.length<=400/\o.2.2.2.2.2.length<=400):=by
 unfold pK;by_cases h1:400<(o.2.1.length:Int)
 ·rw [if_pos h1];exact .inl rfl
 ·rw [if_neg h1];by_cases h2:400<(o.2.2.1.length:Int)
  ·rw [if_pos h2];exact .inl rfl
  ·rw [if_neg h2];by_cases h3:400<(o.2.2.2.2.2.length:Int)
   ·rw [decide_eq_true h3];exact .inl rfl
   ·rw [decide_eq_false h3];exact .inr ⟨rfl,by omega,by omega,by omega⟩
theorem qC {o:Opr} (h1:o.2.1.length<=400) (h2:o.2.2.1.length<=400) (h3:o.2.2.2.2.2.length<=400):lN o:=⟨by omega,by omega,by omega⟩
def s00:FS:=aQ [47] (true,[]) bV
theorem yT:Enum s00 [([47],(true,[]))]:=⟨by simp,fun k=>by
 unfold s00 aQ bV
 simp only [bG]
 by_cases h:k=[47]
 ·rw [if_pos h,if_pos h.symm]
 ·rw [if_neg h,if_neg (Ne.symm h)]⟩
theorem aAp:Crd s00 1:=⟨_,yT,by simp⟩
theorem s00_snd:Snd s00:=by
 have h:∀ p f,s00 p=some f->p=[47]/\f=(true,[]):=fun p f hp=>by
  unfold s00 aQ bV at hp;split at hp
  ·rename_i e;exact ⟨e,(Option.some.inj hp).symm⟩
  ·cases hp
 exact ⟨⟨[],rfl⟩,fun p f hp=>by rw [(h p f hp).1];rfl,fun p f hp=>by rw [(h p f hp).2];simp,fun p d hp=>by have:=(h p _ hp).2;injection this,fun p f hp hn=>absurd (h p f hp).1 hn⟩
theorem aOh:fNew=some (cN s00):=by
 unfold fNew;have:=(s00_snd.prs aAp (by omega)).1;show (gT s00).bind _=_;rw [this];rfl
theorem aNg {s:FS} {o:Opr} (h:(doP s o).1.1≠0):(doP s o).1=((doP s o).1.1,0,[],[]):=by
 unfold doP at h ⊢;split
 ·rfl
 ·rename_i h12;rw [if_neg h12] at h;split
  ·rename_i h34;rw [if_pos h34] at h;unfold wr at h ⊢;by_cases h1:(rg s o.2.1).2=0
   ·rw [if_pos h1] at h ⊢;generalize (if o.1=3 then o.2.2.2.1 else o.2.2.2.2.1)=m at h ⊢;by_cases g1:m<0
    ·rw [if_pos g1]
    ·rw [if_neg g1] at h ⊢;by_cases g2:192<m\/(o.1=3/\192<o.2.2.2.1+(o.2.2.2.2.2.length:Int))
     ·rw [if_pos g2]
     ·rw [if_neg g2] at h ⊢;by_cases g3:o.1=4
      ·rw [if_pos g3]
      ·rw [if_neg g3] at h;exact absurd rfl h
   ·rw [if_neg h1]
  ·rename_i h34;rw [if_neg h34] at h;split
   ·rename_i h5;rw [if_pos h5] at h;unfold rdA at h ⊢;split
    ·rename_i h1;rw [if_pos h1] at h;split
     ·rfl
     ·rename_i h2;rw [if_neg h2] at h;exact absurd rfl h
    ·rfl
   ·rename_i h5;rw [if_neg h5] at h;split
    ·rfl
    ·rename_i h6;rw [if_neg h6] at h;split
     ·rfl
     ·rename_i h7;rw [if_neg h7] at h;split
      ·rename_i h8;rw [if_pos h8] at h;unfold ls at h ⊢;split
       ·rename_i h1;rw [if_pos h1] at h;split
        ·rename_i h2;rw [if_pos h2] at h;exact absurd rfl h
        ·rfl
       ·rfl
      ·rename_i h8;rw [if_neg h8] at h;split
       ·rename_i h9;rw [if_pos h9] at h;unfold stt at h ⊢;split
        ·rename_i h1;rw [if_pos h1] at h;split
         ·rename_i h2;rw [if_pos h2] at h;exact absurd rfl h
         ·rename_i h2;rw [if_neg h2] at h;exact absurd rfl h
        ·rfl
       ·rfl
theorem aKe {s:FS} (hs:Snd s) {n:Nat} (hc:Crd s n) (hn:n<=1000000) (o:Opr):(doP s o).1.2.2.2.length<=6:=by
 unfold doP;split
 ·simp
 ·split
  ·unfold wr;by_cases h1:(rg s o.2.1).2=0
   ·rw [if_pos h1];generalize (if o.1=3 then o.2.2.2.1 else o.2.2.2.2.1)=m;by_cases g1:m<0
    ·rw [if_pos g1];simp
    ·rw [if_neg g1];by_cases g2:192<m\/(o.1=3/\192<o.2.2.2.1+(o.2.2.2.2.2.length:Int))
     ·rw [if_pos g2];simp
     ·rw [if_neg g2];by_cases g3:o.1=4
      ·rw [if_pos g3];simp
      ·rw [if_neg g3];simp
   ·rw [if_neg h1];simp
  ·split
   ·unfold rdA;split
    ·split<;>simp
    ·simp
   ·split
    ·simp
    ·split
     ·simp
     ·split
      ·unfold ls;split
       ·split
        ·simp;omega
        ·simp
       ·simp
      ·split
       ·unfold stt;split
        ·split<;>simp
        ·simp
       ·simp
theorem iS:∀ l m:List UInt8,aZ l m=true↔l<m
 | [],[]=>by simp [aZ,Op.bytesLess]
 | [],b::m=>by simp [aZ,Op.bytesLess]
 | a::l,[]=>by simp [aZ,Op.bytesLess]
 | a::l,b::m=>by
  have ih:=iS l m;unfold aZ at ih ⊢;rw [List.cons_lt_cons_iff,<- ih];simp [Op.bytesLess]
theorem aOa (xs:List UInt8) (o:Nat) (d:List UInt8) (h:o+d.length<=xs.length) (i:Nat):(putAt xs o d).getD i 0=if o<=i/\i<o+d.length then d.getD (i-o) 0 else xs.getD i 0:=by
 unfold putAt;simp only [List.getD_eq_getElem?_getD];by_cases h1:i<o
 ·rw [if_neg (by omega),List.append_assoc,List.getElem?_append_left (by simp;omega),List.getElem?_take_of_lt h1]
 ·by_cases h2:i<o+d.length
  ·rw [if_pos ⟨by omega,h2⟩,List.getElem?_append_left (by simp;omega),List.getElem?_append_right (by simp;omega)];simp only [List.length_take,Nat.min_eq_left (show o<=xs.length by omega)]
  ·rw [if_neg (by omega),List.getElem?_append_right (by simp;omega),List.getElem?_drop]
   congr 2
   simp only [List.length_append,List.length_take,Nat.min_eq_left (show o<=xs.length by omega)];omega
theorem aEj (d:List UInt8) (n i:Nat) (h:i<n):(szd d n).getD i 0=d.getD i 0:=by
 unfold szd;simp only [List.getD_eq_getElem?_getD];by_cases h1:i<d.length
 ·rw [List.getElem?_append_left (by simp;omega),List.getElem?_take_of_lt h]
 ·rw [List.getElem?_append_right (by simp;omega),List.getElem?_eq_none (show d.length<=i by omega)];cases hx:(List.replicate (n-d.length) (0:UInt8))[i-(d.take n).length]? with
  | none=>rfl
  | some y =>
   have:=List.mem_of_getElem? hx;rw [List.mem_replicate] at this;rw [this.2];rfl
theorem uQ {σ ρ:Type} {f:σ->Option (σ ⊕ ρ)} (I:Nat->σ->Prop) (r0:ρ) (n:Nat) {s0:σ} (h0:I 0 s0)
  (hs:∀ i s,i<n->I i s->(∃ s',f s=some (.inl s')/\I (i+1) s')\/(∃ r,f s=some (.inr r)/\r=r0))
  (he:∀ s,I n s->∃ r,f s=some (.inr r)/\r=r0):aU f s0=some r0:=by
 obtain ⟨r,h1,h2⟩:=qK I (fun r=>r=r0) n hs he n 0 s0 (by omega) h0;rw [h1,h2]
abbrev Sn:=List UInt8×Int×List P2
abbrev SS:=List P2×List Sn
theorem aF2:∀ a b:List UInt8,aZ a b=true↔Lib.compareBytes a b<0
 | [],[]=>by simp [aZ,Op.bytesLess,Lib.compareBytes]
 | [],b::m=>by simp [aZ,Op.bytesLess,Lib.compareBytes]
 | a::l,[]=>by simp [aZ,Op.bytesLess,Lib.compareBytes]
 | a::l,b::m=>by
  have ih:=aF2 l m;unfold aZ at ih ⊢;simp only [Op.bytesLess,Lib.compareBytes,Bool.or_eq_true,Bool.and_eq_true,decide_eq_true_eq,beq_iff_eq];by_cases h1:a<b
  ·simp [h1]
  ·rw [if_neg h1];by_cases h2:b<a
   ·rw [if_pos h2];have:a≠b:=fun e=>by rw [e] at h2;exact absurd h2 (UInt8.lt_irrefl _)
    simp [h1,this]
   ·rw [if_neg h2];have:a=b:=by
     rw [<- UInt8.toNat_inj];rw [UInt8.lt_iff_toNat_lt] at h1 h2;omega
    simp [this,ih]
theorem jL (a b:List UInt8):Lib.compareBytes a b<0↔a<b:=(aF2 a b).symm.trans (iS a b)
theorem fK (a:List UInt8):¬ a<a:=fun h=>by have:=(jL a a).2 h;rw [nS] at this;omega
theorem gQ {a b c:List UInt8} (h1:a<b) (h2:b<c):a<c:=(jL a c).1 (lP a b c ((jL a b).2 h1) ((jL b c).2 h2))
theorem xN (a b:List UInt8):a<b\/a=b\/b<a:=by
 rcases Int.lt_trichotomy (Lib.compareBytes a b) 0 with h | h | h
 ·exact .inl ((jL a b).1 h)
 ·exact .inr (.inl (jZ a b h))
 ·exact .inr (.inr ((jL b a).1 (by rw [iK];omega)))
theorem sQ (a b:Sn):nE a b=some (Lib.compareBytes a.1 b.1):=rfl
theorem aD5 (s:List UInt8) (h:s.length<=1000000):pF s=some s:=by
 unfold pF;rw [eU (by simp;omega)];rfl
def SmL (L:List P2):Prop:=L.length<=1000/\∀ x∈L,x.1.length<=10000/\x.2.length<=10000
theorem nL (L:List P2) (h:SmL L):jO L=some L:=by
 obtain ⟨hl,hb⟩:=h;unfold jO;refine eJ (fun k (s:List P2×Int)=>s=(L.take k,(k:Int))) (fun r=>r=L) L.length rfl ?_ ?_ ?_
 ·rintro k _ hk rfl;have hx:=hb _ (List.getElem_mem hk);simp only;rw [if_pos (by omega),bP hk];simp only [obS];rw [aD5 _ (by omega),aD5 _ (by omega)];simp only [obS];rw [cI (by simp only [List.length_take,List.length_cons,List.length_nil];omega)];exact .inl ⟨_,rfl,by rw [aI (by omega) (by omega)];exact Prod.ext (List.take_succ_eq_append_getElem hk).symm rfl⟩
 ·rintro _ rfl;simp only;rw [if_neg (by omega),List.take_length];exact ⟨_,rfl,rfl⟩
 ·rintro _ rfl;rfl
structure SmS (s:SS):Prop where
 fl:SmL s.1
 len:s.2.length<=1000
 sn:∀ x∈s.2,SmL x.2.2/\x.1.length<=1000
theorem aAz (s:SS) (h:SmS s):mE s=some s:=by
 obtain ⟨h1,h2,h3⟩:=h;unfold mE;rw [nL _ h1];simp only [obS];refine eJ (fun k (q:SS×Int)=>q=((s.1,s.2.take k),(k:Int))) (fun r=>r=s) s.2.length rfl ?_ ?_ ?_
 ·rintro k _ hk rfl;have hx:=h3 _ (List.getElem_mem hk);simp only;rw [if_pos (by omega),bP hk];simp only [obS];rw [nL _ hx.1];simp only [obS];rw [cI (by simp only [List.length_take,List.length_cons,List.length_nil];omega)];exact .inl ⟨_,rfl,by rw [aI (by omega) (by omega)];exact Prod.ext (Prod.ext rfl (List.take_succ_eq_append_getElem hk).symm) rfl⟩
 ·rintro _ rfl;simp only;rw [if_neg (by omega),List.take_length];exact ⟨_,rfl,rfl⟩
 ·rintro _ rfl;rfl
def unN (s:SS):Nat:=s.1.length+(s.2.map fun x=>1+x.2.2.length).sum
theorem uG {α:Type} (f:α->Nat) (m:Nat):∀ l:List α,(∀ x∈l,f x<=m)->(l.map f).sum<=l.length*m
 | [],_=>by simp
 | a::l,h=>by
  have:=uG f m l fun x hx=>h x (List.mem_cons_of_mem _ hx);have:=h a (List.mem_cons_self ..);simp only [List.map_cons,List.sum_cons,List.length_cons,Nat.succ_mul];omega
theorem aB0 {α:Type} (f:α->Nat) (m:Nat):∀ l:List α,(∀ x∈l,m<=f x)->l.length*m<=(l.map f).sum
 | [],_=>by simp
 | a::l,h=>by
  have:=aB0 f m l fun x hx=>h x (List.mem_cons_of_mem _ hx);have:=h a (List.mem_cons_self ..);simp only [List.map_cons,List.sum_cons,List.length_cons,Nat.succ_mul];omega
theorem aA7 {α:Type} (f:α->Nat):∀ {l:List α} {x:α},x∈l->f x<=(l.map f).sum
 | a::l,x,h=>by
  simp only [List.map_cons,List.sum_cons];rcases List.mem_cons.1 h with rfl | h
  ·omega
  ·have:=aA7 f h;omega
theorem aDm (s:SS) (h1:s.1.length<=1000000) (h2:s.2.length<=1001) (h3:∀ x∈s.2,x.2.2.length<=1000):iQ s=some (unN s:Int):=by
 unfold iQ;refine eJ (fun k (q:Int×Int)=>q=((s.1.length:Int)+(((s.2.take k).map fun x=>1+x.2.2.length).sum:Nat),(k:Int))) (fun r=>r=(unN s:Int)) s.2.length (by simp) ?_ ?_ ?_
 ·rintro k _ hk rfl;have hx:=h3 _ (List.getElem_mem hk);have hs:((s.2.take k).map fun x=>1+x.2.2.length).sum<=1001*1001:=Nat.le_trans (uG _ 1001 _ fun x hx=>by have:=h3 x (List.mem_of_mem_take hx);omega) (Nat.mul_le_mul_right _ (by rw [List.length_take];omega));simp only;rw [if_pos (by omega),bP hk];simp only [obS];refine .inl ⟨_,rfl,?_⟩;rw [aI (n:=1+(s.2[k].2.2.length:Int)) (by omega) (by omega),aI (by omega) (by omega),aI (by omega) (by omega),List.take_succ_eq_append_getElem hk];refine Prod.ext ?_ rfl;simp only [List.map_append,List.map_cons,List.map_nil,List.sum_append,List.sum_cons,List.sum_nil];omega
 ·rintro _ rfl;simp only;rw [if_neg (by omega),List.take_length];exact ⟨_,rfl,by unfold unN;omega⟩
 ·rintro _ rfl;rfl
theorem sP (s:SS) (h:SmS s):iQ s=some (unN s:Int):=aDm s (by have:=h.fl.1;omega) (by have:=h.len;omega) fun x hx=>(h.sn x hx).1.1
def RF (L:List P2):Prop:=Snd (rdF L)/\cN (rdF L)=L
structure Rt (s:SS):Prop where
 fl:RF s.1
 sn:∀ x∈s.2,RF x.2.2/\bS x.1=true
 srt:s.2.Pairwise fun a b=>a.1<b.1
 un:unN s<=48
theorem RF.small {L:List P2} (h:RF L) (hl:L.length<=1000):SmL L:=by
 have:=(h.1.prs (lF L) (by omega)).2.2.2;rw [h.2] at this;exact ⟨hl,fun x hx=>by have:=this x hx;omega⟩
theorem aFg {x:List UInt8} (h:bS x=true):x.length<=8:=by unfold bS at h;simp at h;exact h.2
theorem Rt.len {s:SS} (h:Rt s):s.1.length<=48/\s.2.length<=48/\∀ x∈s.2,x.2.2.length<=48:=by
 have h1:=h.un;unfold unN at h1;have h2:=aB0 (fun x:Sn=>1+x.2.2.length) 1 s.2 fun x _=>by omega
 refine ⟨by omega,by omega,fun x hx=>?_⟩;have:1+x.2.2.length<=(s.2.map fun x=>1+x.2.2.length).sum:=aA7 (fun x:Sn=>1+x.2.2.length) hx;omega
theorem Rt.small {s:SS} (h:Rt s):SmS s:=by
 obtain ⟨h1,h2,h3⟩:=h.len;exact ⟨h.fl.small (by omega),by omega,fun x hx=>⟨(h.sn x hx).1.small (by have:=h3 x hx;omega),by have:=aFg (h.sn x hx).2;omega⟩⟩
theorem aBp (L:List P2) (h:SmL L):(jR L=some 0/\RF L)\/(jR L=some 22/\¬ RF L):=by
 rcases aL5 L (by have:=h.1;omega) h.2 with ⟨h1,h2⟩ | ⟨h1,h2⟩
 ·exact .inl ⟨h1,h2⟩
 ·exact .inr ⟨h1,h2⟩
theorem aOn {xs:List Sn} (h:∀ i (hi:i+1<xs.length),(xs[i]).1<(xs[i+1]).1):xs.Pairwise fun a b=>a.1<b.1:=by
 rw [List.pairwise_iff_getElem];intro i j hi hj hij;obtain ⟨m,rfl⟩:∃ m,j=i+1+m:=⟨j-(i+1),by omega⟩;clear hij
 induction m with
 | zero=>exact h i hj
 | succ m ih=>exact gQ (ih (by omega)) (h (i+1+m) (by omega))
def GoodS (s:SS) (k:Nat):Prop:=∃ hk:k<s.2.length,RF (s.2[k]).2.2/\bS (s.2[k]).1=true/\(0<k->(s.2[k-1]'(by omega)).1<(s.2[k]).1)
theorem oI (s:SS):Rt s↔RF s.1/\unN s<=48/\∀ k,k<s.2.length->GoodS s k:=by
 constructor
 ·intro h;exact ⟨h.fl,h.un,fun k hk=>⟨hk,(h.sn _ (List.getElem_mem hk)).1,(h.sn _ (List.getElem_mem hk)).2,fun h0=>List.pairwise_iff_getElem.1 h.srt (k-1) k (by omega) hk (by omega)⟩⟩
 ·rintro ⟨h1,h2,h3⟩;refine ⟨h1,fun x hx=>?_,aOn fun i hi=>?_,h2⟩
  ·obtain ⟨k,hk,rfl⟩:=List.getElem_of_mem hx;obtain ⟨_,h4,h5,_⟩:=h3 k hk;exact ⟨h4,h5⟩
  ·obtain ⟨_,_,_,h6⟩:=h3 (i+1) hi;exact h6 (by omega)
theorem aLe (s:SS) (h:SmS s):(mY s=some 0/\Rt s)\/(mY s=some 22/\¬ Rt s):=by
 unfold mY;have hn:=h.len;rcases aBp s.1 h.fl with ⟨h1,h2⟩ | ⟨h1,h2⟩
 ·rw [h1];simp only [obS];rw [if_pos trivial,sP _ h];simp only [obS];refine hZ (C:=fun o=>(o=some (0:Int)/\Rt s)\/(o=some 22/\¬ Rt s)) (fun k (q:Bool×Int)=>q.2=(k:Int)/\(q.1=false↔unN s<=48/\∀ j,j<k->GoodS s j)) (fun r=>r=false↔Rt s) s.2.length ⟨rfl,?_⟩ ?_ ?_ ?_
  ·simp only [decide_eq_false_iff_not];exact ⟨fun h=>⟨by omega,fun j hj=>by omega⟩,fun h=>by omega⟩
  ·rintro k ⟨b,i⟩ hk ⟨h3,h4⟩;simp only at h3 h4;subst h3;simp only;have hx:=h.sn _ (List.getElem_mem hk);have bad:∀ {c:Bool},c=true->¬ GoodS s k->((c,((k:Int)+1)).2=((k+1:Nat):Int)/\(((c,((k:Int)+1)):Bool×Int).1=false↔unN s<=48/\∀ j,j<k+1->GoodS s j)):=fun hc hg=>⟨rfl,by simp only [hc];exact ⟨fun h=>(by cases h),fun h=>absurd (h.2 k (by omega)) hg⟩⟩;rw [if_pos (by omega),bP hk];simp only [obS];rw [aI (n:=(k:Int)+1) (by omega) (by omega)];cases b with
   | true =>
    rw [if_pos rfl];exact .inl ⟨_,rfl,rfl,⟨fun h=>(by cases h),fun h=>absurd (h4.2 ⟨h.1,fun j hj=>h.2 j (by omega)⟩) (by simp)⟩⟩
   | false =>
    rw [if_neg (by simp)];have h5:=h4.1 rfl;rcases aBp _ hx.1 with ⟨h6,h7⟩ | ⟨h6,h7⟩
    ·rw [h6];simp only [obS];rw [if_pos trivial,tO _ (by omega)];simp only [obS];cases h8:bS s.2[k].1 with
     | false =>
      rw [if_pos (show (!false)=true from rfl)];exact .inl ⟨_,rfl,bad rfl fun ⟨_,_,h9,_⟩=>by rw [h8] at h9;cases h9⟩
     | true =>
      rw [if_neg (by simp)];by_cases h9:0<(k:Int)
      ·rw [if_pos h9,aI (n:=(k:Int)-1) (by omega) (by omega),show (k:Int)-1=((k-1:Nat):Int) by omega,bP (show k-1<s.2.length by omega)];simp only [obS,sQ];refine .inl ⟨_,rfl,rfl,?_⟩;simp only [decide_eq_false_iff_not,Int.not_le,jL];constructor
       ·intro h10;refine ⟨h5.1,fun j hj=>?_⟩;by_cases e:j=k
        ·subst e;exact ⟨hk,h7,h8,fun _=>h10⟩
        ·exact h5.2 j (by omega)
       ·rintro ⟨_,h10⟩;obtain ⟨_,_,_,h11⟩:=h10 k (by omega);exact h11 (by omega)
      ·rw [if_neg h9];refine .inl ⟨_,rfl,rfl,⟨fun _=>⟨h5.1,fun j hj=>?_⟩,fun _=>rfl⟩⟩;by_cases e:j=k
       ·subst e;exact ⟨hk,h7,h8,fun h=>by omega⟩
       ·exact h5.2 j (by omega)
    ·rw [h6];simp only [obS];rw [if_neg (by decide)];exact .inl ⟨_,rfl,bad rfl fun ⟨_,h9,_⟩=>h7 h9⟩
  ·rintro ⟨b,i⟩ ⟨h3,h4⟩;simp only at h3 h4;subst h3;simp only;rw [if_neg (by omega)];exact ⟨_,rfl,h4.trans ⟨fun h=>(oI s).2 ⟨h2,h.1,h.2⟩,fun h=>((oI s).1 h).2⟩⟩
  ·rintro b hb;cases b with
   | true=>exact .inr ⟨by rw [if_pos rfl],fun h=>by have:=hb.2 h;cases this⟩
   | false=>exact .inl ⟨by rw [if_neg (by simp)],hb.1 rfl⟩
 ·rw [h1];simp only [obS];rw [if_neg (by decide)];refine .inr ⟨?_,fun h=>h2 h.fl⟩;refine eJ (fun k (q:Int)=>q=(k:Int)) (fun _=>True) s.2.length rfl ?_ ?_ ?_
  ·rintro k _ hk rfl;rw [if_pos (by omega),bP hk];exact .inl ⟨_,rfl,by rw [aI (by omega) (by omega)];rfl⟩
  ·rintro _ rfl;rw [if_neg (by omega)];exact ⟨_,rfl,trivial⟩
  ·intros;rfl
theorem aAg {σ ρ:Type} {f:σ->Option (σ ⊕ ρ)} (I:σ->Prop) (Q:ρ->Prop) (m:σ->Nat) (hs:∀ s,I s->(∃ s',f s=some (.inl s')/\I s'/\m s'<m s)\/∃ r,f s=some (.inr r)/\Q r):∀ (n:Nat) (s:σ),m s<n->I s->∃ r,aU f s=some r/\Q r
 | 0,_,h,_=>by omega
 | n+1,s,h,hi=>by
  rcases hs s hi with ⟨s',h1,h2,h3⟩ | ⟨r,h1,h2⟩
  ·obtain ⟨r,h4,h5⟩:=aAg I Q m hs n s' (by omega) h2;exact ⟨r,by rw [fR,h1];exact h4,h5⟩
  ·exact ⟨r,by rw [fR,h1];rfl,h2⟩
theorem aJt {σ ρ τ:Type} {f:σ->Option (σ ⊕ ρ)} {k:ρ->Option τ} {t:τ} (I:σ->Prop) (Q:ρ->Prop) (m:σ->Nat) {s0:σ} (h0:I s0)
  (hs:∀ s,I s->(∃ s',f s=some (.inl s')/\I s'/\m s'<m s)\/∃ r,f s=some (.inr r)/\Q r) (hk:∀ r,Q r->k r=some t):Option.bind (aU f s0) k=some t:=by
 obtain ⟨r,h1,h2⟩:=aAg I Q m hs _ s0 (Nat.lt_succ_self _) h0;rw [h1];exact hk r h2
theorem aCq {i j:Nat} (h:i+j<=1000000):IntKind.i64.wrap (gN .u64 (IntKind.u64.wrap (IntKind.i64.wrap ((i:Int)+(j:Int)))) 1)=(((i+j) / 2:Nat):Int):=by
 rw [aI (n:=(i:Int)+j) (by omega) (by omega),aFf (by omega) (by omega)];have:gN .u64 ((i:Int)+(j:Int)) 1=(((i+j) / 2:Nat):Int):=by
  show Int.fdiv ((i:Int)+(j:Int)) 2=_;rw [Int.fdiv_eq_ediv_of_nonneg _ (by omega)];omega
 rw [this,aI (by omega) (by omega)]
theorem aB6 (A B:List Sn) (T:List UInt8) (hA:∀ a∈A,a.1<T) (hB:∀ b∈B,¬ b.1<T) (hl:(A++B).length<=100000) (t:Sn) (ht:t.1=T):jS (A++B) t=some ((A.length:Int),decide ((B.head?.map (·.1))=some T)):=by
 subst ht;have low:∀ (k:Nat) (h:k<(A++B).length),k<A.length->((A++B)[k]).1<t.1:=fun k h hk=>by rw [List.getElem_append_left hk];exact hA _ (List.getElem_mem _)
 have high:∀ (k:Nat) (h:k<(A++B).length),A.length<=k->¬ ((A++B)[k]).1<t.1:=fun k h hk=>by rw [List.getElem_append_right hk];exact hB _ (List.getElem_mem _)
 unfold jS;refine aJt (fun s=>∃ i j:Nat,s=((i:Int),(j:Int))/\i<=A.length/\A.length<=j/\j<=(A++B).length) (fun r=>r=(A.length:Int)) (fun s=>(s.2-s.1).toNat) ⟨0,_,rfl,by omega,by simp,by omega⟩ ?_ ?_
 ·rintro _ ⟨i,j,rfl,h3,h4,h5⟩;simp only;by_cases h:(i:Int)<(j:Int)
  ·rw [if_pos h,aCq (by omega),bP (show (i+j) / 2<(A++B).length by omega)];simp only [obS,sQ,jL];by_cases h6:((A++B)[(i+j) / 2]'(by omega)).1<t.1
   ·rw [if_pos h6,aI (by omega) (by omega)];have h7:(i+j) / 2<A.length:=by
     rcases Nat.lt_or_ge ((i+j) / 2) A.length with h8 | h8
     ·exact h8
     ·exact absurd h6 (high _ (by omega) h8)
    exact .inl ⟨_,rfl,⟨(i+j) / 2+1,j,rfl,by omega,by omega,by omega⟩,by simp only;omega⟩
   ·rw [if_neg h6];have h7:A.length<=(i+j) / 2:=by
     rcases Nat.lt_or_ge ((i+j) / 2) A.length with h8 | h8
     ·exact absurd (low _ (by omega) h8) h6
     ·exact h8
    exact .inl ⟨_,rfl,⟨i,(i+j) / 2,rfl,by omega,by omega,by omega⟩,by simp only;omega⟩
  ·rw [if_neg h];exact .inr ⟨_,rfl,by omega⟩
 ·rintro _ rfl;cases B with
  | nil =>
   rw [if_neg (by simp)];simp
  | cons b B =>
   rw [if_pos (by simp;omega),bP (show A.length<(A++b::B).length by simp)];simp only [obS,sQ,List.getElem_append_right (Nat.le_refl A.length),Nat.sub_self,List.getElem_cons_zero,List.head?_cons,Option.map_some,Option.some.injEq]
   congr 2
   have:(Lib.compareBytes b.1 t.1=0)↔b.1=t.1:=⟨fun h=>jZ _ _ h,fun h=>by rw [h];exact nS _⟩;exact propext this
section
variable {β:Type}
def loS (xs:List (List UInt8×β)) (T:List UInt8):List (List UInt8×β):=xs.filter fun x=>decide (x.1<T)
def hiS (xs:List (List UInt8×β)) (T:List UInt8):List (List UInt8×β):=xs.filter fun x=>decide (T<x.1)
def atS (xs:List (List UInt8×β)) (T:List UInt8):Option (List UInt8×β):=xs.find? fun x=>decide (x.1=T)
theorem lo_of {A B:List (List UInt8×β)} {T:List UInt8} (hA:∀ a∈A,a.1<T) (hB:∀ b∈B,¬ b.1<T):loS (A++B) T=A:=by
 unfold loS;rw [List.filter_append,List.filter_eq_self.2 fun a ha=>decide_eq_true (hA a ha),List.filter_eq_nil_iff.2 fun b hb=>by simpa using hB b hb,List.append_nil]
theorem hi_of {A B:List (List UInt8×β)} {T:List UInt8} (hA:∀ a∈A,¬ T<a.1) (hB:∀ b∈B,T<b.1):hiS (A++B) T=B:=by
 unfold hiS;rw [List.filter_append,List.filter_eq_nil_iff.2 fun a ha=>by simpa using hA a ha,List.filter_eq_self.2 fun b hb=>decide_eq_true (hB b hb),List.nil_append]
theorem aDx {xs:List (List UInt8×β)} (h:xs.Pairwise fun a b=>a.1<b.1) (T:List UInt8):xs=loS xs T++((atS xs T).toList++hiS xs T):=by
 induction xs with
 | nil=>rfl
 | cons x xs ih =>
  obtain ⟨h1,h2⟩:=List.pairwise_cons.1 h;rcases xN x.1 T with h3 | h3 | h3
  ·have e1:loS (x::xs) T=x::loS xs T:=by unfold loS;rw [List.filter_cons,if_pos (decide_eq_true h3)]
   have e2:hiS (x::xs) T=hiS xs T:=by unfold hiS;rw [List.filter_cons,if_neg (by simpa using fun h4=>fK _ (gQ h3 h4))]
   have e3:atS (x::xs) T=atS xs T:=by unfold atS;rw [List.find?_cons_of_neg (by simpa using fun h4=>fK T (by rw [h4] at h3;exact h3))]
   rw [e1,e2,e3,List.cons_append,<- ih h2]
  ·have e1:loS (x::xs) T=[]:=List.filter_eq_nil_iff.2 fun y hy=>by
    rcases List.mem_cons.1 hy with rfl | hy
    ·simp [h3,fK T]
    ·have:=h1 y hy;rw [h3] at this;simpa using fun h4=>fK _ (gQ this h4)
   have e2:hiS (x::xs) T=xs:=by
    unfold hiS;rw [List.filter_cons,if_neg (by rw [h3];simp [fK T]),List.filter_eq_self.2 fun y hy=>decide_eq_true (by rw [<- h3];exact h1 y hy)]
   have e3:atS (x::xs) T=some x:=by unfold atS;rw [List.find?_cons_of_pos (by simpa using h3)]
   rw [e1,e2,e3];rfl
  ·have hall:∀ y∈x::xs,T<y.1:=fun y hy=>by
    rcases List.mem_cons.1 hy with rfl | hy
    ·exact h3
    ·exact gQ h3 (h1 y hy)
   have e1:loS (x::xs) T=[]:=List.filter_eq_nil_iff.2 fun y hy=>by simpa using fun h4=>fK _ (gQ (hall y hy) h4)
   have e2:hiS (x::xs) T=x::xs:=List.filter_eq_self.2 fun y hy=>decide_eq_true (hall y hy);have e3:atS (x::xs) T=none:=List.find?_eq_none.2 fun y hy=>by simpa using fun h4=>fK T (by have:=hall y hy;rw [h4] at this;exact this)
   rw [e1,e2,e3];rfl
theorem oC {xs:List (List UInt8×β)} {T:List UInt8}:∀ a∈loS xs T,a.1<T:=fun a ha=>of_decide_eq_true (List.mem_filter.1 ha).2
theorem nB {xs:List (List UInt8×β)} {T:List UInt8}:∀ a∈hiS xs T,T<a.1:=fun a ha=>of_decide_eq_true (List.mem_filter.1 ha).2
theorem at_eq {xs:List (List UInt8×β)} {T:List UInt8} {x:List UInt8×β} (h:atS xs T=some x):x.1=T/\x∈xs:=⟨by simpa using List.find?_some h,List.mem_of_find?_eq_some h⟩
theorem aCb {xs:List (List UInt8×β)} {T:List UInt8} (h:atS xs T=none):∀ x∈xs,x.1≠T:=fun x hx=>by simpa using List.find?_eq_none.1 h x hx
end
theorem vX {α:Type} {xs A B:List α} {x:α} (h:xs=A++([x]++B)):xs.take A.length++xs.drop (A.length+1)=A++B/\xs[A.length]?=some x:=by
 subst h;refine ⟨?_,by simp⟩;rw [List.take_left' rfl,<- List.append_assoc,List.drop_left' (by simp)]
theorem aIh {α:Type} {xs A B:List α} (y:List α) (h:xs=A++B):xs.take A.length++y++xs.drop A.length=A++(y++B):=by
 subst h;rw [List.take_left' rfl,List.drop_left' rfl,List.append_assoc]
def snP (s:SS) (o:Opr) (gen:Int):Int×SS :=
 if bS o.2.1=false then (90,s) else
 match atS s.2 o.2.1 with
 | some x=>if o.1=10 then (92,s) else if o.1=11 then (0,(s.1,loS s.2 o.2.1++hiS s.2 o.2.1)) else (0,(x.2.2,s.2))
 | none=>if o.1=10 then (0,(s.1,loS s.2 o.2.1++(o.2.1,gen,s.1)::hiS s.2 o.2.1)) else (91,s)
theorem aJ7 (s:SS) (o:Opr) (gen:Int) (hs:s.2.Pairwise fun a b=>a.1<b.1) (h:SmS s) (ho:o.2.1.length<=1500000000):jF s o gen=some (snP s o gen):=by
 unfold jF snP;rw [tO _ ho];simp only [obS];cases h1:bS o.2.1 with
 | false=>rw [if_pos (show (!false)=true from rfl),if_pos rfl]
 | true =>
  rw [if_neg (by simp),if_neg (by simp)];have hp:=aDx hs o.2.1;have hl:=h.len;cases h2:atS s.2 o.2.1 with
  | some x =>
   rw [h2] at hp;have hx:=at_eq h2;have hb:jS s.2 (o.2.1,0,[])=some (((loS s.2 o.2.1).length:Int),true):=by
    have:=aB6 (loS s.2 o.2.1) ((some x).toList++hiS s.2 o.2.1) o.2.1 oC (fun b hb=>by
     rcases List.mem_append.1 hb with hb | hb
     ·obtain rfl:b=x:=by simpa using hb
      rw [hx.1];exact fK _
     ·exact fun h4=>fK _ (gQ h4 (nB b hb))) (by rw [<- hp];omega) (o.2.1,0,[]) rfl
    rw [<- hp] at this;rw [this];simp [hx.1]
   rw [hb];simp only [obS];have hlen:(loS s.2 o.2.1).length<s.2.length:=by
    have:=congrArg List.length hp;simp only [List.length_append,Option.toList_some,List.length_cons,List.length_nil] at this;omega
   by_cases h3:o.1=10
   ·rw [if_pos h3,if_pos trivial];simp only [obS,Sum.elim_inr];rw [if_pos h3]
   ·rw [if_neg h3,if_neg h3,if_neg (show ¬ (!true)=true by simp)];by_cases h4:o.1=11
    ·have hd:kP s.2 ((loS s.2 o.2.1).length:Int) (((loS s.2 o.2.1).length:Int)+1)=some (loS s.2 o.2.1++hiS s.2 o.2.1):=by
      unfold kP sD;rw [if_pos ⟨by omega,rfl,by omega⟩]
      congr 1
      rw [Int.toNat_natCast];exact (vX hp).1
     rw [if_pos h4,aI (by omega) (by omega),hd];simp only [obS,Sum.elim_inl,Sum.elim_inr];rw [if_neg h3,if_pos h4]
    ·have hgx:s.2[(loS s.2 o.2.1).length]'hlen=x:=by
      have:s.2[(loS s.2 o.2.1).length]?=some x:=(vX hp).2;rw [List.getElem?_eq_getElem hlen] at this;exact Option.some.inj this
     rw [if_neg h4,bP hlen,hgx];simp only [obS];rw [nL _ (h.sn x hx.2).1];simp only [obS,Sum.elim_inl,Sum.elim_inr];rw [if_neg h3,if_neg h4]
  | none =>
   rw [h2] at hp;simp only [Option.toList_none,List.nil_append] at hp;have hb:jS s.2 (o.2.1,0,[])=some (((loS s.2 o.2.1).length:Int),false):=by
    have:=aB6 (loS s.2 o.2.1) (hiS s.2 o.2.1) o.2.1 oC (fun b hb h4=>fK _ (gQ h4 (nB b hb))) (by rw [<- hp];omega) (o.2.1,0,[]) rfl;rw [<- hp] at this;rw [this]
    congr 2
    refine decide_eq_false fun h5=>?_;cases h6:hiS s.2 o.2.1 with
    | nil=>rw [h6] at h5;cases h5
    | cons b B =>
     rw [h6] at h5;have:=nB b (by rw [h6];exact List.mem_cons_self ..);simp at h5;rw [h5] at this;exact fK _ this
   rw [hb];simp only [obS];have hlen:(loS s.2 o.2.1).length<=s.2.length:=by
    have:=congrArg List.length hp;simp only [List.length_append] at this;omega
   by_cases h3:o.1=10
   ·have hi:lD s.2 ((loS s.2 o.2.1).length:Int) [(o.2.1,gen,s.1)]=some (loS s.2 o.2.1++(o.2.1,gen,s.1)::hiS s.2 o.2.1):=by
     unfold lD rJ;rw [if_pos ⟨by omega,by omega,by omega,rfl⟩,Int.toNat_natCast]
     congr 1
     exact aIh [(o.2.1,gen,s.1)] hp
    rw [if_pos h3,if_neg (by simp),if_pos h3,nL _ h.fl];simp only [obS];rw [hi];simp only [obS,Sum.elim_inl];rw [if_pos h3]
   ·rw [if_neg h3,if_neg h3,if_pos (show (!false)=true from rfl)];simp only [obS,Sum.elim_inr];rw [if_neg h3]
theorem aBs (a b:List UInt8):gV a b=aZ b a:=by
 unfold gV;cases h:aZ b a with
 | true =>
  have h1:=(iS b a).1 h;cases h2:aZ a b with
  | true=>exact absurd (gQ h1 ((iS a b).1 h2)) (fK _)
  | false =>
   cases h3:a==b with
   | true=>rw [beq_iff_eq] at h3;rw [h3] at h1;exact absurd h1 (fK _)
   | false=>rfl
 | false =>
  rcases xN a b with h1 | h1 | h1
  ·rw [(iS a b).2 h1];rfl
  ·rw [h1];simp
  ·rw [(iS b a).2 h1] at h;cases h
def lsP (s:SS) (T:List UInt8):Ans:=(0,(s.2.length:Int),[],((s.2.map (·.1)).filter fun n=>aZ T n).take 6)
theorem aDa (B:List (List UInt8)) (T:List UInt8) (k:Nat) (hk:k<B.length):(if aZ T B[k]=true then (if ((((B.take k).filter fun n=>aZ T n).take 6).length:Int)<6 then (((B.take k).filter fun n=>aZ T n).take 6)++[B[k]] else (((B.take k).filter fun n=>aZ T n).take 6)) else (((B.take k).filter fun n=>aZ T n).take 6))=((B.take (k+1)).filter fun n=>aZ T n).take 6:=by
 rw [List.take_succ_eq_append_getElem hk,List.filter_append];generalize (B.take k).filter (fun n=>aZ T n)=F;by_cases h:aZ T B[k]=true
 ·rw [if_pos h,List.filter_cons,if_pos h,List.filter_nil];by_cases h2:F.length<6
  ·rw [if_pos (by rw [List.length_take];omega),List.take_of_length_le (by omega),List.take_of_length_le (by simp;omega)]
  ·rw [if_neg (by rw [List.length_take];omega),List.take_append_of_le_length (by omega)]
 ·rw [if_neg h,List.filter_cons,if_neg h,List.filter_nil,List.append_nil]
theorem aDc (s:SS) (T:List UInt8) (h:s.2.length<=100000):oH s T=some (lsP s T):=by
 unfold oH;refine eJ (fun k (q:List (List UInt8)×Int)=>q=((((s.2.map (·.1)).take k).filter fun n=>aZ T n).take 6,(k:Int))) (fun r=>r=((s.2.map (·.1)).filter fun n=>aZ T n).take 6) s.2.length (by simp) ?_ ?_ ?_
 ·rintro k _ hk rfl;simp only;rw [if_pos (by omega),bP hk];simp only [obS,aBs];have hk':k<(s.2.map (·.1)).length:=by simpa using hk
  have hs:=aDa (s.2.map (·.1)) T k hk';simp only [List.getElem_map] at hs;refine .inl ⟨_,?_,rfl⟩;rw [<- hs,aI (by omega) (by omega)];by_cases h1:aZ T s.2[k].1=true
  ·rw [if_pos h1,if_pos h1];by_cases h2:((((((s.2.map (·.1)).take k).filter fun n=>aZ T n).take 6).length:Nat):Int)<6
   ·rw [if_pos h2,if_pos h2,cI (by rw [List.length_take];simp;omega)];rfl
   ·rw [if_neg h2,if_neg h2];rfl
  ·rw [if_neg h1,if_neg h1];rfl
 ·rintro _ rfl;simp only;rw [if_neg (by omega),show (s.2.map (·.1)).take s.2.length=s.2.map (·.1) from List.take_of_length_le (by simp)];exact ⟨_,rfl,rfl⟩
 ·rintro _ rfl;rfl
noncomputable def opP (s:SS) (o:Opr) (gen:Int):SS×Ans :=
 if o.1=10\/o.1=11\/o.1=12 then ((snP s o gen).2,((snP s o gen).1,0,[],[]))
 else if o.1=13 then (s,lsP s o.2.2.1)
 else ((cN (nx (rdF s.1) o),s.2),(doP (rdF s.1) o).1)
noncomputable def stP (s:SS) (o:Opr) (gen:Int):SS×Ans :=
 if (opP s o gen).2.1=0 then (if 48<unN (opP s o gen).1 then (s,(98,0,[],[])) else opP s o gen) else (s,(opP s o gen).2)
theorem aJu {s:FS} (hs:Snd s) {n:Nat} (hc:Crd s n) (hn:n<=1000):(cN s).length<=4*n/\∀ x∈cN s,x.1.length<=100/\x.2.length<=100:=(hs.prs hc (by omega)).2.2
theorem RF.of {s:FS} (hs:Snd s) {n:Nat} (hc:Crd s n) (hn:n<=1000):RF (cN s):=by
 have h:=(hs.prs hc (by omega)).2.1;exact ⟨by rw [h];exact hs,by rw [h]⟩
theorem RF.nx {L:List P2} (h:RF L) (hl:L.length<=100) (o:Opr):RF (cN (nx (rdF L) o))/\(cN (nx (rdF L) o)).length<=4*(L.length+1):=by
 obtain ⟨h1,h2⟩:=aAt h.1 (lF L) (by omega) o;exact ⟨RF.of h1 h2 (by omega),(aJu h1 h2 (by omega)).1⟩
structure Rt' (s:SS):Prop where
 fl:RF s.1
 fln:s.1.length<=400
 sn:∀ x∈s.2,RF x.2.2/\bS x.1=true/\x.2.2.length<=400
 srt:s.2.Pairwise fun a b=>a.1<b.1
 len:s.2.length<=400
theorem Rt.w {s:SS} (h:Rt s):Rt' s:=by
 obtain ⟨h1,h2,h3⟩:=h.len;exact ⟨h.fl,by omega,fun x hx=>⟨(h.sn x hx).1,(h.sn x hx).2,by have:=h3 x hx;omega⟩,h.srt,by omega⟩
theorem Rt'.rt {s:SS} (h:Rt' s) (hn:unN s<=48):Rt s:=⟨h.fl,fun x hx=>⟨(h.sn x hx).1,(h.sn x hx).2.1⟩,h.srt,hn⟩
theorem Rt'.small {s:SS} (h:Rt' s):SmS s:=⟨h.fl.small (by have:=h.fln;omega),by have:=h.len;omega,fun x hx=>⟨(h.sn x hx).1.small (by have:=(h.sn x hx).2.2;omega),by have:=aFg (h.sn x hx).2.1;omega⟩⟩
theorem yY {β:Type} {xs:List (List UInt8×β)} {T:List UInt8} {x:List UInt8×β} (h:x∈loS xs T):x∈xs:=(List.mem_filter.1 h).1
theorem xP {β:Type} {xs:List (List UInt8×β)} {T:List UInt8} {x:List UInt8×β} (h:x∈hiS xs T):x∈xs:=(List.mem_filter.1 h).1
theorem aN3 {s:SS} (h:Rt s) (o:Opr) (gen:Int):Rt' (snP s o gen).2:=by
 have hw:=h.w;obtain ⟨l1,l2,l3⟩:=h.len;have hlo:(loS s.2 o.2.1).length<=s.2.length:=List.length_filter_le _ _;have hhi:(hiS s.2 o.2.1).length<=s.2.length:=List.length_filter_le _ _;have slo:(loS s.2 o.2.1).Pairwise fun a b=>a.1<b.1:=h.srt.filter _;have shi:(hiS s.2 o.2.1).Pairwise fun a b=>a.1<b.1:=h.srt.filter _;unfold snP;split
 ·exact hw
 ·rename_i hnm;split
  ·rename_i x hx;split
   ·exact hw
   ·split
    ·refine ⟨hw.fl,hw.fln,fun y hy=>?_,?_,?_⟩
     ·rcases List.mem_append.1 hy with hy | hy
      ·exact hw.sn y (yY hy)
      ·exact hw.sn y (xP hy)
     ·exact List.pairwise_append.2 ⟨slo,shi,fun a ha b hb=>gQ (oC a ha) (nB b hb)⟩
     ·simp only [List.length_append];omega
    ·have hm:=(at_eq hx).2;exact ⟨(h.sn x hm).1,by have:=l3 x hm;simp only;omega,hw.sn,hw.srt,hw.len⟩
  ·split
   ·refine ⟨hw.fl,hw.fln,fun y hy=>?_,?_,?_⟩
    ·rcases List.mem_append.1 hy with hy | hy
     ·exact hw.sn y (yY hy)
     ·rcases List.mem_cons.1 hy with rfl | hy
      ·exact ⟨h.fl,by simpa using hnm,hw.fln⟩
      ·exact hw.sn y (xP hy)
    ·refine List.pairwise_append.2 ⟨slo,List.pairwise_cons.2 ⟨fun b hb=>nB b hb,shi⟩,fun a ha b hb=>?_⟩;rcases List.mem_cons.1 hb with rfl | hb
     ·exact oC a ha
     ·exact gQ (oC a ha) (nB b hb)
    ·simp only [List.length_append,List.length_cons];omega
   ·exact hw
theorem yV {s:SS} (h:Rt s) (o:Opr) (gen:Int):Rt' (opP s o gen).1:=by
 have hw:=h.w;obtain ⟨l1,l2,l3⟩:=h.len;unfold opP;split
 ·exact aN3 h o gen
 ·split
  ·exact hw
  ·obtain ⟨h1,h2⟩:=h.fl.nx (by omega) o;exact ⟨h1,by simp only;omega,hw.sn,hw.srt,hw.len⟩
theorem zN {s:SS} (h:Rt s) (o:Opr) (gen:Int):Rt (stP s o gen).1:=by
 unfold stP;split
 ·split
  ·exact h
  ·exact (yV h o gen).rt (by omega)
 ·exact h
theorem rG {s:SS} (h:Rt s) (o:Opr) (gen:Int) (ho:lN o):nDo s o gen=some (stP s o gen):=by
 obtain ⟨l1,l2,l3⟩:=h.len;have hc:=aAz s h.small;have hfd:fDo s.1 o=some (cN (nx (rdF s.1) o),(doP (rdF s.1) o).1):=by
  have:=aMw h.fl.1 (lF s.1) (by omega) o ho;rw [h.fl.2] at this;exact this
 have hrt:=yV h o gen;unfold nDo;rw [hc];simp only [obS];have key:∀ (K:(SS×Ans×SS)->Option (SS×Ans)),(Option.bind (α:=(SS×Ans×SS)) (Option.bind (α:=Bool) (if o.1=10 then (some (decide (o.1=10))) else (Option.bind (α:=Bool) (if o.1=11 then (some (decide (o.1=11))) else (some (decide (o.1=12)))) fun r104=>some r104)) fun r101=>Option.bind (α:=(SS×Ans×SS)) (if r101=true then ((jF (s.1,s.2) (o.1,o.2.1,o.2.2.1,o.2.2.2.1,o.2.2.2.2.1,o.2.2.2.2.2) gen).bind fun x143 =>
   some (x143.2,(x143.1,0,([]:List UInt8),([]:List (List UInt8))),s))
   else (Option.bind (α:=(SS×Ans×SS)) (if o.1=13 then ((oH s o.2.2.1).bind fun x162=>some ((s.1,s.2),x162,s))
   else ((fDo s.1 (o.1,o.2.1,o.2.2.1,o.2.2.2.1,o.2.2.2.2.1,o.2.2.2.2.2)).bind fun x168=>some ((x168.1,(s.1,s.2).2),x168.2,(s.1,s.2)))) fun r158=>some (r158.1,r158.2.1,r158.2.2))) fun r139=>some (r139.1,r139.2.1,r139.2.2)) fun r94=>K r94)=K ((opP s o gen).1,(opP s o gen).2,s):=by
  intro K;have e:∀ (b:Bool) (X Y:Option (SS×Ans×SS)),(Option.bind (α:=Bool) (if o.1=10 then (some (decide (o.1=10))) else (Option.bind (α:=Bool) (if o.1=11 then (some (decide (o.1=11))) else (some (decide (o.1=12)))) fun r104=>some r104)) fun r101=>Option.bind (α:=(SS×Ans×SS)) (if r101=true then X else Y) fun r139=>some (r139.1,r139.2.1,r139.2.2))=(if o.1=10\/o.1=11\/o.1=12 then X else Y):=by
   intro b X Y;have e2:∀ Z:Option (SS×Ans×SS),(Option.bind Z fun r139=>some (r139.1,r139.2.1,r139.2.2))=Z:=fun Z=>by cases Z<;>rfl
   by_cases h1:o.1=10
   ·simp only [h1,if_pos,obS,decide_true,e2,true_or]
   ·by_cases h2:o.1=11
    ·rw [if_neg h1,if_pos h2];simp only [obS,h2,decide_true,if_pos,e2,true_or,or_true]
    ·rw [if_neg h1,if_neg h2];simp only [obS,e2,h1,h2,false_or,decide_eq_true_eq]
  rw [e true];unfold opP;by_cases h1:o.1=10\/o.1=11\/o.1=12
  ·rw [if_pos h1,if_pos h1,show jF (s.1,s.2) (o.1,o.2.1,o.2.2.1,o.2.2.2.1,o.2.2.2.2.1,o.2.2.2.2.2) gen=some (snP s o gen) from aJ7 s o gen h.srt h.small (by have:=ho.p;omega)];rfl
  ·rw [if_neg h1,if_neg h1];by_cases h2:o.1=13
   ·rw [if_pos h2,if_pos h2,aDc s _ (by omega)];rfl
   ·rw [if_neg h2,if_neg h2,show fDo s.1 (o.1,o.2.1,o.2.2.1,o.2.2.2.1,o.2.2.2.2.1,o.2.2.2.2.2)=_ from hfd];rfl
 refine (key _).trans ?_;simp only;unfold stP;by_cases h1:(opP s o gen).2.1=0
 ·rw [if_pos h1,if_pos h1,show iQ ((opP s o gen).1.1,(opP s o gen).1.2)=_ from sP (opP s o gen).1 hrt.small];simp only [obS];by_cases h2:48<unN (opP s o gen).1
  ·rw [if_pos (by omega),if_pos h2];simp only [obS];rw [if_neg (by decide),hc];rfl
  ·rw [if_neg (by omega),if_neg h2];simp only [obS];rw [if_pos h1]
 ·rw [if_neg h1,if_neg h1,if_neg h1,hc];rfl
theorem aD4 (a b:SS) (ha:SmS a):mS a b=some (decide (a=b)):=by
 obtain ⟨a1,a2⟩:=a;obtain ⟨b1,b2⟩:=b;obtain ⟨h1,h2,h3⟩:=ha;simp only at h1 h2 h3;unfold mS;simp only;rw [zS _ _ (by have:=h1.1;omega)];simp only [obS];by_cases e1:a1=b1
 ·rw [if_neg (by simp [e1])];by_cases hl:(a2.length:Int)=(b2.length:Int)
  ·rw [if_pos hl];have hl':a2.length=b2.length:=by omega
   refine eJ (fun k (s:Int)=>s=(k:Int)/\∀ j (h:j<a2.length),j<k->a2[j]=b2[j]'(by omega)) (fun r=>(r=.inl ()/\a2=b2)\/(r=.inr false/\a2≠b2)) a2.length ⟨rfl,fun j _ hj=>by omega⟩ ?_ ?_ ?_
   ·rintro k _ hk ⟨rfl,hne⟩;rw [if_pos (by omega),bP hk,bP (show k<b2.length by omega)];simp only [obS];have bad:a2[k]≠b2[k]->a2≠b2:=fun h e=>h (by subst e;rfl);by_cases e2:a2[k].1=b2[k].1
    ·rw [if_pos e2];by_cases e3:a2[k].2.1=b2[k].2.1
     ·rw [if_pos e3,zS _ _ (by have:=(h3 _ (List.getElem_mem hk)).1.1;omega)];simp only [obS];by_cases e4:a2[k].2.2=b2[k].2.2
      ·rw [if_neg (by simp [e4]),aI (by omega) (by omega)];exact .inl ⟨_,rfl,rfl,fun j hj hjk=>by
        by_cases ej:j=k
        ·subst ej;exact Prod.ext e2 (Prod.ext e3 e4)
        ·exact hne j hj (by omega)⟩
      ·rw [if_pos (by simp [e4])];exact .inr ⟨_,rfl,.inr ⟨rfl,bad fun h=>e4 (by rw [h])⟩⟩
     ·rw [if_neg e3];exact .inr ⟨_,rfl,.inr ⟨rfl,bad fun h=>e3 (by rw [h])⟩⟩
    ·rw [if_neg e2];exact .inr ⟨_,rfl,.inr ⟨rfl,bad fun h=>e2 (by rw [h])⟩⟩
   ·rintro _ ⟨rfl,hne⟩;refine ⟨.inl (),by rw [if_neg (by omega)],.inl ⟨rfl,List.ext_getElem hl' fun j h1 h2=>hne j h1 h1⟩⟩
   ·rintro _ (⟨rfl,h⟩ | ⟨rfl,h⟩)
    ·simp [e1,h]
    ·simp [e1,h]
  ·rw [if_neg hl,decide_eq_false fun h=>hl (by rw [(Prod.mk.inj h).2])]
 ·rw [if_pos (by simp [e1]),decide_eq_false fun h=>e1 (Prod.mk.inj h).1]
theorem aK1 (s:SS):lC s=some true\/(lC s=some false/\SmS s/\s.1.length<=60/\s.2.length<=40):=by
 unfold lC;rcases aE8 s.1 with h | ⟨h,hb⟩
 ·rw [h];exact .inl rfl
 ·rw [h];simp only [obS,Bool.false_eq_true,if_false];by_cases h1:60<(s.1.length:Int)
  ·rw [if_pos h1];exact .inl rfl
  ·rw [if_neg h1];by_cases h2:40<(s.2.length:Int)
   ·rw [if_pos h2];exact .inl rfl
   ·rw [if_neg h2];refine hZ (C:=fun o=>o=some true\/(o=some false/\SmS s/\s.1.length<=60/\s.2.length<=40)) (fun k (q:Int)=>q=(k:Int)/\∀ j (hj:j<s.2.length),j<k->SmL s.2[j].2.2/\s.2[j].1.length<=1000) (fun r=>r=.inr true\/(r=.inl ()/\∀ x∈s.2,SmL x.2.2/\x.1.length<=1000)) s.2.length ⟨rfl,fun j _ hj=>by omega⟩ ?_ ?_ ?_
    ·rintro k _ hk ⟨rfl,hq⟩;rw [if_pos (by omega),bP hk];simp only [obS];rcases aE8 s.2[k].2.2 with h3 | ⟨h3,h4⟩
     ·rw [h3];exact .inr ⟨_,rfl,.inl rfl⟩
     ·rw [h3];simp only [obS,Bool.false_eq_true,if_false];by_cases h5:60<(s.2[k].2.2.length:Int)
      ·rw [if_pos h5];exact .inr ⟨_,rfl,.inl rfl⟩
      ·rw [if_neg h5];by_cases h6:50<(s.2[k].1.length:Int)
       ·rw [if_pos h6];exact .inr ⟨_,rfl,.inl rfl⟩
       ·rw [if_neg h6,aI (by omega) (by omega)];refine .inl ⟨_,rfl,rfl,fun j hj hjk=>?_⟩;by_cases e:j=k
        ·subst e;exact ⟨⟨by omega,fun x hx=>by have:=h4 x hx;omega⟩,by omega⟩
        ·exact hq j hj (by omega)
    ·rintro _ ⟨rfl,hq⟩;rw [if_neg (by omega)];refine ⟨_,rfl,.inr ⟨rfl,fun x hx=>?_⟩⟩;obtain ⟨j,hj,rfl⟩:=List.getElem_of_mem hx;exact hq j hj hj
    ·rintro _ (rfl | ⟨rfl,hq⟩)
     ·exact .inl rfl
     ·exact .inr ⟨rfl,⟨⟨by omega,fun x hx=>by have:=hb x hx;omega⟩,by omega,hq⟩,by omega,by omega⟩
theorem sR:cN s00=[([110,47],[100])]:=by
 rw [wG s00_snd yT (by simp)];decide +kernel
def s1f:FS:=aQ [47,97] (false,[]) s00
theorem aCo:rm s00 [47,97]=0:=by decide +kernel
theorem aHc:Snd s1f:=s00_snd.create aCo false
theorem aPk:(cN s1f).length=2:=by
 rw [wG aHc (uN yT [47,97] (false,[])) (by decide),aJ6];decide
noncomputable def S0:SS:=(cN s00,[])
noncomputable def S1:SS:=(cN s00,[([115],1,cN s00)])
noncomputable def S2:SS:=(cN s1f,[([115],1,cN s00)])
theorem S0_rt:Rt S0:=⟨RF.of s00_snd aAp (by omega),(fun x hx=>by cases hx),List.Pairwise.nil,(by unfold S0;rw [sR];decide)⟩
theorem aNr:mZ=some S0:=by unfold mZ;rw [aOh];rfl
theorem aB9:rdF (cN s00)=s00:=(s00_snd.prs aAp (by omega)).2.1
theorem at_S (g:Int) (L:List P2):atS [([115],g,L)] [115]=some ([115],g,L):=by unfold atS;simp
theorem aDs:stP S0 (10,[115],[],0,0,[]) 1=(S1,(0,0,[],[])):=by
 have e:opP S0 (10,[115],[],0,0,[]) 1=(S1,(0,0,[],[])):=by
  unfold opP;rw [if_pos (.inl rfl)];unfold snP;rw [if_neg (by decide)];rfl
 unfold stP;rw [e,if_pos rfl,if_neg (by unfold S1;rw [sR];decide)]
theorem aBk:stP S1 (1,[47,97],[],0,0,[]) 2=(S2,(0,0,[],[])):=by
 have d:doP s00 (1,[47,97],[],0,0,[])=((0,0,[],[]),s1f):=by
  unfold doP;simp only [aCo];rfl
 have e:opP S1 (1,[47,97],[],0,0,[]) 2=(S2,(0,0,[],[])):=by
  unfold opP;rw [if_neg (by decide),if_neg (by decide)];have hn:nx s00 (1,[47,97],[],0,0,[])=s1f:=by unfold nx;rw [d];rfl
  show ((cN (nx (rdF (cN s00)) _),_),(doP (rdF (cN s00)) _).1)=_;rw [aB9,hn,d];rfl
 unfold stP;rw [e,if_pos rfl,if_neg (by unfold S2 unN;simp only;rw [sR,aPk];decide)]
theorem st_S2:stP S2 (12,[115],[],0,0,[]) 3=(S1,(0,0,[],[])):=by
 have e:opP S2 (12,[115],[],0,0,[]) 3=(S1,(0,0,[],[])):=by
  unfold opP;rw [if_pos (.inr (.inr rfl))];unfold snP;rw [if_neg (by decide)];simp only [S2,at_S];rfl
 unfold stP;rw [e,if_pos rfl,if_neg (by unfold S1;rw [sR];decide)]
theorem st_S3:(stP S1 (9,[47,97],[],0,0,[]) 4).2.1=91:=by
 have d:(doP s00 (9,[47,97],[],0,0,[])).1=(91,0,[],[]):=by
  have:lk s00 [47,97]=(zf,91):=by decide +kernel
  unfold doP stt;simp only [this];rfl
 have e:(opP S1 (9,[47,97],[],0,0,[]) 4).2=(91,0,[],[]):=by
  unfold opP;rw [if_neg (by decide),if_neg (by decide)];show (doP (rdF (cN s00)) _).1=_;rw [aB9,d]
 unfold stP;rw [e,if_neg (by decide)]
theorem aIc:sT=some true:=by
 have r1:Rt S1:=by have:=zN S0_rt (10,[115],[],0,0,[]) 1;rw [aDs] at this;exact this
 have r2:Rt S2:=by have:=zN r1 (1,[47,97],[],0,0,[]) 2;rw [aBk] at this;exact this
 unfold sT;rw [aNr];simp only [obS];rw [rG S0_rt _ 1 (qC (by decide) (by decide) (by decide)),aDs];simp only [obS];rw [rG r1 _ 2 (qC (by decide) (by decide) (by decide)),aBk];simp only [obS];rw [rG r2 _ 3 (qC (by decide) (by decide) (by decide)),st_S2];simp only [obS];rw [rG r1 _ 4 (qC (by decide) (by decide) (by decide))];simp only [obS,st_S3];rw [sP _ S0_rt.small];simp only [obS];rw [show unN S0=1 by unfold S0;rw [sR];rfl];rfl
theorem aJa (x y:List (List UInt8)) (hx:x.length<=1000000):sI x y=some (decide (x=y)):=by
 have:sI x y=pC x y:=rfl;rw [this,aGp x y (by omega)]
theorem aN1 (a b:Ans) (h:a.2.2.2.length<=1000000):rZ a b=some (decide (a=b)):=by
 obtain ⟨a1,a2,a3,a4⟩:=a;obtain ⟨b1,b2,b3,b4⟩:=b;simp only at h;unfold rZ;simp only;by_cases h1:a1=b1
 ·rw [if_pos h1];by_cases h2:a2=b2
  ·rw [if_pos h2];by_cases h3:a3=b3
   ·rw [if_pos h3,aJa _ _ h];simp [h1,h2,h3]
   ·rw [if_neg h3];simp [h3]
  ·rw [if_neg h2];simp [h2]
 ·rw [if_neg h1];simp [h1]
theorem aHl (L:List P2) (h:SmL L):mA L=some L:=by
 obtain ⟨hl,hb⟩:=h;unfold mA;refine eJ (fun k (s:List P2×Int)=>s=(L.take k,(k:Int))) (fun r=>r=L) L.length rfl ?_ ?_ ?_
 ·rintro k _ hk rfl;have hx:=hb _ (List.getElem_mem hk);simp only;rw [if_pos (by omega),bP hk];simp only [obS];rw [cI (by simp only [List.length_nil];omega),cI (by simp only [List.length_nil];omega)];simp only [obS,List.nil_append];rw [cI (by simp only [List.length_take,List.length_cons,List.length_nil];omega)];simp only [obS];exact .inl ⟨_,rfl,by rw [aI (by omega) (by omega)];exact Prod.ext (List.take_succ_eq_append_getElem hk).symm rfl⟩
 ·rintro _ rfl;simp only;rw [if_neg (by omega),List.take_length];exact ⟨_,rfl,rfl⟩
 ·rintro _ rfl;rfl
theorem uX (x:List UInt8):kW x=some (bS x):=by
 unfold kW;by_cases h1:(x.length:Int)<1
 ·rw [if_pos h1];have:x=[]:=List.eq_nil_of_length_eq_zero (by omega);rw [this];rfl
 rw [if_neg h1];by_cases h2:8<(x.length:Int)
 ·rw [if_pos h2];unfold bS;rw [decide_eq_false (show ¬ x.length<=8 by omega)];simp
 rw [if_neg h2];rw [tJ x (fun c=>if nmC c=true then none else some (.inr false)) (.inl ()) (fun i hi=>?_) ?_]
 ·simp only [obS];have hne:x≠[]:=fun e=>by rw [e] at h1;simp at h1
  by_cases ha:x.all nmC=true
  ·have:x.findSome? (fun c=>if nmC c=true then none else some (Sum.inr false:Unit ⊕ Bool))=none:=by
    rw [List.findSome?_eq_none_iff];intro c hc;rw [if_pos (List.all_eq_true.1 ha c hc)]
   rw [this];unfold bS;rw [ha,decide_eq_true hne,decide_eq_true (show x.length<=8 by omega)];rfl
  ·have:x.findSome? (fun c=>if nmC c=true then none else some (Sum.inr false:Unit ⊕ Bool))=some (.inr false):=by
    have ha':¬ ∀ c∈x,nmC c=true:=fun h=>ha (List.all_eq_true.2 h);clear ha h1 h2 hne
    induction x with
    | nil=>exact (ha' (by simp)).elim
    | cons c x ih =>
     rw [List.findSome?_cons];by_cases hc:nmC c=true
     ·rw [if_pos hc];exact ih fun h=>ha' fun d hd=>by
       rcases List.mem_cons.1 hd with rfl | hd
       ·exact hc
       ·exact h d hd
     ·rw [if_neg hc]
   rw [this];unfold bS;rw [show x.all nmC=false by simpa using ha];rfl
 ·rw [if_neg (by omega)]
 ·rw [if_pos (by omega),bP hi];simp only [obS];unfold nmC;by_cases h1:(x[i].toNat:Int)<33
  ·rw [if_pos h1,if_neg (by simp;omega)]
  ·rw [if_neg h1];by_cases h2:126<(x[i].toNat:Int)
   ·rw [if_pos h2,if_neg (by simp;omega)]
   ·rw [if_neg h2];by_cases h3:(x[i].toNat:Int)=47
    ·rw [if_pos h3,if_neg (by simp;omega)]
    ·rw [if_neg h3,if_pos (by simp;omega),aI (by omega) (by omega)];rfl
def btw (p:List UInt8) (i j:Nat):List UInt8:=(p.take j).drop i
theorem aF4 {p:List UInt8} {i j:Nat} {c:UInt8} (h:c∈btw p i j):∃ k,∃ hk:k<p.length,i<=k/\k<j/\p[k]=c:=by
 unfold btw at h;obtain ⟨k,hk,rfl⟩:=List.getElem_of_mem h;simp only [List.length_drop,List.length_take] at hk;exact ⟨i+k,by omega,by omega,by omega,by simp⟩
theorem aKb {p:List UInt8} {i j:Nat} (h:i<=j) (hj:j<p.length):p.drop i=btw p i j++p[j]::p.drop (j+1):=by
 unfold btw;rw [<- List.drop_eq_getElem_cons hj]
 conv=>lhs;rw [<- List.take_append_drop j p]
 rw [List.drop_append_of_le_length (by simp;omega)]
theorem aA6 {p:List UInt8} {i:Nat}:btw p i p.length=p.drop i:=by unfold btw;rw [List.take_length]
structure SpI (p:List UInt8) (out:List (List UInt8)) (fr i:Nat):Prop where
 fr1:1<=fr
 le:fr<=i
 il:i<=p.length
 sp:sp p.tail=out++sp (p.drop fr)
 ok:∀ x∈out,bS x=true
 no:∀ k (hk:k<p.length),fr<=k->k<i->p[k]≠47
 ol:out.length<=fr
theorem uM (p:List UInt8):lG p=some (nmP p,okP p):=by
 unfold lG;by_cases hr:p=[47]
 ·rw [if_pos hr,hr];rfl
 rw [if_neg hr];have hbad:okP p=false->some (([]:List (List UInt8)),false)=some (nmP p,okP p):=fun h=>by rw [oF h,h]
 by_cases h1:(p.length:Int)<2
 ·rw [if_pos h1];refine hbad ?_;unfold okP;rw [decide_eq_false hr];cases p with
  | nil=>rfl
  | cons c p =>
   cases p with
   | nil =>
    have:c≠47:=fun e=>hr (by rw [e]);simp [this]
   | cons d p=>simp at h1;omega
 rw [if_neg h1];by_cases h2:24<(p.length:Int)
 ·rw [if_pos h2];refine hbad ?_;unfold okP;rw [decide_eq_false hr,decide_eq_false (show ¬ p.length<=24 by omega)];simp
 rw [if_neg h2];have h0:0<p.length:=by omega
 rw [show (0:Int)=((0:Nat):Int) from rfl,bP h0];simp only [obS];have hhead:p.head?=some p[0]:=by
  cases p with
  | nil=>simp at h0
  | cons c p=>rfl
 by_cases h3:(p[0].toNat:Int)=47
 ·rw [if_pos h3];have hp0:p[0]=47:=by rw [<- UInt8.toNat_inj];show p[0].toNat=47;omega
  have hok:okP p=(sp p.tail).all bS:=by
   unfold okP;rw [decide_eq_false hr,decide_eq_true (show p.length<=24 by omega),hhead,hp0];simp
  have htail:p.tail=p.drop 1:=by simp
  refine eJ (fun k (t:(List (List UInt8))×Int×Int)=>t.2.2=((k+1:Nat):Int)/\∃ fr:Nat,t.2.1=(fr:Int)/\((k+1<=p.length/\SpI p t.1 fr (k+1))\/(k=p.length/\sp p.tail=t.1/\∀ x∈t.1,bS x=true))) (fun r=>(∃ out,r=.inl out/\sp p.tail=out/\∀ x∈out,bS x=true)\/(r=.inr (([]:List (List UInt8)),false)/\okP p=false)) p.length ⟨rfl,1,rfl,.inl ⟨by omega,⟨Nat.le_refl _,Nat.le_refl _,by omega,by rw [htail];rfl,by simp,fun k hk a b=>by omega,by simp⟩⟩⟩ ?_ ?_ ?_
  ·rintro k ⟨out,f0,i0⟩ hk ⟨e1,fr,e2,e3⟩;simp only at e1 e2 e3;subst e1 e2;have hI:SpI p out fr (k+1):=e3.resolve_right (fun h=>by omega) |>.2;obtain ⟨q1,q2,q3,q4,q5,q6,q7⟩:=hI;simp only;rw [if_pos (by omega)];by_cases hlt:k+1<p.length
   ·rw [if_pos (by omega),bP hlt];simp only [obS];by_cases hc:(p[k+1].toNat:Int)=47
    ·have hc':p[k+1]=47:=by rw [<- UInt8.toNat_inj];show p[k+1].toNat=47;omega
     rw [if_pos hc,dM q2 (by omega)];simp only [obS,uX];have hx:sp (p.drop fr)=btw p fr (k+1)::sp (p.drop (k+1+1)):=by
      rw [aKb q2 hlt,hc'];exact zP _ fun c hc2=>by
       obtain ⟨j,hj,a,b,rfl⟩:=aF4 hc2;exact q6 j hj a b
     show _\/_;by_cases hn:bS (btw p fr (k+1))=true
     ·refine .inl ?_;rw [show (p.take (k+1)).drop fr=btw p fr (k+1) from rfl,hn,if_neg (by decide)];rw [cI (by simp;omega)];simp only [obS,Sum.elim_inl];rw [aI (by omega) (by omega)];refine ⟨_,rfl,?_,k+1+1,?_,.inl ⟨by omega,⟨by omega,Nat.le_refl _,by omega,?_,?_,fun j hj a b=>by omega,by simp;omega⟩⟩⟩
      ·simp only;omega
      ·simp only;omega
      ·simp only;rw [q4,hx];show _=(out++[btw p fr (k+1)])++_;simp
      ·intro y hy;rcases List.mem_append.1 hy with hy | hy
       ·exact q5 y hy
       ·simp at hy;rw [hy];exact hn
     ·refine .inr ?_;have hn':bS (btw p fr (k+1))=false:=by simpa using hn
      rw [show (p.take (k+1)).drop fr=btw p fr (k+1) from rfl,hn',if_pos (show (!false)=true from rfl)];refine ⟨_,rfl,.inr ⟨rfl,?_⟩⟩;rw [hok,q4,hx];simp [hn']
    ·rw [if_neg hc];simp only [obS,Sum.elim_inl];rw [aI (by omega) (by omega)];refine .inl ⟨_,rfl,?_,fr,rfl,.inl ⟨by omega,⟨q1,by omega,by omega,q4,q5,fun j hj a b=>?_,q7⟩⟩⟩
     ·simp only;omega
     ·by_cases e:j=k+1
      ·subst e;intro e2;exact hc (by rw [e2];rfl)
      ·exact q6 j hj a (by omega)
   ·have hkp:k+1=p.length:=by omega
    rw [if_neg (by omega),dM q2 (by omega)];simp only [obS,uX];have hx:sp (p.drop fr)=[btw p fr (k+1)]:=by
     rw [hkp,aA6];refine wZ fun c hc2=>?_;rw [<- aA6] at hc2;obtain ⟨j,hj,a,b,rfl⟩:=aF4 hc2;exact q6 j hj a (by omega)
    by_cases hn:bS (btw p fr (k+1))=true
    ·refine .inl ?_;rw [show (p.take (k+1)).drop fr=btw p fr (k+1) from rfl,hn,if_neg (by decide)];rw [cI (by simp;omega)];simp only [obS,Sum.elim_inl];rw [aI (by omega) (by omega)];refine ⟨_,rfl,?_,k+1+1,?_,.inr ⟨by omega,?_,?_⟩⟩
     ·simp only;omega
     ·simp only;omega
     ·simp only;rw [q4,hx];try rfl
     ·intro y hy;rcases List.mem_append.1 hy with hy | hy
      ·exact q5 y hy
      ·simp at hy;rw [hy];exact hn
    ·refine .inr ?_;have hn':bS (btw p fr (k+1))=false:=by simpa using hn
     rw [show (p.take (k+1)).drop fr=btw p fr (k+1) from rfl,hn',if_pos (show (!false)=true from rfl)];refine ⟨_,rfl,.inr ⟨rfl,?_⟩⟩;rw [hok,q4,hx];simp [hn']
  ·rintro ⟨out,f0,i0⟩ ⟨e1,fr,e2,e3⟩;simp only at e1 e2 e3;subst e1 e2;obtain ⟨_,g1,g2⟩:=e3.resolve_left (fun h=>by omega);simp only;rw [if_neg (by omega)];exact ⟨_,rfl,.inl ⟨out,rfl,g1,g2⟩⟩
  ·rintro _ (⟨out,rfl,g1,g2⟩ | ⟨rfl,g⟩)
   ·have hk:okP p=true:=by rw [hok,g1];exact List.all_eq_true.2 g2
    simp only [Sum.elim_inl];unfold nmP;rw [if_neg hr,if_pos hk,hk,g1]
   ·simp only [Sum.elim_inr];exact hbad g
 ·rw [if_neg h3];refine hbad ?_;unfold okP;rw [decide_eq_false hr,hhead];have:p[0]≠47:=fun e=>h3 (by rw [e];rfl);simp [this]
theorem aGo (xs:List (List UInt8)) (h:(pth xs).length<=100000) (hn:xs.length<=100000):nU xs=some (pth xs):=by
 unfold nU;by_cases h0:(xs.length:Int)=0
 ·rw [if_pos h0];have:xs=[]:=List.eq_nil_of_length_eq_zero (by omega);rw [this];rfl
 rw [if_neg h0];have hstep:∀ i,i<xs.length->(rst (xs.take i)).length<=100001:=fun i hi=>by
  unfold rst;split
  ·simp
  ·have:=mH (xs:=xs) i;simp only [pth,List.length_cons] at h ⊢;omega
 have hrst:∀ i (hi:i<xs.length),rst (xs.take i)++47::xs[i]=rst (xs.take (i+1)):=fun i hi=>by
  rw [List.take_succ_eq_append_getElem hi];unfold rst;by_cases hz:xs.take i=[]
  ·rw [if_pos hz,if_neg (fun e=>List.cons_ne_nil _ _ (List.append_eq_nil_iff.1 e).2),hz];simp [pth,nY]
  ·rw [if_neg hz,if_neg (fun e=>List.cons_ne_nil _ _ (List.append_eq_nil_iff.1 e).2)];unfold pth;rw [rH _ _ hz (by simp),nY];simp
 refine eJ (fun k (t:List UInt8×Int)=>t=(rst (xs.take k),(k:Int))) (fun r=>r=pth xs) xs.length rfl ?_ ?_ ?_
 ·rintro k _ hk rfl;simp only;have h1:=hstep k hk;have h2:(rst (xs.take (k+1))).length<=100001:=by
   by_cases e:k+1<xs.length
   ·exact hstep _ e
   ·rw [List.take_of_length_le (by omega)];unfold rst;split
    ·simp
    ·omega
  have h3:=congrArg List.length (hrst k hk);simp only [List.length_append,List.length_cons] at h3;rw [if_pos (by omega),bP hk];simp only [obS];rw [eU (by simp;omega)];simp only [obS];rw [eU (by simp;omega)];simp only [obS];rw [aI (by omega) (by omega)];refine .inl ⟨_,rfl,?_⟩;rw [<- hrst k hk];rfl
 ·rintro _ rfl;simp only;rw [if_neg (by omega),List.take_length];refine ⟨_,rfl,?_⟩;unfold rst;rw [if_neg (fun e=>h0 (by rw [e];rfl))]
 ·rintro _ rfl;rfl
theorem oU (p:List UInt8):iZ p=some (okP p):=by
 unfold iZ;rw [uM];rfl
theorem xB (p:List UInt8):(nmP p).length<=25/\(pth (nmP p)).length<=25:=by
 by_cases h:okP p=true
 ·have h1:=(bZ h).2.2;have h2:=(bZ h).2.1;have h3:=pI p;rw [<- h2];omega
 ·rw [oF (by simpa using h)];simp [pth,tB]
theorem xE (p:List UInt8):mI p=some (par p):=by
 unfold mI par;rw [uM p];simp only [obS];obtain ⟨hl,hj⟩:=xB p;by_cases h0:nmP p=[]
 ·rw [if_pos (by rw [h0];rfl),if_pos h0]
 ·have hp:0<(nmP p).length:=List.length_pos_iff.2 h0;rw [if_neg (by omega),if_neg h0,aI (by omega) (by omega)];rw [show ((nmP p).length:Int)-1=(((nmP p).length-1:Nat):Int) by omega,show (0:Int)=((0:Nat):Int) from rfl,dM (Nat.zero_le _) (by omega)];simp only [obS,List.drop_zero];have ht:(nmP p).take ((nmP p).length-1)=(nmP p).dropLast:=by rw [List.dropLast_eq_take]
  have:=mH (xs:=nmP p) ((nmP p).length-1);rw [ht] at this ⊢;simp only [pth,List.length_cons] at hj;rw [aGo _ (by simp only [pth,List.length_cons];omega) (by simp;omega)];rfl
theorem aPl (p:List UInt8):pV p=some (bas p):=by
 unfold pV bas;rw [uM p];simp only [obS];obtain ⟨hl,hj⟩:=xB p;by_cases h0:nmP p=[]
 ·rw [if_pos (by rw [h0];rfl),h0];rfl
 ·have hp:0<(nmP p).length:=List.length_pos_iff.2 h0;rw [if_neg (by omega),aI (by omega) (by omega),show ((nmP p).length:Int)-1=(((nmP p).length-1:Nat):Int) by omega,bP (by omega)];simp only [obS];rw [List.getLast?_eq_getElem?,List.getElem?_eq_getElem (by omega)];rfl
theorem aFr (p q:List UInt8):pG p q=some (aS p q):=by
 unfold pG;rw [oU,oU];simp only [obS];by_cases hp:okP p=true
 ·rw [if_neg (by rw [hp];decide)];by_cases hq:okP q=true
  ·rw [if_neg (by rw [hq];decide)];obtain ⟨p1,p2,p3⟩:=bZ hp;obtain ⟨q1,q2,q3⟩:=bZ hq;by_cases hr:p=[47]
   ·rw [if_pos hr];have:aS p q=true:=(eW hp).2 ⟨hq,nmP q,by rw [hr,yN];rfl⟩;rw [this]
   rw [if_neg hr];by_cases he:p=q
   ·rw [if_pos he];have:aS p q=true:=(eW hp).2 ⟨hq,[],by rw [he];simp⟩;rw [this]
   rw [if_neg he];have hkey:aS p q=true↔∃ r,q=p++47::r:=by
    rw [eW hp];constructor
    ·rintro ⟨_,c,hc⟩;have hcn:c≠[]:=fun e=>he (by rw [p2,q2,hc,e,List.append_nil]);rw [hc,qD (jK hp hr) c,<- p2] at q2;unfold rst at q2;rw [if_neg hcn] at q2;exact ⟨jn c,q2⟩
    ·rintro ⟨r,hrr⟩;refine ⟨hq,sp r,?_⟩;have h1:sp q.tail=nmP q:=by
      have hq47:q≠[47]:=fun e=>by
       rw [e] at hrr;have:=congrArg List.length hrr;simp at this;have hp0:=congrArg List.length p2;simp [pth] at hp0;omega
      unfold nmP;rw [if_neg hq47,if_pos hq]
     rw [<- h1,hrr];have hp2:p=47::jn (nmP p):=p2;rw [hp2];show sp (jn (nmP p)++47::r)=_;have h3:jn (nmP p)++47::r=jn (nmP p++sp r):=by rw [rH _ _ (jK hp hr) (aBd r),xL]
     have h4:∀ x∈nmP p++sp r,∀ c∈x,c≠47:=fun x hx=>by
      rcases List.mem_append.1 hx with hx | hx
      ·exact p1.sl x hx
      ·have hall:∀ (r:List UInt8),∀ x∈sp r,∀ c∈x,c≠47:=by
        intro r
        induction r with
        | nil=>intro x hx;simp [sp] at hx;simp [hx]
        | cons c r ih =>
         intro x hx;simp only [sp] at hx;split at hx
         ·rcases List.mem_cons.1 hx with rfl | hx
          ·simp
          ·exact ih x hx
         ·rename_i hc;split at hx
          ·rename_i h t e;rw [e] at ih;rcases List.mem_cons.1 hx with rfl | hx
           ·intro d hd;rcases List.mem_cons.1 hd with rfl | hd
            ·exact hc
            ·exact ih h List.mem_cons_self d hd
           ·exact ih x (List.mem_cons_of_mem _ hx)
          ·simp at hx;subst hx;intro d hd;simp at hd;rw [hd];exact hc
       exact hall r x hx
     rw [h3,qG (by simp [jK hp hr]) h4];have h5:nmP (47::jn (nmP p))=nmP p:=by rw [<- hp2]
     rw [h5]
   by_cases hlt:(p.length:Int)<(q.length:Int)
   ·rw [if_pos hlt,show (0:Int)=((0:Nat):Int) from rfl,dM (Nat.zero_le _) (by omega)];simp only [obS,List.drop_zero];by_cases ht:q.take p.length=p
    ·rw [if_pos ht,bP (show p.length<q.length by omega)];simp only [obS];have hsplit:q=p++q[p.length]::q.drop (p.length+1):=by
      conv=>lhs;rw [<- List.take_append_drop p.length q]
      rw [ht,List.drop_eq_getElem_cons (show p.length<q.length by omega)]
     congr 1
     by_cases hc:(q[p.length].toNat:Int)=47
     ·rw [decide_eq_true hc];have hc':q[p.length]=47:=by rw [<- UInt8.toNat_inj];show q[p.length].toNat=47;omega
      exact (hkey.2 ⟨q.drop (p.length+1),by rw [<- hc'];exact hsplit⟩).symm
     ·rw [decide_eq_false hc];cases hw:aS p q with
      | false=>rfl
      | true =>
       obtain ⟨r,hr2⟩:=hkey.1 hw;refine absurd ?_ hc;have:q[p.length]?=some 47:=by rw [hr2];simp
       rw [List.getElem?_eq_getElem (show p.length<q.length by omega)] at this;rw [Option.some.inj this];rfl
    ·rw [if_neg ht];cases hw:aS p q with
     | false=>rfl
     | true =>
      obtain ⟨r,hr2⟩:=hkey.1 hw;exact absurd (by rw [hr2];simp) ht
   ·rw [if_neg hlt];cases hw:aS p q with
    | false=>rfl
    | true =>
     obtain ⟨r,hr2⟩:=hkey.1 hw;have:=congrArg List.length hr2;simp at this;omega
  ·have hq':okP q=false:=by simpa using hq
   rw [hq',if_pos (show (!false)=true from rfl)];unfold aS;rw [hq'];simp
 ·have hp':okP p=false:=by simpa using hp
  rw [hp',if_pos (show (!false)=true from rfl)];unfold aS;rw [hp'];simp
end Go.Proofs.YtnagibpmfabkjaaGreatDoor
