/- Texts FilS, FilV, SpA, SpB, SpC, SpD, Sma, Sty. -/
import Derived.Test.YtnagibpmfabkjaaGreatDoorQ9
set_option linter.unusedSimpArgs false
set_option linter.unusedVariables false
namespace Go.Proofs.YtnagibpmfabkjaaGreatDoor
open Go.RowKit Go.Tri
theorem prs_of {s:FS} (hs:Snd s) {l:List Ent} (hE:Enum s l) (hl:l.length≤1000000):prsF s=prs2 l:=by
 have hk:=hs.ent hE
 unfold prsF
 rw [sPairs_eq hE hl fun x hx=>⟨by have:=(okP_pth (hk.ok x hx)).2.2;omega,hk.len x hx⟩];rfl
theorem prs2_len (l:List Ent):(prs2 l).length=(l.flatMap encE).length:=by
 unfold prs2 sortPairs;exact (List.mergeSort_perm _ leP).length_eq
theorem filter_less {β:Type} {l:List (List UInt8×β)} {k:List UInt8} (h:k∈l.map (·.1)):(l.filter fun x=>x.1≠k).length+1≤l.length:=by
 induction l with
 | nil=>simp at h
 | cons x l ih =>
  rw [List.filter_cons]
  by_cases e:x.1=k
  ·simp only [e,ne_eq,not_true,decide_false,Bool.false_eq_true,if_false,List.length_cons]
   have:=List.length_filter_le (fun x:List UInt8×β=>decide (x.1≠k)) l
   simp only [ne_eq] at this
   omega
  ·have:k∈l.map (·.1):=by
    rcases List.mem_cons.1 h with h | h
    ·exact absurd h.symm e
    ·exact h
   have:=ih this
   simp only [ne_eq,e,not_false_eq_true,decide_true,if_true,List.length_cons] at this ⊢
   omega
theorem enum_keys {β:Type} {m:List UInt8→Option β} {l:List (List UInt8×β)} (h:Enum m l) (k:List UInt8):k∈l.map (·.1)↔(m k).isSome=true:=by
 rw [h.2 k];exact (aget_isSome k l).symm
theorem Crd.upd {β:Type} {m:List UInt8→Option β} {n:Nat} (h:Crd m n) {k:List UInt8} (hk:(m k).isSome=true) (v:β):Crd (fset k v m) n:=by
 obtain ⟨l,h1,h2⟩:=h
 refine ⟨_,enum_set h1 k v,?_⟩
 have:=filter_less ((enum_keys h1 k).2 hk)
 simp only [List.length_cons]
 omega
theorem fset_ne {β:Type} {k q:List UInt8} {v:β} {m:List UInt8→Option β} (h:q≠k):fset k v m q=m q:=by unfold fset;rw [if_neg h]
theorem fset_eq {β:Type} {k:List UInt8} {v:β} {m:List UInt8→Option β}:fset k v m k=some v:=by unfold fset;rw [if_pos rfl]
theorem par_ne {q:List UInt8} (h:okP q=true) (hr:q≠[47]):par q≠q:=fun e=>by
 obtain ⟨h1,h2,_⟩:=nm_par h hr
 have h3:=congrArg List.length h1
 rw [e,List.length_dropLast] at h3
 have:=List.length_pos_iff.2 (nmP_ne h hr)
 omega
theorem Snd.create {s:FS} (hs:Snd s) {p:List UInt8} (h:rm s p=0) (b:Bool):Snd (fset p (b,[]) s):=by
 obtain ⟨h1,h2,⟨d,h3⟩,h4⟩:=rm_ok h
 obtain ⟨dr,hr⟩:=hs.root
 refine ⟨⟨dr,by rw [fset_ne (Ne.symm h2)];exact hr⟩,fun q f hq=>?_,fun q f hq=>?_,fun q f hq=>?_,fun q f hq hn=>?_⟩
 ·by_cases e:q=p
  ·rw [e];exact h1
  ·rw [fset_ne e] at hq;exact hs.ok q f hq
 ·by_cases e:q=p
  ·rw [e,fset_eq] at hq;cases hq;simp
  ·rw [fset_ne e] at hq;exact hs.len q f hq
 ·by_cases e:q=p
  ·rw [e,fset_eq] at hq;cases hq;rfl
  ·rw [fset_ne e] at hq;exact hs.dir q f hq
 ·by_cases e:q=p
  ·rw [e,fset_ne (par_ne h1 h2)];exact ⟨d,h3⟩
  ·rw [fset_ne e] at hq
   obtain ⟨d',hd'⟩:=hs.up q f hq hn
   exact ⟨d',by rw [fset_ne (fun e2=>by rw [e2,h4] at hd';cases hd')];exact hd'⟩
theorem Snd.write {s:FS} (hs:Snd s) {p d:List UInt8} (h:s p=some (false,d)) {d':List UInt8} (hd:d'.length≤192):Snd (fset p (false,d') s):=by
 obtain ⟨dr,hr⟩:=hs.root
 refine ⟨⟨dr,by rw [fset_ne (fun e=>by rw [e,h] at hr;cases hr)];exact hr⟩,fun q f hq=>?_,fun q f hq=>?_,fun q f hq=>?_,fun q f hq hn=>?_⟩
 ·by_cases e:q=p
  ·rw [e];exact hs.ok _ _ h
  ·rw [fset_ne e] at hq;exact hs.ok q f hq
 ·by_cases e:q=p
  ·rw [e,fset_eq] at hq;cases hq;exact hd
  ·rw [fset_ne e] at hq;exact hs.len q f hq
 ·by_cases e:q=p
  ·rw [e,fset_eq] at hq;cases hq
  ·rw [fset_ne e] at hq;exact hs.dir q f hq
 ·have hup:∃ d,s (par q)=some (true,d):=by
   by_cases e:q=p
   ·subst e;exact hs.up _ _ h hn
   ·rw [fset_ne e] at hq;exact hs.up q f hq hn
  obtain ⟨d',hd'⟩:=hup
  exact ⟨d',by rw [fset_ne (fun e2=>by rw [e2,h] at hd';cases hd')];exact hd'⟩
theorem Snd.remove {s:FS} (hs:Snd s) {p:List UInt8} (hr:p≠[47]) (h:∀ q f,s q=some f→q≠[47]→par q≠p):Snd (fdel p s):=by
 obtain ⟨dr,hroot⟩:=hs.root
 have hd:∀ q f,fdel p s q=some f→q≠p∧s q=some f:=fun q f hq=>by
  unfold fdel at hq
  split at hq
  ·cases hq
  ·rename_i e;exact ⟨e,hq⟩
 have hk:∀ q,q≠p→fdel p s q=s q:=fun q e=>by unfold fdel;rw [if_neg e]
 exact ⟨⟨dr,by rw [hk _ (Ne.symm hr)];exact hroot⟩,fun q f hq=>hs.ok q f (hd q f hq).2,fun q f hq=>hs.len q f (hd q f hq).2,fun q f hq=>hs.dir q f (hd q _ hq).2,fun q f hq hn=>by
  obtain ⟨d',hd'⟩:=hs.up q f (hd q f hq).2 hn
  exact ⟨d',by rw [hk _ (h q f (hd q f hq).2 hn)];exact hd'⟩⟩
theorem wthn_par {p q:List UInt8} (hq:okP q=true) (hr:q≠[47]) (h:wthn p (par q)=true):wthn p q=true:=by
 have hp:=(wthn_ok h).1
 obtain ⟨_,c,hc⟩:=(wthn_iff hp).1 h
 obtain ⟨h1,h2,_⟩:=nm_par hq hr
 exact (wthn_iff hp).2 ⟨hq,c++[bas q],by rw [h2,← h1,hc,List.append_assoc]⟩
section
variable {s:FS} {F T:List UInt8}
def ren (F T p:List UInt8):List UInt8:=if wthn F p=true then mvP F T p else p
theorem Ren.back (h:Ren s F T) (hb:¬ badR s F T) {p:List UInt8} {f:Bool×List UInt8} (hp:s p=some f):rnF s F T (ren F T p)=some f∧(wthn F p=true→wthn T (mvP F T p)=true∧mvP T F (mvP F T p)=p):=by
 by_cases hw:wthn F p=true
 ·have hl:(mvP F T p).length≤24:=by
   by_cases h24:(mvP F T p).length≤24
   ·exact h24
   ·exact absurd ⟨p,f,hp,hw,by omega⟩ hb
  have:=mv_in h.okF h.okT h.neF h.neT hw hl
  refine ⟨?_,fun _=>this⟩
  unfold ren rnF
  rw [if_pos hw,if_neg (fun hh=>h.apart hh this.1),if_pos this.1,this.2];exact hp
 ·refine ⟨?_,fun hh=>absurd hh hw⟩
  unfold ren rnF
  rw [if_neg hw,if_neg hw,if_neg (fun hh=>by rw [h.notT hh] at hp;cases hp)];exact hp
theorem Ren.from (h:Ren s F T) {q:List UInt8} {f:Bool×List UInt8} (hq:rnF s F T q=some f):wthn F q=false∧((wthn T q=true∧s (mvP T F q)=some f∧wthn F (mvP T F q)=true∧mvP F T (mvP T F q)=q)∨(wthn T q=false∧s q=some f)):=by
 unfold rnF at hq
 split at hq
 ·cases hq
 ·rename_i h1
  refine ⟨by simpa using h1,?_⟩
  split at hq
  ·rename_i h2
   have hl:=(okP_pth (h.snd.ok _ _ hq)).2.2
   have:=mv_in h.okT h.okF h.neT h.neF h2 hl
   exact .inl ⟨h2,hq,this.1,this.2⟩
  ·rename_i h2;exact .inr ⟨by simpa using h2,hq⟩
theorem Ren.enum (h:Ren s F T) (hb:¬ badR s F T) {l:List Ent} (hE:Enum s l):Enum (rnF s F T) (l.map fun x=>(ren F T x.1,x.2)):=by
 have hnd:((l.map fun x:Ent=>(ren F T x.1,x.2)).map (·.1)).Nodup:=by
  rw [List.map_map,List.nodup_iff_pairwise_ne,List.pairwise_map]
  have hn:=hE.1
  rw [List.nodup_iff_pairwise_ne,List.pairwise_map] at hn
  refine hn.imp_of_mem fun {a b} ha hb' hne e=>hne ?_
  replace e:ren F T a.1=ren F T b.1:=e
  have ha':=(enum_mem hE).1 (show (a.1,a.2)∈l from ha)
  have hb'':=(enum_mem hE).1 (show (b.1,b.2)∈l from hb')
  have ka:=(h.back hb ha').2
  have kb:=(h.back hb hb'').2
  unfold ren at e
  by_cases h1:wthn F a.1=true
  ·by_cases h2:wthn F b.1=true
   ·rw [if_pos h1,if_pos h2] at e
    rw [← (ka h1).2,e,(kb h2).2]
   ·rw [if_pos h1,if_neg h2] at e
    have:=h.notT (ka h1).1
    rw [e,hb''] at this;cases this
  ·by_cases h2:wthn F b.1=true
   ·rw [if_neg h1,if_pos h2] at e
    have:=h.notT (kb h2).1
    rw [← e,ha'] at this;cases this
   ·rwa [if_neg h1,if_neg h2] at e
 refine ⟨hnd,fun q=>?_⟩
 cases hq:rnF s F T q with
 | some f =>
  symm
  refine aget_of_mem hnd ?_
  obtain ⟨h1,⟨h2,h3,h4,h5⟩ | ⟨h2,h3⟩⟩:=h.from hq
  ·exact List.mem_map.2 ⟨_,(enum_mem hE).2 h3,by simp only [ren,if_pos h4,h5]⟩
  ·exact List.mem_map.2 ⟨_,(enum_mem hE).2 h3,by simp [ren,h1]⟩
 | none =>
  symm
  refine aget_none fun hm=>?_
  rw [List.map_map] at hm
  obtain ⟨x,hx,hj⟩:=List.mem_map.1 hm
  replace hj:ren F T x.1=q:=hj
  have:=(h.back hb ((enum_mem hE).1 (show (x.1,x.2)∈l from hx))).1
  rw [hj,hq] at this;cases this
theorem Ren.sound (h:Ren s F T) (hb:¬ badR s F T):Snd (rnF s F T):=by
 have hs:=h.snd
 have hroot:∀ {p:List UInt8},okP p=true→p≠[47]→wthn p [47]=false:=fun {p} hk hn=>by
  cases hw:wthn p [47] with
  | false=>rfl
  | true =>
   obtain ⟨_,c,hc⟩:=(wthn_iff hk).1 hw
   rw [nmP_root] at hc
   have:=congrArg List.length hc
   have h0:=List.length_pos_iff.2 (nmP_ne hk hn)
   rw [List.length_nil,List.length_append] at this
   omega
 refine ⟨?_,fun q f hq=>?_,fun q f hq=>?_,fun q d hq=>?_,fun q f hq hn=>?_⟩
 ·obtain ⟨d,hd⟩:=hs.root
  refine ⟨d,?_⟩
  unfold rnF
  rw [if_neg (by rw [hroot h.okF h.neF];decide),if_neg (by rw [hroot h.okT h.neT];decide)]
  exact hd
 ·obtain ⟨h1,⟨h2,_⟩ | ⟨h2,h3⟩⟩:=h.from hq
  ·exact (wthn_ok h2).2
  ·exact hs.ok _ _ h3
 ·obtain ⟨h1,⟨h2,h3,_⟩ | ⟨h2,h3⟩⟩:=h.from hq
  ·exact hs.len _ _ h3
  ·exact hs.len _ _ h3
 ·obtain ⟨h1,⟨h2,h3,_⟩ | ⟨h2,h3⟩⟩:=h.from hq
  ·exact hs.dir _ _ h3
  ·exact hs.dir _ _ h3
 ·obtain ⟨h1,⟨h2,h3,h4,h5⟩ | ⟨h2,h3⟩⟩:=h.from hq
  ·have hk:=(wthn_ok h2).2
   obtain ⟨_,c,hc⟩:=(wthn_iff h.okT).1 h2
   obtain ⟨n1,n2,n3⟩:=nm_par hk hn
   by_cases hcn:c=[]
   ·have e:q=T:=by rw [(okP_pth hk).2.1,(okP_pth h.okT).2.1,hc,hcn,List.append_nil]
    subst e
    obtain ⟨d,hd⟩:=h.up
    refine ⟨d,?_⟩
    unfold rnF
    rw [if_neg (fun hw=>by rw [wthn_par hk hn hw] at h1;cases h1),if_neg (fun hw=>by rw [h.notT hw] at hd;cases hd)]
    exact hd
   ·have hcl:c=c.dropLast++[bas q]:=by
     have e2:nmP q=nmP T++c.dropLast++[c.getLast hcn]:=by
      rw [hc]
      conv=>lhs;rw [← List.dropLast_concat_getLast hcn]
      rw [List.append_assoc]
     have e3:bas q=c.getLast hcn:=by
      unfold bas
      rw [e2];simp
     rw [e3,List.dropLast_concat_getLast]
    have hpT:wthn T (par q)=true:=(wthn_iff h.okT).2 ⟨n3,c.dropLast,by rw [n1,hc,List.dropLast_append_of_ne_nil hcn]⟩
    have hF:=(wthn_ok h4).2
    have nF:nmP (mvP T F q)=nmP F++c:=by
     obtain ⟨m1,_⟩:=mv_eq h.okT h.okF h.neT h.neF hk hc
     rw [m1] at hF ⊢
     refine pth_nm (fun x hx=>?_) (okP_pth hF).2.2
     rcases List.mem_append.1 hx with hx | hx
     ·exact (okP_pth h.okF).1 x hx
     ·exact (okP_pth hk).1 x (by rw [hc];exact List.mem_append_right _ hx)
    have hFn:mvP T F q≠[47]:=fun e=>by
     rw [e,nmP_root] at nF
     exact hcn (List.append_eq_nil_iff.1 nF.symm).2
    obtain ⟨d,hd⟩:=hs.up _ _ h3 hFn
    refine ⟨d,?_⟩
    have e4:mvP T F (par q)=par (mvP T F q):=by
     have g1:=nm_par hF hFn
     obtain ⟨m1,_⟩:=mv_eq h.okT h.okF h.neT h.neF n3 (show nmP (par q)=nmP T++c.dropLast by rw [n1,hc,List.dropLast_append_of_ne_nil hcn])
     rw [m1]
     unfold par
     rw [if_neg (by rw [nF];intro e;exact hcn (List.append_eq_nil_iff.1 e).2),nF,List.dropLast_append_of_ne_nil hcn]
    unfold rnF
    rw [if_neg (fun hw=>h.apart hw hpT),if_pos hpT,e4]
    exact hd
  ·obtain ⟨d,hd⟩:=hs.up _ _ h3 hn
   refine ⟨d,?_⟩
   have hk:=hs.ok _ _ h3
   unfold rnF
   rw [if_neg (fun hw=>by rw [wthn_par hk hn hw] at h1;cases h1),if_neg (fun hw=>by rw [h.notT hw] at hd;cases hd)]
   exact hd
end
open Classical in
noncomputable def doP (s:FS) (o:Opr):Ans×FS :=
 if o.1=1∨o.1=2 then ((rm s o.2.1,0,[],[]),if rm s o.2.1=0 then fset o.2.1 (decide (o.1=2),[]) s else s)
 else if o.1=3∨o.1=4 then wr s o
 else if o.1=5 then (rdA s o,s)
 else if o.1=6 then (((rn s o.2.1 o.2.2.1).1,0,[],[]),(rn s o.2.1 o.2.2.1).2)
 else if o.1=7 then (((rv s o.2.1).1,0,[],[]),(rv s o.2.1).2)
 else if o.1=8 then (ls s o,s)
 else if o.1=9 then (stt s o.2.1,s)
 else ((1,0,[],[]),s)
structure OpOk (o:Opr):Prop where
 p:o.2.1.length≤1100000000
 t:o.2.2.1.length≤1100000000
 d:o.2.2.2.2.2.length≤1100000000
theorem do_eq {s:FS} (hs:Snd s) {n:Nat} (hc:Crd s n) (hn:n≤1000000) (o:Opr) (ho:OpOk o):sDo s o=some (doP s o):=by
 obtain ⟨hp,ht,hd⟩:=ho
 obtain ⟨k,p,t,off,m,d⟩:=o
 simp only at hp ht hd
 unfold sDo doP
 simp only
 have hlen:=fun q f hq=>Nat.le_trans (hs.len q f hq) (show 192≤100000 by decide)
 have hB:BlB s:=hs.blB hc hn
 by_cases h12:k=1∨k=2
 ·rw [if_pos h12]
  have h1:(if k=1 then (some (decide (k=1))) else some (decide (k=2)))=some true:=by
   rcases h12 with h | h<;>subst h<;>rfl
  rw [h1]
  simp only [Option.bind_some,if_true]
  rw [room_eq s p (by omega)]
  simp only [Option.bind_some]
  by_cases h0:rm s p=0
  ·rw [if_pos h0,if_pos h0];rfl
  ·rw [if_neg h0,if_neg h0];rfl
 ·rw [if_neg h12]
  have h1:(if k=1 then (some (decide (k=1))) else some (decide (k=2)))=some false:=by
   rw [if_neg (fun h=>h12 (.inl h)),decide_eq_false (fun h=>h12 (.inr h))]
  rw [h1]
  simp only [Option.bind_some,Bool.false_eq_true,if_false]
  by_cases h34:k=3∨k=4
  ·rw [if_pos h34]
   have h1:(if k=3 then (some (decide (k=3))) else some (decide (k=4)))=some true:=by
    rcases h34 with h | h<;>subst h<;>rfl
   rw [h1]
   simp only [Option.bind_some,if_true]
   rw [write_eq s (k,p,t,off,m,d) h34 (by simp only;omega) (by simp only;omega) hlen]
   rfl
  ·rw [if_neg h34]
   have h1:(if k=3 then (some (decide (k=3))) else some (decide (k=4)))=some false:=by
    rw [if_neg (fun h=>h34 (.inl h)),decide_eq_false (fun h=>h34 (.inr h))]
   rw [h1]
   simp only [Option.bind_some,Bool.false_eq_true,if_false]
   by_cases h5:k=5
   ·rw [if_pos h5,if_pos h5,readA_eq s _ (by simp only;omega) hlen];rfl
   ·rw [if_neg h5,if_neg h5]
    by_cases h6:k=6
    ·rw [if_pos h6,if_pos h6,rename_eq hs hc _ (by simp only;omega) (by simp only;omega)];rfl
    ·rw [if_neg h6,if_neg h6]
     by_cases h7:k=7
     ·rw [if_pos h7,if_pos h7,remove_eq hB p (by omega)];rfl
     ·rw [if_neg h7,if_neg h7]
      by_cases h8:k=8
      ·rw [if_pos h8,if_pos h8,list_eq hB _ (by simp only;omega)];rfl
      ·rw [if_neg h8,if_neg h8]
       by_cases h9:k=9
       ·rw [if_pos h9,if_pos h9,stat_eq hB _ (by omega)];rfl
       ·rw [if_neg h9,if_neg h9];rfl
noncomputable def nx (s:FS) (o:Opr):FS:=if (doP s o).1.1=0 then (doP s o).2 else s
theorem putAt_len' (xs:List UInt8) (d:Nat) (src:List UInt8) (h:d+src.length≤xs.length):(putAt xs d src).length=xs.length:=by
 simp [putAt];omega
theorem nx_ok {s:FS} (hs:Snd s) {n:Nat} (hc:Crd s n) (hn:n≤1000000) (o:Opr):Snd (nx s o)∧Crd (nx s o) (n+1):=by
 have h0:Snd s∧Crd s (n+1):=⟨hs,hc.mono (by omega)⟩
 unfold nx
 by_cases hz:(doP s o).1.1=0
 ·rw [if_pos hz]
  unfold doP at hz ⊢
  by_cases h12:o.1=1∨o.1=2
  ·rw [if_pos h12] at hz ⊢
   simp only at hz ⊢
   rw [if_pos hz]
   exact ⟨hs.create hz _,hc.set _ _⟩
  ·rw [if_neg h12] at hz ⊢
   by_cases h34:o.1=3∨o.1=4
   ·rw [if_pos h34] at hz ⊢
    unfold wr at hz ⊢
    by_cases h1:(rg s o.2.1).2=0
    ·rw [if_pos h1] at hz ⊢
     obtain ⟨fd,h2,h3⟩:=rg_ok h1
     have hfl:fd.length≤192:=hs.len _ _ h2
     rw [h3] at hz ⊢
     generalize hm:(if o.1=3 then o.2.2.2.1 else o.2.2.2.2.1)=m at hz ⊢
     by_cases g1:m<0
     ·rw [if_pos g1] at hz;cases hz
     ·rw [if_neg g1] at hz ⊢
      by_cases g2:192<m∨(o.1=3∧192<o.2.2.2.1+(o.2.2.2.2.2.length:Int))
      ·rw [if_pos g2] at hz;cases hz
      ·rw [if_neg g2]
       by_cases h4:o.1=4
       ·rw [if_pos h4]
        rw [if_neg (by omega)] at hm
        refine ⟨hs.write h2 ?_,(hc.upd (by rw [h2];rfl) _).mono (by omega)⟩
        rw [szd_len]
        have:¬ 192<m:=fun h=>g2 (.inl h)
        omega
       ·rw [if_neg h4]
        have h5:o.1=3:=by omega
        rw [if_pos h5] at hm
        simp only
        split
        ·refine ⟨hs.write h2 ?_,(hc.upd (by rw [h2];rfl) _).mono (by omega)⟩
         have:¬ (192<o.2.2.2.1+(o.2.2.2.2.2.length:Int)):=fun h=>g2 (.inr ⟨h5,h⟩)
         rw [putAt_len' _ _ _ (by rw [szd_len];omega),szd_len]
         omega
        ·exact h0
    ·rw [if_neg h1] at hz;exact absurd hz h1
   ·rw [if_neg h34] at hz ⊢
    by_cases h5:o.1=5
    ·rw [if_pos h5];exact h0
    ·rw [if_neg h5] at hz ⊢
     by_cases h6:o.1=6
     ·rw [if_pos h6] at hz ⊢
      simp only at hz ⊢
      unfold rn at hz ⊢
      by_cases a1:okP o.2.1=true
      ·rw [if_pos a1] at hz ⊢
       by_cases a2:okP o.2.2.1=true
       ·rw [if_pos a2] at hz ⊢
        by_cases a3:(lk s o.2.1).2=0
        ·rw [if_pos a3] at hz ⊢
         by_cases a4:o.2.1=[47]
         ·rw [if_pos a4];exact h0
         ·rw [if_neg a4] at hz ⊢
          by_cases a5:wthn o.2.1 o.2.2.1=true
          ·rw [if_pos a5];exact h0
          ·rw [if_neg a5] at hz ⊢
           by_cases a6:rm s o.2.2.1=0
           ·rw [if_pos a6] at hz ⊢
            by_cases a7:badR s o.2.1 o.2.2.1
            ·rw [if_pos a7];exact h0
            ·rw [if_neg a7]
             have hR:=ren_of hs a1 a3 a4 (by simpa using a5) a6
             obtain ⟨l,hE,hl⟩:=hc
             exact ⟨hR.sound a7,_,hR.enum a7 hE,by simp;omega⟩
           ·rw [if_neg a6];exact h0
        ·rw [if_neg a3];exact h0
       ·rw [if_neg a2];exact h0
      ·rw [if_neg a1];exact h0
     ·rw [if_neg h6] at hz ⊢
      by_cases h7:o.1=7
      ·rw [if_pos h7] at hz ⊢
       simp only at hz ⊢
       unfold rv at hz ⊢
       by_cases b1:(lk s o.2.1).2=0
       ·rw [if_pos b1] at hz ⊢
        by_cases b2:o.2.1=[47]
        ·rw [if_pos b2];exact h0
        ·rw [if_neg b2] at hz ⊢
         by_cases b3:0<(bl s o.2.1).length
         ·rw [if_pos b3];exact h0
         ·rw [if_neg b3]
          have hB:=hs.below hc hn o.2.1
          refine ⟨hs.remove b2 fun q f hq hr hp=>b3 ?_,(hc.del _).mono (by omega)⟩
          exact List.length_pos_of_mem ((hB.mem (bas q)).2 ⟨q,f,hq,hr,hp,rfl⟩)
       ·rw [if_neg b1];exact h0
      ·rw [if_neg h7] at hz ⊢
       by_cases h8:o.1=8
       ·rw [if_pos h8];exact h0
       ·rw [if_neg h8] at hz ⊢
        by_cases h9:o.1=9
        ·rw [if_pos h9];exact h0
        ·rw [if_neg h9];exact h0
 ·rw [if_neg hz];exact h0
theorem fDo_eq {s:FS} (hs:Snd s) {n:Nat} (hc:Crd s n) (hn:n≤200000) (o:Opr) (ho:OpOk o):fDo (prsF s) o=some (prsF (nx s o),(doP s o).1):=by
 obtain ⟨h1,h2,h3,h4⟩:=hs.prs hc (by omega)
 unfold fDo
 rw [fRead_eq _ (by omega) (fun x hx=>by have:=h4 x hx;omega),h2]
 simp only [Option.bind_some,mClone]
 rw [do_eq hs hc (by omega) o ho]
 simp only [Option.bind_some]
 obtain ⟨k1,k2⟩:=nx_ok hs hc (by omega) o
 obtain ⟨h5,_⟩:=k1.prs k2 (by omega)
 unfold nx at h5 ⊢
 by_cases hz:(doP s o).1.1=0
 ·rw [if_pos hz] at h5 ⊢
  rw [if_pos hz,h5];rfl
 ·rw [if_neg hz] at h5 ⊢
  rw [if_neg hz,h5];rfl
theorem samePairs_eq (x y:List P2) (hx:x.length≤100000000):rSamePairs x y=some (decide (x=y)):=by
 unfold rSamePairs
 by_cases hl:(x.length:Int)=(y.length:Int)
 ·rw [if_pos hl]
  refine bind_run (fun k (s:Int)=>s=(k:Int)∧∀ j,j<k→x.getD j ([],[])=y.getD j ([],[])) (fun r=>(r=.inl ()∧x=y)∨(r=.inr false∧x≠y)) x.length ⟨rfl,fun j hj=>by omega⟩ ?_ ?_ ?_
  ·rintro k _ hk ⟨rfl,hne⟩
   rw [if_pos (by omega),idxO_getD ([],[]) rfl hk,idxO_getD ([],[]) rfl (show k<y.length by omega)]
   simp only [Option.bind_some]
   by_cases e1:(x.getD k ([],[])).1=(y.getD k ([],[])).1
   ·rw [if_pos e1]
    by_cases e2:(x.getD k ([],[])).2=(y.getD k ([],[])).2
    ·rw [if_pos e2,i64_id (by omega) (by omega)]
     exact .inl ⟨_,rfl,rfl,fun j hj=>by
      by_cases ej:j=k
      ·subst ej;exact Prod.ext e1 e2
      ·exact hne j (by omega)⟩
    ·rw [if_neg e2]
     exact .inr ⟨_,rfl,.inr ⟨rfl,fun h=>e2 (by rw [h])⟩⟩
   ·rw [if_neg e1]
    exact .inr ⟨_,rfl,.inr ⟨rfl,fun h=>e1 (by rw [h])⟩⟩
  ·rintro _ ⟨rfl,hne⟩
   refine ⟨.inl (),?_,.inl ⟨rfl,List.ext_getElem (by omega) fun j h1 h2=>?_⟩⟩
   ·rw [if_neg (by omega)]
   ·have:=hne j h1
    simpa [List.getD_eq_getElem?_getD,List.getElem?_eq_getElem h1,List.getElem?_eq_getElem h2] using this
  ·rintro _ (⟨rfl,h1⟩ | ⟨rfl,h1⟩)
   ·simp [h1]
   ·simp [h1]
 ·rw [if_neg hl,decide_eq_false fun h=>hl (by rw [h])]
theorem opOk {o:Opr} (h1:o.2.1.length≤400) (h2:o.2.2.1.length≤400) (h3:o.2.2.2.2.2.length≤400):OpOk o:=⟨by omega,by omega,by omega⟩
def s00:FS:=fset [47] (true,[]) fnil
theorem s00_enum:Enum s00 [([47],(true,[]))]:=⟨by simp,fun k=>by
 unfold s00 fset fnil
 simp only [aget]
 by_cases h:k=[47]
 ·rw [if_pos h,if_pos h.symm]
 ·rw [if_neg h,if_neg (Ne.symm h)]⟩
theorem s00_crd:Crd s00 1:=⟨_,s00_enum,by simp⟩
theorem s00_snd:Snd s00:=by
 have h:∀ p f,s00 p=some f→p=[47]∧f=(true,[]):=fun p f hp=>by
  unfold s00 fset fnil at hp
  split at hp
  ·rename_i e;exact ⟨e,(Option.some.inj hp).symm⟩
  ·cases hp
 exact ⟨⟨[],rfl⟩,fun p f hp=>by rw [(h p f hp).1];rfl,fun p f hp=>by rw [(h p f hp).2];simp,fun p d hp=>by have:=(h p _ hp).2;injection this,fun p f hp hn=>absurd (h p f hp).1 hn⟩
theorem fNew_eq:fNew=some (prsF s00):=by
 unfold fNew
 have:=(s00_snd.prs s00_crd (by omega)).1
 show (sPairs s00).bind _=_
 rw [this];rfl
theorem lss_iff:∀ l m:List UInt8,lssB l m=true↔l<m
 | [],[]=>by simp [lssB,Op.bytesLess]
 | [],b::m=>by simp [lssB,Op.bytesLess]
 | a::l,[]=>by simp [lssB,Op.bytesLess]
 | a::l,b::m=>by
  have ih:=lss_iff l m
  unfold lssB at ih ⊢
  rw [List.cons_lt_cons_iff,← ih]
  simp [Op.bytesLess]
abbrev Sn:=List UInt8×Int×List P2
abbrev SS:=List P2×List Sn
theorem cmp_lss:∀ a b:List UInt8,lssB a b=true↔Lib.compareBytes a b<0
 | [],[]=>by simp [lssB,Op.bytesLess,Lib.compareBytes]
 | [],b::m=>by simp [lssB,Op.bytesLess,Lib.compareBytes]
 | a::l,[]=>by simp [lssB,Op.bytesLess,Lib.compareBytes]
 | a::l,b::m=>by
  have ih:=cmp_lss l m
  unfold lssB at ih ⊢
  simp only [Op.bytesLess,Lib.compareBytes,Bool.or_eq_true,Bool.and_eq_true,decide_eq_true_eq,beq_iff_eq]
  by_cases h1:a<b
  ·simp [h1]
  ·rw [if_neg h1]
   by_cases h2:b<a
   ·rw [if_pos h2]
    have:a≠b:=fun e=>by rw [e] at h2;exact absurd h2 (UInt8.lt_irrefl _)
    simp [h1,this]
   ·rw [if_neg h2]
    have:a=b:=by
     rw [← UInt8.toNat_inj]
     rw [UInt8.lt_iff_toNat_lt] at h1 h2
     omega
    simp [this,ih]
theorem cmp_lt (a b:List UInt8):Lib.compareBytes a b<0↔a<b:=(cmp_lss a b).symm.trans (lss_iff a b)
theorem lt_irr (a:List UInt8):¬ a<a:=fun h=>by have:=(cmp_lt a a).2 h;rw [cmp_self] at this;omega
theorem lt_tr {a b c:List UInt8} (h1:a<b) (h2:b<c):a<c:=(cmp_lt a c).1 (cmp_trans a b c ((cmp_lt a b).2 h1) ((cmp_lt b c).2 h2))
theorem lt_or (a b:List UInt8):a<b∨a=b∨b<a:=by
 rcases Int.lt_trichotomy (Lib.compareBytes a b) 0 with h | h | h
 ·exact .inl ((cmp_lt a b).1 h)
 ·exact .inr (.inl (cmp_zero a b h))
 ·exact .inr (.inr ((cmp_lt b a).1 (by rw [cmp_swap];omega)))
theorem nCompare_eq (a b:Sn):nCompare a b=some (Lib.compareBytes a.1 b.1):=rfl
theorem cloneBy_eq (s:List UInt8) (h:s.length≤1000000):cloneBy s=some s:=by
 unfold cloneBy;rw [appO_byte (by simp;omega)];rfl
def SmL (L:List P2):Prop:=L.length≤1000∧∀ x∈L,x.1.length≤10000∧x.2.length≤10000
theorem nPairs_eq (L:List P2) (h:SmL L):nPairs L=some L:=by
 obtain ⟨hl,hb⟩:=h
 unfold nPairs
 refine bind_run (fun k (s:List P2×Int)=>s=(L.take k,(k:Int))) (fun r=>r=L) L.length rfl ?_ ?_ ?_
 ·rintro k _ hk rfl
  have hx:=hb _ (List.getElem_mem hk)
  simp only
  rw [if_pos (by omega),idxO_get hk]
  simp only [Option.bind_some]
  rw [cloneBy_eq _ (by omega),cloneBy_eq _ (by omega)]
  simp only [Option.bind_some]
  rw [appO_of (by simp only [List.length_take,List.length_cons,List.length_nil];omega)]
  exact .inl ⟨_,rfl,by rw [i64_id (by omega) (by omega)];exact Prod.ext (List.take_succ_eq_append_getElem hk).symm rfl⟩
 ·rintro _ rfl
  simp only
  rw [if_neg (by omega),List.take_length];exact ⟨_,rfl,rfl⟩
 ·rintro _ rfl;rfl
structure SmS (s:SS):Prop where
 fl:SmL s.1
 len:s.2.length≤1000
 sn:∀ x∈s.2,SmL x.2.2∧x.1.length≤1000
theorem nCopied_eq (s:SS) (h:SmS s):nCopied s=some s:=by
 obtain ⟨h1,h2,h3⟩:=h
 unfold nCopied
 rw [nPairs_eq _ h1]
 simp only [Option.bind_some]
 refine bind_run (fun k (q:SS×Int)=>q=((s.1,s.2.take k),(k:Int))) (fun r=>r=s) s.2.length rfl ?_ ?_ ?_
 ·rintro k _ hk rfl
  have hx:=h3 _ (List.getElem_mem hk)
  simp only
  rw [if_pos (by omega),idxO_get hk]
  simp only [Option.bind_some]
  rw [nPairs_eq _ hx.1]
  simp only [Option.bind_some]
  rw [appO_of (by simp only [List.length_take,List.length_cons,List.length_nil];omega)]
  exact .inl ⟨_,rfl,by rw [i64_id (by omega) (by omega)];exact Prod.ext (Prod.ext rfl (List.take_succ_eq_append_getElem hk).symm) rfl⟩
 ·rintro _ rfl
  simp only
  rw [if_neg (by omega),List.take_length];exact ⟨_,rfl,rfl⟩
 ·rintro _ rfl;rfl
def unN (s:SS):Nat:=s.1.length+(s.2.map fun x=>1+x.2.2.length).sum
theorem sum_le {α:Type} (f:α→Nat) (m:Nat):∀ l:List α,(∀ x∈l,f x≤m)→(l.map f).sum≤l.length * m
 | [],_=>by simp
 | a::l,h=>by
  have:=sum_le f m l fun x hx=>h x (List.mem_cons_of_mem _ hx)
  have:=h a (List.mem_cons_self ..)
  simp only [List.map_cons,List.sum_cons,List.length_cons,Nat.succ_mul];omega
theorem sum_ge {α:Type} (f:α→Nat) (m:Nat):∀ l:List α,(∀ x∈l,m≤f x)→l.length * m≤(l.map f).sum
 | [],_=>by simp
 | a::l,h=>by
  have:=sum_ge f m l fun x hx=>h x (List.mem_cons_of_mem _ hx)
  have:=h a (List.mem_cons_self ..)
  simp only [List.map_cons,List.sum_cons,List.length_cons,Nat.succ_mul];omega
theorem sum_mem {α:Type} (f:α→Nat):∀ {l:List α} {x:α},x∈l→f x≤(l.map f).sum
 | a::l,x,h=>by
  simp only [List.map_cons,List.sum_cons]
  rcases List.mem_cons.1 h with rfl | h
  ·omega
  ·have:=sum_mem f h;omega
theorem nUnits_eqW (s:SS) (h1:s.1.length≤1000000) (h2:s.2.length≤1001) (h3:∀ x∈s.2,x.2.2.length≤1000):nUnits s=some (unN s:Int):=by
 unfold nUnits
 refine bind_run (fun k (q:Int×Int)=>q=((s.1.length:Int)+(((s.2.take k).map fun x=>1+x.2.2.length).sum:Nat),(k:Int))) (fun r=>r=(unN s:Int)) s.2.length (by simp) ?_ ?_ ?_
 ·rintro k _ hk rfl
  have hx:=h3 _ (List.getElem_mem hk)
  have hs:((s.2.take k).map fun x=>1+x.2.2.length).sum≤1001 * 1001:=Nat.le_trans (sum_le _ 1001 _ fun x hx=>by have:=h3 x (List.mem_of_mem_take hx);omega) (Nat.mul_le_mul_right _ (by rw [List.length_take];omega))
  simp only
  rw [if_pos (by omega),idxO_get hk]
  simp only [Option.bind_some]
  refine .inl ⟨_,rfl,?_⟩
  rw [i64_id (n:=1+(s.2[k].2.2.length:Int)) (by omega) (by omega),i64_id (by omega) (by omega),i64_id (by omega) (by omega),List.take_succ_eq_append_getElem hk]
  refine Prod.ext ?_ rfl
  simp only [List.map_append,List.map_cons,List.map_nil,List.sum_append,List.sum_cons,List.sum_nil];omega
 ·rintro _ rfl
  simp only
  rw [if_neg (by omega),List.take_length];exact ⟨_,rfl,by unfold unN;omega⟩
 ·rintro _ rfl;rfl
theorem nUnits_eq (s:SS) (h:SmS s):nUnits s=some (unN s:Int):=nUnits_eqW s (by have:=h.fl.1;omega) (by have:=h.len;omega) fun x hx=>(h.sn x hx).1.1
def RF (L:List P2):Prop:=Snd (rdF L)∧prsF (rdF L)=L
structure Rt (s:SS):Prop where
 fl:RF s.1
 sn:∀ x∈s.2,RF x.2.2∧isNm x.1=true
 srt:s.2.Pairwise fun a b=>a.1<b.1
 un:unN s≤48
theorem RF.small {L:List P2} (h:RF L) (hl:L.length≤1000):SmL L:=by
 have:=(h.1.prs (rdF_crd L) (by omega)).2.2.2
 rw [h.2] at this
 exact ⟨hl,fun x hx=>by have:=this x hx;omega⟩
theorem isNm_len {x:List UInt8} (h:isNm x=true):x.length≤8:=by unfold isNm at h;simp at h;exact h.2
theorem Rt.len {s:SS} (h:Rt s):s.1.length≤48∧s.2.length≤48∧∀ x∈s.2,x.2.2.length≤48:=by
 have h1:=h.un
 unfold unN at h1
 have h2:=sum_ge (fun x:Sn=>1+x.2.2.length) 1 s.2 fun x _=>by omega
 refine ⟨by omega,by omega,fun x hx=>?_⟩
 have:1+x.2.2.length≤(s.2.map fun x=>1+x.2.2.length).sum:=sum_mem (fun x:Sn=>1+x.2.2.length) hx
 omega
theorem Rt.small {s:SS} (h:Rt s):SmS s:=by
 obtain ⟨h1,h2,h3⟩:=h.len
 exact ⟨h.fl.small (by omega),by omega,fun x hx=>⟨(h.sn x hx).1.small (by have:=h3 x hx;omega),by have:=isNm_len (h.sn x hx).2;omega⟩⟩
theorem loop_wf {σ ρ:Type} {f:σ→Option (σ ⊕ ρ)} (I:σ→Prop) (Q:ρ→Prop) (m:σ→Nat) (hs:∀ s,I s→(∃ s',f s=some (.inl s')∧I s'∧m s'<m s)∨∃ r,f s=some (.inr r)∧Q r):∀ (n:Nat) (s:σ),m s<n→I s→∃ r,loopO f s=some r∧Q r
 | 0,_,h,_=>by omega
 | n+1,s,h,hi=>by
  rcases hs s hi with ⟨s',h1,h2,h3⟩ | ⟨r,h1,h2⟩
  ·obtain ⟨r,h4,h5⟩:=loop_wf I Q m hs n s' (by omega) h2
   exact ⟨r,by rw [loopO_eq,h1];exact h4,h5⟩
  ·exact ⟨r,by rw [loopO_eq,h1];rfl,h2⟩
theorem bind_wf {σ ρ τ:Type} {f:σ→Option (σ ⊕ ρ)} {k:ρ→Option τ} {t:τ} (I:σ→Prop) (Q:ρ→Prop) (m:σ→Nat) {s0:σ} (h0:I s0)
  (hs:∀ s,I s→(∃ s',f s=some (.inl s')∧I s'∧m s'<m s)∨∃ r,f s=some (.inr r)∧Q r) (hk:∀ r,Q r→k r=some t):Option.bind (loopO f s0) k=some t:=by
 obtain ⟨r,h1,h2⟩:=loop_wf I Q m hs _ s0 (Nat.lt_succ_self _) h0
 rw [h1];exact hk r h2
theorem mid_eq {i j:Nat} (h:i+j≤1000000):IntKind.i64.wrap (shrI .u64 (IntKind.u64.wrap (IntKind.i64.wrap ((i:Int)+(j:Int)))) 1)=(((i+j) / 2:Nat):Int):=by
 rw [i64_id (n:=(i:Int)+j) (by omega) (by omega),u64_id (by omega) (by omega)]
 have:shrI .u64 ((i:Int)+(j:Int)) 1=(((i+j) / 2:Nat):Int):=by
  show Int.fdiv ((i:Int)+(j:Int)) 2=_
  rw [Int.fdiv_eq_ediv_of_nonneg _ (by omega)];omega
 rw [this,i64_id (by omega) (by omega)]
theorem bs_run (A B:List Sn) (T:List UInt8) (hA:∀ a∈A,a.1<T) (hB:∀ b∈B,¬ b.1<T) (hl:(A++B).length≤100000) (t:Sn) (ht:t.1=T):bsSnap (A++B) t=some ((A.length:Int),decide ((B.head?.map (·.1))=some T)):=by
 subst ht
 have low:∀ (k:Nat) (h:k<(A++B).length),k<A.length→((A++B)[k]).1<t.1:=fun k h hk=>by rw [List.getElem_append_left hk];exact hA _ (List.getElem_mem _)
 have high:∀ (k:Nat) (h:k<(A++B).length),A.length≤k→¬ ((A++B)[k]).1<t.1:=fun k h hk=>by rw [List.getElem_append_right hk];exact hB _ (List.getElem_mem _)
 unfold bsSnap
 refine bind_wf (fun s=>∃ i j:Nat,s=((i:Int),(j:Int))∧i≤A.length∧A.length≤j∧j≤(A++B).length) (fun r=>r=(A.length:Int)) (fun s=>(s.2 - s.1).toNat) ⟨0,_,rfl,by omega,by simp,by omega⟩ ?_ ?_
 ·rintro _ ⟨i,j,rfl,h3,h4,h5⟩
  simp only
  by_cases h:(i:Int)<(j:Int)
  ·rw [if_pos h,mid_eq (by omega),idxO_get (show (i+j) / 2<(A++B).length by omega)]
   simp only [Option.bind_some,nCompare_eq,cmp_lt]
   by_cases h6:((A++B)[(i+j) / 2]'(by omega)).1<t.1
   ·rw [if_pos h6,i64_id (by omega) (by omega)]
    have h7:(i+j) / 2<A.length:=by
     rcases Nat.lt_or_ge ((i+j) / 2) A.length with h8 | h8
     ·exact h8
     ·exact absurd h6 (high _ (by omega) h8)
    exact .inl ⟨_,rfl,⟨(i+j) / 2+1,j,rfl,by omega,by omega,by omega⟩,by simp only;omega⟩
   ·rw [if_neg h6]
    have h7:A.length≤(i+j) / 2:=by
     rcases Nat.lt_or_ge ((i+j) / 2) A.length with h8 | h8
     ·exact absurd (low _ (by omega) h8) h6
     ·exact h8
    exact .inl ⟨_,rfl,⟨i,(i+j) / 2,rfl,by omega,by omega,by omega⟩,by simp only;omega⟩
  ·rw [if_neg h]
   exact .inr ⟨_,rfl,by omega⟩
 ·rintro _ rfl
  cases B with
  | nil =>
   rw [if_neg (by simp)];simp
  | cons b B =>
   rw [if_pos (by simp;omega),idxO_get (show A.length<(A++b::B).length by simp)]
   simp only [Option.bind_some,nCompare_eq,List.getElem_append_right (Nat.le_refl A.length),Nat.sub_self,List.getElem_cons_zero,List.head?_cons,Option.map_some,Option.some.injEq]
   congr 2
   have:(Lib.compareBytes b.1 t.1=0)↔b.1=t.1:=⟨fun h=>cmp_zero _ _ h,fun h=>by rw [h];exact cmp_self _⟩
   exact propext this
section
variable {β:Type}
def loS (xs:List (List UInt8×β)) (T:List UInt8):List (List UInt8×β):=xs.filter fun x=>decide (x.1<T)
def hiS (xs:List (List UInt8×β)) (T:List UInt8):List (List UInt8×β):=xs.filter fun x=>decide (T<x.1)
def atS (xs:List (List UInt8×β)) (T:List UInt8):Option (List UInt8×β):=xs.find? fun x=>decide (x.1=T)
theorem part_of {xs:List (List UInt8×β)} (h:xs.Pairwise fun a b=>a.1<b.1) (T:List UInt8):xs=loS xs T++((atS xs T).toList++hiS xs T):=by
 induction xs with
 | nil=>rfl
 | cons x xs ih =>
  obtain ⟨h1,h2⟩:=List.pairwise_cons.1 h
  rcases lt_or x.1 T with h3 | h3 | h3
  ·have e1:loS (x::xs) T=x::loS xs T:=by unfold loS;rw [List.filter_cons,if_pos (decide_eq_true h3)]
   have e2:hiS (x::xs) T=hiS xs T:=by unfold hiS;rw [List.filter_cons,if_neg (by simpa using fun h4=>lt_irr _ (lt_tr h3 h4))]
   have e3:atS (x::xs) T=atS xs T:=by unfold atS;rw [List.find?_cons_of_neg (by simpa using fun h4=>lt_irr T (by rw [h4] at h3;exact h3))]
   rw [e1,e2,e3,List.cons_append,← ih h2]
  ·have e1:loS (x::xs) T=[]:=List.filter_eq_nil_iff.2 fun y hy=>by
    rcases List.mem_cons.1 hy with rfl | hy
    ·simp [h3,lt_irr T]
    ·have:=h1 y hy;rw [h3] at this;simpa using fun h4=>lt_irr _ (lt_tr this h4)
   have e2:hiS (x::xs) T=xs:=by
    unfold hiS
    rw [List.filter_cons,if_neg (by rw [h3];simp [lt_irr T]),List.filter_eq_self.2 fun y hy=>decide_eq_true (by rw [← h3];exact h1 y hy)]
   have e3:atS (x::xs) T=some x:=by unfold atS;rw [List.find?_cons_of_pos (by simpa using h3)]
   rw [e1,e2,e3];rfl
  ·have hall:∀ y∈x::xs,T<y.1:=fun y hy=>by
    rcases List.mem_cons.1 hy with rfl | hy
    ·exact h3
    ·exact lt_tr h3 (h1 y hy)
   have e1:loS (x::xs) T=[]:=List.filter_eq_nil_iff.2 fun y hy=>by simpa using fun h4=>lt_irr _ (lt_tr (hall y hy) h4)
   have e2:hiS (x::xs) T=x::xs:=List.filter_eq_self.2 fun y hy=>decide_eq_true (hall y hy)
   have e3:atS (x::xs) T=none:=List.find?_eq_none.2 fun y hy=>by simpa using fun h4=>lt_irr T (by have:=hall y hy;rw [h4] at this;exact this)
   rw [e1,e2,e3];rfl
theorem lo_lt {xs:List (List UInt8×β)} {T:List UInt8}:∀ a∈loS xs T,a.1<T:=fun a ha=>of_decide_eq_true (List.mem_filter.1 ha).2
theorem hi_lt {xs:List (List UInt8×β)} {T:List UInt8}:∀ a∈hiS xs T,T<a.1:=fun a ha=>of_decide_eq_true (List.mem_filter.1 ha).2
theorem at_eq {xs:List (List UInt8×β)} {T:List UInt8} {x:List UInt8×β} (h:atS xs T=some x):x.1=T∧x∈xs:=⟨by simpa using List.find?_some h,List.mem_of_find?_eq_some h⟩
end
theorem cut_at {α:Type} {xs A B:List α} {x:α} (h:xs=A++([x]++B)):xs.take A.length++xs.drop (A.length+1)=A++B∧xs[A.length]?=some x:=by
 subst h
 refine ⟨?_,by simp⟩
 rw [List.take_left' rfl,← List.append_assoc,List.drop_left' (by simp)]
theorem put_at {α:Type} {xs A B:List α} (y:List α) (h:xs=A++B):xs.take A.length++y++xs.drop A.length=A++(y++B):=by
 subst h
 rw [List.take_left' rfl,List.drop_left' rfl,List.append_assoc]
def snP (s:SS) (o:Opr) (gen:Int):Int×SS :=
 if isNm o.2.1=false then (90,s) else
 match atS s.2 o.2.1 with
 | some x=>if o.1=10 then (92,s) else if o.1=11 then (0,(s.1,loS s.2 o.2.1++hiS s.2 o.2.1)) else (0,(x.2.2,s.2))
 | none=>if o.1=10 then (0,(s.1,loS s.2 o.2.1++(o.2.1,gen,s.1)::hiS s.2 o.2.1)) else (91,s)
theorem nSnap_eq (s:SS) (o:Opr) (gen:Int) (hs:s.2.Pairwise fun a b=>a.1<b.1) (h:SmS s) (ho:o.2.1.length≤1500000000):nSnap s o gen=some (snP s o gen):=by
 unfold nSnap snP
 rw [name_eq _ ho]
 simp only [Option.bind_some]
 cases h1:isNm o.2.1 with
 | false=>rw [if_pos (show (!false)=true from rfl),if_pos rfl]
 | true =>
  rw [if_neg (by simp),if_neg (by simp)]
  have hp:=part_of hs o.2.1
  have hl:=h.len
  cases h2:atS s.2 o.2.1 with
  | some x =>
   rw [h2] at hp
   have hx:=at_eq h2
   have hb:bsSnap s.2 (o.2.1,0,[])=some (((loS s.2 o.2.1).length:Int),true):=by
    have:=bs_run (loS s.2 o.2.1) ((some x).toList++hiS s.2 o.2.1) o.2.1 lo_lt (fun b hb=>by
     rcases List.mem_append.1 hb with hb | hb
     ·obtain rfl:b=x:=by simpa using hb
      rw [hx.1];exact lt_irr _
     ·exact fun h4=>lt_irr _ (lt_tr h4 (hi_lt b hb))) (by rw [← hp];omega) (o.2.1,0,[]) rfl
    rw [← hp] at this
    rw [this];simp [hx.1]
   rw [hb]
   simp only [Option.bind_some]
   have hlen:(loS s.2 o.2.1).length<s.2.length:=by
    have:=congrArg List.length hp
    simp only [List.length_append,Option.toList_some,List.length_cons,List.length_nil] at this;omega
   by_cases h3:o.1=10
   ·rw [if_pos h3,if_pos trivial]
    simp only [Option.bind_some,Sum.elim_inr]
    rw [if_pos h3]
   ·rw [if_neg h3,if_neg h3,if_neg (show ¬ (!true)=true by simp)]
    by_cases h4:o.1=11
    ·have hd:delSnap s.2 ((loS s.2 o.2.1).length:Int) (((loS s.2 o.2.1).length:Int)+1)=some (loS s.2 o.2.1++hiS s.2 o.2.1):=by
      unfold delSnap cutO
      rw [if_pos ⟨by omega,rfl,by omega⟩]
      congr 1
      rw [Int.toNat_natCast]
      exact (cut_at hp).1
     rw [if_pos h4,i64_id (by omega) (by omega),hd]
     simp only [Option.bind_some,Sum.elim_inl,Sum.elim_inr]
     rw [if_neg h3,if_pos h4]
    ·have hgx:s.2[(loS s.2 o.2.1).length]'hlen=x:=by
      have:s.2[(loS s.2 o.2.1).length]?=some x:=(cut_at hp).2
      rw [List.getElem?_eq_getElem hlen] at this
      exact Option.some.inj this
     rw [if_neg h4,idxO_get hlen,hgx]
     simp only [Option.bind_some]
     rw [nPairs_eq _ (h.sn x hx.2).1]
     simp only [Option.bind_some,Sum.elim_inl,Sum.elim_inr]
     rw [if_neg h3,if_neg h4]
  | none =>
   rw [h2] at hp
   simp only [Option.toList_none,List.nil_append] at hp
   have hb:bsSnap s.2 (o.2.1,0,[])=some (((loS s.2 o.2.1).length:Int),false):=by
    have:=bs_run (loS s.2 o.2.1) (hiS s.2 o.2.1) o.2.1 lo_lt (fun b hb h4=>lt_irr _ (lt_tr h4 (hi_lt b hb))) (by rw [← hp];omega) (o.2.1,0,[]) rfl
    rw [← hp] at this
    rw [this]
    congr 2
    refine decide_eq_false fun h5=>?_
    cases h6:hiS s.2 o.2.1 with
    | nil=>rw [h6] at h5;cases h5
    | cons b B =>
     rw [h6] at h5
     have:=hi_lt b (by rw [h6];exact List.mem_cons_self ..)
     simp at h5
     rw [h5] at this
     exact lt_irr _ this
   rw [hb]
   simp only [Option.bind_some]
   have hlen:(loS s.2 o.2.1).length≤s.2.length:=by
    have:=congrArg List.length hp
    simp only [List.length_append] at this;omega
   by_cases h3:o.1=10
   ·have hi:insSnap s.2 ((loS s.2 o.2.1).length:Int) [(o.2.1,gen,s.1)]=some (loS s.2 o.2.1++(o.2.1,gen,s.1)::hiS s.2 o.2.1):=by
     unfold insSnap insO
     rw [if_pos ⟨by omega,by omega,by omega,rfl⟩,Int.toNat_natCast]
     congr 1
     exact put_at [(o.2.1,gen,s.1)] hp
    rw [if_pos h3,if_neg (by simp),if_pos h3,nPairs_eq _ h.fl]
    simp only [Option.bind_some]
    rw [hi]
    simp only [Option.bind_some,Sum.elim_inl]
    rw [if_pos h3]
   ·rw [if_neg h3,if_neg h3,if_pos (show (!false)=true from rfl)]
    simp only [Option.bind_some,Sum.elim_inr]
    rw [if_neg h3]
theorem gtr_lss (a b:List UInt8):gtrB a b=lssB b a:=by
 unfold gtrB
 cases h:lssB b a with
 | true =>
  have h1:=(lss_iff b a).1 h
  cases h2:lssB a b with
  | true=>exact absurd (lt_tr h1 ((lss_iff a b).1 h2)) (lt_irr _)
  | false =>
   cases h3:a==b with
   | true=>rw [beq_iff_eq] at h3;rw [h3] at h1;exact absurd h1 (lt_irr _)
   | false=>rfl
 | false =>
  rcases lt_or a b with h1 | h1 | h1
  ·rw [(lss_iff a b).2 h1];rfl
  ·rw [h1];simp
  ·rw [(lss_iff b a).2 h1] at h;cases h
def lsP (s:SS) (T:List UInt8):Ans:=(0,(s.2.length:Int),[],((s.2.map (·.1)).filter fun n=>lssB T n).take 6)
theorem six_step (B:List (List UInt8)) (T:List UInt8) (k:Nat) (hk:k<B.length):(if lssB T B[k]=true then (if ((((B.take k).filter fun n=>lssB T n).take 6).length:Int)<6 then (((B.take k).filter fun n=>lssB T n).take 6)++[B[k]] else (((B.take k).filter fun n=>lssB T n).take 6)) else (((B.take k).filter fun n=>lssB T n).take 6))=((B.take (k+1)).filter fun n=>lssB T n).take 6:=by
 rw [List.take_succ_eq_append_getElem hk,List.filter_append]
 generalize (B.take k).filter (fun n=>lssB T n)=F
 by_cases h:lssB T B[k]=true
 ·rw [if_pos h,List.filter_cons,if_pos h,List.filter_nil]
  by_cases h2:F.length<6
  ·rw [if_pos (by rw [List.length_take];omega),List.take_of_length_le (by omega),List.take_of_length_le (by simp;omega)]
  ·rw [if_neg (by rw [List.length_take];omega),List.take_append_of_le_length (by omega)]
 ·rw [if_neg h,List.filter_cons,if_neg h,List.filter_nil,List.append_nil]
theorem nList_eq (s:SS) (T:List UInt8) (h:s.2.length≤100000):nList s T=some (lsP s T):=by
 unfold nList
 refine bind_run (fun k (q:List (List UInt8)×Int)=>q=((((s.2.map (·.1)).take k).filter fun n=>lssB T n).take 6,(k:Int))) (fun r=>r=((s.2.map (·.1)).filter fun n=>lssB T n).take 6) s.2.length (by simp) ?_ ?_ ?_
 ·rintro k _ hk rfl
  simp only
  rw [if_pos (by omega),idxO_get hk]
  simp only [Option.bind_some,gtr_lss]
  have hk':k<(s.2.map (·.1)).length:=by simpa using hk
  have hs:=six_step (s.2.map (·.1)) T k hk'
  simp only [List.getElem_map] at hs
  refine .inl ⟨_,?_,rfl⟩
  rw [← hs,i64_id (by omega) (by omega)]
  by_cases h1:lssB T s.2[k].1=true
  ·rw [if_pos h1,if_pos h1]
   by_cases h2:((((((s.2.map (·.1)).take k).filter fun n=>lssB T n).take 6).length:Nat):Int)<6
   ·rw [if_pos h2,if_pos h2,appO_of (by rw [List.length_take];simp;omega)];rfl
   ·rw [if_neg h2,if_neg h2];rfl
  ·rw [if_neg h1,if_neg h1];rfl
 ·rintro _ rfl
  simp only
  rw [if_neg (by omega),show (s.2.map (·.1)).take s.2.length=s.2.map (·.1) from List.take_of_length_le (by simp)];exact ⟨_,rfl,rfl⟩
 ·rintro _ rfl;rfl
noncomputable def opP (s:SS) (o:Opr) (gen:Int):SS×Ans :=
 if o.1=10∨o.1=11∨o.1=12 then ((snP s o gen).2,((snP s o gen).1,0,[],[]))
 else if o.1=13 then (s,lsP s o.2.2.1)
 else ((prsF (nx (rdF s.1) o),s.2),(doP (rdF s.1) o).1)
noncomputable def stP (s:SS) (o:Opr) (gen:Int):SS×Ans :=
 if (opP s o gen).2.1=0 then (if 48<unN (opP s o gen).1 then (s,(98,0,[],[])) else opP s o gen) else (s,(opP s o gen).2)
theorem prs_len {s:FS} (hs:Snd s) {n:Nat} (hc:Crd s n) (hn:n≤1000):(prsF s).length≤4 * n∧∀ x∈prsF s,x.1.length≤100∧x.2.length≤100:=(hs.prs hc (by omega)).2.2
theorem RF.of {s:FS} (hs:Snd s) {n:Nat} (hc:Crd s n) (hn:n≤1000):RF (prsF s):=by
 have h:=(hs.prs hc (by omega)).2.1
 exact ⟨by rw [h];exact hs,by rw [h]⟩
theorem RF.nx {L:List P2} (h:RF L) (hl:L.length≤100) (o:Opr):RF (prsF (nx (rdF L) o))∧(prsF (nx (rdF L) o)).length≤4 * (L.length+1):=by
 obtain ⟨h1,h2⟩:=nx_ok h.1 (rdF_crd L) (by omega) o
 exact ⟨RF.of h1 h2 (by omega),(prs_len h1 h2 (by omega)).1⟩
structure Rt' (s:SS):Prop where
 fl:RF s.1
 fln:s.1.length≤400
 sn:∀ x∈s.2,RF x.2.2∧isNm x.1=true∧x.2.2.length≤400
 srt:s.2.Pairwise fun a b=>a.1<b.1
 len:s.2.length≤400
theorem Rt.w {s:SS} (h:Rt s):Rt' s:=by
 obtain ⟨h1,h2,h3⟩:=h.len
 exact ⟨h.fl,by omega,fun x hx=>⟨(h.sn x hx).1,(h.sn x hx).2,by have:=h3 x hx;omega⟩,h.srt,by omega⟩
theorem Rt'.rt {s:SS} (h:Rt' s) (hn:unN s≤48):Rt s:=⟨h.fl,fun x hx=>⟨(h.sn x hx).1,(h.sn x hx).2.1⟩,h.srt,hn⟩
theorem Rt'.small {s:SS} (h:Rt' s):SmS s:=⟨h.fl.small (by have:=h.fln;omega),by have:=h.len;omega,fun x hx=>⟨(h.sn x hx).1.small (by have:=(h.sn x hx).2.2;omega),by have:=isNm_len (h.sn x hx).2.1;omega⟩⟩
theorem mem_lo {β:Type} {xs:List (List UInt8×β)} {T:List UInt8} {x:List UInt8×β} (h:x∈loS xs T):x∈xs:=(List.mem_filter.1 h).1
theorem mem_hi {β:Type} {xs:List (List UInt8×β)} {T:List UInt8} {x:List UInt8×β} (h:x∈hiS xs T):x∈xs:=(List.mem_filter.1 h).1
theorem snP_rt {s:SS} (h:Rt s) (o:Opr) (gen:Int):Rt' (snP s o gen).2:=by
 have hw:=h.w
 obtain ⟨l1,l2,l3⟩:=h.len
 have hlo:(loS s.2 o.2.1).length≤s.2.length:=List.length_filter_le _ _
 have hhi:(hiS s.2 o.2.1).length≤s.2.length:=List.length_filter_le _ _
 have slo:(loS s.2 o.2.1).Pairwise fun a b=>a.1<b.1:=h.srt.filter _
 have shi:(hiS s.2 o.2.1).Pairwise fun a b=>a.1<b.1:=h.srt.filter _
 unfold snP
 split
 ·exact hw
 ·rename_i hnm
  split
  ·rename_i x hx
   split
   ·exact hw
   ·split
    ·refine ⟨hw.fl,hw.fln,fun y hy=>?_,?_,?_⟩
     ·rcases List.mem_append.1 hy with hy | hy
      ·exact hw.sn y (mem_lo hy)
      ·exact hw.sn y (mem_hi hy)
     ·exact List.pairwise_append.2 ⟨slo,shi,fun a ha b hb=>lt_tr (lo_lt a ha) (hi_lt b hb)⟩
     ·simp only [List.length_append];omega
    ·have hm:=(at_eq hx).2
     exact ⟨(h.sn x hm).1,by have:=l3 x hm;simp only;omega,hw.sn,hw.srt,hw.len⟩
  ·split
   ·refine ⟨hw.fl,hw.fln,fun y hy=>?_,?_,?_⟩
    ·rcases List.mem_append.1 hy with hy | hy
     ·exact hw.sn y (mem_lo hy)
     ·rcases List.mem_cons.1 hy with rfl | hy
      ·exact ⟨h.fl,by simpa using hnm,hw.fln⟩
      ·exact hw.sn y (mem_hi hy)
    ·refine List.pairwise_append.2 ⟨slo,List.pairwise_cons.2 ⟨fun b hb=>hi_lt b hb,shi⟩,fun a ha b hb=>?_⟩
     rcases List.mem_cons.1 hb with rfl | hb
     ·exact lo_lt a ha
     ·exact lt_tr (lo_lt a ha) (hi_lt b hb)
    ·simp only [List.length_append,List.length_cons];omega
   ·exact hw
theorem opP_rt {s:SS} (h:Rt s) (o:Opr) (gen:Int):Rt' (opP s o gen).1:=by
 have hw:=h.w
 obtain ⟨l1,l2,l3⟩:=h.len
 unfold opP
 split
 ·exact snP_rt h o gen
 ·split
  ·exact hw
  ·obtain ⟨h1,h2⟩:=h.fl.nx (by omega) o
   exact ⟨h1,by simp only;omega,hw.sn,hw.srt,hw.len⟩
theorem stP_rt {s:SS} (h:Rt s) (o:Opr) (gen:Int):Rt (stP s o gen).1:=by
 unfold stP
 split
 ·split
  ·exact h
  ·exact (opP_rt h o gen).rt (by omega)
 ·exact h
theorem nDo_eq {s:SS} (h:Rt s) (o:Opr) (gen:Int) (ho:OpOk o):nDo s o gen=some (stP s o gen):=by
 obtain ⟨l1,l2,l3⟩:=h.len
 have hc:=nCopied_eq s h.small
 have hfd:fDo s.1 o=some (prsF (nx (rdF s.1) o),(doP (rdF s.1) o).1):=by
  have:=fDo_eq h.fl.1 (rdF_crd s.1) (by omega) o ho
  rw [h.fl.2] at this;exact this
 have hrt:=opP_rt h o gen
 unfold nDo
 rw [hc]
 simp only [Option.bind_some]
 have key:∀ (K:(SS×Ans×SS)→Option (SS×Ans)),(Option.bind (α:=(SS×Ans×SS)) (Option.bind (α:=Bool) (if o.1=10 then (some (decide (o.1=10))) else (Option.bind (α:=Bool) (if o.1=11 then (some (decide (o.1=11))) else (some (decide (o.1=12)))) fun r104=>some r104)) fun r101=>Option.bind (α:=(SS×Ans×SS)) (if r101=true then ((nSnap (s.1,s.2) (o.1,o.2.1,o.2.2.1,o.2.2.2.1,o.2.2.2.2.1,o.2.2.2.2.2) gen).bind fun x143 =>
   some (x143.2,(x143.1,0,([]:List UInt8),([]:List (List UInt8))),s))
   else (Option.bind (α:=(SS×Ans×SS)) (if o.1=13 then ((nList s o.2.2.1).bind fun x162=>some ((s.1,s.2),x162,s))
   else ((fDo s.1 (o.1,o.2.1,o.2.2.1,o.2.2.2.1,o.2.2.2.2.1,o.2.2.2.2.2)).bind fun x168=>some ((x168.1,(s.1,s.2).2),x168.2,(s.1,s.2)))) fun r158=>some (r158.1,r158.2.1,r158.2.2))) fun r139=>some (r139.1,r139.2.1,r139.2.2)) fun r94=>K r94)=K ((opP s o gen).1,(opP s o gen).2,s):=by
  intro K
  have e:∀ (b:Bool) (X Y:Option (SS×Ans×SS)),(Option.bind (α:=Bool) (if o.1=10 then (some (decide (o.1=10))) else (Option.bind (α:=Bool) (if o.1=11 then (some (decide (o.1=11))) else (some (decide (o.1=12)))) fun r104=>some r104)) fun r101=>Option.bind (α:=(SS×Ans×SS)) (if r101=true then X else Y) fun r139=>some (r139.1,r139.2.1,r139.2.2))=(if o.1=10∨o.1=11∨o.1=12 then X else Y):=by
   intro b X Y
   have e2:∀ Z:Option (SS×Ans×SS),(Option.bind Z fun r139=>some (r139.1,r139.2.1,r139.2.2))=Z:=fun Z=>by cases Z<;>rfl
   by_cases h1:o.1=10
   ·simp only [h1,if_pos,Option.bind_some,decide_true,e2,true_or]
   ·by_cases h2:o.1=11
    ·rw [if_neg h1,if_pos h2]
     simp only [Option.bind_some,h2,decide_true,if_pos,e2,true_or,or_true]
    ·rw [if_neg h1,if_neg h2]
     simp only [Option.bind_some,e2,h1,h2,false_or,decide_eq_true_eq]
  rw [e true]
  unfold opP
  by_cases h1:o.1=10∨o.1=11∨o.1=12
  ·rw [if_pos h1,if_pos h1,show nSnap (s.1,s.2) (o.1,o.2.1,o.2.2.1,o.2.2.2.1,o.2.2.2.2.1,o.2.2.2.2.2) gen=some (snP s o gen) from nSnap_eq s o gen h.srt h.small (by have:=ho.p;omega)]
   rfl
  ·rw [if_neg h1,if_neg h1]
   by_cases h2:o.1=13
   ·rw [if_pos h2,if_pos h2,nList_eq s _ (by omega)];rfl
   ·rw [if_neg h2,if_neg h2,show fDo s.1 (o.1,o.2.1,o.2.2.1,o.2.2.2.1,o.2.2.2.2.1,o.2.2.2.2.2)=_ from hfd];rfl
 refine (key _).trans ?_
 simp only
 unfold stP
 by_cases h1:(opP s o gen).2.1=0
 ·rw [if_pos h1,if_pos h1,show nUnits ((opP s o gen).1.1,(opP s o gen).1.2)=_ from nUnits_eq (opP s o gen).1 hrt.small]
  simp only [Option.bind_some]
  by_cases h2:48<unN (opP s o gen).1
  ·rw [if_pos (by omega),if_pos h2]
   simp only [Option.bind_some]
   rw [if_neg (by decide),hc];rfl
  ·rw [if_neg (by omega),if_neg h2]
   simp only [Option.bind_some]
   rw [if_pos h1]
 ·rw [if_neg h1,if_neg h1,if_neg h1,hc];rfl
theorem s00_prs:prsF s00=[([110,47],[100])]:=by
 rw [prs_of s00_snd s00_enum (by simp)];decide +kernel
def s1f:FS:=fset [47,97] (false,[]) s00
theorem s1f_room:rm s00 [47,97]=0:=by decide +kernel
theorem s1f_snd:Snd s1f:=s00_snd.create s1f_room false
theorem s1f_prs:(prsF s1f).length=2:=by
 rw [prs_of s1f_snd (enum_set s00_enum [47,97] (false,[])) (by decide),prs2_len];decide
noncomputable def S0:SS:=(prsF s00,[])
noncomputable def S1:SS:=(prsF s00,[([115],1,prsF s00)])
noncomputable def S2:SS:=(prsF s1f,[([115],1,prsF s00)])
theorem S0_rt:Rt S0:=⟨RF.of s00_snd s00_crd (by omega),(fun x hx=>by cases hx),List.Pairwise.nil,(by unfold S0;rw [s00_prs];decide)⟩
theorem nNew_eq:nNew=some S0:=by unfold nNew;rw [fNew_eq];rfl
theorem rd_prs0:rdF (prsF s00)=s00:=(s00_snd.prs s00_crd (by omega)).2.1
theorem at_S (g:Int) (L:List P2):atS [([115],g,L)] [115]=some ([115],g,L):=by unfold atS;simp
theorem st_S0:stP S0 (10,[115],[],0,0,[]) 1=(S1,(0,0,[],[])):=by
 have e:opP S0 (10,[115],[],0,0,[]) 1=(S1,(0,0,[],[])):=by
  unfold opP
  rw [if_pos (.inl rfl)]
  unfold snP
  rw [if_neg (by decide)]
  rfl
 unfold stP
 rw [e,if_pos rfl,if_neg (by unfold S1;rw [s00_prs];decide)]
theorem st_S1:stP S1 (1,[47,97],[],0,0,[]) 2=(S2,(0,0,[],[])):=by
 have d:doP s00 (1,[47,97],[],0,0,[])=((0,0,[],[]),s1f):=by
  unfold doP;simp only [s1f_room];rfl
 have e:opP S1 (1,[47,97],[],0,0,[]) 2=(S2,(0,0,[],[])):=by
  unfold opP
  rw [if_neg (by decide),if_neg (by decide)]
  have hn:nx s00 (1,[47,97],[],0,0,[])=s1f:=by unfold nx;rw [d];rfl
  show ((prsF (nx (rdF (prsF s00)) _),_),(doP (rdF (prsF s00)) _).1)=_
  rw [rd_prs0,hn,d];rfl
 unfold stP
 rw [e,if_pos rfl,if_neg (by unfold S2 unN;simp only;rw [s00_prs,s1f_prs];decide)]
theorem st_S2:stP S2 (12,[115],[],0,0,[]) 3=(S1,(0,0,[],[])):=by
 have e:opP S2 (12,[115],[],0,0,[]) 3=(S1,(0,0,[],[])):=by
  unfold opP
  rw [if_pos (.inr (.inr rfl))]
  unfold snP
  rw [if_neg (by decide)]
  simp only [S2,at_S];rfl
 unfold stP
 rw [e,if_pos rfl,if_neg (by unfold S1;rw [s00_prs];decide)]
theorem st_S3:(stP S1 (9,[47,97],[],0,0,[]) 4).2.1=91:=by
 have d:(doP s00 (9,[47,97],[],0,0,[])).1=(91,0,[],[]):=by
  have:lk s00 [47,97]=(zf,91):=by decide +kernel
  unfold doP stt;simp only [this];rfl
 have e:(opP S1 (9,[47,97],[],0,0,[]) 4).2=(91,0,[],[]):=by
  unfold opP
  rw [if_neg (by decide),if_neg (by decide)]
  show (doP (rdF (prsF s00)) _).1=_
  rw [rd_prs0,d]
 unfold stP
 rw [e,if_neg (by decide)]
theorem speaks_eq:lSpeaks=some true:=by
 have r1:Rt S1:=by have:=stP_rt S0_rt (10,[115],[],0,0,[]) 1;rw [st_S0] at this;exact this
 have r2:Rt S2:=by have:=stP_rt r1 (1,[47,97],[],0,0,[]) 2;rw [st_S1] at this;exact this
 unfold lSpeaks
 rw [nNew_eq]
 simp only [Option.bind_some]
 rw [nDo_eq S0_rt _ 1 (opOk (by decide) (by decide) (by decide)),st_S0]
 simp only [Option.bind_some]
 rw [nDo_eq r1 _ 2 (opOk (by decide) (by decide) (by decide)),st_S1]
 simp only [Option.bind_some]
 rw [nDo_eq r2 _ 3 (opOk (by decide) (by decide) (by decide)),st_S2]
 simp only [Option.bind_some]
 rw [nDo_eq r1 _ 4 (opOk (by decide) (by decide) (by decide))]
 simp only [Option.bind_some,st_S3]
 rw [nUnits_eq _ S0_rt.small]
 simp only [Option.bind_some]
 rw [show unN S0=1 by unfold S0;rw [s00_prs];rfl]
 rfl
theorem op_new {s:SS} (hs:s.2.Pairwise fun a b=>a.1<b.1) {nm:List UInt8} {gen:Int} (h:(opP s (10,nm,[],0,0,[]) gen).2.1=0):isNm nm=true∧atS s.2 nm=none∧opP s (10,nm,[],0,0,[]) gen=((s.1,loS s.2 nm++(nm,gen,s.1)::hiS s.2 nm),(0,0,[],[])):=by
 unfold opP at h ⊢
 rw [if_pos (.inl rfl)] at h ⊢
 unfold snP at h ⊢
 simp only at h ⊢
 cases h1:isNm nm with
 | false=>rw [h1,if_pos rfl] at h;cases h
 | true =>
  rw [h1,if_neg (by simp)] at h
  rw [if_neg (by simp)]
  cases h2:atS s.2 nm with
  | some x=>rw [h2] at h;cases h
  | none=>exact ⟨rfl,rfl,rfl⟩
theorem copyPairs_eq (L:List P2) (h:SmL L):rCopyPairs L=some L:=by
 obtain ⟨hl,hb⟩:=h
 unfold rCopyPairs
 refine bind_run (fun k (s:List P2×Int)=>s=(L.take k,(k:Int))) (fun r=>r=L) L.length rfl ?_ ?_ ?_
 ·rintro k _ hk rfl
  have hx:=hb _ (List.getElem_mem hk)
  simp only
  rw [if_pos (by omega),idxO_get hk]
  simp only [Option.bind_some]
  rw [appO_of (by simp only [List.length_nil];omega),appO_of (by simp only [List.length_nil];omega)]
  simp only [Option.bind_some,List.nil_append]
  rw [appO_of (by simp only [List.length_take,List.length_cons,List.length_nil];omega)]
  simp only [Option.bind_some]
  exact .inl ⟨_,rfl,by rw [i64_id (by omega) (by omega)];exact Prod.ext (List.take_succ_eq_append_getElem hk).symm rfl⟩
 ·rintro _ rfl
  simp only
  rw [if_neg (by omega),List.take_length];exact ⟨_,rfl,rfl⟩
 ·rintro _ rfl;rfl
theorem at_mem {xs:List Sn} (h:xs.Pairwise fun a b=>a.1<b.1) {x:Sn} (hx:x∈xs):atS xs x.1=some x:=by
 have hp:=part_of h x.1
 rw [hp,List.mem_append,List.mem_append] at hx
 rcases hx with hx | hx | hx
 ·exact absurd (lo_lt x hx) (lt_irr _)
 ·rw [Option.mem_toList] at hx;exact hx
 ·exact absurd (hi_lt x hx) (lt_irr _)
theorem st_keep {u:SS} (hu:Rt u) {x:Sn} (hx:x∈u.2) (o:Opr) (gen:Int) (ho:¬ (o.1=11∧o.2.1=x.1)):x∈(stP u o gen).1.2:=by
 have h1:x∈(opP u o gen).1.2:=by
  unfold opP
  split
  ·unfold snP
   have hp:=part_of hu.srt o.2.1
   split
   ·exact hx
   ·split
    ·rename_i y hy
     have hye:=at_eq hy
     split
     ·exact hx
     ·split
      ·rename_i h11
       rw [hy] at hp
       rw [hp] at hx
       simp only [Option.toList_some,List.mem_append,List.mem_singleton] at hx ⊢
       rcases hx with hx | hx | hx
       ·exact .inl hx
       ·exact absurd ⟨h11,by rw [hx];exact hye.1.symm⟩ ho
       ·exact .inr hx
      ·exact hx
    ·rename_i hy
     split
     ·rw [hy] at hp
      rw [hp] at hx
      simp only [Option.toList_none,List.nil_append,List.mem_append,List.mem_cons] at hx ⊢
      rcases hx with hx | hx
      ·exact .inl hx
      ·exact .inr (.inr hx)
     ·exact hx
  ·split<;>exact hx
 unfold stP
 split
 ·split
  ·exact hx
  ·exact h1
 ·exact hx
theorem st_new {s:SS} (hs:Rt s) {nm:List UInt8} {gen:Int} (h:(stP s (10,nm,[],0,0,[]) gen).2.1=0):isNm nm=true∧(nm,gen,s.1)∈(stP s (10,nm,[],0,0,[]) gen).1.2:=by
 unfold stP at h ⊢
 by_cases h0:(opP s (10,nm,[],0,0,[]) gen).2.1=0
 ·obtain ⟨h1,_,h3⟩:=op_new hs.srt h0
  rw [if_pos h0] at h ⊢
  by_cases h2:48<unN (opP s (10,nm,[],0,0,[]) gen).1
  ·rw [if_pos h2] at h;cases h
  ·rw [if_neg h2] at h ⊢
   refine ⟨h1,?_⟩
   rw [h3];simp
 ·rw [if_neg h0] at h;exact absurd h h0
theorem st_codes {s:SS} {nm:List UInt8} {gen:Int} (h:(stP s (10,nm,[],0,0,[]) gen).2.1≠0):(stP s (10,nm,[],0,0,[]) gen).2.1=90∨(stP s (10,nm,[],0,0,[]) gen).2.1=92∨(stP s (10,nm,[],0,0,[]) gen).2.1=98:=by
 unfold stP at h ⊢
 by_cases h0:(opP s (10,nm,[],0,0,[]) gen).2.1=0
 ·rw [if_pos h0] at h ⊢
  split
  ·exact .inr (.inr rfl)
  ·rename_i h2
   rw [if_neg h2] at h;exact absurd h0 h
 ·rw [if_neg h0]
  unfold opP at h0 ⊢
  rw [if_pos (.inl rfl)] at h0 ⊢
  unfold snP at h0 ⊢
  simp only at h0 ⊢
  split
  ·exact .inl rfl
  ·rename_i h1
   rw [if_neg h1] at h0
   split
   ·rw [if_pos trivial];exact .inr (.inl rfl)
   ·rename_i h2
    rw [h2] at h0
    simp at h0
theorem st_back {u:SS} (hu:Rt u) {x:Sn} (hx:x∈u.2) (hn:isNm x.1=true) (gen:Int):stP u (12,x.1,[],0,0,[]) gen=(u,(98,0,[],[]))∨stP u (12,x.1,[],0,0,[]) gen=((x.2.2,u.2),(0,0,[],[])):=by
 have h1:opP u (12,x.1,[],0,0,[]) gen=((x.2.2,u.2),(0,0,[],[])):=by
  unfold opP
  rw [if_pos (.inr (.inr rfl))]
  unfold snP
  simp only
  rw [if_neg (by rw [hn];simp),at_mem hu.srt hx]
  simp only
  rw [if_neg (by decide),if_neg (by decide)]
 unfold stP
 rw [h1,if_pos rfl]
 split
 ·exact .inl rfl
 ·exact .inr rfl
theorem stay_true (before behind:List Opr) (nm:List UInt8) (h1:∀ o∈before,OpOk o) (h2:∀ o∈behind,OpOk o) (h3:nm.length≤1100000000):lStay before behind nm=some true:=by
 have hok:∀ k:Int,OpOk (k,nm,[],0,0,[]):=fun k=>⟨h3,by simp,by simp⟩
 unfold lStay
 rw [speaks_eq]
 simp only [Option.bind_some,Bool.not_true,Bool.false_eq_true,if_false]
 by_cases hb:20<(before.length:Int)
 ·rw [if_pos hb]
 rw [if_neg hb]
 by_cases hb2:20<(behind.length:Int)
 ·rw [if_pos hb2]
 rw [if_neg hb2,nNew_eq]
 simp only [Option.bind_some]
 refine bind_run (fun k (q:SS×Int)=>q.2=(k:Int)∧Rt q.1) (fun r=>Rt r) before.length ⟨rfl,S0_rt⟩ ?_ ?_ ?_
 ·rintro k ⟨s,i⟩ hk ⟨e,hs⟩
  simp only at e hs
  subst e
  simp only
  rw [if_pos (by omega),idxO_get hk]
  simp only [Option.bind_some]
  rw [nDo_eq hs _ 1 (h1 _ (List.getElem_mem hk))]
  simp only [Option.bind_some]
  exact .inl ⟨_,rfl,by simp only;rw [i64_id (by omega) (by omega)];rfl,stP_rt hs _ _⟩
 ·rintro ⟨s,i⟩ ⟨e,hs⟩
  simp only at e hs
  subst e
  simp only
  rw [if_neg (by omega)]
  exact ⟨_,rfl,hs⟩
 rintro s hs
 rw [copyPairs_eq _ hs.small.fl]
 simp only [Option.bind_some]
 rw [show nDo (s.1,s.2) (10,nm,[],0,0,[]) 7=_ from nDo_eq hs _ 7 (hok 10)]
 simp only [Option.bind_some]
 by_cases h0:(stP s (10,nm,[],0,0,[]) 7).2.1=0
 case neg =>
  rw [if_neg h0]
  rcases st_codes h0 with h | h | h
  ·rw [if_pos h]
  ·rw [if_neg (by omega),if_pos h]
  ·rw [if_neg (by omega),if_neg (by omega),h];rfl
 rw [if_pos h0]
 obtain ⟨hn,hm⟩:=st_new hs h0
 have hT:=stP_rt hs (10,nm,[],0,0,[]) 7
 refine bind_run (fun k (q:SS×Int)=>q.2=(k:Int)∧Rt q.1∧(nm,7,s.1)∈q.1.2) (fun r=>Rt r∧(nm,7,s.1)∈r.2) behind.length ⟨rfl,hT,hm⟩ ?_ ?_ ?_
 ·rintro k ⟨u,i⟩ hk ⟨e,hu,hmu⟩
  simp only at e hu hmu
  subst e
  simp only
  rw [if_pos (by omega),idxO_get hk]
  simp only [Option.bind_some]
  have hx:=h2 _ (List.getElem_mem hk)
  generalize behind[k]=x at hx ⊢
  have hgo:¬ (x.1=11∧x.2.1=nm)→(∃ s',((nDo u (x.1,x.2.1,x.2.2.1,x.2.2.2.1,x.2.2.2.2.1,x.2.2.2.2.2) 9).bind fun x275=>some x275.1)=some s'∧Rt s'∧(nm,7,s.1)∈s'.2):=fun hne=>by
   rw [show nDo u (x.1,x.2.1,x.2.2.1,x.2.2.2.1,x.2.2.2.2.1,x.2.2.2.2.2) 9=_ from nDo_eq hu x 9 hx]
   exact ⟨_,rfl,stP_rt hu _ _,st_keep hu hmu x 9 hne⟩
  by_cases e11:x.1=11
  ·rw [if_pos e11]
   by_cases en:x.2.1=nm
   ·rw [if_pos en]
    exact .inl ⟨_,rfl,by simp only;rw [i64_id (by omega) (by omega)];rfl,hu,hmu⟩
   ·rw [if_neg en]
    obtain ⟨s',e,a,b⟩:=hgo (fun h=>en h.2)
    rw [e]
    exact .inl ⟨_,rfl,by simp only;rw [i64_id (by omega) (by omega)];rfl,a,b⟩
  ·rw [if_neg e11]
   obtain ⟨s',e,a,b⟩:=hgo (fun h=>e11 h.1)
   rw [e]
   exact .inl ⟨_,rfl,by simp only;rw [i64_id (by omega) (by omega)];rfl,a,b⟩
 ·rintro ⟨u,i⟩ ⟨e,hu⟩
  simp only at e hu
  subst e
  simp only
  rw [if_neg (by omega)]
  exact ⟨_,rfl,hu⟩
 rintro u ⟨hu,hmu⟩
 have hul:=hu.len
 refine bind_run (fun k (q:List P2×Bool×Int)=>q.1=s.1∧q.2.2=(k:Int)∧(q.2.1=true↔(nm,7,s.1)∈u.2.take k)) (fun r=>r=(s.1,true)) u.2.length (s0:=(s.1,false,(0:Int))) ⟨rfl,rfl,by simp⟩ ?_ ?_ ?_
 ·rintro k ⟨L,f,i⟩ hk ⟨e1,e2,e3⟩
  simp only at e1 e2 e3
  subst e1 e2
  simp only
  rw [if_pos (by omega),idxO_get hk]
  simp only [Option.bind_some]
  have hnx:∀ g:Bool,(g=true↔((nm,7,s.1)∈u.2.take k∨u.2[k]=(nm,7,s.1)))→(g=true↔(nm,7,s.1)∈u.2.take (k+1)):=fun g hg=>by
   rw [hg,List.take_succ_eq_append_getElem hk,List.mem_append,List.mem_singleton]
   exact ⟨fun h=>h.elim .inl (fun h=>.inr h.symm),fun h=>h.elim .inl (fun h=>.inr h.symm)⟩
  rw [i64_id (show -9223372036854775808≤(k:Int)+1 by omega) (by omega)]
  have hle:=hul.2.2 _ (List.getElem_mem hk)
  obtain ⟨a,b,c,hx⟩:∃ a b c,u.2[k]=(a,b,c):=⟨_,_,_,rfl⟩
  rw [hx] at hle hnx
  rw [hx]
  simp only at hle ⊢
  cases f with
  | true =>
   rw [if_pos rfl]
   exact .inl ⟨_,rfl,rfl,rfl,hnx true ⟨fun _=>.inl (e3.1 rfl),fun _=>rfl⟩⟩
  | false =>
   have hno:¬ (nm,7,s.1)∈u.2.take k:=fun h=>by have:=e3.2 h;cases this
   rw [if_neg (by simp)]
   by_cases ha:a=nm
   ·rw [if_pos ha]
    by_cases hbb:b=7
    ·rw [if_pos hbb,samePairs_eq _ _ (by omega)]
     simp only [Option.bind_some]
     refine .inl ⟨_,rfl,rfl,rfl,hnx _ ?_⟩
     rw [decide_eq_true_iff]
     constructor
     ·intro hc;right;rw [ha,hbb,hc]
     ·rintro (h | h)
      ·exact absurd h hno
      ·exact congrArg (·.2.2) h
    ·rw [if_neg hbb]
     refine .inl ⟨_,rfl,rfl,rfl,hnx false ?_⟩
     simp only [Bool.false_eq_true,false_iff]
     rintro (h | h)
     ·exact hno h
     ·exact hbb (congrArg (·.2.1) h)
   ·rw [if_neg ha]
    refine .inl ⟨_,rfl,rfl,rfl,hnx false ?_⟩
    simp only [Bool.false_eq_true,false_iff]
    rintro (h | h)
    ·exact hno h
    ·exact ha (congrArg (·.1) h)
 ·rintro ⟨L,f,i⟩ ⟨e1,e2,e3⟩
  simp only at e1 e2 e3
  subst e1 e2
  simp only
  rw [if_neg (by omega)]
  rw [List.take_length] at e3
  exact ⟨_,rfl,by rw [e3.2 hmu]⟩
 rintro _ rfl
 simp only
 rw [show nDo (u.1,u.2) (12,nm,[],0,0,[]) 10=_ from nDo_eq hu _ 10 (hok 12)]
 simp only [Option.bind_some,if_true]
 rcases st_back hu hmu hn 10 with h | h
 ·simp only at h
  rw [h]
  simp only
  rw [if_neg (by decide)];rfl
 ·simp only at h
  rw [h]
  simp only [if_true]
  rw [samePairs_eq _ _ (by have:=hs.len.1;omega),decide_eq_true rfl]
  rfl
theorem stay_up (before:List Opr) (h1:∀ o∈before,OpOk o) (behind:List Opr) (h2:∀ o∈behind,OpOk o) (nm:List UInt8) (h3:nm.length≤1048576):lStay before behind nm=some true:=stay_true before behind nm h1 h2 (by omega)
end Go.Proofs.YtnagibpmfabkjaaGreatDoor
