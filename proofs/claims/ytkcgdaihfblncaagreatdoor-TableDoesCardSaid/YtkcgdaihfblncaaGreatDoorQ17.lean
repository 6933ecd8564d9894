/- Texts Tot, TotS, SdD, TbD, TbE, TbF, TbG, TbH. -/
import Derived.Test.YtkcgdaihfblncaaGreatDoorQ14
import Derived.Test.YtkcgdaihfblncaaGreatDoorQ15
import Derived.Test.YtkcgdaihfblncaaGreatDoorQ16
set_option linter.unusedSimpArgs false
set_option linter.unusedVariables false
namespace Go.Proofs.YtkcgdaihfblncaaGreatDoor
open Go.RowKit Go.Tri
structure Wk (s:FS) (n:Nat):Prop where
 crd:Crd s n
 key:∀ p f,s p=some f->p.length<=10000/\f.2.length<=10000
section
variable {s:FS} {n:Nat}
theorem Wk.mono (h:Wk s n) {m:Nat} (hm:n<=m):Wk s m:=⟨h.crd.mono hm,h.key⟩
theorem Wk.blB (h:Wk s n) (hn:n<=100000):BlB s:=by
 obtain ⟨l,hE,hl⟩:=h.crd
 intro p
 have h1:=wK hE (by omega) (fun x hx=>by have:=(h.key x.1 x.2 ((bC hE).1 hx)).1;omega) p
 have h2:bl s p=blL l p:=by unfold bl;rw [h1];rfl
 refine ⟨by rw [h1,h2],?_⟩
 rw [h2]
 unfold blL
 rw [(List.mergeSort_perm _ tle).length_eq,List.length_map]
 have:=List.length_filter_le (inD p) l
 omega
theorem Wk.pairs (h:Wk s n) (hn:n<=10000):∃ L,eJ s=some L/\L.length<=190*n:=by
 obtain ⟨l,hE,hl⟩:=h.crd
 have hk:∀ x∈l,x.1.length<=10000/\x.2.2.length<=10000:=fun x hx=>h.key x.1 x.2 ((bC hE).1 hx)
 refine ⟨_,aF3 hE (by omega) (fun x hx=>by have:=hk x hx;omega) fun l' h1 h2=>?_,?_⟩
 ·have:=aD0 (l:=l') fun x hx=>by have:=hk x (h2 x hx);omega
  omega
 ·unfold cH eW
  rw [(List.mergeSort_perm _ leP).length_eq]
  have:=aD0 (l:=l) fun x hx=>by have:=hk x hx;omega
  omega
theorem Wk.set (h:Wk s n) {p:List UInt8} {f:Bool×List UInt8} (hp:p.length<=10000) (hf:f.2.length<=10000):Wk (aI p f s) (n+1):=by
 refine ⟨h.crd.set p f,fun q g hq=>?_⟩
 unfold aI at hq
 split at hq
 ·rename_i e
  cases hq
  rw [e];exact ⟨hp,hf⟩
 ·exact h.key q g hq
theorem Wk.del (h:Wk s n) (p:List UInt8):Wk (bZ p s) n:=by
 refine ⟨h.crd.del p,fun q g hq=>?_⟩
 unfold bZ at hq
 split at hq
 ·cases hq
 ·exact h.key q g hq
theorem aBz {α:Type} [DecidableEq α]:∀ ks:List α,∃ l:List α,l.Nodup/\(∀ q∈ks,q∈l)/\l.length<=ks.length
 | []=>⟨[],List.nodup_nil,fun q h=>h,Nat.le_refl _⟩
 | x::ks=>by
  obtain ⟨l,h1,h2,h3⟩:=aBz ks
  by_cases hx:x∈l
  ·exact ⟨l,h1,fun q hq=>by rcases List.mem_cons.1 hq with rfl | hq;exact hx;exact h2 q hq,by simp only [List.length_cons];omega⟩
  ·exact ⟨x::l,List.nodup_cons.2 ⟨hx,h1⟩,fun q hq=>by
    rcases List.mem_cons.1 hq with rfl | hq
    ·exact List.mem_cons_self
    ·exact List.mem_cons_of_mem _ (h2 q hq),by simp only [List.length_cons];omega⟩
theorem aLm {β:Type} {m:List UInt8->Option β} (ks:List (List UInt8)) (h:∀ q,(m q).isSome=true->q∈ks):Crd m ks.length:=by
 obtain ⟨l,h1,h2,h3⟩:=aBz ks
 obtain ⟨l2,h4,h5⟩:=aGm (m:=m) (l.filter fun q=>(m q).isSome) _ (h1.filter _) fun q=>by
  rw [List.mem_filter]
  exact ⟨fun h=>h.2,fun hq=>⟨h2 q (h q hq),hq⟩⟩
 refine ⟨l2,h4,?_⟩
 have h6:=congrArg List.length h5
 rw [List.length_map] at h6
 have:=List.length_filter_le (fun q=>(m q).isSome) l
 omega
theorem Wk.ren (h:Wk s n) {F T:List UInt8} (hT:okP T=true) (hb:¬ badR s F T):Wk (rnG s F T) (n+n):=by
 have hle:∀ p,(s p).isSome=true->aK F p=true->(mvP F T p).length<=24:=fun p hp hw=>by
  obtain ⟨f,hf⟩:=Option.isSome_iff_exists.1 hp
  by_cases h24:(mvP F T p).length<=24
  ·exact h24
  ·exact absurd ⟨p,f,hf,hw,by omega⟩ hb
 obtain ⟨l,hE,hl⟩:=h.crd
 refine ⟨?_,fun q g hq=>?_⟩
 ·refine (aLm ((l.map (·.1))++(l.map fun x=>mvP F T x.1)) fun q hq=>?_).mono (by simp;omega)
  rw [List.mem_append]
  unfold rnG at hq
  split at hq
  ·cases hq
  ·split at hq
   ·rename_i h2
    unfold rnM at h2
    split at h2
    ·rename_i h3
     obtain ⟨f,hf⟩:=Option.isSome_iff_exists.1 h3.1
     exact .inr (List.mem_map.2 ⟨_,(bC hE).2 hf,Option.some.inj h2⟩)
    ·cases h2
   ·obtain ⟨f,hf⟩:=Option.isSome_iff_exists.1 hq
    exact .inl (List.mem_map.2 ⟨_,(bC hE).2 hf,rfl⟩)
 ·unfold rnG at hq
  split at hq
  ·cases hq
  ·split at hq
   ·rename_i h2
    unfold rnM at h2
    split at h2
    ·rename_i h3
     have h4:=hle _ h3.1 h3.2
     rw [Option.some.inj h2] at h4
     obtain ⟨f,hf⟩:=Option.isSome_iff_exists.1 h3.1
     rw [hf] at hq
     cases hq
     exact ⟨by omega,(h.key _ _ hf).2⟩
    ·cases h2
   ·exact h.key q g hq
theorem Wk.wr (h:Wk s n) {o:Opr} (hk:o.1=3\/o.1=4):Wk (wr s o).2 (n+1):=by
 have hw:Wk s (n+1):=h.mono (by omega)
 obtain ⟨k,p,t,off,m,d⟩:=o
 simp only at hk
 unfold Go.Proofs.YtkcgdaihfblncaaGreatDoor.wr
 simp only
 by_cases h0:(rg s p).2=0
 ·obtain ⟨fd,e1,e2⟩:=lF h0
  have hfd:=(h.key _ _ e1)
  simp only at hfd
  rw [if_pos h0,e2]
  simp only
  rcases hk with rfl | rfl
  ·simp only [if_true,true_and]
   by_cases a1:off<0
   ·rw [if_pos a1];exact hw
   rw [if_neg a1]
   by_cases a2:192<off\/192<off+(d.length:Int)
   ·rw [if_pos a2];exact hw
   rw [if_neg a2,if_neg (by decide)]
   simp only
   by_cases a3:0<d.length
   ·rw [if_pos a3]
    refine h.set hfd.1 ?_
    have hz:(szd fd (max fd.length (off.toNat+d.length))).length=max fd.length (off.toNat+d.length):=eD _ _
    have:(putAt (szd fd (max fd.length (off.toNat+d.length))) off.toNat d).length=max fd.length (off.toNat+d.length):=by
     simp only [putAt,List.length_append,List.length_take,List.length_drop,hz];omega
    simp only
    rw [this];omega
   ·rw [if_neg a3];exact hw
  ·simp only [show ¬ ((4:Int)=3) by decide,if_false,false_and,or_false,if_true]
   by_cases a1:m<0
   ·rw [if_pos a1];exact hw
   rw [if_neg a1]
   by_cases a2:192<m
   ·rw [if_pos a2];exact hw
   rw [if_neg a2]
   refine h.set hfd.1 ?_
   simp only
   rw [eD];omega
 ·rw [if_neg h0];exact hw
def SA (a:Ans):Prop:=a.2.2.1.length<=100000/\a.2.2.2.length<=100000
theorem wr_sa (s:FS) (o:Opr):SA (wr s o).1:=by
 unfold wr SA
 repeat' split
 all_goals simp
theorem ls_sa (s:FS) (o:Opr):SA (ls s o):=by
 unfold ls SA
 repeat' split
 all_goals (refine ⟨by simp,?_⟩;first | (simp only [List.length_take];omega) | simp)
theorem aMo (s:FS) (p:List UInt8):SA (stt s p):=by
 unfold stt SA
 repeat' split
 all_goals simp
theorem aLn {s:FS} (h:∀ q f,s q=some f->f.2.length<=100000) (o:Opr):SA (rdA s o):=by
 unfold rdA SA
 split
 ·rename_i h0
  split
  ·simp
  ·obtain ⟨d,h1,h2⟩:=lF h0
   have hl:=h _ _ h1
   rw [h2]
   refine ⟨?_,by simp⟩
   simp only [List.length_take,List.length_drop] at hl ⊢
   omega
 ·simp
theorem aHv (h:Wk s n) (hn:n<=100000) (o:Opr) (ho:eX o):∃ a s',sDo s o=some (a,s')/\Wk s' (n+n+1)/\SA a:=by
 have hB:=h.blB hn
 have hw:Wk s (n+n+1):=h.mono (by omega)
 obtain ⟨hp,ht,hd⟩:=ho
 obtain ⟨k,p,t,off,m,d⟩:=o
 simp only at hp ht hd
 unfold sDo
 simp only
 have hlen:∀ q f,s q=some f->f.2.length<=100000:=fun q f hq=>by have:=(h.key q f hq).2;omega
 by_cases h12:k=1\/k=2
 ·have h1:(if k=1 then (some (decide (k=1))) else some (decide (k=2)))=some true:=by
   rcases h12 with h | h<;>subst h<;>rfl
  rw [h1]
  simp only [obS,if_true]
  rw [uR s p (by omega)]
  simp only [obS]
  by_cases h0:rm s p=0
  ·rw [if_pos h0]
   have:=(bJ (lH h0).1).2.2
   exact ⟨_,_,rfl,(h.set (by omega) (by simp)).mono (by omega),by simp [SA]⟩
  ·rw [if_neg h0]
   exact ⟨_,_,rfl,hw,by simp [SA]⟩
 ·have h1:(if k=1 then (some (decide (k=1))) else some (decide (k=2)))=some false:=by
   rw [if_neg (fun h=>h12 (.inl h)),decide_eq_false (fun h=>h12 (.inr h))]
  rw [h1]
  simp only [obS,Bool.false_eq_true,if_false]
  by_cases h34:k=3\/k=4
  ·have h1:(if k=3 then (some (decide (k=3))) else some (decide (k=4)))=some true:=by
    rcases h34 with h | h<;>subst h<;>rfl
   rw [h1]
   simp only [obS,if_true]
   rw [aE0 s (k,p,t,off,m,d) h34 (by simp only;omega) (by simp only;omega) hlen]
   simp only [obS]
   exact ⟨_,_,rfl,(h.wr h34).mono (by omega),wr_sa _ _⟩
  ·have h1:(if k=3 then (some (decide (k=3))) else some (decide (k=4)))=some false:=by
    rw [if_neg (fun h=>h34 (.inl h)),decide_eq_false (fun h=>h34 (.inr h))]
   rw [h1]
   simp only [obS,Bool.false_eq_true,if_false]
   by_cases h5:k=5
   ·rw [if_pos h5,aEr s _ (by simp only;omega) hlen]
    exact ⟨_,_,rfl,hw,aLn hlen _⟩
   ·rw [if_neg h5]
    by_cases h6:k=6
    ·rw [if_pos h6,aG9 (fun q f hq=>by have:=(h.key q f hq).1;omega) h.crd _ (by simp only;omega) (by simp only;omega)]
     simp only [obS]
     refine ⟨_,_,rfl,?_,by simp [SA]⟩
     unfold rnW
     split
     ·split
      ·split
       ·split
        ·exact hw
        ·split
         ·exact hw
         ·split
          ·split
           ·exact hw
           ·rename_i hT _ _ _ _ hb
            exact (h.ren hT hb).mono (by omega)
          ·exact hw
       ·exact hw
      ·exact hw
     ·exact hw
    ·rw [if_neg h6]
     by_cases h7:k=7
     ·rw [if_pos h7,aA7 hB p (by omega)]
      simp only [obS]
      refine ⟨_,_,rfl,?_,by simp [SA]⟩
      unfold rv
      split
      ·split
       ·exact hw
       ·split
        ·exact hw
        ·exact (h.del p).mono (by omega)
      ·exact hw
     ·rw [if_neg h7]
      by_cases h8:k=8
      ·rw [if_pos h8,aDq hB _ (by simp only;omega)]
       exact ⟨_,_,rfl,hw,ls_sa _ _⟩
      ·rw [if_neg h8]
       by_cases h9:k=9
       ·rw [if_pos h9,aHc hB _ (by omega)]
        exact ⟨_,_,rfl,hw,aMo _ _⟩
       ·rw [if_neg h9]
        exact ⟨_,_,rfl,hw,by simp [SA]⟩
end
def SmT (L:List P2):Prop:=L.length<=1000/\(L.map fun x=>x.1.length+x.2.length).sum<=8000
theorem aGz {L:List P2} {x:P2} (h:x∈L):x.1.length+x.2.length<=(L.map fun x=>x.1.length+x.2.length).sum:=by
 induction L with
 | nil=>cases h
 | cons y L ih =>
  simp only [List.map_cons,List.sum_cons]
  rcases List.mem_cons.1 h with rfl | h
  ·omega
  ·have:=ih h;omega
theorem aB2 (p:List UInt8):∀ L:List P2,(L.filterMap (cof p)).flatten.length<=(L.map fun x=>x.1.length+x.2.length).sum
 | []=>by simp
 | x::L=>by
  have ih:=aB2 p L
  rw [List.filterMap_cons]
  simp only [List.map_cons,List.sum_cons]
  split
  ·omega
  ·rename_i y hy
   have:y=x.2:=by
    unfold cof at hy
    split at hy
    ·cases hy
    ·split at hy
     ·exact (Option.some.inj hy).symm
     ·cases hy
   rw [List.flatten_cons,List.length_append,this];omega
theorem rd_key:∀ (L:List P2) (s:CS×FS) (p:List UInt8),((L.foldl r1 s).2 p).isSome=true->(s.2 p).isSome=true\/∃ x∈L,x.1=110::p
 | [],s,p,h=>.inl h
 | x::L,s,p,h=>by
  rw [List.foldl_cons] at h
  rcases rd_key L _ p h with h1 | ⟨y,hy,e⟩
  ·obtain ⟨k,v⟩:=x
   unfold r1 at h1
   split at h1
   ·exact .inl h1
   ·split at h1
    ·exact .inl h1
    ·split at h1
     ·rename_i a r e1 _ h110
      simp only at e1
      simp only [aI] at h1
      split at h1
      ·rename_i e2
       exact .inr ⟨(k,v),List.mem_cons_self,by simp only;rw [e1,h110,e2]⟩
      ·exact .inl h1
     ·exact .inl h1
  ·exact .inr ⟨y,List.mem_cons_of_mem _ hy,e⟩
theorem aEg:∀ (L:List P2) (s:CS×FS),(∀ p f,s.2 p=some f->f.2=[])->∀ p f,(L.foldl r1 s).2 p=some f->f.2=[]
 | [],s,h=>h
 | x::L,s,h=>by
  rw [List.foldl_cons]
  refine aEg L _ fun p f hp=>?_
  unfold r1 at hp
  split at hp
  ·exact h p f hp
  ·split at hp
   ·exact h p f hp
   ·split at hp
    ·simp only [aI] at hp
     split at hp
     ·cases hp;rfl
     ·exact h p f hp
    ·exact h p f hp
theorem rd_wk {L:List P2} (h:SmT L):Wk (rdF L) L.length:=by
 refine ⟨iU L,fun p f hf=>?_⟩
 have hs:((L.foldl r1 (bG,bG)).2 p).isSome=true:=by
  unfold rdF gE at hf
  split at hf
  ·rename_i e;rw [e];rfl
  ·rw [hf];rfl
 rcases rd_key L _ p hs with h1 | ⟨x,hx,e⟩
 ·simp [bG] at h1
 ·have h1:=aGz hx
  have h2:=h.2
  rw [e] at h1
  simp only [List.length_cons] at h1
  refine ⟨by omega,?_⟩
  unfold rdF gE at hf
  split at hf
  ·cases hf
   simp only
   rw [rC p L]
   have:=aB2 p L
   simp only [bG,Option.getD_none,List.nil_append];omega
  ·have:=aEg L (bG,bG) (fun p f h=>by simp [bG] at h) p f hf
   rw [this];simp
theorem aP7 {L:List P2} (h:SmT L) (o:Opr) (ho:eX o):∃ L' a,fDo L o=some (L',a)/\L'.length<=500000/\SA a:=by
 have hb:=h.2
 have hw:=rd_wk h
 have hL:=h.1
 unfold fDo
 rw [yM L (by omega) (fun x hx=>by have:=aGz hx;omega)]
 simp only [obS,nV]
 obtain ⟨a,s',e,h1,hsa⟩:=aHv hw (by omega) o ho
 rw [e]
 simp only [obS]
 obtain ⟨L1,e1,l1⟩:=hw.pairs (by omega)
 obtain ⟨L2,e2,l2⟩:=h1.pairs (by omega)
 by_cases h0:a.1=0
 ·rw [if_pos h0,e2]
  exact ⟨_,_,rfl,by omega,hsa⟩
 ·rw [if_neg h0,e1]
  exact ⟨_,_,rfl,by omega,hsa⟩
theorem aO1 (L:List P2):gC L=some true\/(gC L=some false/\SmT L):=by
 unfold gC
 have hin:∀ k (hk:k<L.length),((L.take (k+1)).map fun x=>x.1.length+x.2.length).sum=((L.take k).map fun x=>x.1.length+x.2.length).sum+(L[k].1.length+L[k].2.length):=fun k hk=>by
  rw [List.take_succ_eq_append_getElem hk]
  simp only [List.map_append,List.map_cons,List.map_nil,List.sum_append,List.sum_cons,List.sum_nil];omega
 refine dR (C:=fun o=>o=some true\/(o=some false/\SmT L)) (fun k (s:Int×Int)=>s.2=(k:Int)/\s.1=8*(k:Int)+(((L.take k).map fun x=>x.1.length+x.2.length).sum:Nat)/\s.1<=30000/\k<=1001/\k<=L.length) (fun r=>r=.inr true\/(∃ n:Int,r=.inl n/\(8000<n\/SmT L))) (min L.length 1002) ⟨rfl,by simp,by omega,by omega,by omega⟩ ?_ ?_ ?_
 ·rintro k ⟨n,i⟩ hk ⟨h1,h2,h3,h3',h4⟩
  simp only at h1 h2 h3
  subst h1
  simp only
  have hkl:k<L.length:=by omega
  rw [if_pos (by omega)]
  by_cases h6:n<=8000
  ·rw [if_pos h6]
   simp only [aX hkl,obS]
   by_cases h7:8000<(L[k].1.length:Int)
   ·rw [if_pos h7];exact .inr ⟨_,rfl,.inl rfl⟩
   ·rw [if_neg h7]
    by_cases h8:8000<(L[k].2.length:Int)
    ·rw [if_pos h8];exact .inr ⟨_,rfl,.inl rfl⟩
    ·rw [if_neg h8]
     rw [aF (n:=8+(L[k].1.length:Int)) (by omega) (by omega),aF (n:=8+(L[k].1.length:Int)+(L[k].2.length:Int)) (by omega) (by omega),aF (n:=n+(8+(L[k].1.length:Int)+(L[k].2.length:Int))) (by omega) (by omega),aF (n:=(k:Int)+1) (by omega) (by omega)]
     refine .inl ⟨_,rfl,rfl,?_,?_,?_,?_⟩
     ·simp only
      rw [hin k hkl];omega
     ·simp only;omega
     ·omega
     ·omega
  ·rw [if_neg h6]
   exact .inr ⟨_,rfl,.inr ⟨n,rfl,.inl (by omega)⟩⟩
 ·rintro ⟨n,i⟩ ⟨h1,h2,h3,h3',h4⟩
  simp only at h1 h2 h3
  subst h1
  simp only
  by_cases h0:L.length<=1001
  ·rw [if_neg (by omega)]
   refine ⟨_,rfl,.inr ⟨n,rfl,?_⟩⟩
   rw [Nat.min_eq_left (by omega),List.take_length] at h2
   by_cases h8:8000<n
   ·exact .inl h8
   ·exact .inr ⟨by omega,by omega⟩
  ·omega
 ·rintro _ (rfl | ⟨n,rfl,h | h⟩)
  ·exact .inl rfl
  ·exact .inl (by simp only [Sum.elim_inl];rw [decide_eq_true h])
  ·by_cases h8:8000<n
   ·exact .inl (by simp only [Sum.elim_inl];rw [decide_eq_true h8])
   ·exact .inr ⟨by simp only [Sum.elim_inl];rw [decide_eq_false h8],h⟩
theorem aF0 {σ ρ τ:Type} {f:σ->Option (σ ⊕ ρ)} {k:ρ->Option τ} {C:Option τ->Prop} (I:σ->Prop) (Q:ρ->Prop) (m:σ->Nat) {s0:σ} (h0:I s0)
  (hs:∀ s,I s->(∃ s',f s=some (.inl s')/\I s'/\m s'<m s)\/∃ r,f s=some (.inr r)/\Q r) (hk:∀ r,Q r->C (k r)):C (Option.bind (aH f s0) k):=by
 obtain ⟨r,h1,h2⟩:=vJ I Q m hs _ s0 (Nat.lt_succ_self _) h0
 rw [h1];exact hk r h2
theorem aMt (xs:List Sn) (hl:xs.length<=100000) (t:Sn):∃ (i:Nat) (b:Bool),iB xs t=some ((i:Int),b)/\i<=xs.length/\(b=true->i<xs.length):=by
 unfold iB
 refine aF0 (C:=fun o=>∃ (i:Nat) (b:Bool),o=some ((i:Int),b)/\i<=xs.length/\(b=true->i<xs.length)) (fun s=>∃ i j:Nat,s=((i:Int),(j:Int))/\i<=j/\j<=xs.length) (fun r=>∃ i:Nat,r=(i:Int)/\i<=xs.length) (fun (s:Int×Int)=>(s.2-s.1).toNat) (s0:=((0:Int),(xs.length:Int))) ⟨0,_,rfl,by omega,by omega⟩ ?_ ?_
 ·rintro _ ⟨i,j,rfl,h3,h5⟩
  simp only
  by_cases h:(i:Int)<(j:Int)
  ·rw [if_pos h,sV (by omega),aX (show (i+j) / 2<xs.length by omega)]
   simp only [obS,pU,fX]
   by_cases h6:(xs[(i+j) / 2]'(by omega)).1<t.1
   ·rw [if_pos h6,aF (by omega) (by omega)]
    exact .inl ⟨_,rfl,⟨(i+j) / 2+1,j,rfl,by omega,by omega⟩,by simp only;omega⟩
   ·rw [if_neg h6]
    exact .inl ⟨_,rfl,⟨i,(i+j) / 2,rfl,by omega,by omega⟩,by simp only;omega⟩
  ·rw [if_neg h]
   exact .inr ⟨_,rfl,i,rfl,by omega⟩
 ·rintro _ ⟨i,rfl,hi⟩
  by_cases h:(i:Int)<(xs.length:Int)
  ·rw [if_pos h,aX (show i<xs.length by omega)]
   simp only [obS,pU]
   exact ⟨i,_,rfl,hi,fun _=>by omega⟩
  ·rw [if_neg h]
   exact ⟨i,false,rfl,hi,fun h=>by cases h⟩
theorem aIb (s:SS) (o:Opr) (gen:Int) (h:SmS s) (ho:o.2.1.length<=1500000000):∃ c s',fP s o gen=some (c,s')/\s'.1.length<=1000/\s'.2.length<=1001/\∀ x∈s'.2,x.2.2.length<=1000:=by
 have hf:=h.fl.1
 have hl:=h.len
 have hx:∀ x∈s.2,x.2.2.length<=1000:=fun x hx=>(h.sn x hx).1.1
 unfold fP
 rw [tL _ ho]
 simp only [obS]
 by_cases h1:bB o.2.1=true
 case neg =>
  rw [if_pos (by simpa using h1)]
  exact ⟨_,_,rfl,hf,by omega,hx⟩
 rw [if_neg (by simp [h1])]
 obtain ⟨i,b,e,hi,hb⟩:=aMt s.2 (by omega) (o.2.1,0,[])
 rw [e]
 simp only [obS]
 by_cases h10:o.1=10
 ·rw [if_pos h10]
  cases b with
  | true=>exact ⟨_,_,rfl,hf,by omega,hx⟩
  | false =>
   rw [if_neg (by simp),if_pos h10,lD _ h.fl]
   simp only [obS]
   have hins:iN s.2 (i:Int) [(o.2.1,gen,s.1)]=some (s.2.take i++[(o.2.1,gen,s.1)]++s.2.drop i):=by
    unfold iN iM
    rw [if_pos ⟨by omega,by omega,by omega,rfl⟩,Int.toNat_natCast]
   rw [hins]
   refine ⟨_,_,rfl,hf,by simp;omega,fun x hxm=>?_⟩
   simp only [List.mem_append,List.mem_singleton] at hxm
   rcases hxm with (hxm | rfl) | hxm
   ·exact hx x (List.mem_of_mem_take hxm)
   ·exact hf
   ·exact hx x (List.mem_of_mem_drop hxm)
 ·rw [if_neg h10,if_neg h10]
  cases b with
  | false=>exact ⟨_,_,rfl,hf,by omega,hx⟩
  | true =>
   have hlt:=hb rfl
   rw [if_neg (by simp)]
   by_cases h11:o.1=11
   ·rw [if_pos h11,aF (by omega) (by omega)]
    have hd:iD s.2 (i:Int) ((i:Int)+1)=some (s.2.take i++s.2.drop (i+1)):=by
     unfold iD pX
     rw [if_pos ⟨by omega,rfl,by omega⟩,Int.toNat_natCast]
    rw [hd]
    refine ⟨_,_,rfl,hf,by simp;omega,fun x hxm=>?_⟩
    rcases List.mem_append.1 hxm with hxm | hxm
    ·exact hx x (List.mem_of_mem_take hxm)
    ·exact hx x (List.mem_of_mem_drop hxm)
   ·rw [if_neg h11,aX hlt]
    simp only [obS]
    rw [lD _ (h.sn _ (List.getElem_mem hlt)).1]
    exact ⟨_,_,rfl,hx _ (List.getElem_mem hlt),by simp only;omega,hx⟩
theorem nl_sa (s:SS) (T:List UInt8):SA (lsP s T):=by
 unfold lsP SA
 refine ⟨by simp,?_⟩
 simp only [List.length_take,List.length_map];omega
theorem aBq (s:SS) (o:Opr) (gen:Int) (h:SmS s) (ht:SmT s.1) (ho:eX o):∃ r,nDo s o gen=some r/\SA r.2:=by
 have hf:=h.fl.1
 have hl:=h.len
 have hx:∀ x∈s.2,x.2.2.length<=1000:=fun x hx=>(h.sn x hx).1.1
 have hc:=aFa s h
 unfold nDo
 rw [hc]
 simp only [obS]
 have fin:∀ (X:Option (SS×Ans×SS)) (K:(SS×Ans×SS)->Option (SS×Ans)),(∃ a b,X=some (a,b,s)/\a.1.length<=1000000/\a.2.length<=1001/\(∀ x∈a.2,x.2.2.length<=1000)/\SA b)->(∀ (a:SS) b,a.1.length<=1000000->a.2.length<=1001->(∀ x∈a.2,x.2.2.length<=1000)->SA b->∃ r,K (a,b,s)=some r/\SA r.2)->∃ r,X.bind K=some r/\SA r.2:=by
  rintro X K ⟨a,b,rfl,h1,h2,h3,h4⟩ hK
  exact hK a b h1 h2 h3 h4
 refine fin _ _ ?_ fun a b h1 h2 h3 hsa=>?_
 ·have e2:∀ Z:Option (SS×Ans×SS),(Option.bind Z fun r139=>some (r139.1,r139.2.1,r139.2.2))=Z:=fun Z=>by cases Z<;>rfl
  simp only [e2]
  have key:∀ (X Y:Option (SS×Ans×SS)),(Option.bind (α:=Bool) (if o.1=10 then (some (decide (o.1=10))) else (Option.bind (α:=Bool) (if o.1=11 then (some (decide (o.1=11))) else (some (decide (o.1=12)))) fun r104=>some r104)) fun r101=>if r101=true then X else Y)=(if o.1=10\/o.1=11\/o.1=12 then X else Y):=by
   intro X Y
   by_cases h1:o.1=10
   ·simp only [h1,if_pos,obS,decide_true,true_or]
   ·by_cases h2:o.1=11
    ·rw [if_neg h1,if_pos h2]
     simp only [obS,h2,decide_true,if_pos,true_or,or_true]
    ·rw [if_neg h1,if_neg h2]
     simp only [obS,h1,h2,false_or,decide_eq_true_eq]
  rw [key]
  by_cases h1:o.1=10\/o.1=11\/o.1=12
  ·rw [if_pos h1]
   obtain ⟨c,s',e,a1,a2,a3⟩:=aIb s o gen h (by have:=ho.p;omega)
   rw [show fP (s.1,s.2) (o.1,o.2.1,o.2.2.1,o.2.2.2.1,o.2.2.2.2.1,o.2.2.2.2.2) gen=_ from e]
   exact ⟨_,_,rfl,Nat.le_trans a1 (by decide),a2,a3,by simp [SA]⟩
  ·rw [if_neg h1]
   by_cases h2:o.1=13
   ·rw [if_pos h2,aDk s _ (by omega)]
    exact ⟨_,_,rfl,by simp only;omega,by simp only;omega,hx,nl_sa _ _⟩
   ·rw [if_neg h2]
    obtain ⟨L',a,e,hL',hsa⟩:=aP7 ht o ho
    rw [show fDo s.1 (o.1,o.2.1,o.2.2.1,o.2.2.2.1,o.2.2.2.2.1,o.2.2.2.2.2)=_ from e]
    exact ⟨_,_,rfl,by simp only;omega,by simp only;omega,hx,hsa⟩
 ·simp only
  rw [hc]
  simp only [obS]
  by_cases h0:b.1=0
  ·rw [if_pos h0,show gR (a.1,a.2)=_ from aGv a h1 h2 h3]
   simp only [obS]
   split
   ·simp only [obS]
    split<;>exact ⟨_,rfl,by first | exact hsa | simp [SA]⟩
   ·simp only [obS]
    split<;>exact ⟨_,rfl,by first | exact hsa | simp [SA]⟩
  ·rw [if_neg h0,if_neg h0]
   exact ⟨_,rfl,by first | exact hsa | simp [SA]⟩
theorem aKz (s:SS) (o:Opr) (gen:Int) (h:SmS s) (ht:SmT s.1) (ho:eX o):∃ r,nDo s o gen=some r:=by
 obtain ⟨r,h1,_⟩:=aBq s o gen h ht ho
 exact ⟨r,h1⟩
noncomputable def dY (L:List P2):List Ent:=((rNodes L).getD ([],false)).1
noncomputable def jN (L:List P2):Bool:=((rNodes L).getD ([],false)).2
theorem aB5 {L:List P2} (h:SmL L):rNodes L=some (dY L,jN L):=by grind [aGq,dY,jN]
theorem kU {L:List P2} (h:SmL L):(jN L=true↔RF L)/\(dY L).length<=L.length/\(RF L->NdL (dY L)/\prL (dY L)=L):=by
 obtain ⟨l,b,e,h1,h2,h3⟩:=aGq L h
 have e1:dY L=l:=by grind [dY]
 have e2:jN L=b:=by grind [jN]
 rw [e1,e2]
 refine ⟨⟨fun hb=>(h2 hb).1,h3⟩,h1,fun hr=>?_⟩
 obtain ⟨_,a1,a2,a3⟩:=h2 (h3 hr)
 exact ⟨⟨a1,a2,by have:=h.1;omega⟩,a3⟩
noncomputable def rdM (s:SS):RSt:=(dY s.1,s.2.map fun x=>(x.1,x.2.1,dY x.2.2))
theorem aFi (s:SS) (h:SmS s):∃ b,rReadS s=some (rdM s,b)/\(b=true↔Rt s)/\(Rt s->RtM (rdM s)/\wrS (rdM s)=s):=by
 have hn:=h.len
 have hgood:RF s.1->(∀ j,j<s.2.length->GoodS s j)->NdL (rdM s).1/\(∀ x∈(rdM s).2,NdL x.2.2)/\wrS (rdM s)=s:=by
  intro h1 h2
  have hsn:∀ x∈s.2,RF x.2.2:=fun x hx=>by
   obtain ⟨j,hj,rfl⟩:=List.getElem_of_mem hx
   obtain ⟨_,h3,_⟩:=h2 j hj;exact h3
  refine ⟨((kU h.fl).2.2 h1).1,fun x hx=>?_,?_⟩
  ·obtain ⟨y,hy,rfl⟩:=List.mem_map.1 hx
   exact ((kU (h.sn y hy).1).2.2 (hsn y hy)).1
  ·unfold wrS rdM
   simp only [List.map_map]
   rw [((kU h.fl).2.2 h1).2]
   have:s.2.map ((fun x:RSn=>(x.1,x.2.1,prL x.2.2)) ∘ fun x:Sn=>(x.1,x.2.1,dY x.2.2))=s.2:=by
    conv=>rhs;rw [<- List.map_id s.2]
    refine List.map_congr_left fun x hx=>?_
    simp only [Function.comp_apply,id_eq]
    rw [((kU (h.sn x hx).1).2.2 (hsn x hx)).2]
   rw [this]
 unfold rReadS
 rw [aB5 h.fl]
 simp only [obS]
 refine dR (C:=fun (o:Option (RSt×Bool))=>∃ b,o=some (rdM s,b)/\(b=true↔Rt s)/\(Rt s->RtM (rdM s)/\wrS (rdM s)=s)) (fun k (q:RSt×Bool×Int)=>q.1=(dY s.1,(s.2.take k).map fun x=>(x.1,x.2.1,dY x.2.2))/\q.2.2=(k:Int)/\(q.2.1=true↔RF s.1/\∀ j,j<k->GoodS s j)) (fun (r:RSt×Bool)=>r.1=rdM s/\(r.2=true↔RF s.1/\∀ j,j<s.2.length->GoodS s j)) s.2.length (s0:=((dY s.1,([]:List RSn)),jN s.1,(0:Int))) ⟨by simp,rfl,by simp [(kU h.fl).1]⟩ ?_ ?_ ?_
 ·rintro k ⟨m,ok,i⟩ hk ⟨h1,h2,h3⟩
  simp only at h1 h2 h3
  subst h1 h2
  simp only
  rw [if_pos (by omega),aX hk]
  simp only [obS]
  have hx:=h.sn _ (List.getElem_mem hk)
  have hap:aL ((s.2.take k).map fun x=>(x.1,x.2.1,dY x.2.2)) [((s.2[k]).1,(s.2[k]).2.1,dY (s.2[k]).2.2)]=some ((s.2.take (k+1)).map fun x=>(x.1,x.2.1,dY x.2.2)):=by
   rw [bI (by simp;omega),List.take_succ_eq_append_getElem hk,List.map_append];rfl
  have hok:=kU hx.1
  rw [aB5 hx.1]
  simp only [obS]
  rw [hap]
  simp only [obS]
  rw [aF (show -9223372036854775808<=(k:Int)+1 by omega) (by omega)]
  have all_succ:(∀ j,j<k+1->GoodS s j)↔(∀ j,j<k->GoodS s j)/\GoodS s k:=by
   constructor
   ·intro hh;exact ⟨fun j hj=>hh j (by omega),hh k (by omega)⟩
   ·rintro ⟨h1,h2⟩ j hj
    by_cases e:j=k
    ·subst e;exact h2
    ·exact h1 j (by omega)
  have hsel:GoodS s k↔RF (s.2[k]).2.2/\bB (s.2[k]).1=true/\(0<k->(s.2[k-1]'(by omega)).1<(s.2[k]).1):=by
   constructor
   ·rintro ⟨_,h⟩;exact h
   ·intro h;exact ⟨hk,h⟩
  cases ok with
  | false =>
   rw [if_neg (by simp)]
   refine .inl ⟨_,rfl,rfl,rfl,?_⟩
   simp only [Bool.false_eq_true,false_iff] at h3 ⊢
   rw [all_succ]
   exact fun ⟨a,b,_⟩=>h3 ⟨a,b⟩
  | true =>
   have h3':=h3.1 rfl
   rw [if_pos rfl]
   cases hb:jN (s.2[k]).2.2 with
   | false =>
    rw [if_neg (by simp)]
    refine .inl ⟨_,rfl,rfl,rfl,?_⟩
    simp only [Bool.false_eq_true,false_iff]
    rw [all_succ,hsel]
    rintro ⟨_,_,a,_⟩
    rw [hok.1.2 a] at hb;cases hb
   | true =>
    rw [if_pos rfl,tY]
    simp only [obS]
    cases hnm:bB (s.2[k]).1 with
    | false =>
     rw [if_neg (by simp)]
     refine .inl ⟨_,rfl,rfl,rfl,?_⟩
     simp only [Bool.false_eq_true,false_iff]
     rw [all_succ,hsel]
     rintro ⟨_,_,_,a,_⟩
     rw [a] at hnm;cases hnm
    | true =>
     rw [if_pos rfl]
     by_cases hk0:(k:Int)=0
     ·rw [if_pos hk0]
      refine .inl ⟨_,rfl,rfl,rfl,?_⟩
      simp only [true_iff]
      rw [all_succ,hsel]
      exact ⟨h3'.1,h3'.2,hok.1.1 hb,hnm,fun h=>by omega⟩
     ·rw [if_neg hk0,aF (by omega) (by omega),show (k:Int)-1=((k-1:Nat):Int) by omega,aX (show k-1<s.2.length by omega)]
      simp only [obS]
      refine .inl ⟨_,rfl,rfl,rfl,?_⟩
      simp only
      rw [all_succ,hsel,fI]
      constructor
      ·intro hlt;exact ⟨h3'.1,h3'.2,hok.1.1 hb,hnm,fun _=>hlt⟩
      ·rintro ⟨_,_,_,_,a⟩;exact a (by omega)
 ·rintro ⟨m,ok,i⟩ ⟨h1,h2,h3⟩
  simp only at h1 h2 h3
  subst h1 h2
  simp only
  rw [if_neg (by omega),List.take_length]
  exact ⟨_,rfl,rfl,h3⟩
 ·rintro ⟨m,ok⟩ ⟨h1,h2⟩
  simp only at h1 h2
  subst h1
  cases ok with
  | false =>
   refine ⟨false,by rw [if_neg (by simp)],?_,fun hr=>?_⟩
   ·simp only [Bool.false_eq_true,false_iff] at h2 ⊢
    exact fun hr=>h2 ⟨((kZ s).1 hr).1,((kZ s).1 hr).2.2⟩
   ·have:=(kZ s).1 hr
    obtain ⟨a,b,c⟩:=hgood this.1 this.2.2
    exact ⟨⟨a,b,by rw [c];exact hr⟩,c⟩
  | true =>
   obtain ⟨a1,a2⟩:=h2.1 rfl
   obtain ⟨b1,b2,b3⟩:=hgood a1 a2
   have hf:(prL (rdM s).1).length<=1000:=by
    have:(wrS (rdM s)).1=s.1:=by rw [b3]
    show (wrS (rdM s)).1.length<=1000
    rw [this];exact h.fl.1
   have hx:∀ x∈(rdM s).2,(prL x.2.2).length<=1000:=fun x hx=>by
    have:(x.1,x.2.1,prL x.2.2)∈(wrS (rdM s)).2:=List.mem_map.2 ⟨x,hx,rfl⟩
    rw [b3] at this
    exact (h.sn _ this).1.1
   have hl:(rdM s).2.length<=1000:=by unfold rdM;simp;omega
   rw [if_pos rfl,show rUnits ((rdM s).1,(rdM s).2)=_ from aBn b1 b2 hl hf hx,b3]
   simp only [obS]
   have hiff:unN s<=48↔Rt s:=by
    rw [kZ]
    exact ⟨fun h=>⟨a1,h,a2⟩,fun h=>h.2.1⟩
   refine ⟨_,rfl,?_,fun hr=>⟨⟨b1,b2,by rw [b3];exact hr⟩,by first | exact b3 | trivial⟩⟩
   rw [decide_eq_true_iff,<- hiff]
   omega
theorem aIa (s:SS) (h:SmS s):nM s=some s:=by
 have hn:=h.len
 have hcp:∀ L:List P2,SmL L->kK L=some L:=fun L hL=>aOs L hL
 unfold nM
 rw [hcp _ h.fl]
 simp only [obS]
 refine cK (fun k (q:SS×Int)=>q=((s.1,s.2.take k),(k:Int))) (fun r=>r=s) s.2.length rfl ?_ ?_ ?_
 ·rintro k _ hk rfl
  simp only
  rw [if_pos (by omega),aX hk]
  simp only [obS]
  rw [hcp _ (h.sn _ (List.getElem_mem hk)).1]
  simp only [obS]
  rw [bI (by simp;omega)]
  simp only [obS]
  rw [aF (by omega) (by omega),List.take_succ_eq_append_getElem hk]
  exact .inl ⟨_,rfl,rfl⟩
 ·rintro _ rfl
  simp only
  rw [if_neg (by omega),List.take_length]
  exact ⟨_,rfl,rfl⟩
 ·rintro _ rfl;rfl
theorem aK2 {s:SS} (h:iF s=some false):SmT s.1:=by
 rcases aO1 s.1 with h1 | ⟨_,h1⟩
 ·unfold iF at h
  grind
 grind
theorem aK0 (o:Opr) (h:o.2.2.2.2.2.length<=1000):kP o=some o:=by
 unfold kP
 grind [bI]
theorem aPl (a:Ans):∃ b,nQ a=some b/\(b=true↔RA a):=by
 unfold nQ
 by_cases h1:a.1<0
 ·rw [if_pos h1];exact ⟨false,rfl,(fun h=>by cases h),fun h=>by have:=h.c0;omega⟩
 rw [if_neg h1]
 by_cases h2:65535<a.1
 ·rw [if_pos h2];exact ⟨false,rfl,(fun h=>by cases h),fun h=>by have:=h.c1;omega⟩
 rw [if_neg h2]
 by_cases h3:a.2.1<0
 ·rw [if_pos h3];exact ⟨false,rfl,(fun h=>by cases h),fun h=>by have:=h.n0;omega⟩
 rw [if_neg h3]
 by_cases h4:65535<a.2.1
 ·rw [if_pos h4];exact ⟨false,rfl,(fun h=>by cases h),fun h=>by have:=h.n1;omega⟩
 rw [if_neg h4]
 by_cases h5:64<(a.2.2.1.length:Int)
 ·rw [if_pos h5];exact ⟨false,rfl,(fun h=>by cases h),fun h=>by have:=h.d;omega⟩
 rw [if_neg h5]
 by_cases h6:6<(a.2.2.2.length:Int)
 ·rw [if_pos h6];exact ⟨false,rfl,(fun h=>by cases h),fun h=>by have:=h.nl;omega⟩
 rw [if_neg h6]
 have hall:(∀ j (hj:j<a.2.2.2.length),a.2.2.2[j]≠[]/\(a.2.2.2[j]).length<=8)->RA a:=fun h=>⟨by omega,by omega,by omega,by omega,by omega,by omega,fun x hx=>by
  obtain ⟨j,hj,rfl⟩:=List.getElem_of_mem hx
  exact h j hj⟩
 refine dR (C:=fun (o:Option Bool)=>∃ b,o=some b/\(b=true↔RA a)) (fun k (s:Int)=>s=(k:Int)/\∀ j (hj:j<a.2.2.2.length),j<k->a.2.2.2[j]≠[]/\(a.2.2.2[j]).length<=8) (fun (r:Unit ⊕ Bool)=>(r=.inl ()/\RA a)\/(r=.inr false/\¬ RA a)) a.2.2.2.length ⟨rfl,fun j _ hj=>by omega⟩ ?_ ?_ ?_
 ·rintro k _ hk ⟨rfl,hp⟩
  rw [if_pos (by omega),aX hk]
  simp only [obS]
  have hm:=List.getElem_mem hk
  by_cases h7:((a.2.2.2[k]).length:Int)<1
  ·rw [if_pos h7]
   refine .inr ⟨_,rfl,.inr ⟨rfl,fun h=>(h.nm _ hm).1 (List.eq_nil_of_length_eq_zero (by omega))⟩⟩
  rw [if_neg h7]
  by_cases h8:8<((a.2.2.2[k]).length:Int)
  ·rw [if_pos h8]
   refine .inr ⟨_,rfl,.inr ⟨rfl,fun h=>by have:=(h.nm _ hm).2;omega⟩⟩
  rw [if_neg h8,aF (by omega) (by omega)]
  refine .inl ⟨_,rfl,rfl,fun j hj hjk=>?_⟩
  by_cases e:j=k
  ·subst e
   exact ⟨fun h=>by rw [h] at h7;simp at h7,by omega⟩
  ·exact hp j hj (by omega)
 ·rintro _ ⟨rfl,hp⟩
  rw [if_neg (by omega)]
  exact ⟨_,rfl,.inl ⟨rfl,hall fun j hj=>hp j hj hj⟩⟩
 ·rintro _ (⟨rfl,h⟩ | ⟨rfl,h⟩)
  ·exact ⟨true,rfl,fun _=>h,fun _=>rfl⟩
  ·exact ⟨false,rfl,(fun h'=>by cases h'),fun h'=>absurd h' h⟩
def zs:Seat:=(0,0,za)
def stA (xs:List Seat):List Seat:=[(atT xs 0).getD zs,(atT xs 1).getD zs,(atT xs 2).getD zs,(atT xs 3).getD zs]
theorem xB (xs:List Seat) {c:Int} (h:0<=c/\c<4):aD (stA xs) c=some ((atT xs c).getD zs):=by
 obtain ⟨n,rfl⟩:=Int.eq_ofNat_of_zero_le h.1
 rcases n with _ | _ | _ | _ | n
 ·rfl
 ·rfl
 ·rfl
 ·rfl
 grind
theorem aNn {xs:List Seat} (h:dO xs) (T:Int):xs.filter (fun x=>decide (T<=x.1))=(atT xs T).toList++xs.filter (fun x=>decide (T+1<=x.1)):=by
 have e:hiT xs T=xs.filter (fun x=>decide (T+1<=x.1)):=by
  unfold hiT
  refine List.filter_congr fun x _=>?_
  rw [decide_eq_decide];omega
 have hp:=oJ h T
 rw [<- e]
 conv=>lhs;rw [hp]
 rw [List.filter_append,List.filter_append]
 have e1:(loT xs T).filter (fun x=>decide (T<=x.1))=[]:=List.filter_eq_nil_iff.2 fun y hy=>by have:=oG y hy;simp;omega
 have e2:(hiT xs T).filter (fun x=>decide (T<=x.1))=hiT xs T:=List.filter_eq_self.2 fun y hy=>by have:=nK y hy;simp;omega
 have e3:(atT xs T).toList.filter (fun x=>decide (T<=x.1))=(atT xs T).toList:=List.filter_eq_self.2 fun y hy=>by
  have:=(gI (x:=y) (by simpa using hy)).1;simp;omega
 rw [e1,e2,e3,List.nil_append]
theorem aNr {xs:List Seat} (h:dO xs) (hb:∀ x∈xs,0<=x.1/\x.1<4):xs=(atT xs 0).toList++((atT xs 1).toList++((atT xs 2).toList++(atT xs 3).toList)):=by
 have e0:xs.filter (fun x=>decide ((0:Int)<=x.1))=xs:=List.filter_eq_self.2 fun y hy=>by grind
 have e4:xs.filter (fun x=>decide ((3:Int)+1<=x.1))=[]:=List.filter_eq_nil_iff.2 fun y hy=>by have:=hb y hy;simp;omega
 grind [aNn]
def iV (xs:List Seat):Nat->List Seat
 | 0=>[]
 | k+1=>iV xs k++(atT xs (k:Int)).toList
theorem aHd (xs:List Seat):∀ k,(iV xs k).length<=k
 | 0=>by simp [iV]
 | k+1=>by
  have:=aHd xs k
  grind [iV]
theorem aHw {m:RSt} (hm:RtM m) {xs:List Seat} (hs:dO xs) (hb:∀ x∈xs,0<=x.1/\x.1<4) (hn:∀ x∈xs,0<x.2.1):rWriteW (m,stA xs)=some (wrS m,xs):=by
 unfold rWriteW
 rw [aIy hm.nd hm.sn (by have:=hm.rt.len.2.1;simp [wrS] at this;omega)]
 simp only [obS]
 refine cK (fun k (q:List Seat×Int)=>q=(iV xs k,(k:Int))) (fun r=>r=xs) 4 rfl ?_ ?_ ?_
 ·rintro k _ hk rfl
  simp only
  have hl:=aHd xs k
  rw [if_pos (by omega),xB xs ⟨by omega,by omega⟩]
  simp only [obS]
  cases hx:atT xs (k:Int) with
  | none =>
   simp only [Option.getD_none]
   rw [if_neg (by decide)]
   simp only [obS]
   rw [aF (by omega) (by omega)]
   refine .inl ⟨_,rfl,?_⟩
   simp only [iV,hx,Option.toList_none,List.append_nil]
   rfl
  | some x =>
   obtain ⟨h1,h2⟩:=gI hx
   simp only [Option.getD_some]
   rw [if_pos (hn x h2),bI (by simp;omega)]
   simp only [obS]
   rw [aF (by omega) (by omega)]
   refine .inl ⟨_,rfl,?_⟩
   simp only [iV,hx,Option.toList_some]
   obtain ⟨x1,x2,x3⟩:=x
   simp only at h1
   rw [h1]
   rfl
 ·rintro _ rfl
  simp only
  rw [if_neg (by omega)]
  refine ⟨_,rfl,?_⟩
  have:=aNr hs hb
  conv=>rhs;rw [this]
  simp [iV]
 ·rintro _ rfl;rfl
theorem aLi {xs:List Seat} (h:dO xs) (s:Seat) (hc:0<=s.1/\s.1<4):(stA xs).set s.1.toNat s=stA (ptP xs s):=by
 have hself:=aJr xs s
 have hoth:∀ T:Int,T≠s.1->atT (ptP xs s) T=atT xs T:=fun T hT=>aO8 h s hT
 obtain ⟨n,hn⟩:=Int.eq_ofNat_of_zero_le hc.1
 have h4:n<4:=by omega
 have e:s.1.toNat=n:=by omega
 rw [e]
 unfold stA
 rcases n with _ | _ | _ | _ | n
 ·rw [show atT (ptP xs s) 0=some s by rw [<- hself,hn];rfl,hoth 1 (by omega),hoth 2 (by omega),hoth 3 (by omega)];rfl
 ·rw [show atT (ptP xs s) 1=some s by rw [<- hself,hn];rfl,hoth 0 (by omega),hoth 2 (by omega),hoth 3 (by omega)];rfl
 ·rw [show atT (ptP xs s) 2=some s by rw [<- hself,hn];rfl,hoth 0 (by omega),hoth 1 (by omega),hoth 3 (by omega)];rfl
 ·rw [show atT (ptP xs s) 3=some s by rw [<- hself,hn];rfl,hoth 0 (by omega),hoth 1 (by omega),hoth 2 (by omega)];rfl
 ·omega
theorem aNa {w:WW} (h:RtW w) (hn:Nn w) {m:RSt} (hm:RtM m) (hw:wrS m=w.1) (c:Int×Int×Opr) (gen:Int) (hd:c.2.2.2.2.2.2.2.length<=80000) :
  ∃ m',rDoW (m,stA w.2) c gen=some ((m',stA (dP w c gen).1.2),(dP w c gen).2)/\RtM m'/\wrS m'=(dP w c gen).1.1:=by
 unfold rDoW dP
 by_cases h1:c.1<0
 ·rw [if_pos h1,if_neg (by omega)];exact ⟨m,rfl,hm,hw⟩
 rw [if_neg h1]
 by_cases h2:3<c.1
 ·rw [if_pos h2,if_neg (by omega)];exact ⟨m,rfl,hm,hw⟩
 rw [if_neg h2,if_pos (by omega),xB w.2 (by omega)]
 simp only [obS]
 have hfresh:(lkP w.2 c.1 c.2.1).1=0->∃ m',(rDoS m c.2.2 gen).bind (fun x21=>some (((x21.1.1,x21.1.2),(stA w.2).set (c.1:Int).toNat (c.1,c.2.1,(x21.2.1,x21.2.2.1,x21.2.2.2.1,x21.2.2.2.2))),(x21.2.1,x21.2.2.1,x21.2.2.2.1,x21.2.2.2.2),(0:Int)))=some ((m',stA (ptP w.2 (c.1,c.2.1,(stP w.1 c.2.2 gen).2))),(stP w.1 c.2.2 gen).2,0)/\RtM m'/\wrS m'=(stP w.1 c.2.2 gen).1:=fun _=>by
  obtain ⟨m',k1,k2,k3⟩:=aN2 hm c.2.2 gen hd
  rw [k1,hw]
  simp only [obS]
  have:=aLi h.srt (c.1,c.2.1,(stP w.1 c.2.2 gen).2) ⟨by simp only;omega,by simp only;omega⟩
  exact ⟨m',by rw [<- this],k2,by rw [k3,hw]⟩
 unfold lkP at hfresh ⊢
 cases hx:atT w.2 c.1 with
 | some x =>
  have hx1:=h.se x (gI hx).2
  have hx2:=hn x (gI hx).2
  rw [hx] at hfresh
  simp only [Option.getD_some] at hfresh ⊢
  by_cases h3:c.2.1<x.2.1
  ·rw [if_pos h3,if_neg (show ¬ x.2.1<c.2.1 by omega),if_neg (show ¬ c.2.1=x.2.1 by omega),if_neg (by simp)]
   exact ⟨m,rfl,hm,hw⟩
  rw [if_neg h3]
  by_cases h4:c.2.1=0
  ·omega
  rw [if_neg h4]
  by_cases h5:c.2.1=x.2.1
  ·rw [if_pos h5,if_neg (show ¬ x.2.1<c.2.1 by omega),if_pos h5,if_neg (by simp)]
   exact ⟨m,rfl,hm,hw⟩
  rw [if_neg h5]
  have h6:x.2.1<c.2.1:=by omega
  rw [if_pos h6] at hfresh ⊢
  rw [if_pos rfl]
  obtain ⟨m',k1,k2,k3⟩:=hfresh rfl
  exact ⟨m',k1,k2,k3⟩
 | none =>
  rw [hx] at hfresh
  have hz:zs.2.1=0:=rfl
  simp only [Option.getD_none] at hfresh ⊢
  by_cases h3:c.2.1<zs.2.1
  ·rw [if_pos h3,if_neg (show ¬ 0<c.2.1 by omega),if_neg (by simp)]
   exact ⟨m,rfl,hm,hw⟩
  rw [if_neg h3]
  by_cases h4:c.2.1=0
  ·rw [if_pos h4,if_neg (show ¬ 0<c.2.1 by omega),if_neg (by simp)]
   exact ⟨m,rfl,hm,hw⟩
  rw [if_neg h4,if_neg (show ¬ c.2.1=zs.2.1 by omega)]
  have h6:0<c.2.1:=by omega
  rw [if_pos h6] at hfresh ⊢
  rw [if_pos rfl]
  obtain ⟨m',k1,k2,k3⟩:=hfresh rfl
  exact ⟨m',k1,k2,k3⟩
theorem aOh {xs:List Seat} {x:Seat} (h:∀ y∈xs,y.1<x.1) (T:Int):atT (xs++[x]) T=if x.1=T then some x else atT xs T:=by grind [atT]
theorem aOv {xs:List Seat} {x:Seat} (h:∀ y∈xs,y.1<x.1) (hc:0<=x.1/\x.1<4):(stA xs).set x.1.toNat x=stA (xs++[x]):=by
 have ha:=aOh h
 obtain ⟨n,hn⟩:=Int.eq_ofNat_of_zero_le hc.1
 have e:x.1.toNat=n:=by omega
 unfold stA
 rw [ha 0,ha 1,ha 2,ha 3,hn]
 rcases n with _ | _ | _ | _ | n<;>rfl
theorem aKr {w:WW} {k:Nat} (h:∀ j,j<k->eH w j) (hk:eH w k):∀ y∈w.2.take k,y.1<(w.2[k]'(hk.1)).1:=by
 have hlen:=hk.1
 have hs:dO (w.2.take (k+1)):=aFl fun i hi=>by
  rw [List.length_take] at hi
  obtain ⟨_,_,_,_,_,h6⟩:eH w (i+1):=by
   grind
  grind
 grind [List.take_succ_eq_append_getElem]
theorem aM6 (w:WW) (hs:SmS w.1) (hl:w.2.length<=20):∃ m b,rReadW w=some (m,b)/\(b=true↔RtW w)/\(RtW w->m=(rdM w.1,stA w.2)):=by
 unfold rReadW
 obtain ⟨b0,e1,e2,e3⟩:=aFi w.1 hs
 rw [e1]
 simp only [obS]
 refine dR (C:=fun (o:Option ((RSt×List Seat)×Bool))=>∃ m b,o=some (m,b)/\(b=true↔RtW w)/\(RtW w->m=(rdM w.1,stA w.2))) (fun k (q:List Seat×Int×Int)=>q.1=stA (w.2.take k)/\q.2.1=(if h:0<k/\k<=w.2.length then (w.2[k-1]'(by omega)).1 else -1)/\q.2.2=(k:Int)/\∀ j,j<k->eH w j) (fun (r:(List Seat) ⊕ ((RSt×List Seat)×Bool))=>(r=.inl (stA w.2)/\∀ j,j<w.2.length->eH w j)\/(∃ m,r=.inr (m,false)/\¬ RtW w)) w.2.length ⟨rfl,rfl,rfl,fun j hj=>by omega⟩ ?_ ?_ ?_
 ·rintro k ⟨arr,last,i⟩ hk ⟨h1,h2,h3,h4⟩
  simp only at h1 h2 h3
  subst h1 h3
  simp only
  have bad:¬ eH w k->¬ RtW w:=fun hg h=>hg (((vE w).1 h).2 k hk)
  rw [if_pos (by omega),aX hk]
  simp only [obS]
  by_cases c1:w.2[k].1<=last
  ·rw [if_pos c1]
   refine .inr ⟨_,rfl,.inr ⟨_,rfl,bad fun ⟨_,g0,_,_,_,g5⟩=>?_⟩⟩
   by_cases hk0:0<k
   ·have:=g5 hk0
    rw [dif_pos ⟨hk0,by omega⟩] at h2
    omega
   ·rw [dif_neg (by omega)] at h2
    omega
  rw [if_neg c1]
  by_cases c2:3<w.2[k].1
  ·rw [if_pos c2]
   exact .inr ⟨_,rfl,.inr ⟨_,rfl,bad fun ⟨_,_,g1,_⟩=>by omega⟩⟩
  rw [if_neg c2]
  by_cases c3:w.2[k].2.1=0
  ·rw [if_pos c3]
   exact .inr ⟨_,rfl,.inr ⟨_,rfl,bad fun ⟨_,_,_,g2,_⟩=>g2 c3⟩⟩
  rw [if_neg c3]
  obtain ⟨b,hb,hb2⟩:=aPl w.2[k].2.2
  rw [hb]
  simp only [obS]
  cases b with
  | false =>
   rw [if_pos (by rfl)]
   exact .inr ⟨_,rfl,.inr ⟨_,rfl,bad fun ⟨_,_,_,_,g3,_⟩=>by have:=hb2.2 g3;cases this⟩⟩
  | true =>
   rw [if_neg (by simp)]
   have hlo:-1<=last:=by
    rw [h2]
    by_cases hk0:0<k/\k<=w.2.length
    ·rw [dif_pos hk0]
     obtain ⟨_,g0,_⟩:=h4 (k-1) (by omega)
     omega
    ·rw [dif_neg hk0];omega
   have hg:eH w k:=⟨hk,by omega,by omega,c3,hb2.1 rfl,fun hk0=>by
    rw [dif_pos ⟨hk0,by omega⟩] at h2
    omega⟩
   rw [xB _ ⟨by omega,by omega⟩]
   simp only [obS]
   rw [aF (by omega) (by omega)]
   refine .inl ⟨_,rfl,?_,?_,rfl,fun j hj=>?_⟩
   ·rw [List.take_succ_eq_append_getElem hk]
    exact aOv (aKr h4 hg) ⟨by omega,by omega⟩
   ·rw [dif_pos ⟨by omega,by omega⟩];rfl
   ·by_cases e:j=k
    ·subst e;exact hg
    ·exact h4 j (by omega)
 ·rintro ⟨arr,last,i⟩ ⟨h1,h2,h3,h4⟩
  simp only at h1 h2 h3
  subst h1 h3
  simp only
  rw [if_neg (by omega),List.take_length]
  exact ⟨_,rfl,.inl ⟨rfl,h4⟩⟩
 ·rintro _ (⟨rfl,h⟩ | ⟨m,rfl,h⟩)
  ·exact ⟨_,b0,rfl,e2.trans ⟨fun hr=>(vE w).2 ⟨hr,h⟩,fun hr=>hr.st⟩,fun _=>rfl⟩
  ·exact ⟨m,false,rfl,⟨(fun h'=>by cases h'),fun h'=>absurd h' h⟩,fun h'=>absurd h' h⟩
theorem aIt (a:Ans) (h:SmA a):oV a=some a:=by
 unfold oV
 rw [cR (by simp;exact h.1)]
 rw [aB8 (by simp;exact h.2)]
 rfl
theorem aLj (w:WW) (h:SmS w.1) (hq:SmQ w.2):mH w=some w:=by
 obtain ⟨hl,hb⟩:=hq
 unfold mH
 rw [aIa _ h]
 simp only [obS]
 refine cK (fun k (s:List Seat×Int)=>s=(w.2.take k,(k:Int))) (fun r=>r=w.2) w.2.length rfl ?_ ?_ ?_
 ·rintro k _ hk rfl
  simp only
  rw [if_pos (by omega),aX hk]
  simp only [obS]
  rw [aIt _ (hb _ (List.getElem_mem hk))]
  simp only [obS]
  rw [bI (by simp only [List.length_take,List.length_cons,List.length_nil];omega)]
  exact .inl ⟨_,rfl,by rw [aF (by omega) (by omega)];exact Prod.ext (List.take_succ_eq_append_getElem hk).symm rfl⟩
 ·rintro _ rfl
  simp only
  rw [if_neg (by omega),List.take_length];exact ⟨_,rfl,rfl⟩
 ·rintro _ rfl;rfl
theorem aHx (xs:List Seat) (hl:xs.length<=100000) (t:Seat):∃ (i:Nat) (b:Bool),fU xs t=some ((i:Int),b)/\i<=xs.length/\(b=true->i<xs.length):=by
 unfold fU
 refine aF0 (C:=fun o=>∃ (i:Nat) (b:Bool),o=some ((i:Int),b)/\i<=xs.length/\(b=true->i<xs.length)) (fun s=>∃ i j:Nat,s=((i:Int),(j:Int))/\i<=j/\j<=xs.length) (fun r=>∃ i:Nat,r=(i:Int)/\i<=xs.length) (fun (s:Int×Int)=>(s.2-s.1).toNat) (s0:=((0:Int),(xs.length:Int))) ⟨0,_,rfl,by omega,by omega⟩ ?_ ?_
 ·rintro _ ⟨i,j,rfl,h3,h5⟩
  simp only
  by_cases h:(i:Int)<(j:Int)
  ·rw [if_pos h,sV (by omega),aX (show (i+j) / 2<xs.length by omega)]
   simp only [obS,pJ]
   generalize (if (xs[(i+j) / 2]'(by omega)).1<t.1 then (-1:Int) else if t.1<(xs[(i+j) / 2]'(by omega)).1 then 1 else 0)=z
   by_cases h6:z<0
   ·rw [if_pos h6,aF (by omega) (by omega)]
    exact .inl ⟨_,rfl,⟨(i+j) / 2+1,j,rfl,by omega,by omega⟩,by simp only;omega⟩
   ·rw [if_neg h6]
    exact .inl ⟨_,rfl,⟨i,(i+j) / 2,rfl,by omega,by omega⟩,by simp only;omega⟩
  ·rw [if_neg h]
   exact .inr ⟨_,rfl,i,rfl,by omega⟩
 ·rintro _ ⟨i,rfl,hi⟩
  by_cases h:(i:Int)<(xs.length:Int)
  ·rw [if_pos h,aX (show i<xs.length by omega)]
   simp only [obS,pJ]
   exact ⟨i,_,rfl,hi,fun _=>by omega⟩
  ·rw [if_neg h]
   exact ⟨i,false,rfl,hi,fun h=>by cases h⟩
theorem aCw (xs:List Seat) (hl:xs.length<=100000) (T:Int) (f:List Seat->Int->Option (Int×Bool)) (hf:f=jQ\/f=jB):∃ (i:Nat) (b:Bool),f xs T=some ((i:Int),b)/\i<=xs.length/\(b=true->i<xs.length):=by
 obtain ⟨i,b,h,h1,h2⟩:=aHx xs hl (T,0,(0,0,[],[]))
 refine ⟨i,b,?_,h1,h2⟩
 rcases hf with rfl | rfl
 ·unfold jQ;rw [h];rfl
 ·unfold jB;rw [show nH=fU from rfl,h];rfl
theorem aOt (xs:List Seat) (h:SmQ xs) (client number:Int):∃ r,jA xs client number=some r:=by
 obtain ⟨hl,hb⟩:=h
 unfold jA
 obtain ⟨i,b,e,h1,h2⟩:=aCw xs (by omega) client _ (.inl rfl)
 rw [e]
 simp only [obS]
 cases b with
 | true =>
  have hi:=h2 rfl
  rw [if_pos rfl,aX hi]
  simp only [obS,if_true]
  rw [oT _ (hb _ (List.getElem_mem hi))]
  split
  ·exact ⟨_,rfl⟩
  ·split
   ·exact ⟨_,rfl⟩
   ·exact ⟨_,rfl⟩
 | false =>
  simp only [Bool.false_eq_true,if_false,obS]
  split
  ·exact ⟨_,rfl⟩
  ·exact ⟨_,rfl⟩
theorem aMw (xs:List Seat) (h:SmQ xs) (s:Seat) (hA:SmA s.2.2):∃ r,iJ xs s=some r:=by
 have hl:=h.1
 unfold iJ
 rw [rV _ h]
 simp only [obS]
 rw [oT _ hA]
 simp only [obS]
 obtain ⟨i,b,e,h1,h2⟩:=aCw xs (by omega) s.1 _ (.inr rfl)
 rw [e]
 simp only [obS]
 cases b with
 | true=>rw [if_pos rfl,aX (h2 rfl)];exact ⟨_,rfl⟩
 | false =>
  rw [if_neg (by simp)]
  unfold oC iM
  rw [if_pos ⟨by omega,by omega,by omega,rfl⟩]
  exact ⟨_,rfl⟩
theorem aO4 (w:WW) (h:SmS w.1) (ht:SmT w.1.1) (hq:SmQ w.2):∃ r,fV w=some r:=by
 unfold fV
 obtain ⟨r,e⟩:=aKz w.1 (0,[],[],0,0,[]) 0 h ht zM
 simp_all [rV]
theorem aPm (w:WW) (c:Int×Int×Opr) (gen:Int) (h:SmS w.1) (ht:SmT w.1.1) (hq:SmQ w.2) (ho:eX c.2.2):∃ r,tDo w c gen=some r:=by
 unfold tDo
 obtain ⟨v,hv⟩:∃ v,fZ c.1=some v:=by
  unfold fZ
  split<;>exact ⟨_,rfl⟩
 obtain ⟨r1,e1⟩:=aO4 w h ht hq
 obtain ⟨r2,e2⟩:=aOt w.2 hq c.1 c.2.1
 obtain ⟨r3,e3,h3⟩:=aBq w.1 c.2.2 gen h ht ho
 obtain ⟨r4,e4⟩:=aMw w.2 hq (c.1,c.2.1,(r3.2.1,r3.2.2.1,r3.2.2.2.1,r3.2.2.2.2)) ⟨by have:=h3.1;simp only;omega,by have:=h3.2;simp only;omega⟩
 rw [hv]
 simp only [obS]
 rw [show fV ((w.1.1,w.1.2),w.2)=_ from e1,e2]
 simp only [obS]
 rw [show nDo (w.1.1,w.1.2) (c.2.2.1,c.2.2.2.1,c.2.2.2.2.1,c.2.2.2.2.2.1,c.2.2.2.2.2.2.1,c.2.2.2.2.2.2.2) gen=_ from e3]
 simp only [obS]
 rw [e4]
 split
 ·exact ⟨_,rfl⟩
 ·split<;>exact ⟨_,rfl⟩
theorem aH7 {w:WW} (h:RtW w) (c:Int×Int×Opr) (gen:Int):(dP w c gen).2.1.2.2.2.length<=6:=by
 unfold dP
 split
 ·split
  ·exact (uF h.st c.2.2 gen).nl
  grind [aM9]
 ·simp [za]
theorem aOc (w:WW) (hn:Nn w) (hA:∀ x∈w.2,SmA x.2.2) (c:Int×Int×Opr) (gen:Int):nY w c gen=some true:=by
 unfold nY
 rw [aJu]
 simp only [obS]
 rw [if_neg (by simp)]
 rw [show gM ((w.1.1,w.1.2),w.2)=gM w from rfl]
 rcases aKx w with h | ⟨h,hs,hl⟩
 ·rw [h];rfl
 have hT:SmT w.1.1:=by
  unfold gM at h
  rcases aGb w.1 with h' | ⟨h',_⟩
  ·rw [h'] at h;cases h
  ·exact aK2 h'
 have hq:SmQ w.2:=⟨by omega,hA⟩
 rw [h]
 simp only [obS,Bool.false_eq_true,if_false]
 rcases aJ9 c.2.2 with hg | ⟨hg,o1,o2,o3⟩
 ·rw [show rGreatOp (c.2.2.1,c.2.2.2.1,c.2.2.2.2.1,c.2.2.2.2.2.1,c.2.2.2.2.2.2.1,c.2.2.2.2.2.2.2)=_ from hg];rfl
 rw [show rGreatOp (c.2.2.1,c.2.2.2.1,c.2.2.2.2.1,c.2.2.2.2.2.1,c.2.2.2.2.2.2.1,c.2.2.2.2.2.2.2)=_ from hg]
 simp only [obS,Bool.false_eq_true,if_false]
 have hok:=opOk o1 o2 o3
 rw [show mH ((w.1.1,w.1.2),w.2)=_ from aLj w hs hq,show kP (c.2.2.1,c.2.2.2.1,c.2.2.2.2.1,c.2.2.2.2.2.1,c.2.2.2.2.2.2.1,c.2.2.2.2.2.2.2)=_ from aK0 c.2.2 (by omega)]
 simp only [obS]
 obtain ⟨m,b,e1,e2,e3⟩:=aM6 w hs hl
 rw [show rReadW ((w.1.1,w.1.2),w.2)=_ from e1]
 simp only [obS]
 obtain ⟨r,e4⟩:=aPm w c gen hs hT hq hok
 rw [show gW ((w.1.1,w.1.2),w.2)=gW w from rfl]
 rcases aMr w hs (by omega) with ⟨h1,hr⟩ | ⟨h1,hr⟩
 ·have hb:=e2.2 hr
  subst hb
  rw [show tDo ((w.1.1,w.1.2),w.2) (c.1,c.2.1,(c.2.2.1,c.2.2.2.1,c.2.2.2.2.1,c.2.2.2.2.2.1,c.2.2.2.2.2.2.1,c.2.2.2.2.2.2.2)) gen=_ from qZ hr c gen hok,h1,e3 hr]
  simp only [obS]
  rw [if_pos (by rfl),if_neg (by simp)]
  obtain ⟨b0,_,_,f3⟩:=aFi w.1 hs
  obtain ⟨m1,m2⟩:=f3 hr.st
  obtain ⟨m',k1,k2,k3⟩:=aNa hr hn m1 m2 c gen (by omega)
  rw [show rDoW (((rdM w.1).1,(rdM w.1).2),stA w.2) (c.1,c.2.1,(c.2.2.1,c.2.2.2.1,c.2.2.2.2.1,c.2.2.2.2.2.1,c.2.2.2.2.2.2.1,c.2.2.2.2.2.2.2)) gen=_ from k1]
  simp only [obS]
  rw [show ∀ a:Ans,a.2.2.2.length<=6->gP (a.1,a.2.1,a.2.2.1,a.2.2.2) (a.1,a.2.1,a.2.2.1,a.2.2.2)=some true from fun a ha=>aLt a ha]
  ·simp only [obS,if_true]
   have hr2:=aDi hr hn c gen
   rw [show rWriteW ((m'.1,m'.2),stA (dP w c gen).1.2)=_ from aHw k2 hr2.1.srt (fun x hx=>⟨(hr2.1.se x hx).1,(hr2.1.se x hx).2.1⟩) (fun x hx=>by have:=(hr2.1.se x hx).2.2.1;have:=hr2.2 x hx;omega),k3]
   simp only [obS]
   rw [show iH (((dP w c gen).1.1.1,(dP w c gen).1.1.2),(dP w c gen).1.2) ((dP w c gen).1.1,(dP w c gen).1.2)=_ from aEt hr2.1]
   simp only [obS,if_true]
   rw [show iH ((w.1.1,w.1.2),w.2) ((w.1.1,w.1.2),w.2)=_ from aEt hr]
   rfl
  ·exact aH7 hr c gen
 ·have hb:b=false:=by
   cases b with
   | false=>rfl
   | true=>exact absurd (e2.1 rfl) hr
  subst hb
  rw [show tDo ((w.1.1,w.1.2),w.2) (c.1,c.2.1,(c.2.2.1,c.2.2.2.1,c.2.2.2.2.1,c.2.2.2.2.2.1,c.2.2.2.2.2.2.1,c.2.2.2.2.2.2.2)) gen=_ from e4,h1]
  simp only [obS]
  rw [if_pos (by rfl),if_pos (by rfl)]
  rfl
end Go.Proofs.YtkcgdaihfblncaaGreatDoor
