/- Texts Fil, FilP, FilQ, FilO, FilD, FilM, FilS. -/
import Derived.Test.YthcjjjnphgopjaaGreatDoorQ10
set_option linter.unusedSimpArgs false
set_option linter.unusedVariables false
namespace Go.Proofs.YthcjjjnphgopjaaGreatDoor
open Go.RowKit Go.Tri
abbrev FS:=List UInt8→Option (Bool×List UInt8)
abbrev CS:=List UInt8→Option (List UInt8)
def tw (r:List UInt8):List UInt8:=r.takeWhile (·≠0)
theorem cut_eq (r:List UInt8) (h:r.length≤1000000):∃ b c,m_strings_Cut r [0]=some (tw r,b,c):=by
 have key:∀ r:List UInt8,(Lib.indexByte r 0=-1∧tw r=r)∨∃ i:Nat,Lib.indexByte r 0=i∧i<r.length∧tw r=r.take i:=by
  intro r
  induction r with
  | nil=>exact .inl ⟨rfl,rfl⟩
  | cons c r ih =>
   by_cases hc:c=0
   ·subst hc
    exact .inr ⟨0,by simp [Lib.indexByte],by simp,by simp [tw]⟩
   ·have h1:tw (c::r)=c::tw r:=by simp [tw,hc]
    rcases ih with ⟨h2,h3⟩ | ⟨i,h2,h3,h4⟩
    ·exact .inl ⟨by simp [Lib.indexByte,hc,h2],by rw [h1,h3]⟩
    ·refine .inr ⟨i+1,?_,by simp;omega,by rw [h1,h4];rfl⟩
     simp only [Lib.indexByte,h2]
     rw [if_neg (by simpa using hc),if_neg (by simp)]
     omega
 unfold m_strings_Cut m_internal_stringslite_Cut slIndex indexO
 simp only [Option.bind_some]
 rcases key r with ⟨h1,h2⟩ | ⟨i,h1,h2,h3⟩
 ·rw [h1,if_neg (by omega)]
  exact ⟨_,_,by rw [h2];rfl⟩
 ·rw [h1,if_pos (by omega),show (0:Int)=((0:Nat):Int) from rfl,slcO_of (Nat.zero_le _) (by omega)]
  simp only [Option.bind_some,List.drop_zero,List.length_cons,List.length_nil]
  rw [i64_id (by omega) (by omega),show ((i:Int)+((0+1:Nat):Int))=((i+1:Nat):Int) by omega,slcO_of (by omega) (Nat.le_refl _)]
  exact ⟨_,_,by rw [h3];rfl⟩
def r1 (s:CS×FS) (x:P2):CS×FS:=match x.1 with
 | []=>s
 | a::r=>if a=99 then (fset (tw r) ((s.1 (tw r)).getD []++x.2) s.1,s.2) else if a=110 then (s.1,fset r (decide (x.2=[100]),[]) s.2) else s
def fin2 (s:CS×FS):FS:=fun p=>match s.2 p with
 | some (false,_)=>some (false,(s.1 p).getD [])
 | x=>x
def rdF (L:List P2):FS:=fin2 (L.foldl r1 (fnil,fnil))
theorem r1_len (s:CS×FS) (x:P2) (n m:Nat) (h:∀ p,((s.1 p).getD []).length≤n) (hx:x.2.length≤m):∀ p,(((r1 s x).1 p).getD []).length≤n+m:=by
 intro p
 unfold r1
 split
 ·have:=h p;omega
 ·split
  ·simp only [fset]
   split
   ·have:=h (tw ‹List UInt8›);simp;omega
   ·have:=h p;omega
  ·split
   ·exact Nat.le_trans (h p) (Nat.le_add_right _ _)
   ·exact Nat.le_trans (h p) (Nat.le_add_right _ _)
def Crd {β:Type} (m:List UInt8→Option β) (n:Nat):Prop:=∃ l,Enum m l∧l.length≤n
theorem Crd.nil {β:Type}:Crd (fnil:List UInt8→Option β) 0:=⟨[],⟨List.nodup_nil,fun _=>rfl⟩,Nat.le_refl _⟩
theorem Crd.mono {β:Type} {m:List UInt8→Option β} {n k:Nat} (h:Crd m n) (hn:n≤k):Crd m k:=by
 obtain ⟨l,h1,h2⟩:=h;exact ⟨l,h1,by omega⟩
theorem enum_mem {β:Type} {m:List UInt8→Option β} {l:List (List UInt8×β)} (h:Enum m l) {k:List UInt8} {v:β}:(k,v)∈l↔m k=some v:=by
 rw [h.2 k];exact ⟨fun hm=>aget_of_mem h.1 hm,aget_mem'⟩
theorem enum_del {β:Type} {m:List UInt8→Option β} {l:List (List UInt8×β)} (h:Enum m l) (k:List UInt8):Enum (fdel k m) (l.filter fun x=>x.1≠k):=by
 have hn:((l.filter fun x=>x.1≠k).map (·.1)).Nodup:=List.Nodup.sublist (List.Sublist.map _ List.filter_sublist) h.1
 refine ⟨hn,fun j=>?_⟩
 unfold fdel
 by_cases e:j=k
 ·rw [if_pos e]
  symm
  refine aget_none fun hm=>?_
  obtain ⟨x,hx,hj⟩:=List.mem_map.1 hm
  have:=(List.mem_filter.1 hx).2
  simp only [decide_eq_true_eq] at this
  exact this (by rw [hj,e])
 ·rw [if_neg e]
  cases hv:m j with
  | some v=>exact (aget_of_mem hn (List.mem_filter.2 ⟨(enum_mem h).2 hv,by simpa using e⟩)).symm
  | none =>
   symm
   refine aget_none fun hm=>?_
   obtain ⟨x,hx,hj⟩:=List.mem_map.1 hm
   obtain ⟨a,b⟩:=x
   have:=(enum_mem h).1 (List.mem_filter.1 hx).1
   simp only at hj
   rw [hj,hv] at this;cases this
theorem enum_set {β:Type} {m:List UInt8→Option β} {l:List (List UInt8×β)} (h:Enum m l) (k:List UInt8) (v:β):Enum (fset k v m) ((k,v)::l.filter fun x=>x.1≠k):=by
 have hd:=enum_del h k
 refine ⟨?_,fun j=>?_⟩
 ·simp only [List.map_cons,List.nodup_cons]
  refine ⟨fun hm=>?_,hd.1⟩
  obtain ⟨x,hx,hj⟩:=List.mem_map.1 hm
  have:=(List.mem_filter.1 hx).2
  simp only [decide_eq_true_eq] at this
  exact this hj
 ·simp only [aget]
  unfold fset
  by_cases e:j=k
  ·rw [if_pos e,if_pos e.symm]
  ·rw [if_neg e,if_neg (Ne.symm e),← hd.2 j]
   unfold fdel;rw [if_neg e]
theorem Crd.set {β:Type} {m:List UInt8→Option β} {n:Nat} (h:Crd m n) (k:List UInt8) (v:β):Crd (fset k v m) (n+1):=by
 obtain ⟨l,h1,h2⟩:=h
 refine ⟨_,enum_set h1 k v,?_⟩
 have:=List.length_filter_le (fun x:List UInt8×β=>decide (x.1≠k)) l
 simp only [List.length_cons]
 omega
theorem Crd.del {β:Type} {m:List UInt8→Option β} {n:Nat} (h:Crd m n) (k:List UInt8):Crd (fdel k m) n:=by
 obtain ⟨l,h1,h2⟩:=h
 refine ⟨_,enum_del h1 k,?_⟩
 have:=List.length_filter_le (fun x:List UInt8×β=>decide (x.1≠k)) l
 omega
theorem r1_crd (s:CS×FS) (x:P2) (n:Nat) (h:Crd s.2 n):Crd (r1 s x).2 (n+1):=by
 unfold r1
 split
 ·exact h.mono (by omega)
 ·split
  ·exact h.mono (by omega)
  ·split
   ·exact h.set _ _
   ·exact h.mono (by omega)
open Classical in
theorem fin2_fold (c:CS) (t:FS):∀ (l:List (List UInt8×(Bool×List UInt8))),(∀ k v,(k,v)∈l→t k=some v)→∀ p,(l.foldl (fun (s:FS) x=>if x.2.1=false then fset x.1 (false,(c x.1).getD []) s else s) t) p=if (∃ d,(p,false,d)∈l) then some (false,(c p).getD []) else t p:=by
 have key:∀ (l:List (List UInt8×(Bool×List UInt8))) (u:FS) p,(l.foldl (fun (s:FS) x=>if x.2.1=false then fset x.1 (false,(c x.1).getD []) s else s) u) p=if (∃ d,(p,false,d)∈l) then some (false,(c p).getD []) else u p:=by
  intro l
  induction l with
  | nil=>intro u p;rw [if_neg (by simp)];rfl
  | cons x l ih =>
   intro u p
   obtain ⟨k,b,d⟩:=x
   rw [List.foldl_cons,ih]
   by_cases h1:∃ d,(p,false,d)∈l
   ·rw [if_pos h1,if_pos (by obtain ⟨d,h⟩:=h1;exact ⟨d,List.mem_cons_of_mem _ h⟩)]
   ·rw [if_neg h1]
    by_cases hb:b=false
    ·subst hb
     simp only [if_true]
     by_cases e:p=k
     ·subst e
      rw [if_pos ⟨d,List.mem_cons_self⟩]
      simp [fset]
     ·rw [if_neg]
      ·simp [fset,e]
      ·rintro ⟨d',h⟩
       rcases List.mem_cons.1 h with h | h
       ·cases h;exact e rfl
       ·exact h1 ⟨d',h⟩
    ·rw [if_neg (by simpa using hb),if_neg]
     rintro ⟨d',h⟩
     rcases List.mem_cons.1 h with h | h
     ·cases h;exact hb rfl
     ·exact h1 ⟨d',h⟩
 intro l _ p
 exact key l t p
theorem fRead_eq (L:List P2) (hn:L.length≤1000000) (hb:∀ x∈L,x.1.length≤100000∧x.2.length≤100000):fRead L=some (rdF L):=by
 unfold fRead
 rw [(loop_foldM (fun (s:CS×FS) (i:Int)=>(s.1,s.2,i)) L r1 id (fnil,fnil) (fun i s=>(∀ p,((s.1 p).getD []).length≤i * 100000)∧Crd s.2 i) ⟨fun p=>by simp [fnil],Crd.nil⟩ (fun i s hi hI=>⟨?_,fun p=>by have:=r1_len s L[i] (i * 100000) 100000 hI.1 (hb _ (List.getElem_mem hi)).2 p;omega,r1_crd s _ i hI.2⟩) (fun s _=>?_)).1]
 ·have hI:=(loop_foldM (f:=fun (t:CS×FS×Int)=>if t.2.2<(L.length:Int) then (idxO L t.2.2).bind fun x=>some (.inl ((r1 (t.1,t.2.1) x).1,(r1 (t.1,t.2.1) x).2,t.2.2+1)) else some (.inr (t.1,t.2.1))) (fun (s:CS×FS) (i:Int)=>(s.1,s.2,i)) L r1 id (fnil,fnil) (fun i s=>(∀ p,((s.1 p).getD []).length≤i * 100000)∧Crd s.2 i) ⟨fun p=>by simp [fnil],Crd.nil⟩ (fun i s hi hI=>⟨by
    show (if (i:Int)<_ then _ else _)=_
    rw [if_pos (by omega),show idxO L ((s.1,s.2,(i:Int)):CS×FS×Int).2.2=some L[i] from idxO_get hi];rfl,fun p=>by have:=r1_len s L[i] (i * 100000) 100000 hI.1 (hb _ (List.getElem_mem hi)).2 p;omega,r1_crd s _ i hI.2⟩) (fun s _=>by
    show (if (L.length:Int)<_ then _ else _)=_
    rw [if_neg (by omega)];rfl)).2
  simp only [Option.bind_some,id]
  generalize hS:L.foldl r1 (fnil,fnil)=S at hI ⊢
  obtain ⟨l,hE,hl⟩:=hI.2
  refine detM_of hE fun l' hE'=>?_
  rw [foldO_eq (fun (s:FS) x=>if x.2.1=false then fset x.1 (false,(S.1 x.1).getD []) s else s) l' S.2 (fun x _ s=>by
   obtain ⟨k,b,d⟩:=x
   cases b<;>rfl)]
  simp only [Option.bind_some,Sum.elim_inl]
  congr 1
  funext p
  rw [fin2_fold S.1 S.2 l' (fun k v h=>(enum_mem hE').1 h) p]
  unfold rdF fin2
  rw [hS]
  by_cases h:∃ d,(p,false,d)∈l'
  ·rw [if_pos h]
   obtain ⟨d,h⟩:=h
   rw [(enum_mem hE').1 h]
  ·rw [if_neg h]
   cases hp:S.2 p with
   | none=>rfl
   | some v =>
    obtain ⟨b,d⟩:=v
    cases b with
    | false=>exact (h ⟨d,(enum_mem hE').2 hp⟩).elim
    | true=>rfl
 ·have hbi:=hb _ (List.getElem_mem hi)
  show (if (i:Int)<(L.length:Int) then _ else _)=_
  rw [if_pos (by omega),show idxO L ((i:Nat):Int)=some L[i] from idxO_get hi]
  generalize hx:L[i]=x at hbi ⊢
  obtain ⟨k,v⟩:=x
  simp only [Option.bind_some]
  rw [i64_id (by omega) (by omega)]
  cases k with
  | nil =>
   rw [if_neg (by simp)]
   simp only [Option.bind_some]
   rw [if_neg (by simp),if_neg (by simp)]
   rfl
  | cons a r =>
   have hs1:slcO (a::r) 0 1=some [a]:=by
    have:=slcO_of (xs:=a::r) (i:=0) (j:=1) (by omega) (by simp)
    simpa using this
   have hs2:slcO (a::r) 1 ((a::r).length:Int)=some r:=by
    have:=slcO_of (xs:=a::r) (i:=1) (j:=(a::r).length) (by simp) (Nat.le_refl _)
    simpa using this
   rw [if_pos (by simp),hs1,hs2]
   simp only [Option.bind_some,List.cons.injEq,and_true]
   simp only [List.length_cons] at hbi
   unfold r1
   by_cases h99:a=99
   ·obtain ⟨b',c',hc⟩:=cut_eq r (by omega)
    have hl:=hI.1 (tw r)
    rw [if_pos h99,hc]
    simp only [Option.bind_some,if_pos h99]
    rw [appO_byte (by omega)]
    rfl
   ·rw [if_neg h99]
    simp only [if_neg h99]
    by_cases h110:a=110
    ·simp only [if_pos h110]
     by_cases hv:(v.length:Int)=1
     ·obtain ⟨y,rfl⟩:∃ y,v=[y]:=List.length_eq_one_iff.1 (by omega)
      rw [if_pos hv,show idxO [y] 0=some y from rfl]
      simp only [Option.bind_some]
      have:((y.toNat:Int)=100)↔([y]=([100]:List UInt8)):=by
       rw [List.cons.injEq]
       simp only [and_true]
       rw [← UInt8.toNat_inj]
       show _↔y.toNat=100
       omega
      rw [decide_eq_decide.2 this];rfl
     ·rw [if_neg hv]
      have:¬ v=[100]:=fun e=>hv (by rw [e];rfl)
      rw [decide_eq_false this];rfl
    ·simp only [if_neg h110];rfl
 ·show (if (L.length:Int)<(L.length:Int) then _ else _)=_
  rw [if_neg (by omega)];rfl
theorem rdF_crd (L:List P2):Crd (rdF L) L.length:=by
 have key:∀ (L:List P2) (s:CS×FS) (n:Nat),Crd s.2 n→Crd (L.foldl r1 s).2 (n+L.length):=by
  intro L
  induction L with
  | nil=>intro s n h;exact h
  | cons x L ih=>intro s n h;exact (ih (r1 s x) (n+1) (r1_crd s x n h)).mono (by simp;omega)
 obtain ⟨l,hE,hl⟩:=key L (fnil,fnil) 0 Crd.nil
 generalize hS:L.foldl r1 (fnil,fnil)=S at hE
 refine ⟨l.map fun x=>(x.1,if x.2.1=false then (false,(S.1 x.1).getD []) else x.2),⟨by rw [List.map_map];exact hE.1,fun p=>?_⟩,by simp;omega⟩
 unfold rdF fin2
 rw [hS]
 have hnd:((l.map fun x:List UInt8×(Bool×List UInt8)=>(x.1,if x.2.1=false then (false,(S.1 x.1).getD []) else x.2)).map (·.1)).Nodup:=by rw [List.map_map];exact hE.1
 cases hp:S.2 p with
 | none =>
  symm
  refine aget_none fun hm=>?_
  rw [List.map_map] at hm
  obtain ⟨⟨a,b⟩,hx,hj⟩:=List.mem_map.1 hm
  have:=(enum_mem hE).1 hx
  replace hj:a=p:=hj
  rw [hj,hp] at this;cases this
 | some v =>
  obtain ⟨b,d⟩:=v
  have hm:=(enum_mem hE).2 hp
  symm
  refine (aget_of_mem hnd (List.mem_map.2 ⟨_,hm,rfl⟩)).trans ?_
  cases b<;>rfl
def len2 (n:Nat):List UInt8:=[u8 ((n / 256 ^ 1 % 256:Nat):Int),u8 ((n / 256 ^ 0 % 256:Nat):Int)]
theorem cloneB_eq (s:List UInt8) (h:s.length≤274877906944):cloneB s=some s:=by
 unfold cloneB;rw [appO_of (by simp;omega)];rfl
theorem penRaw_eq (p b:List UInt8) (h:p.length+b.length≤274877906944):penRaw p b=some (p++b):=by
 unfold penRaw;rw [appO_of h];rfl
theorem foldl_app {α β:Type} (g:β→α):∀ (l:List β) (s:List α),l.foldl (fun s i=>s++[g i]) s=s++l.map g
 | [],s=>by simp
 | b::l,s=>by simp [foldl_app g l]
theorem penUint2 (p:List UInt8) (n:Nat) (hn:n≤65535) (hp:p.length≤600):penUint p (n:Int) 2=some (0,p++len2 n):=by
 unfold penUint
 rw [if_neg (by omega),if_neg (by omega),if_pos (by omega)]
 rw [show IntKind.i64.wrap (8 * 2)=((16:Nat):Int) from rfl,show IntKind.i64.wrap (2 - 1)=((2:Nat):Int) - 1 from rfl]
 have hsh:shrO .u64 (n:Int) ((16:Nat):Int)=some (shrI .u64 (n:Int) ((16:Nat):Int)):=by unfold shrO;rw [if_pos (by omega)]
 rw [hsh]
 simp only [Option.bind_some]
 rw [shrI_nat .u64 _ _ (by show 16≤64;omega),if_neg (by have:n / 2 ^ 16=0:=Nat.div_eq_of_lt (by omega);omega)]
 rw [loop_down (fun (k:Nat) (s:List UInt8)=>s++[u8 ((n / 256 ^ k % 256:Nat):Int)]) (fun s=>s) (fun (k:Nat) (s:List UInt8)=>k≤8∧s.length≤10000 - k) ?hs2 ?he2 2 _ ⟨by omega,by omega⟩]
 case he2=>intro s _;rw [if_neg (by omega)]
 case hs2 =>
  intro k s ⟨hk,hl⟩
  refine ⟨?_,by omega,by simp;omega⟩
  rw [if_pos (by omega)]
  have h8:IntKind.i64.wrap (8 * (k:Int))=((8 * k:Nat):Int):=by rw [i64_id (by omega) (by omega)];omega
  rw [h8]
  have hsh:shrO .u64 (n:Int) ((8 * k:Nat):Int)=some (shrI .u64 (n:Int) ((8 * k:Nat):Int)):=by unfold shrO;rw [if_pos (by omega)]
  rw [hsh]
  simp only [Option.bind_some]
  have hw:IntKind.u8.wrap (shrI .u64 (n:Int) ((8 * k:Nat):Int))=((n / 256 ^ k % 256:Nat):Int):=by
   rw [shrI_nat .u64 _ _ (by show 8 * k≤64;omega),wrap_u8',Nat.pow_mul];rfl
  rw [hw,u8O_of (by omega) (by omega)]
  simp only [Option.bind_some]
  rw [appO_of (by simp;omega)]
  simp only [Option.bind_some]
  rw [i64_id (by omega) (by omega)]
 simp only [Option.bind_some]
 rw [foldl_app (fun k=>u8 ((n / 256 ^ k % 256:Nat):Int))]
 rfl
def chk (p:List UInt8):Nat→List (List UInt8)→List P2
 | _,[]=>[]
 | i,c::cs=>(99::(p++[0,u8 (i:Int)]),c)::chk p (i+1) cs
abbrev Ent:=List UInt8×(Bool×List UInt8)
def encE (x:Ent):List P2:=if x.2.1=true then [(110::x.1,[100])] else (110::x.1,102::len2 x.2.2.length)::chk x.1 0 (chunkL 64 x.2.2)
def prs2 (l:List Ent):List P2:=sortPairs (l.flatMap encE)
theorem chunkL_len {γ:Type} (xs:List γ) (n:Nat):(chunkL n xs).length=chunkC n xs.length:=by simp [chunkL,chunkZ]
theorem chunkC_le {len:Nat} (h:len≤192):chunkC 64 len≤3:=by
 unfold chunkC
 have:=(Nat.div_lt_iff_lt_mul (k:=64) (by omega) (x:=len+64 - 1) (y:=4)).2 (by omega)
 omega
theorem chunkC_leW {len:Nat} (h:len≤12000):chunkC 64 len≤188:=by
 unfold chunkC
 have:=(Nat.div_lt_iff_lt_mul (k:=64) (by omega) (x:=len+64 - 1) (y:=189)).2 (by omega)
 omega
theorem chk_len (p:List UInt8):∀ (i:Nat) (cs:List (List UInt8)),(chk p i cs).length=cs.length
 | _,[]=>rfl
 | i,c::cs=>by simp [chk,chk_len p (i+1) cs]
theorem encE_len {x:Ent} (h:x.2.2.length≤192):(encE x).length≤4:=by
 unfold encE
 split
 ·simp
 ·have:=chunkC_le h
  simp only [List.length_cons,chk_len,chunkL_len];omega
theorem chk_snd (p:List UInt8):∀ (i:Nat) (cs:List (List UInt8)),(chk p i cs).map (·.2)=cs
 | _,[]=>rfl
 | i,c::cs=>by simp [chk,chk_snd p (i+1) cs]
theorem chk_mem {p:List UInt8}:∀ {i:Nat} {cs:List (List UInt8)} {x:P2},x∈chk p i cs→∃ j,i≤j∧j<i+cs.length∧x.1=99::(p++[0,u8 (j:Int)])
 | _,[],x,h=>by cases h
 | i,c::cs,x,h=>by
  rcases List.mem_cons.1 h with rfl | h
  ·exact ⟨i,Nat.le_refl _,by simp,rfl⟩
  ·obtain ⟨j,h1,h2,h3⟩:=chk_mem h
   exact ⟨j,by omega,by simp at h2 ⊢;omega,h3⟩
theorem cmp_app:∀ p a b:List UInt8,Lib.compareBytes (p++a) (p++b)=Lib.compareBytes a b
 | [],_,_=>rfl
 | c::p,a,b=>by simp [Lib.compareBytes,cmp_app p a b]
theorem u8_lt {i j:Nat} (h:i<j) (hj:j<256):u8 (i:Int)<u8 (j:Int):=by
 rw [UInt8.lt_iff_toNat_lt]
 unfold u8
 simp
 omega
theorem chk_lt {p:List UInt8}:∀ {i:Nat} {cs:List (List UInt8)},i+cs.length≤256→(chk p i cs).Pairwise ltP
 | _,[],_=>List.Pairwise.nil
 | i,c::cs,h=>by
  refine List.pairwise_cons.2 ⟨fun x hx=>?_,chk_lt (by simp at h;omega)⟩
  obtain ⟨j,h1,h2,h3⟩:=chk_mem hx
  simp only [List.length_cons] at h
  unfold ltP ltK
  rw [h3]
  show Lib.compareBytes ((99::p)++[0,u8 (i:Int)]) ((99::p)++[0,u8 (j:Int)])<0
  rw [cmp_app]
  simp only [Lib.compareBytes]
  rw [if_neg (by decide),if_neg (by decide),if_pos (u8_lt (by omega) (by omega))]
  omega
theorem ltP_ne {a b:P2} (h:ltP a b):a.1≠b.1:=fun e=>by unfold ltP ltK at h;rw [e,cmp_self] at h;omega
theorem enc_key {e:Ent} {x:P2} (h:x∈encE e):x.1=110::e.1∨∃ c,x.1=99::(e.1++[0,c]):=by
 unfold encE at h
 split at h
 ·simp at h;exact .inl (by rw [h])
 ·rcases List.mem_cons.1 h with rfl | h
  ·exact .inl rfl
  ·obtain ⟨j,_,_,h3⟩:=chk_mem h
   exact .inr ⟨_,h3⟩
theorem enc_same {e e':Ent} {x y:P2} (h:x∈encE e) (h':y∈encE e') (hk:x.1=y.1):e.1=e'.1:=by
 rcases enc_key h with h1 | ⟨c,h1⟩
 ·rcases enc_key h' with h2 | ⟨c',h2⟩
  ·rw [h1,h2] at hk;injection hk
  ·rw [h1,h2] at hk;injection hk with hk;exact absurd hk (by decide)
 ·rcases enc_key h' with h2 | ⟨c',h2⟩
  ·rw [h1,h2] at hk;injection hk with hk;exact absurd hk (by decide)
  ·rw [h1,h2] at hk
   injection hk with _ hk
   have:=congrArg List.length hk
   exact (List.append_inj hk (by simpa using this)).1
theorem enc_nodupW {l:List Ent} (hn:(l.map (·.1)).Nodup) (hb:∀ x∈l,x.2.2.length≤12000):((l.flatMap encE).map (·.1)).Nodup:=by
 rw [List.nodup_iff_pairwise_ne,List.pairwise_map,List.pairwise_flatMap]
 rw [List.nodup_iff_pairwise_ne,List.pairwise_map] at hn
 refine ⟨fun e he=>?_,hn.imp fun {a b} h x hx y hy e=>h (enc_same hx hy e)⟩
 unfold encE
 split
 ·simp
 ·refine List.pairwise_cons.2 ⟨fun x hx e2=>?_,(chk_lt ?_).imp fun h=>ltP_ne h⟩
  ·obtain ⟨j,_,_,h3⟩:=chk_mem hx
   rw [h3] at e2
   injection e2 with e2;exact absurd e2 (by decide)
  ·have:=chunkC_leW (hb e he)
   rw [chunkL_len];omega
theorem enc_nodup {l:List Ent} (hn:(l.map (·.1)).Nodup) (hb:∀ x∈l,x.2.2.length≤192):((l.flatMap encE).map (·.1)).Nodup:=enc_nodupW hn fun x hx=>Nat.le_trans (hb x hx) (by decide)
theorem flat_lenW {l:List Ent} (hb:∀ x∈l,x.2.2.length≤12000):(l.flatMap encE).length≤190 * l.length:=by
 induction l with
 | nil=>simp
 | cons x l ih =>
  have h1:(encE x).length≤190:=by
   have:=chunkC_leW (hb x List.mem_cons_self)
   unfold encE
   split
   ·simp
   ·simp only [List.length_cons,chk_len,chunkL_len];omega
  have h2:=ih fun y hy=>hb y (List.mem_cons_of_mem _ hy)
  simp only [List.flatMap_cons,List.length_append,List.length_cons];omega
theorem flat_len {l:List Ent} (hb:∀ x∈l,x.2.2.length≤192):(l.flatMap encE).length≤4 * l.length:=by
 induction l with
 | nil=>simp
 | cons x l ih =>
  have h1:=encE_len (hb x List.mem_cons_self)
  have h2:=ih fun y hy=>hb y (List.mem_cons_of_mem _ hy)
  simp only [List.flatMap_cons,List.length_append,List.length_cons];omega
theorem prs2_perm {l l':List Ent} (hn:(l.map (·.1)).Nodup) (hb:∀ x∈l,x.2.2.length≤12000) (hp:l'.Perm l):prs2 l'=prs2 l:=by
 have h1:(l'.flatMap encE).Perm (l.flatMap encE):=hp.flatMap_right encE
 have hn':(l'.map (·.1)).Nodup:=(hp.map _).nodup_iff.2 hn
 have hb':∀ x∈l',x.2.2.length≤12000:=fun x hx=>hb x (hp.mem_iff.1 hx)
 refine pairs_same (sortPairs_strict (enc_nodupW hn' hb')) (sortPairs_strict (enc_nodupW hn hb)) fun k=>?_
 exact (List.mergeSort_perm _ leP).mem_iff.trans (h1.mem_iff.trans (List.mergeSort_perm _ leP).mem_iff.symm)
theorem chk_fold (p:List UInt8) (hp:p.length≤100000) {f:Int×List P2→List UInt8→Option ((Int×List P2) ⊕ Empty)} (hf:∀ (i:Nat) (out:List P2) c,i<200→out.length≤100000000→c.length≤1000→f ((i:Int),out) c=some (.inl (((i+1:Nat):Int),out++[(99::(p++[0,u8 (i:Int)]),c)]))) :
  ∀ (cs:List (List UInt8)) (i:Nat) (out:List P2),i+cs.length≤200→out.length+cs.length≤100000000→(∀ c∈cs,c.length≤1000)→foldO f ((i:Int),out) cs=some (.inl (((i+cs.length:Nat):Int),out++chk p i cs))
 | [],i,out,_,_,_=>by simp [foldO,chk]
 | c::cs,i,out,h1,h2,h3=>by
  simp only [List.length_cons] at h1 h2
  show (f ((i:Int),out) c).bind _=_
  rw [hf i out c (by omega) (by omega) (h3 c List.mem_cons_self)]
  show foldO f (((i+1:Nat):Int),out++[(99::(p++[0,u8 (i:Int)]),c)]) cs=_
  rw [chk_fold p hp hf cs (i+1) _ (by omega) (by simp;omega) fun d hd=>h3 d (List.mem_cons_of_mem _ hd)]
  simp only [chk,List.length_cons,List.append_assoc,List.cons_append,List.nil_append]
  congr 4;omega
theorem chunk_mem_len {xs:List UInt8} {c:List UInt8} (h:c∈chunkL 64 xs):c.length≤64:=by
 unfold chunkL chunkZ at h
 rw [List.map_map] at h
 obtain ⟨k,_,rfl⟩:=List.mem_map.1 h
 simp;omega
set_option maxHeartbeats 1000000 in
theorem sPairs_eqW {s:FS} {l:List Ent} (hE:Enum s l) (hl:l.length≤10000000) (hb:∀ x∈l,x.1.length≤100000∧x.2.2.length≤12000) (hz:∀ l':List Ent,l'.length≤l.length→(∀ x∈l',x∈l)→(l'.flatMap encE).length≤10000000):sPairs s=some (prs2 l):=by
 unfold sPairs
 refine detM_of hE fun l' hE'=>?_
 have hp:l'.Perm l:=hE'.perm hE
 have hb':∀ x∈l',x.1.length≤100000∧x.2.2.length≤12000:=fun x hx=>hb x (hp.mem_iff.1 hx)
 have hl':l'.length≤10000000:=by rw [hp.length_eq];exact hl
 rw [(foldO_inv (fun (out:List P2) (x:Ent)=>out++encE x) (fun pre out=>out=pre.flatMap encE) l' l' [] [] rfl rfl ?_).1]
 ·simp only [Option.bind_some,Sum.elim_inl]
  have:l'.foldl (fun (out:List P2) (x:Ent)=>out++encE x) []=l'.flatMap encE:=by
   have key:∀ (l':List Ent) (o:List P2),l'.foldl (fun (out:List P2) (x:Ent)=>out++encE x) o=o++l'.flatMap encE:=by
    intro l'
    induction l' with
    | nil=>intro o;simp
    | cons x l' ih=>intro o;simp [ih]
   simpa using key l' []
  rw [this]
  unfold sortPs sortPO
  rw [if_pos ⟨enc_nodupW hE'.1 fun x hx=>(hb' x hx).2,by have:=hz l' (by rw [hp.length_eq];exact Nat.le_refl _) (fun x hx=>hp.mem_iff.1 hx);omega⟩]
  simp only [Option.bind_some]
  congr 1
  exact prs2_perm hE.1 (fun x hx=>(hb x hx).2) hp
 ·rintro pre ⟨p,b,d⟩ post out hpp rfl
  refine ⟨?_,by simp⟩
  obtain ⟨hp1,hd1⟩:=hb' (p,b,d) (by rw [← hpp];simp)
  simp only at hp1 hd1
  have hol:(pre.flatMap encE).length≤10000000:=hz pre (by rw [← hp.length_eq,← hpp];simp) fun x hx=>hp.mem_iff.1 (by rw [← hpp];exact List.mem_append_left _ hx)
  generalize pre.flatMap encE=out at hol ⊢
  simp only
  rw [appO_byte (by simp;omega)]
  simp only [Option.bind_some,List.cons_append,List.nil_append]
  cases b with
  | true =>
   simp only [if_true,encE]
   rw [show u8O 100=some 100 from rfl]
   simp only [Option.bind_some]
   rw [appO_of (by simp;omega)]
   rfl
  | false =>
   simp only [encE]
   rw [show u8O 102=some 102 from rfl]
   simp only [Option.bind_some,Bool.false_eq_true,if_false]
   rw [penRaw_eq _ _ (by simp)]
   simp only [Option.bind_some,List.nil_append]
   rw [u64_id (by omega) (by omega),penUint2 _ _ (by omega) (by simp)]
   simp only [Option.bind_some]
   unfold penData
   rw [cloneB_eq _ (by simp [len2])]
   simp only [Option.bind_some]
   rw [appO_of (by simp;omega)]
   simp only [Option.bind_some]
   have hcn:chunkN 64 d.length=some 64:=by unfold chunkN;rw [if_pos ⟨by omega,by omega,by omega⟩];rfl
   rw [hcn]
   simp only [Option.bind_some]
   have hcl:=chunkC_leW hd1
   refine (congrArg (fun o=>Option.bind (Option.bind o _) _) (chk_fold p hp1 (fun i o c hi ho hc=>?_) (chunkL 64 d) 0 (out++[(110::p,[102]++len2 d.length)]) (by rw [chunkL_len];omega) (by simp [chunkL_len];omega) fun c hc=>by have:=chunk_mem_len hc;omega)).trans ?_
   ·simp only
    rw [appO_byte (by simp;omega)]
    simp only [Option.bind_some]
    rw [show u8O 0=some 0 from rfl,wrap_u8',show ((i:Int) % 256)=(i:Int) by omega,u8O_of (by omega) (by omega)]
    simp only [Option.bind_some]
    rw [appO_byte (by simp;omega)]
    simp only [Option.bind_some]
    rw [cloneB_eq _ (by omega)]
    simp only [Option.bind_some]
    rw [appO_of (by simp;omega)]
    simp only [Option.bind_some]
    rw [i64_id (by omega) (by omega)]
    simp
   ·simp
theorem sPairs_eq {s:FS} {l:List Ent} (hE:Enum s l) (hl:l.length≤1000000) (hb:∀ x∈l,x.1.length≤100000∧x.2.2.length≤192):sPairs s=some (prs2 l) :=
 sPairs_eqW hE (by omega) (fun x hx=>⟨(hb x hx).1,Nat.le_trans (hb x hx).2 (by decide)⟩) fun l' h1 h2=>by
  have:=flat_len (l:=l') fun x hx=>(hb x (h2 x hx)).2
  omega
theorem chunk_flat (n:Nat) (hn:0<n) (xs:List UInt8):(chunkL n xs).flatten=xs:=by
 have key:∀ m:Nat,((List.range m).map fun k=>(xs.drop (k * n)).take n).flatten=xs.take (m * n):=by
  intro m
  induction m with
  | zero=>simp
  | succ m ih =>
   rw [List.range_succ,List.map_append,List.flatten_append,ih]
   simp only [List.map_cons,List.map_nil,List.flatten_cons,List.flatten_nil,List.append_nil]
   rw [Nat.succ_mul,List.take_add]
 unfold chunkL chunkZ
 rw [List.map_map]
 refine (key _).trans (List.take_of_length_le ?_)
 have:=(not_congr (chunkC_lt (n:=n) (len:=xs.length) (k:=chunkC n xs.length) hn)).1 (Nat.lt_irrefl _)
 omega
theorem jn_nz {xs:List (List UInt8)} (h:∀ x∈xs,∀ c∈x,c≠0):∀ c∈jn xs,c≠0:=by
 induction xs with
 | nil=>intro c hc;simp [jn_nil] at hc
 | cons x r ih =>
  cases r with
  | nil=>intro c hc;rw [jn_one] at hc;exact h x List.mem_cons_self c hc
  | cons y r =>
   intro c hc
   rw [jn_cons] at hc
   rcases List.mem_append.1 hc with hc | hc
   ·exact h x List.mem_cons_self c hc
   ·rcases List.mem_cons.1 hc with rfl | hc
    ·decide
    ·exact ih (fun z hz=>h z (List.mem_cons_of_mem _ hz)) c hc
theorem okP_nz {p:List UInt8} (h:okP p=true):∀ c∈p,c≠0:=by
 obtain ⟨h1,h2,_⟩:=okP_pth h
 rw [h2]
 intro c hc
 rcases List.mem_cons.1 hc with rfl | hc
 ·decide
 ·exact jn_nz (fun x hx=>isNm_z (h1 x hx)) c hc
theorem tw_app {p r:List UInt8} (h:∀ c∈p,c≠0):tw (p++0::r)=p:=by
 unfold tw
 induction p with
 | nil=>simp
 | cons c p ih =>
  have h1:=h c List.mem_cons_self
  rw [List.cons_append,List.takeWhile_cons,if_pos (by simpa using h1),ih fun d hd=>h d (List.mem_cons_of_mem _ hd)]
def cof (p:List UInt8) (x:P2):Option (List UInt8):=match x.1 with
 | []=>none
 | a::r=>if a=99∧tw r=p then some x.2 else none
theorem r1_c (p:List UInt8):∀ (L:List P2) (s:CS×FS),((L.foldl r1 s).1 p).getD []=(s.1 p).getD []++(L.filterMap (cof p)).flatten
 | [],s=>by simp
 | x::L,s=>by
  obtain ⟨k,v⟩:=x
  rw [List.foldl_cons,r1_c p L,List.filterMap_cons]
  cases k with
  | nil=>rfl
  | cons a r =>
   simp only [r1,cof]
   by_cases h99:a=99
   ·subst h99
    simp only [if_true,true_and,fset]
    by_cases e:p=tw r
    ·rw [if_pos e,if_pos e.symm,← e];simp
    ·rw [if_neg e,if_neg (Ne.symm e)]
   ·rw [if_neg h99,if_neg (show ¬ (a=99∧tw r=p) from fun h=>h99 h.1)]
    split<;>rfl
theorem r1_t (p:List UInt8):∀ (L:List P2) (s:CS×FS),(∀ v,(110::p,v) ∉ L)→(L.foldl r1 s).2 p=s.2 p
 | [],s,_=>rfl
 | x::L,s,h=>by
  obtain ⟨k,v⟩:=x
  rw [List.foldl_cons,r1_t p L _ fun u hu=>h u (List.mem_cons_of_mem _ hu)]
  cases k with
  | nil=>rfl
  | cons a r =>
   simp only [r1]
   by_cases h99:a=99
   ·rw [if_pos h99]
   ·rw [if_neg h99]
    by_cases h110:a=110
    ·rw [if_pos h110]
     have e:p≠r:=fun e=>h v (by rw [e,h110];exact List.mem_cons_self)
     simp [fset,e]
    ·rw [if_neg h110]
theorem r1_t2 (p v:List UInt8):∀ (L:List P2) (s:CS×FS),(L.map (·.1)).Nodup→(110::p,v)∈L→(L.foldl r1 s).2 p=some (decide (v=[100]),[])
 | [],_,_,h=>by cases h
 | x::L,s,hn,h=>by
  simp only [List.map_cons,List.nodup_cons] at hn
  rw [List.foldl_cons]
  rcases List.mem_cons.1 h with rfl | h
  ·rw [r1_t p L _ fun u hu=>hn.1 (List.mem_map.2 ⟨_,hu,rfl⟩)]
   simp [r1,fset]
  ·exact r1_t2 p v L _ hn.2 h
theorem filterMap_filter {α β:Type} (f:α→Option β) (g:α→β) (hg:∀ x y,f x=some y→y=g x):∀ l:List α,l.filterMap f=(l.filter fun x=>(f x).isSome).map g
 | []=>rfl
 | x::l=>by
  rw [List.filterMap_cons,List.filter_cons]
  cases h:f x with
  | none=>simp [filterMap_filter f g hg l]
  | some y=>simp [filterMap_filter f g hg l,hg x y h]
structure EntOk (l:List Ent):Prop where
 nd:(l.map (·.1)).Nodup
 ok:∀ x∈l,okP x.1=true
 len:∀ x∈l,x.2.2.length≤192
 dir:∀ x∈l,x.2.1=true→x.2.2=[]
theorem prs2_mem {l:List Ent} {x:P2}:x∈prs2 l↔∃ e∈l,x∈encE e:=by
 unfold prs2 sortPairs
 rw [(List.mergeSort_perm _ leP).mem_iff,List.mem_flatMap]
theorem rd_prs {l:List Ent} (h:EntOk l):∀ p,rdF (prs2 l) p=aget p l:=by
 have hnd:=enc_nodup h.nd h.len
 have hst:=sortPairs_strict hnd
 have hkn:((prs2 l).map (·.1)).Nodup:=((List.mergeSort_perm _ leP).map _).nodup_iff.2 hnd
 intro p
 unfold rdF fin2
 by_cases hp:∃ f,(p,f)∈l
 ·obtain ⟨⟨b,d⟩,hf⟩:=hp
  rw [aget_of_mem h.nd hf]
  cases b with
  | true =>
   have hm:(110::p,[100])∈prs2 l:=prs2_mem.2 ⟨_,hf,by simp [encE]⟩
   rw [r1_t2 p _ _ _ hkn hm]
   have:=h.dir _ hf rfl
   simp only at this
   rw [this];rfl
  | false =>
   have hm:(110::p,102::len2 d.length)∈prs2 l:=prs2_mem.2 ⟨_,hf,by simp [encE]⟩
   rw [r1_t2 p _ _ _ hkn hm]
   have hne:¬ (102::len2 d.length=([100]:List UInt8)):=by simp
   rw [decide_eq_false hne]
   simp only
   rw [r1_c p,filterMap_filter (cof p) (·.2) (fun x y hxy=>by
    unfold cof at hxy
    split at hxy
    ·cases hxy
    ·split at hxy
     ·exact (Option.some.inj hxy).symm
     ·cases hxy)]
   have hfil:(prs2 l).filter (fun x=>(cof p x).isSome)=chk p 0 (chunkL 64 d):=by
    refine pairs_same (List.Pairwise.sublist List.filter_sublist hst) (chk_lt (by have:=chunkC_le (h.len _ hf);rw [chunkL_len];simp only at this;omega)) fun x=>?_
    rw [List.mem_filter,prs2_mem]
    constructor
    ·rintro ⟨⟨e,he,hx⟩,hc⟩
     obtain ⟨q,b',d'⟩:=e
     have hq:=okP_nz (h.ok _ he)
     unfold encE at hx
     simp only at hx
     cases b' with
     | true=>simp at hx;rw [hx] at hc;simp [cof] at hc
     | false =>
      simp only [Bool.false_eq_true,if_false] at hx
      rcases List.mem_cons.1 hx with rfl | hx
      ·simp [cof] at hc
      ·obtain ⟨j,_,_,h3⟩:=chk_mem hx
       unfold cof at hc
       rw [h3] at hc
       simp only [true_and] at hc
       rw [tw_app hq] at hc
       by_cases e:q=p
       ·subst e
        have:=aget_of_mem h.nd he
        rw [aget_of_mem h.nd hf] at this
        cases this
        exact hx
       ·rw [if_neg e] at hc;cases hc
    ·intro hx
     refine ⟨⟨_,hf,by simp [encE,hx]⟩,?_⟩
     obtain ⟨j,_,_,h3⟩:=chk_mem hx
     unfold cof
     rw [h3]
     simp only [true_and]
     rw [tw_app (okP_nz (h.ok _ hf)),if_pos rfl];rfl
   rw [hfil,chk_snd,chunk_flat 64 (by omega)]
   rfl
 ·have hn:∀ v,(110::p,v) ∉ prs2 l:=fun v hv=>by
   obtain ⟨e,he,hx⟩:=prs2_mem.1 hv
   rcases enc_key hx with h1 | ⟨c,h1⟩
   ·simp only at h1
    injection h1 with _ h1
    exact hp ⟨e.2,by rw [h1];exact he⟩
   ·simp only at h1
    injection h1 with h1;exact absurd h1 (by decide)
  rw [r1_t p _ _ hn]
  symm
  refine aget_none fun hm=>?_
  obtain ⟨⟨a,b⟩,hx,hj⟩:=List.mem_map.1 hm
  simp only at hj
  exact hp ⟨b,by rw [← hj];exact hx⟩
structure Snd (s:FS):Prop where
 root:∃ d,s [47]=some (true,d)
 ok:∀ p f,s p=some f→okP p=true
 len:∀ p f,s p=some f→f.2.length≤192
 dir:∀ p d,s p=some (true,d)→d=[]
 up:∀ p f,s p=some f→p≠[47]→∃ d,s (par p)=some (true,d)
theorem Snd.ent {s:FS} (h:Snd s) {l:List Ent} (hE:Enum s l):EntOk l :=
 ⟨hE.1,fun x hx=>h.ok x.1 x.2 ((enum_mem hE).1 hx),fun x hx=>h.len x.1 x.2 ((enum_mem hE).1 hx),fun x hx hd=>h.dir x.1 x.2.2 (by rw [← hd];exact (enum_mem hE).1 hx)⟩
noncomputable def prsF (s:FS):List P2:=(sPairs s).getD []
theorem Snd.prs {s:FS} (h:Snd s) {n:Nat} (hc:Crd s n) (hn:n≤1000000):sPairs s=some (prsF s)∧rdF (prsF s)=s∧(prsF s).length≤4 * n∧∀ x∈prsF s,x.1.length≤100∧x.2.length≤100:=by
 obtain ⟨l,hE,hl⟩:=hc
 have hk:=h.ent hE
 have h1:sPairs s=some (prs2 l):=sPairs_eq hE (by omega) fun x hx=>⟨by have:=(okP_pth (hk.ok x hx)).2.2;omega,hk.len x hx⟩
 have h2:prsF s=prs2 l:=by unfold prsF;rw [h1];rfl
 rw [h2]
 refine ⟨h1,?_,?_,fun x hx=>?_⟩
 ·funext p
  rw [rd_prs hk p]
  exact (hE.2 p).symm
 ·unfold prs2 sortPairs
  rw [(List.mergeSort_perm _ leP).length_eq]
  have:=flat_len hk.len
  omega
 ·obtain ⟨e,he,hx⟩:=prs2_mem.1 hx
  have hp:=(okP_pth (hk.ok e he)).2.2
  refine ⟨?_,?_⟩
  ·rcases enc_key hx with h1 | ⟨c,h1⟩
   ·rw [h1];simp;omega
   ·rw [h1];simp;omega
  ·have hmem:∀ i (cs:List (List UInt8)),x∈chk e.1 i cs→x.2∈cs:=by
    intro i cs hh
    have:=chk_snd e.1 i cs
    rw [← this];exact List.mem_map.2 ⟨x,hh,rfl⟩
   unfold encE at hx
   split at hx
   ·simp at hx;rw [hx];simp
   ·rcases List.mem_cons.1 hx with rfl | hx
    ·simp [len2]
    ·have:=chunk_mem_len (hmem 0 _ hx);omega
theorem foldO_all {β:Type} {f:Unit→β→Option (Unit ⊕ Bool)} (good:β→Bool):∀ (l:List β),(∀ x∈l,f () x=some (if good x=true then .inl () else .inr false))→foldO f () l=some (if l.all good=true then .inl () else .inr false)
 | [],_=>rfl
 | x::l,h=>by
  show (f () x).bind _=_
  rw [h x List.mem_cons_self]
  by_cases hg:good x=true
  ·rw [if_pos hg]
   simp only [Option.bind_some]
   rw [foldO_all good l fun y hy=>h y (List.mem_cons_of_mem _ hy)]
   simp [hg]
  ·rw [if_neg hg]
   simp [show good x=false by simpa using hg]
def gd (s:FS) (x:Ent):Bool:=okP x.1&&decide (x.2.2.length≤192)&&(decide (x.1=[47]) || ((s (par x.1)).getD (false,[])).1)
theorem sound_eq {s:FS} {l:List Ent} (hE:Enum s l) (hb:∀ x∈l,x.1.length≤90000∧x.2.2.length≤1000000000000000):sSound s=some (l.all (gd s)&&((s [47]).getD (false,[])).1):=by
 unfold sSound
 refine detM_of hE fun l' hE'=>?_
 have hp:l'.Perm l:=hE'.perm hE
 rw [foldO_all (gd s) l' fun x hx=>?_]
 ·have:l'.all (gd s)=l.all (gd s):=by
   rw [Bool.eq_iff_iff,List.all_eq_true,List.all_eq_true]
   exact ⟨fun h x hx=>h x (hp.mem_iff.2 hx),fun h x hx=>h x (hp.mem_iff.1 hx)⟩
  rw [this]
  cases l.all (gd s)<;>rfl
 ·obtain ⟨h1,h2⟩:=hb x (hp.mem_iff.1 hx)
  unfold gd
  rw [check_eq _ (by omega)]
  simp only [Option.bind_some]
  cases okP x.1 with
  | false=>rfl
  | true =>
   rw [if_pos rfl,if_pos rfl]
   by_cases h3:192<(x.2.2.length:Int)
   ·rw [if_pos h3,decide_eq_false (show ¬ x.2.2.length≤192 by omega)];rfl
   ·rw [if_neg h3,decide_eq_true (show x.2.2.length≤192 by omega)]
    by_cases h4:x.1=[47]
    ·rw [if_pos h4,decide_eq_true h4];rfl
    ·rw [if_neg h4,decide_eq_false h4,parent_eq _ (by omega)]
     simp only [Option.bind_some]
     cases ((s (par x.1)).getD (false,[])).1<;>rfl
theorem rdF_dir (L:List P2):∀ p d,rdF L p=some (true,d)→d=[]:=by
 have key:∀ (L:List P2) (s:CS×FS),(∀ p f,s.2 p=some f→f.2=[])→∀ p f,(L.foldl r1 s).2 p=some f→f.2=[]:=by
  intro L
  induction L with
  | nil=>intro s h;exact h
  | cons x L ih =>
   intro s h
   refine ih (r1 s x) fun p f hp=>?_
   obtain ⟨k,v⟩:=x
   cases k with
   | nil=>exact h p f hp
   | cons a r =>
    simp only [r1] at hp
    split at hp
    ·exact h p f hp
    ·split at hp
     ·simp only [fset] at hp
      split at hp
      ·cases hp;rfl
      ·exact h p f hp
     ·exact h p f hp
 intro p d h
 unfold rdF fin2 at h
 split at h
 ·cases h
 ·exact key L (fnil,fnil) (fun p f h=>by cases h) p _ h
theorem eqPairs_eq (x y:List P2) (hx:x.length≤100000000):eqPairs x y=some (decide (x=y)):=by
 have hs:∀ a b:P2,m_files_same a b=some (decide (a=b)):=fun a b=>by
  obtain ⟨a1,a2⟩:=a
  obtain ⟨b1,b2⟩:=b
  unfold m_files_same bEqual
  simp only [Option.bind_some]
  by_cases h1:a1=b1
  ·rw [if_pos (decide_eq_true h1)]
   by_cases h2:a2=b2
   ·rw [decide_eq_true h2,decide_eq_true (by rw [h1,h2])]
   ·rw [decide_eq_false h2,decide_eq_false (by simp [h2])]
  ·rw [if_neg (by simp [h1]),decide_eq_false (by simp [h1])]
 unfold eqPairs
 by_cases hl:(x.length:Int)=(y.length:Int)
 ·rw [if_pos hl]
  refine bind_run (fun k (s:Int)=>s=(k:Int)∧∀ j,j<k→x.getD j ([],[])=y.getD j ([],[])) (fun r=>(r=.inl ()∧x=y)∨(r=.inr false∧x≠y)) x.length ⟨rfl,fun j hj=>by omega⟩ ?_ ?_ ?_
  ·rintro k _ hk ⟨rfl,hne⟩
   rw [if_pos (by omega),idxO_getD ([],[]) rfl hk,idxO_getD ([],[]) rfl (show k<y.length by omega)]
   simp only [Option.bind_some,hs]
   by_cases e:x.getD k ([],[])=y.getD k ([],[])
   ·rw [if_neg (by rw [decide_eq_true e];decide),i64_id (by omega) (by omega)]
    exact .inl ⟨_,rfl,rfl,fun j hj=>by
     by_cases ej:j=k
     ·subst ej;exact e
     ·exact hne j (by omega)⟩
   ·rw [if_pos (by rw [decide_eq_false e];rfl)]
    exact .inr ⟨_,rfl,.inr ⟨rfl,fun h=>e (by rw [h])⟩⟩
  ·rintro _ ⟨rfl,hne⟩
   refine ⟨.inl (),?_,.inl ⟨rfl,List.ext_getElem (by omega) fun j h1 h2=>?_⟩⟩
   ·rw [if_neg (by omega)]
   ·have:=hne j h1
    simpa [List.getD_eq_getElem?_getD,List.getElem?_eq_getElem h1,List.getElem?_eq_getElem h2] using this
  ·rintro _ (⟨rfl,h1⟩ | ⟨rfl,h1⟩)
   ·simp [h1]
   ·simp [h1]
 ·rw [if_neg hl,decide_eq_false fun h=>hl (by rw [h])]
theorem fCheck_eq (L:List P2) (hn:L.length≤1000) (hb:∀ x∈L,x.1.length≤10000∧x.2.length≤10000):(fCheck L=some 0∧Snd (rdF L)∧prsF (rdF L)=L)∨(fCheck L=some 22∧¬ (Snd (rdF L)∧prsF (rdF L)=L)):=by
 unfold fCheck
 rw [fRead_eq L (by omega) fun x hx=>by have:=hb x hx;omega]
 simp only [Option.bind_some]
 obtain ⟨l,hE,hl⟩:=rdF_crd L
 have hkey:∀ p f,rdF L p=some f→p.length≤10000∧f.2.length≤100000000:=by
  have key:∀ (L:List P2) (s:CS×FS) (n:Nat),(∀ x∈L,x.1.length≤10000∧x.2.length≤10000)→(∀ p f,s.2 p=some f→p.length≤10000)→(∀ p,((s.1 p).getD []).length≤n)→(∀ p f,(L.foldl r1 s).2 p=some f→p.length≤10000)∧∀ p,(((L.foldl r1 s).1 p).getD []).length≤n+L.length * 10000:=by
   intro L
   induction L with
   | nil=>intro s n _ h1 h2;exact ⟨h1,fun p=>by have:=h2 p;simpa using this⟩
   | cons x L ih =>
    intro s n hb h1 h2
    obtain ⟨h3,h4⟩:=hb x List.mem_cons_self
    obtain ⟨h5,h6⟩:=ih (r1 s x) (n+10000) (fun y hy=>hb y (List.mem_cons_of_mem _ hy)) (fun p f hp=>by
     obtain ⟨k,v⟩:=x
     cases k with
     | nil=>exact h1 p f hp
     | cons a r =>
      simp only [r1] at hp
      split at hp
      ·exact h1 p f hp
      ·split at hp
       ·simp only [fset] at hp
        split at hp
        ·rename_i e;subst e;simp at h3;omega
        ·exact h1 p f hp
       ·exact h1 p f hp) (r1_len s x n 10000 h2 h4)
    exact ⟨h5,fun p=>by have:=h6 p;simp only [List.foldl_cons,List.length_cons] at this ⊢;omega⟩
  obtain ⟨h1,h2⟩:=key L (fnil,fnil) 0 hb (fun p f h=>by cases h) (fun p=>by simp [fnil])
  intro p f hp
  unfold rdF fin2 at hp
  split at hp
  ·rename_i b e
   cases hp
   exact ⟨h1 p _ e,by have:=h2 p;simp only;omega⟩
  ·rename_i e1 e2
   refine ⟨h1 p f hp,?_⟩
   obtain ⟨b,d⟩:=f
   cases b with
   | false=>exact absurd hp (e2 d)
   | true =>
    have:=rdF_dir L p d (by unfold rdF fin2;simp only [hp])
    rw [this];simp
 have hbl:∀ x∈l,x.1.length≤90000∧x.2.2.length≤1000000000000000:=fun x hx=>by
  have:=hkey x.1 x.2 ((enum_mem hE).1 hx);omega
 rw [sound_eq hE hbl]
 simp only [Option.bind_some]
 have hsnd:(l.all (gd (rdF L))&&((rdF L [47]).getD (false,[])).1)=true↔Snd (rdF L):=by
  rw [Bool.and_eq_true,List.all_eq_true]
  have hdd:∀ p,((rdF L p).getD (false,[])).1=true↔∃ d,rdF L p=some (true,d):=fun p=>by
   cases h:rdF L p with
   | none=>simp
   | some v=>obtain ⟨b,d⟩:=v;cases b<;>simp
  rw [hdd]
  have hg:∀ x,gd (rdF L) x=true↔okP x.1=true∧x.2.2.length≤192∧(x.1≠[47]→∃ d,rdF L (par x.1)=some (true,d)):=fun x=>by
   unfold gd
   simp only [Bool.and_eq_true,Bool.or_eq_true,decide_eq_true_eq,hdd]
   constructor
   ·rintro ⟨⟨a,b⟩,c⟩;exact ⟨a,b,fun h=>c.resolve_left h⟩
   ·rintro ⟨a,b,c⟩
    refine ⟨⟨a,b⟩,?_⟩
    by_cases h:x.1=[47]
    ·exact .inl h
    ·exact .inr (c h)
  constructor
  ·rintro ⟨h1,h2⟩
   exact ⟨h2,fun p f hp=>((hg (p,f)).1 (h1 _ ((enum_mem hE).2 hp))).1,fun p f hp=>((hg (p,f)).1 (h1 _ ((enum_mem hE).2 hp))).2.1,rdF_dir L,fun p f hp=>((hg (p,f)).1 (h1 _ ((enum_mem hE).2 hp))).2.2⟩
  ·intro h
   exact ⟨fun x hx=>(hg x).2 ⟨h.ok _ _ ((enum_mem hE).1 hx),h.len _ _ ((enum_mem hE).1 hx),h.up _ _ ((enum_mem hE).1 hx)⟩,h.root⟩
 by_cases hs:(l.all (gd (rdF L))&&((rdF L [47]).getD (false,[])).1)=true
 ·have hS:=hsnd.1 hs
  rw [if_neg (by rw [hs];decide)]
  obtain ⟨h1,_,h3,_⟩:=hS.prs ⟨l,hE,hl⟩ (by omega)
  rw [h1]
  simp only [Option.bind_some]
  rw [eqPairs_eq _ _ (by omega)]
  simp only [Option.bind_some]
  by_cases he:prsF (rdF L)=L
  ·rw [if_neg (by simp [he])];exact .inl ⟨rfl,hS,he⟩
  ·rw [if_pos (by simp [he])];exact .inr ⟨rfl,fun h=>he h.2⟩
 ·rw [if_pos (by simp only [show (l.all (gd (rdF L))&&((rdF L [47]).getD (false,[])).1)=false by simpa using hs];rfl)]
  exact .inr ⟨rfl,fun h=>hs (hsnd.2 h.1)⟩
def zf:Bool×List UInt8:=(false,[])
def ag (s:FS) (a:List UInt8):Option Int:=match s a with
 | none=>some 91
 | some f=>if f.1=true then none else some 93
def ancL (p:List UInt8):List (List UInt8):=(List.range (nmP p).length).map fun i=>pth ((nmP p).take i)
def lk (s:FS) (p:List UInt8):(Bool×List UInt8)×Int:=if okP p=true then (match (ancL p).findSome? (ag s) with
 | some e=>(zf,e)
 | none=>match s p with
  | none=>(zf,91)
  | some f=>(f,0)) else (zf,90)
theorem look_eq (s:FS) (p:List UInt8) (h:p.length≤1500000000):sLook s p=some (lk s p):=by
 unfold sLook lk
 rw [check_eq _ (by omega)]
 simp only [Option.bind_some]
 by_cases hk:okP p=true
 ·rw [if_pos hk,if_pos rfl,if_pos hk,anc_eq _ h]
  simp only [Option.bind_some]
  have hlen:(ancL p).length≤2000000001:=by have:=nmP_len p;simp [ancL];omega
  rw [show ((List.range (nmP p).length).map fun i=>pth ((nmP p).take i))=ancL p from rfl]
  rw [loop_fs (ancL p) (fun a=>(ag s a).map fun e=>(Sum.inr (zf,e):Unit ⊕ (Bool×List UInt8)×Int)) (.inl ()) (fun i hi=>?_) ?_]
  ·simp only [Option.bind_some]
   have:(ancL p).findSome? (fun a=>(ag s a).map fun e=>(Sum.inr (zf,e):Unit ⊕ (Bool×List UInt8)×Int))=((ancL p).findSome? (ag s)).map fun e=>(Sum.inr (zf,e):Unit ⊕ (Bool×List UInt8)×Int):=by
    generalize ancL p=l
    induction l with
    | nil=>rfl
    | cons x l ih =>
     rw [List.findSome?_cons,List.findSome?_cons]
     cases ag s x with
     | none=>exact ih
     | some e=>rfl
   rw [this]
   cases (ancL p).findSome? (ag s) with
   | some e=>rfl
   | none =>
    simp only [Option.map_none,Option.getD_none,Sum.elim_inl]
    cases s p with
    | none=>rfl
    | some f=>rfl
  ·rw [if_neg (by omega)]
  ·rw [if_pos (by omega),idxO_get hi]
   simp only [Option.bind_some]
   unfold ag
   cases hs:s (ancL p)[i] with
   | none=>rfl
   | some f =>
    obtain ⟨b,d⟩:=f
    cases b with
    | true=>rw [if_neg (by simp),if_neg (by simp),i64_id (by omega) (by omega)];rfl
    | false=>rfl
 ·rw [if_neg hk,if_neg (by omega),if_neg hk];rfl
theorem lk_ok {s:FS} {p:List UInt8} (h:(lk s p).2=0):okP p=true∧∃ f,s p=some f∧lk s p=(f,0):=by
 unfold lk at h ⊢
 by_cases hk:okP p=true
 ·rw [if_pos hk] at h ⊢
  refine ⟨hk,?_⟩
  cases hf:(ancL p).findSome? (ag s) with
  | some e =>
   rw [hf] at h
   simp only at h
   subst h
   obtain ⟨a,_,ha⟩:=List.exists_of_findSome?_eq_some hf
   unfold ag at ha
   split at ha
   ·cases ha
   ·split at ha<;>cases ha
  | none =>
   rw [hf] at h
   simp only at h ⊢
   cases hp:s p with
   | none=>rw [hp] at h;cases h
   | some f=>exact ⟨f,rfl,rfl⟩
 ·rw [if_neg hk] at h;cases h
theorem take_pre {s:FS} (hs:Snd s) {p:List UInt8} {f:Bool×List UInt8} (hp:s p=some f):∀ i,i<(nmP p).length→∃ d,s (pth ((nmP p).take i))=some (true,d):=by
 obtain ⟨h1,h2,h3⟩:=okP_pth (hs.ok p f hp)
 have hlen:∀ i,(pth ((nmP p).take i)).length≤24:=fun i=>by
  have:=jn_take (xs:=nmP p) i
  rw [h2] at h3
  simp only [pth,List.length_cons] at h3 ⊢
  omega
 have hnp:∀ i,NP ((nmP p).take i):=fun i x hx=>h1 x (List.mem_of_mem_take hx)
 have key:∀ k i,i+k=(nmP p).length→0<k→∃ d,s (pth ((nmP p).take i))=some (true,d):=by
  intro k
  induction k with
  | zero=>intro i _ h0;omega
  | succ k ih =>
   intro i hi _
   have hx:∃ g,s (pth ((nmP p).take (i+1)))=some g:=by
    by_cases hk:k=0
    ·subst hk
     rw [List.take_of_length_le (show (nmP p).length≤i+1 by omega),← h2];exact ⟨f,hp⟩
    ·obtain ⟨d,hd⟩:=ih (i+1) (by omega) (by omega);exact ⟨_,hd⟩
   obtain ⟨g,hg⟩:=hx
   have hn:=pth_nm (hnp (i+1)) (hlen (i+1))
   have hne:(nmP p).take (i+1)≠[]:=by
    intro e
    have:=congrArg List.length e
    rw [List.length_take,List.length_nil] at this;omega
   obtain ⟨d,hd⟩:=hs.up _ g hg (fun e=>hne (by rw [← hn,e];rfl))
   refine ⟨d,?_⟩
   rw [← hd]
   unfold par
   rw [hn,if_neg hne,List.dropLast_eq_take,List.take_take,List.length_take]
   rw [show min (min (i+1) (nmP p).length - 1) (i+1)=i by omega]
 intro i hi
 exact key ((nmP p).length - i) i (by omega) (by omega)
def rg (s:FS) (p:List UInt8):(Bool×List UInt8)×Int:=if (lk s p).2=0 then (if (lk s p).1.1=true then (zf,94) else lk s p) else lk s p
theorem regular_eq (s:FS) (p:List UInt8) (h:p.length≤1500000000):sRegular s p=some (rg s p):=by
 unfold sRegular rg
 rw [look_eq s p h]
 simp only [Option.bind_some]
 split
 ·split<;>rfl
 ·rfl
theorem rg_ok {s:FS} {p:List UInt8} (h:(rg s p).2=0):∃ d,s p=some (false,d)∧rg s p=((false,d),0):=by
 unfold rg at h ⊢
 by_cases h1:(lk s p).2=0
 ·rw [if_pos h1] at h ⊢
  obtain ⟨_,f,h2,h3⟩:=lk_ok h1
  obtain ⟨b,d⟩:=f
  rw [h3] at h ⊢
  cases b with
  | true=>cases h
  | false=>exact ⟨d,h2,rfl⟩
 ·rw [if_neg h1] at h;exact absurd h h1
def rm (s:FS) (p:List UInt8):Int:=if okP p=true then (if p=[47] then 92 else if (lk s (par p)).2=0 then (if (lk s (par p)).1.1=true then (if (s p).isSome=true then 92 else 0) else 93) else (lk s (par p)).2) else 90
theorem par_len {p:List UInt8} (h:okP p=true):(par p).length≤24:=by
 obtain ⟨h1,h2,h3⟩:=okP_pth h
 unfold par
 split
 ·simp
 ·have:=jn_take (xs:=nmP p) ((nmP p).length - 1)
  rw [← List.dropLast_eq_take] at this
  rw [h2] at h3
  simp only [pth,List.length_cons] at h3 ⊢
  omega
theorem room_eq (s:FS) (p:List UInt8) (h:p.length≤1500000000):sRoom s p=some (rm s p):=by
 unfold sRoom rm
 rw [check_eq _ (by omega)]
 simp only [Option.bind_some]
 by_cases hk:okP p=true
 ·rw [if_pos hk,if_pos rfl,if_pos hk]
  by_cases hr:p=[47]
  ·rw [if_pos hr,if_pos hr]
  ·rw [if_neg hr,if_neg hr,parent_eq _ h]
   simp only [Option.bind_some]
   rw [look_eq _ _ (by have:=par_len hk;omega)]
   simp only [Option.bind_some]
   by_cases he:(lk s (par p)).2=0
   ·rw [if_pos he,if_pos he]
    cases (lk s (par p)).1.1 with
    | false=>rfl
    | true =>
     cases s p<;>rfl
   ·rw [if_neg he,if_neg he]
 ·rw [if_neg hk,if_neg (by omega),if_neg hk]
theorem rm_ok {s:FS} {p:List UInt8} (h:rm s p=0):okP p=true∧p≠[47]∧(∃ d,s (par p)=some (true,d))∧s p=none:=by
 unfold rm at h
 by_cases hk:okP p=true
 ·rw [if_pos hk] at h
  by_cases hr:p=[47]
  ·rw [if_pos hr] at h;cases h
  ·rw [if_neg hr] at h
   by_cases he:(lk s (par p)).2=0
   ·rw [if_pos he] at h
    obtain ⟨_,f,h2,h3⟩:=lk_ok he
    obtain ⟨b,d⟩:=f
    rw [h3] at h
    cases b with
    | false=>cases h
    | true =>
     cases hp:s p with
     | none=>exact ⟨hk,hr,⟨d,h2⟩,rfl⟩
     | some g=>rw [hp] at h;cases h
   ·rw [if_neg he] at h;exact absurd h he
 ·rw [if_neg hk] at h;cases h
def tle (x y:List UInt8):Bool:=decide (x≤y)
theorem tsort (xs:List (List UInt8)):(xs.mergeSort tle).Pairwise (·≤·):=by
 refine (List.pairwise_mergeSort (le:=tle) (fun a b c h1 h2=>?_) (fun a b=>?_) xs).imp fun h=>of_decide_eq_true h
 ·exact decide_eq_true (List.le_trans (of_decide_eq_true h1) (of_decide_eq_true h2))
 ·rcases List.le_total a b with h | h
  ·simp [tle,h]
  ·simp [tle,h]
theorem tsort_perm {xs ys:List (List UInt8)} (h:xs.Perm ys):xs.mergeSort tle=ys.mergeSort tle :=
 List.Perm.eq_of_pairwise (le:=(·≤·)) (fun a b _ _ h1 h2=>List.le_antisymm h1 h2) (tsort xs) (tsort ys) ((List.mergeSort_perm xs tle).trans (h.trans (List.mergeSort_perm ys tle).symm))
def inD (p:List UInt8) (x:Ent):Bool:=decide (x.1≠[47])&&decide (par x.1=p)
def blL (l:List Ent) (p:List UInt8):List (List UInt8):=((l.filter (inD p)).map fun x=>bas x.1).mergeSort tle
theorem below_eq {s:FS} {l:List Ent} (hE:Enum s l) (hl:l.length≤1000000) (hb:∀ x∈l,x.1.length≤1500000000) (p:List UInt8):sBelow s p=some (blL l p):=by
 unfold sBelow
 refine detM_of hE fun l' hE'=>?_
 have hp:l'.Perm l:=hE'.perm hE
 have hl':l'.length≤1000000:=by rw [hp.length_eq];exact hl
 rw [(foldO_inv (fun (out:List (List UInt8)) (x:Ent)=>if inD p x=true then out++[bas x.1] else out) (fun pre out=>out=(pre.filter (inD p)).map fun x=>bas x.1) l' l' [] [] rfl rfl ?_).1]
 ·have hfold:l'.foldl (fun (out:List (List UInt8)) (x:Ent)=>if inD p x=true then out++[bas x.1] else out) []=(l'.filter (inD p)).map fun x=>bas x.1:=by
   have key:∀ (l':List Ent) (o:List (List UInt8)),l'.foldl (fun (out:List (List UInt8)) (x:Ent)=>if inD p x=true then out++[bas x.1] else out) o=o++(l'.filter (inD p)).map fun x=>bas x.1:=by
    intro l'
    induction l' with
    | nil=>intro o;simp
    | cons x l' ih =>
     intro o
     rw [List.foldl_cons,ih,List.filter_cons]
     split<;>simp
   simpa using key l' []
  rw [hfold]
  simp only [Option.bind_some,Sum.elim_inl]
  unfold sortT sortTO
  have hlen:((l'.filter (inD p)).map fun x=>bas x.1).length≤1000000:=by
   have:=List.length_filter_le (inD p) l'
   simp only [List.length_map];omega
  rw [if_pos (by omega)]
  simp only [Option.bind_some]
  congr 1
  exact tsort_perm ((hp.filter _).map _)
 ·rintro pre x post out hpp rfl
  have hxl:=hb x (hp.mem_iff.1 (by rw [← hpp];simp))
  have hpl:(pre.filter (inD p)).length≤1000000:=by
   have h1:=List.length_filter_le (inD p) pre
   have h2:=congrArg List.length hpp
   simp at h2;omega
  refine ⟨?_,?_⟩
  ·unfold inD
   by_cases hr:x.1=[47]
   ·rw [if_pos hr]
    simp [hr]
   ·rw [if_neg hr,parent_eq _ hxl]
    simp only [Option.bind_some]
    by_cases hq:par x.1=p
    ·rw [if_pos hq,base_eq _ hxl]
     simp only [Option.bind_some]
     rw [appO_of (by simp only [List.length_map,List.length_cons,List.length_nil];unfold inD at hpl;omega)]
     simp [hr,hq]
    ·rw [if_neg hq]
     simp [hr,hq]
  ·rw [List.filter_append,List.map_append]
   by_cases hi:inD p x=true
   ·rw [if_pos hi];simp [hi]
   ·rw [if_neg hi];simp [hi]
def szd (d:List UInt8) (n:Nat):List UInt8:=d.take n++List.replicate (n - d.length) 0
theorem szd_len (d:List UInt8) (n:Nat):(szd d n).length=n:=by simp [szd];omega
theorem sized_eq (d:List UInt8) (n:Nat) (h:n≤1000000):sized d (n:Int)=some (szd d n):=by
 unfold sized mkO
 rw [if_pos ⟨by omega,by omega⟩]
 simp only [Option.bind_some,Int.toNat_natCast]
 congr 1
 unfold putAt szd
 simp
 rw [Nat.min_comm]
 omega
abbrev Ans:=Int×Int×List UInt8×List (List UInt8)
abbrev Opr:=Int×List UInt8×List UInt8×Int×Int×List UInt8
def wr (s:FS) (o:Opr):Ans×FS :=
  if (rg s o.2.1).2=0 then
    (if (if o.1=3 then o.2.2.2.1 else o.2.2.2.2.1)<0 then ((1,0,[],[]),s)
     else if 192<(if o.1=3 then o.2.2.2.1 else o.2.2.2.2.1)∨(o.1=3∧192<o.2.2.2.1+(o.2.2.2.2.2.length:Int)) then ((97,0,[],[]),s)
     else if o.1=4 then ((0,0,[],[]),fset o.2.1 (false,szd (rg s o.2.1).1.2 o.2.2.2.2.1.toNat) s)
     else ((0,(o.2.2.2.2.2.length:Int),[],[]),if 0<o.2.2.2.2.2.length then fset o.2.1 (false,putAt (szd (rg s o.2.1).1.2 (max (rg s o.2.1).1.2.length ((if o.1=3 then o.2.2.2.1 else o.2.2.2.2.1).toNat+o.2.2.2.2.2.length))) (if o.1=3 then o.2.2.2.1 else o.2.2.2.2.1).toNat o.2.2.2.2.2) s else s))
  else (((rg s o.2.1).2,0,[],[]),s)
theorem write_eq (s:FS) (o:Opr) (hk:o.1=3∨o.1=4) (hp:o.2.1.length≤1500000000) (hd:o.2.2.2.2.2.length≤1500000000) (hf:∀ p f,s p=some f→f.2.length≤100000):sWrite s o=some (wr s o):=by
 obtain ⟨k,p,t,off,n,d⟩:=o
 simp only at hk hp hd
 unfold sWrite wr
 simp only
 rw [regular_eq s p hp]
 simp only [Option.bind_some]
 by_cases he:(rg s p).2=0
 ·obtain ⟨fd,h1,h2⟩:=rg_ok he
  have hfl:=hf _ _ h1
  rw [h2]
  simp only [if_true] at hfl ⊢
  rcases hk with rfl | rfl
  ·simp only [if_true]
   simp only [Option.bind_some]
   by_cases hn:off<0
   ·rw [if_pos hn,if_pos hn];rfl
   ·rw [if_neg hn,if_neg hn]
    by_cases hb:192<off
    ·rw [if_pos hb,if_pos (.inl hb)];rfl
    ·rw [if_neg hb,i64_id (by omega) (by omega)]
     by_cases hb2:192<off+(d.length:Int)
     ·rw [if_pos hb2,if_pos (.inr ⟨trivial,hb2⟩)];rfl
     ·rw [if_neg hb2]
      rw [if_neg (show ¬ (192<off∨True∧192<off+(d.length:Int)) from fun h=>h.elim hb fun h=>hb2 h.2)]
      simp only [show ((3:Int)=4)=False from by simp,if_false]
      by_cases hz:0<d.length
      ·rw [if_pos (by omega),if_pos hz]
       obtain ⟨m,rfl⟩:∃ m:Nat,off=m:=⟨off.toNat,by omega⟩
       rw [show max ((fd.length:Nat):Int) ((m:Int)+(d.length:Int))=((max fd.length (m+d.length):Nat):Int) by omega,sized_eq _ _ (by omega)]
       simp only [Option.bind_some]
       rw [slcO_of (by rw [szd_len];omega) (Nat.le_refl _)]
       simp only [Option.bind_some,Int.toNat_natCast]
       rw [List.take_of_length_le (l:=d) (by simp [szd_len];omega)]
      ·rw [if_neg (by omega),if_neg hz];rfl
  ·simp only [show ((4:Int)=3)=False from by simp,if_false,false_and,or_false]
   simp only [Option.bind_some]
   by_cases hn:n<0
   ·rw [if_pos hn,if_pos hn];rfl
   ·rw [if_neg hn,if_neg hn]
    by_cases hb:192<n
    ·rw [if_pos hb,if_pos hb];rfl
    ·rw [if_neg hb,if_neg hb]
     simp only [if_true]
     obtain ⟨m,rfl⟩:∃ m:Nat,n=m:=⟨n.toNat,by omega⟩
     rw [sized_eq _ _ (by omega)]
     simp
 ·rw [if_neg he]
  rcases hk with rfl | rfl
  ·simp only [if_true,Option.bind_some,if_neg he]
  ·simp only [show ((4:Int)=3)=False from by simp,if_false,Option.bind_some,if_neg he]
def rdA (s:FS) (o:Opr):Ans :=
 if (rg s o.2.1).2=0 then (if o.2.2.2.1<0∨o.2.2.2.2.1<0 then (1,0,[],[]) else (0,((rg s o.2.1).1.2.length:Int),(((rg s o.2.1).1.2.drop o.2.2.2.1.toNat).take (min o.2.2.2.2.1.toNat 64)),[])) else ((rg s o.2.1).2,0,[],[])
theorem readA_eq (s:FS) (o:Opr) (hp:o.2.1.length≤1500000000) (hf:∀ p f,s p=some f→f.2.length≤100000):sRead s o=some (rdA s o):=by
 obtain ⟨k,p,t,off,n,d⟩:=o
 simp only at hp
 unfold sRead rdA
 simp only
 rw [regular_eq s p hp]
 simp only [Option.bind_some]
 by_cases he:(rg s p).2=0
 ·obtain ⟨fd,h1,h2⟩:=rg_ok he
  have hfl:=hf _ _ h1
  rw [h2]
  simp only [if_true] at hfl ⊢
  by_cases ho:off<0
  ·rw [if_pos ho,if_pos (.inl ho)];rfl
  ·rw [if_neg ho]
   by_cases hn:n<0
   ·rw [if_pos hn,if_pos (.inr hn)];rfl
   ·rw [if_neg hn,if_neg (by rintro (h | h);exact ho h;exact hn h)]
    obtain ⟨m,hm⟩:∃ m:Nat,min off ((fd.length:Nat):Int)=m:=⟨(min off ((fd.length:Nat):Int)).toNat,by omega⟩
    rw [hm,slcO_of (by omega) (Nat.le_refl _)]
    simp only [Option.bind_some,List.take_length]
    rw [i64_id (by omega) (by omega)]
    obtain ⟨q,hq⟩:∃ q:Nat,min (min n 64) (((fd.length:Nat):Int) - (m:Int))=q:=⟨(min (min n 64) (((fd.length:Nat):Int) - (m:Int))).toNat,by omega⟩
    rw [hq,show (0:Int)=((0:Nat):Int) from rfl,slcO_of (Nat.zero_le _) (by simp;omega)]
    simp only [Option.bind_some,List.drop_zero]
    rw [cloneB_eq _ (by simp;omega)]
    simp only [Option.bind_some]
    have e1:(fd.drop m).take q=(fd.drop off.toNat).take (min n.toNat 64):=by
     by_cases hom:off≤((fd.length:Nat):Int)
     ·have:m=off.toNat:=by omega
      rw [this]
      by_cases hq2:q=min n.toNat 64
      ·rw [hq2]
      ·rw [List.take_of_length_le (by simp;omega),List.take_of_length_le (by simp;omega)]
     ·rw [List.drop_eq_nil_of_le (by omega),List.drop_eq_nil_of_le (by omega)];simp
    rw [e1]
 ·rw [if_neg he,if_neg he];rfl
def kid (p x:List UInt8):List UInt8:=pth (nmP p++[x])
theorem nm_par {q:List UInt8} (h:okP q=true) (hr:q≠[47]):nmP (par q)=(nmP q).dropLast∧nmP q=(nmP q).dropLast++[bas q]∧okP (par q)=true:=by
 obtain ⟨h1,h2,h3⟩:=okP_pth h
 have hne:=nmP_ne h hr
 have hl:(nmP q).dropLast++[bas q]=nmP q:=by
  unfold bas
  rw [List.getLast?_eq_some_getLast hne]
  exact List.dropLast_concat_getLast hne
 have hnp:NP (nmP q).dropLast:=fun x hx=>h1 x (List.dropLast_subset _ hx)
 have hp:=par_len h
 unfold par at hp ⊢
 rw [if_neg hne] at hp ⊢
 exact ⟨pth_nm hnp hp,hl.symm,pth_ok hnp hp⟩
theorem kid_of {q:List UInt8} (h:okP q=true) (hr:q≠[47]):q=kid (par q) (bas q):=by
 obtain ⟨h1,h2,_⟩:=nm_par h hr
 unfold kid
 rw [h1,← h2]
 exact (okP_pth h).2.1
noncomputable def bl (s:FS) (p:List UInt8):List (List UInt8):=(sBelow s p).getD []
structure Bl (s:FS) (p:List UInt8) (n:Nat):Prop where
 eq:sBelow s p=some (bl s p)
 mem:∀ x,x∈bl s p↔∃ q f,s q=some f∧q≠[47]∧par q=p∧bas q=x
 le:(bl s p).Pairwise (·≤·)
 len:(bl s p).length≤n
 nd:(bl s p).Nodup
theorem Snd.below {s:FS} (hs:Snd s) {n:Nat} (hc:Crd s n) (hn:n≤1000000) (p:List UInt8):Bl s p n:=by
 obtain ⟨l,hE,hl⟩:=hc
 have h1:=below_eq hE (by omega) (fun x hx=>by have:=(okP_pth (hs.ok _ _ ((enum_mem hE).1 hx))).2.2;omega) p
 have h2:bl s p=blL l p:=by unfold bl;rw [h1];rfl
 have hpm:=List.mergeSort_perm ((l.filter (inD p)).map fun x=>bas x.1) tle
 refine ⟨by rw [h1,h2],fun x=>?_,by rw [h2];exact tsort _,?_,?_⟩
 ·rw [h2]
  unfold blL
  rw [hpm.mem_iff,List.mem_map]
  constructor
  ·rintro ⟨⟨q,f⟩,hq,rfl⟩
   obtain ⟨h3,h4⟩:=List.mem_filter.1 hq
   simp only [inD,Bool.and_eq_true,decide_eq_true_eq] at h4
   exact ⟨q,f,(enum_mem hE).1 h3,h4.1,h4.2,rfl⟩
  ·rintro ⟨q,f,h3,h4,h5,rfl⟩
   exact ⟨(q,f),List.mem_filter.2 ⟨(enum_mem hE).2 h3,by simp [inD,h4,h5]⟩,rfl⟩
 ·rw [h2]
  unfold blL
  rw [hpm.length_eq,List.length_map]
  have:=List.length_filter_le (inD p) l
  omega
 ·rw [h2]
  unfold blL
  rw [hpm.nodup_iff,List.nodup_iff_pairwise_ne,List.pairwise_map,List.pairwise_filter]
  have hn:=hE.1
  rw [List.nodup_iff_pairwise_ne,List.pairwise_map] at hn
  refine hn.imp_of_mem fun {a b} ha hb hne hda hdb e=>hne ?_
  simp only [inD,Bool.and_eq_true,decide_eq_true_eq] at hda hdb
  rw [kid_of (hs.ok _ _ ((enum_mem hE).1 ha)) hda.1,kid_of (hs.ok _ _ ((enum_mem hE).1 hb)) hdb.1,hda.2,hdb.2,e]
def BlB (s:FS):Prop:=∀ p,sBelow s p=some (bl s p)∧(bl s p).length≤1000000
theorem Snd.blB {s:FS} (hs:Snd s) {n:Nat} (hc:Crd s n) (hn:n≤1000000):BlB s:=fun p=>⟨(hs.below hc hn p).eq,Nat.le_trans (hs.below hc hn p).len hn⟩
noncomputable def rv (s:FS) (p:List UInt8):Int×FS:=if (lk s p).2=0 then (if p=[47] then (96,s) else if 0<(bl s p).length then (95,s) else (0,fdel p s)) else ((lk s p).2,s)
theorem remove_eq {s:FS} (hB:BlB s) (p:List UInt8) (h:p.length≤1500000000):sRemove s p=some (rv s p):=by
 unfold sRemove rv
 rw [look_eq s p h]
 simp only [Option.bind_some]
 split
 ·split
  ·rfl
  ·rw [(hB p).1]
   simp only [Option.bind_some]
   by_cases h0:0<(bl s p).length
   ·rw [if_pos h0,if_pos (by omega)]
   ·rw [if_neg h0,if_neg (by omega)]
 ·rfl
noncomputable def ls (s:FS) (o:Opr):Ans:=if (lk s o.2.1).2=0 then (if (lk s o.2.1).1.1=true then (0,((bl s o.2.1).length:Int),[],((bl s o.2.1).filter fun x=>!leqB x o.2.2.1).take 6) else (93,0,[],[])) else ((lk s o.2.1).2,0,[],[])
theorem cloneT_eq (s:List (List UInt8)) (h:s.length≤274877906944):cloneT s=some s:=by
 unfold cloneT;rw [appO_of (by simp;omega)];rfl
theorem list_eq {s:FS} (hB:BlB s) (o:Opr) (h:o.2.1.length≤1500000000):sList s o=some (ls s o):=by
 unfold sList ls
 rw [look_eq s _ h]
 simp only [Option.bind_some]
 by_cases h1:(lk s o.2.1).2=0
 ·rw [if_pos h1,if_pos h1]
  cases hb:(lk s o.2.1).1.1 with
  | false=>rfl
  | true =>
   rw [if_neg (by decide),if_pos rfl,(hB o.2.1).1]
   simp only [Option.bind_some]
   unfold delO
   rw [if_pos (by have:=(hB o.2.1).2;omega)]
   simp only [Option.bind_some]
   have hfl:=List.length_filter_le (fun x=>!leqB x o.2.2.1) (bl s o.2.1)
   have hbl:=(hB o.2.1).2
   obtain ⟨m,hm⟩:∃ m:Nat,min ((((bl s o.2.1).filter fun x=>!leqB x o.2.2.1).length:Nat):Int) 6=m:=⟨(min ((((bl s o.2.1).filter fun x=>!leqB x o.2.2.1).length:Nat):Int) 6).toNat,by omega⟩
   rw [hm,show (0:Int)=((0:Nat):Int) from rfl,slcO_of (Nat.zero_le _) (by omega)]
   simp only [Option.bind_some,List.drop_zero]
   rw [cloneT_eq _ (by simp;omega)]
   simp only [Option.bind_some]
   have:((bl s o.2.1).filter fun x=>!leqB x o.2.2.1).take m=((bl s o.2.1).filter fun x=>!leqB x o.2.2.1).take 6:=by
    by_cases h6:m=6
    ·rw [h6]
    ·rw [List.take_of_length_le (by omega),List.take_of_length_le (by omega)]
   rw [this];try rfl
 ·rw [if_neg h1,if_neg h1];rfl
noncomputable def stt (s:FS) (p:List UInt8):Ans:=if (lk s p).2=0 then (if (lk s p).1.1=true then (0,((bl s p).length:Int),[100],[]) else (0,((lk s p).1.2.length:Int),[102],[])) else ((lk s p).2,0,[],[])
theorem stat_eq {s:FS} (hB:BlB s) (p:List UInt8) (h:p.length≤1500000000):sStat s p=some (stt s p):=by
 unfold sStat stt
 rw [look_eq s _ h]
 simp only [Option.bind_some]
 by_cases h1:(lk s p).2=0
 ·rw [if_pos h1,if_pos h1]
  cases hb:(lk s p).1.1 with
  | false =>
   rw [if_neg (by decide),if_neg (by decide),show u8O 102=some 102 from rfl]
   rfl
  | true =>
   rw [if_pos rfl,if_pos rfl,show u8O 100=some 100 from rfl]
   simp only [Option.bind_some]
   rw [(hB p).1]
   rfl
 ·rw [if_neg h1,if_neg h1];rfl
def rst (c:List (List UInt8)):List UInt8:=if c=[] then [] else pth c
theorem pth_app {a:List (List UInt8)} (ha:a≠[]) (c:List (List UInt8)):pth (a++c)=pth a++rst c:=by
 unfold rst
 by_cases hc:c=[]
 ·rw [if_pos hc,hc];simp
 ·rw [if_neg hc]
  unfold pth
  rw [jn_app a c ha hc];rfl
theorem pth_drop {a:List (List UInt8)} (ha:a≠[]) (c:List (List UInt8)):(pth (a++c)).drop (pth a).length=rst c:=by
 rw [pth_app ha c,List.drop_left]
theorem wthn_iff {p q:List UInt8} (hp:okP p=true):wthn p q=true↔okP q=true∧∃ c,nmP q=nmP p++c:=by
 unfold wthn
 rw [hp]
 simp only [Bool.true_and,Bool.and_eq_true,decide_eq_true_eq]
 constructor
 ·rintro ⟨h1,c,h2⟩;exact ⟨h1,c,h2.symm⟩
 ·rintro ⟨h1,c,h2⟩;exact ⟨h1,c,h2.symm⟩
theorem wthn_ok {p q:List UInt8} (h:wthn p q=true):okP p=true∧okP q=true:=by
 unfold wthn at h
 simp only [Bool.and_eq_true] at h
 exact h.1
def mvP (F T p:List UInt8):List UInt8:=T++p.drop F.length
structure Ren (s:FS) (F T:List UInt8):Prop where
 snd:Snd s
 okF:okP F=true
 okT:okP T=true
 neF:F≠[47]
 neT:T≠[47]
 out:wthn F T=false
 up:∃ d,s (par T)=some (true,d)
 noT:s T=none
 isF:∃ f,s F=some f
section
variable {s:FS} {F T:List UInt8}
theorem none_below (hs:Snd s) (hT:okP T=true) (h0:s T=none) {q:List UInt8} (hq:wthn T q=true):s q=none:=by
 cases hf:s q with
 | none=>rfl
 | some f =>
  obtain ⟨hk,c,hc⟩:=(wthn_iff hT).1 hq
  by_cases hcn:c=[]
  ·have e:q=T:=by rw [(okP_pth hk).2.1,(okP_pth hT).2.1,hc,hcn,List.append_nil]
   rw [e,h0] at hf;cases hf
  ·obtain ⟨d,hd⟩:=take_pre hs hf (nmP T).length (by rw [hc,List.length_append];have:=List.length_pos_iff.2 hcn;omega)
   rw [hc,List.take_left,← (okP_pth hT).2.1,h0] at hd
   cases hd
theorem Ren.notT (h:Ren s F T) {q:List UInt8} (hq:wthn T q=true):s q=none:=none_below h.snd h.okT h.noT hq
theorem Ren.apart (h:Ren s F T) {q:List UInt8} (h1:wthn F q=true) (h2:wthn T q=true):False:=by
 obtain ⟨hk,c,hc⟩:=(wthn_iff h.okF).1 h1
 obtain ⟨_,c',hc'⟩:=(wthn_iff h.okT).1 h2
 rcases Nat.le_total (nmP F).length (nmP T).length with hl | hl
 ·have:nmP F <+: nmP T:=List.prefix_of_prefix_length_le ⟨c,hc.symm⟩ ⟨c',hc'.symm⟩ hl
  obtain ⟨d,hd⟩:=this
  have:=(wthn_iff h.okF).2 ⟨h.okT,d,hd.symm⟩
  rw [h.out] at this;cases this
 ·have:nmP T <+: nmP F:=List.prefix_of_prefix_length_le ⟨c',hc'.symm⟩ ⟨c,hc.symm⟩ hl
  obtain ⟨d,hd⟩:=this
  have:=(wthn_iff h.okT).2 ⟨h.okF,d,hd.symm⟩
  have:=h.notT this
  obtain ⟨f,hf⟩:=h.isF
  rw [hf] at this;cases this
theorem mv_eq {c:List (List UInt8)} {p:List UInt8} (hF:okP F=true) (hT:okP T=true) (hF0:F≠[47]) (hT0:T≠[47]) (hp:okP p=true) (hc:nmP p=nmP F++c):mvP F T p=pth (nmP T++c)∧p=pth (nmP F++c):=by
 have e:=(okP_pth hp).2.1
 rw [hc] at e
 refine ⟨?_,e⟩
 unfold mvP
 have hf:=(okP_pth hF).2.1
 have ht:=(okP_pth hT).2.1
 have hd:p.drop F.length=rst c:=by
  rw [e]
  have:=pth_drop (nmP_ne hF hF0) c
  rwa [← hf] at this
 rw [hd,pth_app (nmP_ne hT hT0),← ht]
theorem mv_in (hF:okP F=true) (hT:okP T=true) (hF0:F≠[47]) (hT0:T≠[47]) {p:List UInt8} (hp:wthn F p=true) (hl:(mvP F T p).length≤24):wthn T (mvP F T p)=true∧mvP T F (mvP F T p)=p:=by
 obtain ⟨hk,c,hc⟩:=(wthn_iff hF).1 hp
 obtain ⟨h1,h2⟩:=mv_eq hF hT hF0 hT0 hk hc
 have hnp:NP (nmP T++c):=fun x hx=>by
  rcases List.mem_append.1 hx with hx | hx
  ·exact (okP_pth hT).1 x hx
  ·exact (okP_pth hk).1 x (by rw [hc];exact List.mem_append_right _ hx)
 rw [h1] at hl ⊢
 have hn:=pth_nm hnp hl
 have hk2:=pth_ok hnp hl
 refine ⟨(wthn_iff hT).2 ⟨hk2,c,hn⟩,?_⟩
 rw [(mv_eq hT hF hT0 hF0 hk2 hn).1,← h2]
open Classical in
noncomputable def rnF (s:FS) (F T:List UInt8):FS:=fun q=>if wthn F q=true then none else if wthn T q=true then s (mvP T F q) else s q
def badR (s:FS) (F T:List UInt8):Prop:=∃ p f,s p=some f∧wthn F p=true∧24<(mvP F T p).length
theorem foldO_until {β σ ρ:Type} {f:σ→β→Option (σ ⊕ ρ)} (bad:β→Bool) (r:ρ) (g:σ→β→σ):∀ (l:List β) (s:σ),(∀ x∈l,∀ s,f s x=some (if bad x=true then .inr r else .inl (g s x)))→foldO f s l=some (if l.any bad=true then .inr r else .inl (l.foldl g s))
 | [],_,_=>rfl
 | x::l,s,h=>by
  show (f s x).bind _=_
  rw [h x List.mem_cons_self]
  by_cases hb:bad x=true
  ·rw [if_pos hb];simp [hb]
  ·rw [if_neg hb]
   simp only [Option.bind_some]
   rw [foldO_until bad r g l _ fun y hy=>h y (List.mem_cons_of_mem _ hy)]
   simp [hb]
theorem mv_fold (hap:∀ {q:List UInt8},wthn F q=true→wthn T q=true→False):∀ (l:List (List UInt8×List UInt8)) (u:FS),(l.map (·.1)).Nodup→(∀ x∈l,wthn F x.1=true∧wthn T x.2=true∧mvP T F x.2=x.1) →
  ∀ q,(l.foldl (fun (u:FS) x=>fdel x.1 (fset x.2 ((u x.1).getD (false,[])) u)) u) q=if q∈l.map (·.1) then none else if (mvP T F q,q)∈l then some ((u (mvP T F q)).getD (false,[])) else u q
 | [],u,_,_,q=>by simp
 | (p,t)::l,u,hn,hx,q=>by
  simp only [List.map_cons,List.nodup_cons] at hn
  have hx':=fun x hx'=>hx x (List.mem_cons_of_mem _ hx')
  obtain ⟨g1,g2,g3⟩:=hx (p,t) List.mem_cons_self
  simp only at g1 g2 g3
  rw [List.foldl_cons,mv_fold hap l _ hn.2 hx' q]
  by_cases h1:q∈l.map (·.1)
  ·rw [if_pos h1,if_pos (show q∈((p,t)::l).map (·.1) from List.mem_cons_of_mem _ h1)]
  ·rw [if_neg h1]
   by_cases h2:(mvP T F q,q)∈l
   ·obtain ⟨k1,k2,k3⟩:=hx' _ h2
    simp only at k1 k2
    have hqp:q≠p:=fun e=>hap g1 (by rw [← e];exact k2)
    rw [if_pos h2,if_neg (show ¬ q∈((p,t)::l).map (·.1) from fun hm=>(List.mem_cons.1 hm).elim hqp h1),if_pos (show (mvP T F q,q)∈(p,t)::l from List.mem_cons_of_mem _ h2)]
    have e1:mvP T F q≠p:=fun e=>hn.1 (List.mem_map.2 ⟨_,h2,e⟩)
    have e2:mvP T F q≠t:=fun e=>hap k1 (by rw [e];exact g2)
    simp [fdel,fset,e1,e2]
   ·rw [if_neg h2]
    by_cases e:q=p
    ·rw [if_pos (show q∈((p,t)::l).map (·.1) from by rw [e];exact List.mem_cons_self)]
     simp [fdel,e]
    ·rw [if_neg (show ¬ q∈((p,t)::l).map (·.1) from fun hm=>(List.mem_cons.1 hm).elim e h1)]
     by_cases e2:q=t
     ·have e3:mvP T F q=p:=by rw [e2];exact g3
      rw [if_pos (show (mvP T F q,q)∈(p,t)::l from by rw [e3,e2];exact List.mem_cons_self),e3]
      simp [fdel,fset,e2,show ¬ t=p from fun e'=>e (e2.trans e')]
     ·rw [if_neg (fun hm=>by
       rcases List.mem_cons.1 hm with hm | hm
       ·injection hm with _ hm;exact e2 hm
       ·exact h2 hm)]
      simp [fdel,fset,e,e2]
end
open Classical in
noncomputable def rn (s:FS) (F T:List UInt8):Int×FS :=
 if okP F=true then (if okP T=true then (if (lk s F).2=0 then (if F=[47] then (96,s) else if wthn F T=true then (96,s) else if rm s T=0 then (if badR s F T then (90,s) else (0,rnF s F T)) else (rm s T,s)) else ((lk s F).2,s)) else (90,s)) else (90,s)
theorem ren_of {s:FS} (hs:Snd s) {F T:List UInt8} (h1:okP F=true) (h2:(lk s F).2=0) (h3:F≠[47]) (h4:wthn F T=false) (h5:rm s T=0):Ren s F T:=by
 obtain ⟨_,f,hf,_⟩:=lk_ok h2
 obtain ⟨a,b,c,d⟩:=rm_ok h5
 exact ⟨hs,h1,a,h3,b,h4,c,d,f,hf⟩
noncomputable def rnM (s:FS) (F T:List UInt8):CS:=fun p=>if (s p).isSome=true∧wthn F p=true then some (mvP F T p) else none
noncomputable def rnG (s:FS) (F T:List UInt8):FS:=fun q=>if (rnM s F T q).isSome=true then none else if rnM s F T (mvP T F q)=some q then some ((s (mvP T F q)).getD (false,[])) else s q
open Classical in
noncomputable def rnW (s:FS) (F T:List UInt8):Int×FS :=
 if okP F=true then (if okP T=true then (if (lk s F).2=0 then (if F=[47] then (96,s) else if wthn F T=true then (96,s) else if rm s T=0 then (if badR s F T then (90,s) else (0,rnG s F T)) else (rm s T,s)) else ((lk s F).2,s)) else (90,s)) else (90,s)
theorem lk_up {s:FS} {p:List UInt8} (h:(lk s p).2=0):∀ i,i<(nmP p).length→s (pth ((nmP p).take i))≠none:=by
 intro i hi e
 unfold lk at h
 have hk:=(lk_ok (s:=s) (p:=p) (by unfold lk;exact h)).1
 rw [if_pos hk] at h
 cases hf:(ancL p).findSome? (ag s) with
 | some e =>
  rw [hf] at h
  simp only at h
  subst h
  obtain ⟨a,_,ha⟩:=List.exists_of_findSome?_eq_some hf
  unfold ag at ha
  split at ha
  ·cases ha
  ·split at ha<;>cases ha
 | none =>
  have:=List.findSome?_eq_none_iff.1 hf (pth ((nmP p).take i)) (List.mem_map.2 ⟨i,List.mem_range.2 hi,rfl⟩)
  unfold ag at this
  rw [e] at this
  cases this
theorem apartW {s:FS} {F T q:List UInt8} (hF:okP F=true) (h3:(lk s F).2=0) (hout:wthn F T=false) (h6:rm s T=0) (h1:wthn F q=true) (h2:wthn T q=true):False:=by
 obtain ⟨hT,neT,_,noT⟩:=rm_ok h6
 obtain ⟨hk,c,hc⟩:=(wthn_iff hF).1 h1
 obtain ⟨_,c',hc'⟩:=(wthn_iff hT).1 h2
 rcases Nat.le_total (nmP F).length (nmP T).length with hl | hl
 ·have:nmP F <+: nmP T:=List.prefix_of_prefix_length_le ⟨c,hc.symm⟩ ⟨c',hc'.symm⟩ hl
  obtain ⟨d,hd⟩:=this
  have:=(wthn_iff hF).2 ⟨hT,d,hd.symm⟩
  rw [hout] at this;cases this
 ·have:nmP T <+: nmP F:=List.prefix_of_prefix_length_le ⟨c',hc'.symm⟩ ⟨c,hc.symm⟩ hl
  have e:nmP T=(nmP F).take (nmP T).length:=List.prefix_iff_eq_take.1 this
  by_cases hlt:(nmP T).length<(nmP F).length
  ·have:=lk_up h3 _ hlt
   rw [← e,← (okP_pth hT).2.1] at this
   exact this noT
  ·rw [List.take_of_length_le (by omega)] at e
   have e2:T=F:=by rw [(okP_pth hT).2.1,(okP_pth hF).2.1,e]
   obtain ⟨_,f,hf,_⟩:=lk_ok h3
   rw [e2,hf] at noT
   cases noT
theorem rename_eqW {s:FS} (hks:∀ p f,s p=some f→p.length≤1500000000) {n:Nat} (hc:Crd s n) (o:Opr) (hF:o.2.1.length≤1100000000) (hT:o.2.2.1.length≤1100000000):sRename s o=some (rnW s o.2.1 o.2.2.1):=by
 obtain ⟨k,F,T,r⟩:=o
 simp only at hF hT
 unfold sRename rnW
 simp only
 rw [check_eq F (by omega),check_eq T (by omega)]
 simp only [Option.bind_some]
 by_cases h1:okP F=true
 ·rw [if_pos h1,if_pos rfl,if_pos h1]
  by_cases h2:okP T=true
  ·rw [if_pos h2,if_pos rfl,if_pos h2,look_eq _ _ (by omega)]
   simp only [Option.bind_some]
   by_cases h3:(lk s F).2=0
   ·rw [if_pos h3,if_pos h3]
    by_cases h4:F=[47]
    ·rw [if_pos h4,if_pos h4]
    ·rw [if_neg h4,if_neg h4,within_eq _ _ (by omega) (by omega)]
     simp only [Option.bind_some]
     by_cases h5:wthn F T=true
     ·rw [if_pos h5,if_pos h5]
     ·rw [if_neg h5,if_neg h5,room_eq _ _ (by omega)]
      simp only [Option.bind_some]
      by_cases h6:rm s T=0
      ·rw [if_pos h6,if_pos h6]
       obtain ⟨_,neT,_,_⟩:=rm_ok h6
       have hap:∀ {q:List UInt8},wthn F q=true→wthn T q=true→False:=fun {q}=>apartW h1 h3 (by simpa using h5) h6
       obtain ⟨l,hE,hl⟩:=hc
       refine detM_of hE fun l' hE'=>?_
       have hkl:∀ x∈l',x.1.length≤1500000000:=fun x hx=>hks _ _ ((enum_mem hE').1 hx)
       have hF24:=(okP_pth h1).2.2
       have hT24:=(okP_pth h2).2.2
       rw [foldO_until (fun x:Ent=>wthn F x.1&&decide (24<(mvP F T x.1).length)) ((90,s):Int×FS) (fun (m:CS) x=>if wthn F x.1=true then fset x.1 (mvP F T x.1) m else m) l' fnil fun x hx m=>?_]
       ·simp only [Option.bind_some]
        have hb:(l'.any fun x:Ent=>wthn F x.1&&decide (24<(mvP F T x.1).length))=true↔badR s F T:=by
         rw [List.any_eq_true]
         constructor
         ·rintro ⟨⟨p,f⟩,hx,hb⟩
          simp only [Bool.and_eq_true,decide_eq_true_eq] at hb
          exact ⟨p,f,(enum_mem hE').1 hx,hb.1,hb.2⟩
         ·rintro ⟨p,f,hp,a,b⟩
          exact ⟨(p,f),(enum_mem hE').2 hp,by simp [a,b]⟩
        by_cases hbad:badR s F T
        ·rw [if_pos (hb.2 hbad),if_pos hbad];rfl
        ·rw [if_neg (fun h=>hbad (hb.1 h)),if_neg hbad]
         simp only [Sum.elim_inl]
         have hmov:∀ p,(l'.foldl (fun (m:CS) x=>if wthn F x.1=true then fset x.1 (mvP F T x.1) m else m) fnil) p=if (s p).isSome=true∧wthn F p=true then some (mvP F T p) else none:=by
          intro p
          have key:∀ (l':List Ent) (m:CS),(l'.foldl (fun (m:CS) x=>if wthn F x.1=true then fset x.1 (mvP F T x.1) m else m) m) p=if p∈l'.map (·.1)∧wthn F p=true then some (mvP F T p) else m p:=by
           intro l'
           induction l' with
           | nil=>intro m;simp
           | cons x l' ih =>
            intro m
            rw [List.foldl_cons,ih]
            by_cases hw:wthn F p=true
            ·by_cases hi:p∈l'.map (·.1)
             ·rw [if_pos ⟨hi,hw⟩,if_pos (show p∈(x::l').map (·.1)∧wthn F p=true from ⟨List.mem_cons_of_mem _ hi,hw⟩)]
             ·rw [if_neg (show ¬ (p∈l'.map (·.1)∧wthn F p=true) from fun h=>hi h.1)]
              by_cases e:p=x.1
              ·have hw':wthn F x.1=true:=by rw [← e];exact hw
               rw [if_pos hw',if_pos (show p∈(x::l').map (·.1)∧wthn F p=true from ⟨by rw [e];exact List.mem_cons_self,hw⟩),e]
               simp [fset]
              ·rw [if_neg (show ¬ (p∈(x::l').map (·.1)∧wthn F p=true) from fun h=>(List.mem_cons.1 h.1).elim e hi)]
               split
               ·simp [fset,e]
               ·rfl
            ·rw [if_neg (show ¬ (p∈l'.map (·.1)∧wthn F p=true) from fun h=>hw h.2),if_neg (show ¬ (p∈(x::l').map (·.1)∧wthn F p=true) from fun h=>hw h.2)]
             split
             ·rename_i hx
              have e:¬ p=x.1:=fun e=>hw (by rw [e];exact hx)
              simp [fset,e]
             ·rfl
          rw [key]
          have:p∈l'.map (·.1)↔(s p).isSome=true:=by rw [hE'.2 p];exact (aget_isSome p l').symm
          simp only [this,fnil]
         generalize hM:l'.foldl (fun (m:CS) x=>if wthn F x.1=true then fset x.1 (mvP F T x.1) m else m) fnil=M at hmov
         have hfin:∃ kv,Enum M kv∧kv.map (·.1)=(l'.map (·.1)).filter (wthn F):=by
          refine enum_of (m:=M) _ M (hE'.1.filter _) fun q=>?_
          rw [hmov q,List.mem_filter]
          have:q∈l'.map (·.1)↔(s q).isSome=true:=by rw [hE'.2 q];exact (aget_isSome q l').symm
          rw [this]
          split
          ·rename_i hh;simp [hh]
          ·rename_i hh;simp only [Option.isSome_none,Bool.false_eq_true,iff_false];exact hh
         obtain ⟨kv,hkv,_⟩:=hfin
         rw [detM_of hkv (r:=rnG s F T) fun kv' hkv'=>?_]
         ·rfl
         ·rw [foldO_eq (fun (u:FS) (x:List UInt8×List UInt8)=>fdel x.1 (fset x.2 ((u x.1).getD (false,[])) u)) kv' s fun x _ u=>rfl]
          simp only [Option.bind_some,Sum.elim_inl]
          congr 1
          funext q
          have hmem:∀ x∈kv',(s x.1).isSome=true∧wthn F x.1=true∧x.2=mvP F T x.1:=fun x hx=>by
           have h7:=(enum_mem hkv').1 hx
           rw [hmov] at h7
           split at h7
           ·rename_i hh;exact ⟨hh.1,hh.2,(Option.some.inj h7).symm⟩
           ·cases h7
          have hle:∀ p,(s p).isSome=true→wthn F p=true→(mvP F T p).length≤24:=fun p hp hw=>by
           obtain ⟨f,hf⟩:=Option.isSome_iff_exists.1 hp
           by_cases h24:(mvP F T p).length≤24
           ·exact h24
           ·exact absurd ⟨p,f,hf,hw,by omega⟩ hbad
          rw [mv_fold hap kv' s hkv'.1 (fun x hx=>by
           obtain ⟨a,b,c⟩:=hmem x hx
           have:=mv_in h1 h2 h4 neT b (hle _ a b)
           exact ⟨b,by rw [c];exact this.1,by rw [c];exact this.2⟩) q]
          unfold rnG
          have hM2:∀ p,rnM s F T p=M p:=fun p=>by rw [hmov p];rfl
          rw [hM2 q,hM2 (mvP T F q)]
          have e1:q∈kv'.map (·.1)↔(M q).isSome=true:=by rw [← aget_isSome q kv',← hkv'.2 q]
          have e2:(mvP T F q,q)∈kv'↔M (mvP T F q)=some q:=enum_mem hkv'
          by_cases hi:q∈kv'.map (·.1)
          ·rw [if_pos hi,if_pos (e1.1 hi)]
          ·rw [if_neg hi,if_neg (fun h=>hi (e1.2 h))]
           by_cases hm:(mvP T F q,q)∈kv'
           ·rw [if_pos hm,if_pos (e2.1 hm)]
           ·rw [if_neg hm,if_neg (fun h=>hm (e2.2 h))]
       ·have hx24:=hkl x hx
        rw [within_eq _ _ (by omega) (by omega)]
        simp only [Option.bind_some]
        by_cases hw:wthn F x.1=true
        ·obtain ⟨_,c,hc⟩:=(wthn_iff h1).1 hw
         have hFl:F.length≤x.1.length:=by
          obtain ⟨_,e⟩:=mv_eq h1 h2 h4 neT (wthn_ok hw).2 hc
          rw [pth_app (nmP_ne h1 h4),← (okP_pth h1).2.1] at e
          rw [e,List.length_append];omega
         rw [if_pos hw,slcO_of hFl (Nat.le_refl _),List.take_length]
         simp only [Option.bind_some]
         rw [appO_byte (by simp;omega)]
         simp only [Option.bind_some]
         have e:(fset x.1 (T++List.drop F.length x.1) m x.1).getD []=mvP F T x.1:=by simp [fset,mvP]
         rw [e,hw]
         by_cases h24:24<((mvP F T x.1).length:Int)
         ·rw [if_pos h24,if_pos (by simp;omega)];rfl
         ·rw [if_neg h24,if_neg (by simp;omega),if_pos rfl];rfl
        ·rw [if_neg hw]
         have hw':wthn F x.1=false:=by simpa using hw
         rw [hw'];rfl
      ·rw [if_neg h6,if_neg h6]
   ·rw [if_neg h3,if_neg h3]
  ·rw [if_neg h2,if_neg (by omega),if_neg h2]
 ·rw [if_neg h1,if_neg (by omega),if_neg h1]
theorem rnG_eq {s:FS} {F T:List UInt8} (hR:Ren s F T) (hbad:¬ badR s F T):rnG s F T=rnF s F T:=by
 have hle:∀ p,(s p).isSome=true→wthn F p=true→(mvP F T p).length≤24:=fun p hp hw=>by
  obtain ⟨f,hf⟩:=Option.isSome_iff_exists.1 hp
  by_cases h24:(mvP F T p).length≤24
  ·exact h24
  ·exact absurd ⟨p,f,hf,hw,by omega⟩ hbad
 funext q
 unfold rnG rnF rnM
 by_cases hq:wthn F q=true
 ·rw [if_pos hq]
  cases hs':s q with
  | some f=>rw [if_pos (by rw [if_pos ⟨rfl,hq⟩];rfl)]
  | none =>
   rw [if_neg (by simp),if_neg]
   intro h7
   split at h7
   ·rename_i h8
    have:=mv_in hR.okF hR.okT hR.neF hR.neT h8.2 (hle _ h8.1 h8.2)
    rw [Option.some.inj h7] at this
    exact hR.apart hq this.1
   ·cases h7
 ·rw [if_neg hq,if_neg (by rw [if_neg (fun h=>hq h.2)];simp)]
  by_cases ht:wthn T q=true
  ·rw [if_pos ht]
   cases hs':s (mvP T F q) with
   | none =>
    rw [if_neg (by simp)]
    exact hR.notT ht
   | some f =>
    have hl2:=(okP_pth (hR.snd.ok _ _ hs')).2.2
    have:=mv_in hR.okT hR.okF hR.neT hR.neF ht hl2
    rw [if_pos (by rw [if_pos ⟨rfl,this.1⟩,this.2])]
    rfl
  ·rw [if_neg ht,if_neg]
   intro h7
   split at h7
   ·rename_i h8
    have:=mv_in hR.okF hR.okT hR.neF hR.neT h8.2 (hle _ h8.1 h8.2)
    rw [Option.some.inj h7] at this
    exact ht this.1
   ·cases h7
theorem rename_eq {s:FS} (hs:Snd s) {n:Nat} (hc:Crd s n) (o:Opr) (hF:o.2.1.length≤1100000000) (hT:o.2.2.1.length≤1100000000):sRename s o=some (rn s o.2.1 o.2.2.1):=by
 rw [rename_eqW (fun p f h=>by have:=(okP_pth (hs.ok p f h)).2.2;omega) hc o hF hT]
 congr 1
 obtain ⟨k,F,T,r⟩:=o
 simp only
 unfold rnW rn
 by_cases h1:okP F=true
 ·rw [if_pos h1,if_pos h1]
  by_cases h2:okP T=true
  ·rw [if_pos h2,if_pos h2]
   by_cases h3:(lk s F).2=0
   ·rw [if_pos h3,if_pos h3]
    by_cases h4:F=[47]
    ·rw [if_pos h4,if_pos h4]
    ·rw [if_neg h4,if_neg h4]
     by_cases h5:wthn F T=true
     ·rw [if_pos h5,if_pos h5]
     ·rw [if_neg h5,if_neg h5]
      by_cases h6:rm s T=0
      ·rw [if_pos h6,if_pos h6]
       by_cases hb:badR s F T
       ·rw [if_pos hb,if_pos hb]
       ·rw [if_neg hb,if_neg hb,rnG_eq (ren_of hs h1 h3 h4 (by simpa using h5) h6) hb]
      ·rw [if_neg h6,if_neg h6]
   ·rw [if_neg h3,if_neg h3]
  ·rw [if_neg h2,if_neg h2]
 ·rw [if_neg h1,if_neg h1]
theorem prs_of {s:FS} (hs:Snd s) {l:List Ent} (hE:Enum s l) (hl:l.length≤1000000):prsF s=prs2 l:=by
 have hk:=hs.ent hE
 unfold prsF
 rw [sPairs_eq hE hl fun x hx=>⟨by have:=(okP_pth (hk.ok x hx)).2.2;omega,hk.len x hx⟩];rfl
theorem filter_keys {β:Type} {l:List (List UInt8×β)} {k:List UInt8} (h:k ∉ l.map (·.1)):l.filter (fun x=>x.1≠k)=l:=by
 rw [List.filter_eq_self]
 intro x hx
 simp only [decide_eq_true_eq]
 exact fun e=>h (List.mem_map.2 ⟨x,hx,e⟩)
theorem filter_less {β:Type} {l:List (List UInt8×β)} {k:List UInt8} (h:k∈l.map (·.1)):(l.filter fun x=>x.1≠k).length+1≤l.length:=by
 induction l with
 | nil=>simp at h
 | cons x l ih =>
  rw [List.filter_cons]
  by_cases e:x.1=k
  ·simp only [e,ne_eq,not_true,decide_false,Bool.false_eq_true,if_false,List.length_cons]
   have:=List.length_filter_le (fun x:List UInt8×β=>decide (x.1≠k)) l
   simp only [ne_eq] at this
   omega
  ·have:k∈l.map (·.1):=by
    rcases List.mem_cons.1 h with h | h
    ·exact absurd h.symm e
    ·exact h
   have:=ih this
   simp only [ne_eq,e,not_false_eq_true,decide_true,if_true,List.length_cons] at this ⊢
   omega
theorem enum_keys {β:Type} {m:List UInt8→Option β} {l:List (List UInt8×β)} (h:Enum m l) (k:List UInt8):k∈l.map (·.1)↔(m k).isSome=true:=by
 rw [h.2 k];exact (aget_isSome k l).symm
theorem Crd.upd {β:Type} {m:List UInt8→Option β} {n:Nat} (h:Crd m n) {k:List UInt8} (hk:(m k).isSome=true) (v:β):Crd (fset k v m) n:=by
 obtain ⟨l,h1,h2⟩:=h
 refine ⟨_,enum_set h1 k v,?_⟩
 have:=filter_less ((enum_keys h1 k).2 hk)
 simp only [List.length_cons]
 omega
theorem fset_ne {β:Type} {k q:List UInt8} {v:β} {m:List UInt8→Option β} (h:q≠k):fset k v m q=m q:=by unfold fset;rw [if_neg h]
theorem fset_eq {β:Type} {k:List UInt8} {v:β} {m:List UInt8→Option β}:fset k v m k=some v:=by unfold fset;rw [if_pos rfl]
theorem par_ne {q:List UInt8} (h:okP q=true) (hr:q≠[47]):par q≠q:=fun e=>by
 obtain ⟨h1,h2,_⟩:=nm_par h hr
 have h3:=congrArg List.length h1
 rw [e,List.length_dropLast] at h3
 have:=List.length_pos_iff.2 (nmP_ne h hr)
 omega
theorem Snd.create {s:FS} (hs:Snd s) {p:List UInt8} (h:rm s p=0) (b:Bool):Snd (fset p (b,[]) s):=by
 obtain ⟨h1,h2,⟨d,h3⟩,h4⟩:=rm_ok h
 obtain ⟨dr,hr⟩:=hs.root
 refine ⟨⟨dr,by rw [fset_ne (Ne.symm h2)];exact hr⟩,fun q f hq=>?_,fun q f hq=>?_,fun q f hq=>?_,fun q f hq hn=>?_⟩
 ·by_cases e:q=p
  ·rw [e];exact h1
  ·rw [fset_ne e] at hq;exact hs.ok q f hq
 ·by_cases e:q=p
  ·rw [e,fset_eq] at hq;cases hq;simp
  ·rw [fset_ne e] at hq;exact hs.len q f hq
 ·by_cases e:q=p
  ·rw [e,fset_eq] at hq;cases hq;rfl
  ·rw [fset_ne e] at hq;exact hs.dir q f hq
 ·by_cases e:q=p
  ·rw [e,fset_ne (par_ne h1 h2)];exact ⟨d,h3⟩
  ·rw [fset_ne e] at hq
   obtain ⟨d',hd'⟩:=hs.up q f hq hn
   exact ⟨d',by rw [fset_ne (fun e2=>by rw [e2,h4] at hd';cases hd')];exact hd'⟩
theorem Snd.write {s:FS} (hs:Snd s) {p d:List UInt8} (h:s p=some (false,d)) {d':List UInt8} (hd:d'.length≤192):Snd (fset p (false,d') s):=by
 obtain ⟨dr,hr⟩:=hs.root
 refine ⟨⟨dr,by rw [fset_ne (fun e=>by rw [e,h] at hr;cases hr)];exact hr⟩,fun q f hq=>?_,fun q f hq=>?_,fun q f hq=>?_,fun q f hq hn=>?_⟩
 ·by_cases e:q=p
  ·rw [e];exact hs.ok _ _ h
  ·rw [fset_ne e] at hq;exact hs.ok q f hq
 ·by_cases e:q=p
  ·rw [e,fset_eq] at hq;cases hq;exact hd
  ·rw [fset_ne e] at hq;exact hs.len q f hq
 ·by_cases e:q=p
  ·rw [e,fset_eq] at hq;cases hq
  ·rw [fset_ne e] at hq;exact hs.dir q f hq
 ·have hup:∃ d,s (par q)=some (true,d):=by
   by_cases e:q=p
   ·subst e;exact hs.up _ _ h hn
   ·rw [fset_ne e] at hq;exact hs.up q f hq hn
  obtain ⟨d',hd'⟩:=hup
  exact ⟨d',by rw [fset_ne (fun e2=>by rw [e2,h] at hd';cases hd')];exact hd'⟩
theorem Snd.remove {s:FS} (hs:Snd s) {p:List UInt8} (hr:p≠[47]) (h:∀ q f,s q=some f→q≠[47]→par q≠p):Snd (fdel p s):=by
 obtain ⟨dr,hroot⟩:=hs.root
 have hd:∀ q f,fdel p s q=some f→q≠p∧s q=some f:=fun q f hq=>by
  unfold fdel at hq
  split at hq
  ·cases hq
  ·rename_i e;exact ⟨e,hq⟩
 have hk:∀ q,q≠p→fdel p s q=s q:=fun q e=>by unfold fdel;rw [if_neg e]
 exact ⟨⟨dr,by rw [hk _ (Ne.symm hr)];exact hroot⟩,fun q f hq=>hs.ok q f (hd q f hq).2,fun q f hq=>hs.len q f (hd q f hq).2,fun q f hq=>hs.dir q f (hd q _ hq).2,fun q f hq hn=>by
  obtain ⟨d',hd'⟩:=hs.up q f (hd q f hq).2 hn
  exact ⟨d',by rw [hk _ (h q f (hd q f hq).2 hn)];exact hd'⟩⟩
theorem wthn_par {p q:List UInt8} (hq:okP q=true) (hr:q≠[47]) (h:wthn p (par q)=true):wthn p q=true:=by
 have hp:=(wthn_ok h).1
 obtain ⟨_,c,hc⟩:=(wthn_iff hp).1 h
 obtain ⟨h1,h2,_⟩:=nm_par hq hr
 exact (wthn_iff hp).2 ⟨hq,c++[bas q],by rw [h2,← h1,hc,List.append_assoc]⟩
section
variable {s:FS} {F T:List UInt8}
def ren (F T p:List UInt8):List UInt8:=if wthn F p=true then mvP F T p else p
theorem Ren.back (h:Ren s F T) (hb:¬ badR s F T) {p:List UInt8} {f:Bool×List UInt8} (hp:s p=some f):rnF s F T (ren F T p)=some f∧(wthn F p=true→wthn T (mvP F T p)=true∧mvP T F (mvP F T p)=p):=by
 by_cases hw:wthn F p=true
 ·have hl:(mvP F T p).length≤24:=by
   by_cases h24:(mvP F T p).length≤24
   ·exact h24
   ·exact absurd ⟨p,f,hp,hw,by omega⟩ hb
  have:=mv_in h.okF h.okT h.neF h.neT hw hl
  refine ⟨?_,fun _=>this⟩
  unfold ren rnF
  rw [if_pos hw,if_neg (fun hh=>h.apart hh this.1),if_pos this.1,this.2];exact hp
 ·refine ⟨?_,fun hh=>absurd hh hw⟩
  unfold ren rnF
  rw [if_neg hw,if_neg hw,if_neg (fun hh=>by rw [h.notT hh] at hp;cases hp)];exact hp
theorem Ren.from (h:Ren s F T) {q:List UInt8} {f:Bool×List UInt8} (hq:rnF s F T q=some f):wthn F q=false∧((wthn T q=true∧s (mvP T F q)=some f∧wthn F (mvP T F q)=true∧mvP F T (mvP T F q)=q)∨(wthn T q=false∧s q=some f)):=by
 unfold rnF at hq
 split at hq
 ·cases hq
 ·rename_i h1
  refine ⟨by simpa using h1,?_⟩
  split at hq
  ·rename_i h2
   have hl:=(okP_pth (h.snd.ok _ _ hq)).2.2
   have:=mv_in h.okT h.okF h.neT h.neF h2 hl
   exact .inl ⟨h2,hq,this.1,this.2⟩
  ·rename_i h2;exact .inr ⟨by simpa using h2,hq⟩
theorem Ren.enum (h:Ren s F T) (hb:¬ badR s F T) {l:List Ent} (hE:Enum s l):Enum (rnF s F T) (l.map fun x=>(ren F T x.1,x.2)):=by
 have hnd:((l.map fun x:Ent=>(ren F T x.1,x.2)).map (·.1)).Nodup:=by
  rw [List.map_map,List.nodup_iff_pairwise_ne,List.pairwise_map]
  have hn:=hE.1
  rw [List.nodup_iff_pairwise_ne,List.pairwise_map] at hn
  refine hn.imp_of_mem fun {a b} ha hb' hne e=>hne ?_
  replace e:ren F T a.1=ren F T b.1:=e
  have ha':=(enum_mem hE).1 (show (a.1,a.2)∈l from ha)
  have hb'':=(enum_mem hE).1 (show (b.1,b.2)∈l from hb')
  have ka:=(h.back hb ha').2
  have kb:=(h.back hb hb'').2
  unfold ren at e
  by_cases h1:wthn F a.1=true
  ·by_cases h2:wthn F b.1=true
   ·rw [if_pos h1,if_pos h2] at e
    rw [← (ka h1).2,e,(kb h2).2]
   ·rw [if_pos h1,if_neg h2] at e
    have:=h.notT (ka h1).1
    rw [e,hb''] at this;cases this
  ·by_cases h2:wthn F b.1=true
   ·rw [if_neg h1,if_pos h2] at e
    have:=h.notT (kb h2).1
    rw [← e,ha'] at this;cases this
   ·rwa [if_neg h1,if_neg h2] at e
 refine ⟨hnd,fun q=>?_⟩
 cases hq:rnF s F T q with
 | some f =>
  symm
  refine aget_of_mem hnd ?_
  obtain ⟨h1,⟨h2,h3,h4,h5⟩ | ⟨h2,h3⟩⟩:=h.from hq
  ·exact List.mem_map.2 ⟨_,(enum_mem hE).2 h3,by simp only [ren,if_pos h4,h5]⟩
  ·exact List.mem_map.2 ⟨_,(enum_mem hE).2 h3,by simp [ren,h1]⟩
 | none =>
  symm
  refine aget_none fun hm=>?_
  rw [List.map_map] at hm
  obtain ⟨x,hx,hj⟩:=List.mem_map.1 hm
  replace hj:ren F T x.1=q:=hj
  have:=(h.back hb ((enum_mem hE).1 (show (x.1,x.2)∈l from hx))).1
  rw [hj,hq] at this;cases this
theorem Ren.sound (h:Ren s F T) (hb:¬ badR s F T):Snd (rnF s F T):=by
 have hs:=h.snd
 have hroot:∀ {p:List UInt8},okP p=true→p≠[47]→wthn p [47]=false:=fun {p} hk hn=>by
  cases hw:wthn p [47] with
  | false=>rfl
  | true =>
   obtain ⟨_,c,hc⟩:=(wthn_iff hk).1 hw
   rw [nmP_root] at hc
   have:=congrArg List.length hc
   have h0:=List.length_pos_iff.2 (nmP_ne hk hn)
   rw [List.length_nil,List.length_append] at this
   omega
 refine ⟨?_,fun q f hq=>?_,fun q f hq=>?_,fun q d hq=>?_,fun q f hq hn=>?_⟩
 ·obtain ⟨d,hd⟩:=hs.root
  refine ⟨d,?_⟩
  unfold rnF
  rw [if_neg (by rw [hroot h.okF h.neF];decide),if_neg (by rw [hroot h.okT h.neT];decide)]
  exact hd
 ·obtain ⟨h1,⟨h2,_⟩ | ⟨h2,h3⟩⟩:=h.from hq
  ·exact (wthn_ok h2).2
  ·exact hs.ok _ _ h3
 ·obtain ⟨h1,⟨h2,h3,_⟩ | ⟨h2,h3⟩⟩:=h.from hq
  ·exact hs.len _ _ h3
  ·exact hs.len _ _ h3
 ·obtain ⟨h1,⟨h2,h3,_⟩ | ⟨h2,h3⟩⟩:=h.from hq
  ·exact hs.dir _ _ h3
  ·exact hs.dir _ _ h3
 ·obtain ⟨h1,⟨h2,h3,h4,h5⟩ | ⟨h2,h3⟩⟩:=h.from hq
  ·have hk:=(wthn_ok h2).2
   obtain ⟨_,c,hc⟩:=(wthn_iff h.okT).1 h2
   obtain ⟨n1,n2,n3⟩:=nm_par hk hn
   by_cases hcn:c=[]
   ·have e:q=T:=by rw [(okP_pth hk).2.1,(okP_pth h.okT).2.1,hc,hcn,List.append_nil]
    subst e
    obtain ⟨d,hd⟩:=h.up
    refine ⟨d,?_⟩
    unfold rnF
    rw [if_neg (fun hw=>by rw [wthn_par hk hn hw] at h1;cases h1),if_neg (fun hw=>by rw [h.notT hw] at hd;cases hd)]
    exact hd
   ·have hcl:c=c.dropLast++[bas q]:=by
     have e2:nmP q=nmP T++c.dropLast++[c.getLast hcn]:=by
      rw [hc]
      conv=>lhs;rw [← List.dropLast_concat_getLast hcn]
      rw [List.append_assoc]
     have e3:bas q=c.getLast hcn:=by
      unfold bas
      rw [e2];simp
     rw [e3,List.dropLast_concat_getLast]
    have hpT:wthn T (par q)=true:=(wthn_iff h.okT).2 ⟨n3,c.dropLast,by rw [n1,hc,List.dropLast_append_of_ne_nil hcn]⟩
    have hF:=(wthn_ok h4).2
    have nF:nmP (mvP T F q)=nmP F++c:=by
     obtain ⟨m1,_⟩:=mv_eq h.okT h.okF h.neT h.neF hk hc
     rw [m1] at hF ⊢
     refine pth_nm (fun x hx=>?_) (okP_pth hF).2.2
     rcases List.mem_append.1 hx with hx | hx
     ·exact (okP_pth h.okF).1 x hx
     ·exact (okP_pth hk).1 x (by rw [hc];exact List.mem_append_right _ hx)
    have hFn:mvP T F q≠[47]:=fun e=>by
     rw [e,nmP_root] at nF
     exact hcn (List.append_eq_nil_iff.1 nF.symm).2
    obtain ⟨d,hd⟩:=hs.up _ _ h3 hFn
    refine ⟨d,?_⟩
    have e4:mvP T F (par q)=par (mvP T F q):=by
     have g1:=nm_par hF hFn
     obtain ⟨m1,_⟩:=mv_eq h.okT h.okF h.neT h.neF n3 (show nmP (par q)=nmP T++c.dropLast by rw [n1,hc,List.dropLast_append_of_ne_nil hcn])
     rw [m1]
     unfold par
     rw [if_neg (by rw [nF];intro e;exact hcn (List.append_eq_nil_iff.1 e).2),nF,List.dropLast_append_of_ne_nil hcn]
    unfold rnF
    rw [if_neg (fun hw=>h.apart hw hpT),if_pos hpT,e4]
    exact hd
  ·obtain ⟨d,hd⟩:=hs.up _ _ h3 hn
   refine ⟨d,?_⟩
   have hk:=hs.ok _ _ h3
   unfold rnF
   rw [if_neg (fun hw=>by rw [wthn_par hk hn hw] at h1;cases h1),if_neg (fun hw=>by rw [h.notT hw] at hd;cases hd)]
   exact hd
end
open Classical in
noncomputable def doP (s:FS) (o:Opr):Ans×FS :=
 if o.1=1∨o.1=2 then ((rm s o.2.1,0,[],[]),if rm s o.2.1=0 then fset o.2.1 (decide (o.1=2),[]) s else s)
 else if o.1=3∨o.1=4 then wr s o
 else if o.1=5 then (rdA s o,s)
 else if o.1=6 then (((rn s o.2.1 o.2.2.1).1,0,[],[]),(rn s o.2.1 o.2.2.1).2)
 else if o.1=7 then (((rv s o.2.1).1,0,[],[]),(rv s o.2.1).2)
 else if o.1=8 then (ls s o,s)
 else if o.1=9 then (stt s o.2.1,s)
 else ((1,0,[],[]),s)
structure OpOk (o:Opr):Prop where
 p:o.2.1.length≤1100000000
 t:o.2.2.1.length≤1100000000
 d:o.2.2.2.2.2.length≤1100000000
theorem do_eq {s:FS} (hs:Snd s) {n:Nat} (hc:Crd s n) (hn:n≤1000000) (o:Opr) (ho:OpOk o):sDo s o=some (doP s o):=by
 obtain ⟨hp,ht,hd⟩:=ho
 obtain ⟨k,p,t,off,m,d⟩:=o
 simp only at hp ht hd
 unfold sDo doP
 simp only
 have hlen:=fun q f hq=>Nat.le_trans (hs.len q f hq) (show 192≤100000 by decide)
 have hB:BlB s:=hs.blB hc hn
 by_cases h12:k=1∨k=2
 ·rw [if_pos h12]
  have h1:(if k=1 then (some (decide (k=1))) else some (decide (k=2)))=some true:=by
   rcases h12 with h | h<;>subst h<;>rfl
  rw [h1]
  simp only [Option.bind_some,if_true]
  rw [room_eq s p (by omega)]
  simp only [Option.bind_some]
  by_cases h0:rm s p=0
  ·rw [if_pos h0,if_pos h0];rfl
  ·rw [if_neg h0,if_neg h0];rfl
 ·rw [if_neg h12]
  have h1:(if k=1 then (some (decide (k=1))) else some (decide (k=2)))=some false:=by
   rw [if_neg (fun h=>h12 (.inl h)),decide_eq_false (fun h=>h12 (.inr h))]
  rw [h1]
  simp only [Option.bind_some,Bool.false_eq_true,if_false]
  by_cases h34:k=3∨k=4
  ·rw [if_pos h34]
   have h1:(if k=3 then (some (decide (k=3))) else some (decide (k=4)))=some true:=by
    rcases h34 with h | h<;>subst h<;>rfl
   rw [h1]
   simp only [Option.bind_some,if_true]
   rw [write_eq s (k,p,t,off,m,d) h34 (by simp only;omega) (by simp only;omega) hlen]
   rfl
  ·rw [if_neg h34]
   have h1:(if k=3 then (some (decide (k=3))) else some (decide (k=4)))=some false:=by
    rw [if_neg (fun h=>h34 (.inl h)),decide_eq_false (fun h=>h34 (.inr h))]
   rw [h1]
   simp only [Option.bind_some,Bool.false_eq_true,if_false]
   by_cases h5:k=5
   ·rw [if_pos h5,if_pos h5,readA_eq s _ (by simp only;omega) hlen];rfl
   ·rw [if_neg h5,if_neg h5]
    by_cases h6:k=6
    ·rw [if_pos h6,if_pos h6,rename_eq hs hc _ (by simp only;omega) (by simp only;omega)];rfl
    ·rw [if_neg h6,if_neg h6]
     by_cases h7:k=7
     ·rw [if_pos h7,if_pos h7,remove_eq hB p (by omega)];rfl
     ·rw [if_neg h7,if_neg h7]
      by_cases h8:k=8
      ·rw [if_pos h8,if_pos h8,list_eq hB _ (by simp only;omega)];rfl
      ·rw [if_neg h8,if_neg h8]
       by_cases h9:k=9
       ·rw [if_pos h9,if_pos h9,stat_eq hB _ (by omega)];rfl
       ·rw [if_neg h9,if_neg h9];rfl
noncomputable def nx (s:FS) (o:Opr):FS:=if (doP s o).1.1=0 then (doP s o).2 else s
theorem putAt_len' (xs:List UInt8) (d:Nat) (src:List UInt8) (h:d+src.length≤xs.length):(putAt xs d src).length=xs.length:=by
 simp [putAt];omega
theorem nx_ok {s:FS} (hs:Snd s) {n:Nat} (hc:Crd s n) (hn:n≤1000000) (o:Opr):Snd (nx s o)∧Crd (nx s o) (n+1):=by
 have h0:Snd s∧Crd s (n+1):=⟨hs,hc.mono (by omega)⟩
 unfold nx
 by_cases hz:(doP s o).1.1=0
 ·rw [if_pos hz]
  unfold doP at hz ⊢
  by_cases h12:o.1=1∨o.1=2
  ·rw [if_pos h12] at hz ⊢
   simp only at hz ⊢
   rw [if_pos hz]
   exact ⟨hs.create hz _,hc.set _ _⟩
  ·rw [if_neg h12] at hz ⊢
   by_cases h34:o.1=3∨o.1=4
   ·rw [if_pos h34] at hz ⊢
    unfold wr at hz ⊢
    by_cases h1:(rg s o.2.1).2=0
    ·rw [if_pos h1] at hz ⊢
     obtain ⟨fd,h2,h3⟩:=rg_ok h1
     have hfl:fd.length≤192:=hs.len _ _ h2
     rw [h3] at hz ⊢
     generalize hm:(if o.1=3 then o.2.2.2.1 else o.2.2.2.2.1)=m at hz ⊢
     by_cases g1:m<0
     ·rw [if_pos g1] at hz;cases hz
     ·rw [if_neg g1] at hz ⊢
      by_cases g2:192<m∨(o.1=3∧192<o.2.2.2.1+(o.2.2.2.2.2.length:Int))
      ·rw [if_pos g2] at hz;cases hz
      ·rw [if_neg g2]
       by_cases h4:o.1=4
       ·rw [if_pos h4]
        rw [if_neg (by omega)] at hm
        refine ⟨hs.write h2 ?_,(hc.upd (by rw [h2];rfl) _).mono (by omega)⟩
        rw [szd_len]
        have:¬ 192<m:=fun h=>g2 (.inl h)
        omega
       ·rw [if_neg h4]
        have h5:o.1=3:=by omega
        rw [if_pos h5] at hm
        simp only
        split
        ·refine ⟨hs.write h2 ?_,(hc.upd (by rw [h2];rfl) _).mono (by omega)⟩
         have:¬ (192<o.2.2.2.1+(o.2.2.2.2.2.length:Int)):=fun h=>g2 (.inr ⟨h5,h⟩)
         rw [putAt_len' _ _ _ (by rw [szd_len];omega),szd_len]
         omega
        ·exact h0
    ·rw [if_neg h1] at hz;exact absurd hz h1
   ·rw [if_neg h34] at hz ⊢
    by_cases h5:o.1=5
    ·rw [if_pos h5];exact h0
    ·rw [if_neg h5] at hz ⊢
     by_cases h6:o.1=6
     ·rw [if_pos h6] at hz ⊢
      simp only at hz ⊢
      unfold rn at hz ⊢
      by_cases a1:okP o.2.1=true
      ·rw [if_pos a1] at hz ⊢
       by_cases a2:okP o.2.2.1=true
       ·rw [if_pos a2] at hz ⊢
        by_cases a3:(lk s o.2.1).2=0
        ·rw [if_pos a3] at hz ⊢
         by_cases a4:o.2.1=[47]
         ·rw [if_pos a4];exact h0
         ·rw [if_neg a4] at hz ⊢
          by_cases a5:wthn o.2.1 o.2.2.1=true
          ·rw [if_pos a5];exact h0
          ·rw [if_neg a5] at hz ⊢
           by_cases a6:rm s o.2.2.1=0
           ·rw [if_pos a6] at hz ⊢
            by_cases a7:badR s o.2.1 o.2.2.1
            ·rw [if_pos a7];exact h0
            ·rw [if_neg a7]
             have hR:=ren_of hs a1 a3 a4 (by simpa using a5) a6
             obtain ⟨l,hE,hl⟩:=hc
             exact ⟨hR.sound a7,_,hR.enum a7 hE,by simp;omega⟩
           ·rw [if_neg a6];exact h0
        ·rw [if_neg a3];exact h0
       ·rw [if_neg a2];exact h0
      ·rw [if_neg a1];exact h0
     ·rw [if_neg h6] at hz ⊢
      by_cases h7:o.1=7
      ·rw [if_pos h7] at hz ⊢
       simp only at hz ⊢
       unfold rv at hz ⊢
       by_cases b1:(lk s o.2.1).2=0
       ·rw [if_pos b1] at hz ⊢
        by_cases b2:o.2.1=[47]
        ·rw [if_pos b2];exact h0
        ·rw [if_neg b2] at hz ⊢
         by_cases b3:0<(bl s o.2.1).length
         ·rw [if_pos b3];exact h0
         ·rw [if_neg b3]
          have hB:=hs.below hc hn o.2.1
          refine ⟨hs.remove b2 fun q f hq hr hp=>b3 ?_,(hc.del _).mono (by omega)⟩
          exact List.length_pos_of_mem ((hB.mem (bas q)).2 ⟨q,f,hq,hr,hp,rfl⟩)
       ·rw [if_neg b1];exact h0
      ·rw [if_neg h7] at hz ⊢
       by_cases h8:o.1=8
       ·rw [if_pos h8];exact h0
       ·rw [if_neg h8] at hz ⊢
        by_cases h9:o.1=9
        ·rw [if_pos h9];exact h0
        ·rw [if_neg h9];exact h0
 ·rw [if_neg hz];exact h0
theorem fDo_eq {s:FS} (hs:Snd s) {n:Nat} (hc:Crd s n) (hn:n≤200000) (o:Opr) (ho:OpOk o):fDo (prsF s) o=some (prsF (nx s o),(doP s o).1):=by
 obtain ⟨h1,h2,h3,h4⟩:=hs.prs hc (by omega)
 unfold fDo
 rw [fRead_eq _ (by omega) (fun x hx=>by have:=h4 x hx;omega),h2]
 simp only [Option.bind_some,mClone]
 rw [do_eq hs hc (by omega) o ho]
 simp only [Option.bind_some]
 obtain ⟨k1,k2⟩:=nx_ok hs hc (by omega) o
 obtain ⟨h5,_⟩:=k1.prs k2 (by omega)
 unfold nx at h5 ⊢
 by_cases hz:(doP s o).1.1=0
 ·rw [if_pos hz] at h5 ⊢
  rw [if_pos hz,h5];rfl
 ·rw [if_neg hz] at h5 ⊢
  rw [if_neg hz,h5];rfl
end Go.Proofs.YthcjjjnphgopjaaGreatDoor
