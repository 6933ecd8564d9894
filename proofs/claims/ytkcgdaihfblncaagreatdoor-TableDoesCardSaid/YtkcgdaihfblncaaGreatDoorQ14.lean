/- Texts FilP, FilQ, FilO, FilD, FilM, FilS, FilV. -/
import Derived.Test.YtkcgdaihfblncaaGreatDoorQ13
set_option linter.unusedSimpArgs false
set_option linter.unusedVariables false
namespace Go.Proofs.YtkcgdaihfblncaaGreatDoor
open Go.RowKit Go.Tri
def gU (n:Nat):List UInt8:=[u8 ((n / 256 ^ 1 % 256:Nat):Int),u8 ((n / 256 ^ 0 % 256:Nat):Int)]
theorem xE (s:List UInt8) (h:s.length<=274877906944):cloneB s=some s:=by
 unfold cloneB;rw [bI (by simp;omega)];rfl
theorem aAq (p b:List UInt8) (h:p.length+b.length<=274877906944):penRaw p b=some (p++b):=by
 unfold penRaw;rw [bI h];rfl
theorem uQ {α β:Type} (g:β->α):∀ (l:List β) (s:List α),l.foldl (fun s i=>s++[g i]) s=s++l.map g
 | [],s=>by simp
 | b::l,s=>by simp [uQ g l]
theorem aMm (p:List UInt8) (n:Nat) (hn:n<=65535) (hp:p.length<=600):penUint p (n:Int) 2=some (0,p++gU n):=by
 unfold penUint
 rw [if_neg (by omega),if_neg (by omega),if_pos (by omega)]
 rw [show IntKind.i64.wrap (8*2)=((16:Nat):Int) from rfl,show IntKind.i64.wrap (2-1)=((2:Nat):Int)-1 from rfl]
 have hsh:eG .u64 (n:Int) ((16:Nat):Int)=some (cL .u64 (n:Int) ((16:Nat):Int)):=by unfold eG;rw [if_pos (by omega)]
 rw [hsh]
 simp only [obS]
 rw [qJ .u64 _ _ (by show 16<=64;omega),if_neg (by have:n / 2 ^ 16=0:=Nat.div_eq_of_lt (by omega);omega)]
 rw [wE (fun (k:Nat) (s:List UInt8)=>s++[u8 ((n / 256 ^ k % 256:Nat):Int)]) (fun s=>s) (fun (k:Nat) (s:List UInt8)=>k<=8/\s.length<=10000-k) ?hs2 ?he2 2 _ ⟨by omega,by omega⟩]
 case he2=>intro s _;rw [if_neg (by omega)]
 case hs2 =>
  intro k s ⟨hk,hl⟩
  refine ⟨?_,by omega,by simp;omega⟩
  rw [if_pos (by omega)]
  have h8:IntKind.i64.wrap (8*(k:Int))=((8*k:Nat):Int):=by rw [aF (by omega) (by omega)];omega
  rw [h8]
  have hsh:eG .u64 (n:Int) ((8*k:Nat):Int)=some (cL .u64 (n:Int) ((8*k:Nat):Int)):=by unfold eG;rw [if_pos (by omega)]
  rw [hsh]
  simp only [obS]
  have hw:IntKind.u8.wrap (cL .u64 (n:Int) ((8*k:Nat):Int))=((n / 256 ^ k % 256:Nat):Int):=by
   rw [qJ .u64 _ _ (by show 8*k<=64;omega),wrap_u8',Nat.pow_mul];rfl
  rw [hw,lZ (by omega) (by omega)]
  simp only [obS]
  rw [bI (by simp;omega)]
  simp only [obS]
  rw [aF (by omega) (by omega)]
 simp only [obS]
 rw [uQ (fun k=>u8 ((n / 256 ^ k % 256:Nat):Int))]
 rfl
def chk (p:List UInt8):Nat->List (List UInt8)->List P2
 | _,[]=>[]
 | i,c::cs=>(99::(p++[0,u8 (i:Int)]),c)::chk p (i+1) cs
abbrev Ent:=List UInt8×(Bool×List UInt8)
def bM (x:Ent):List P2:=if x.2.1=true then [(110::x.1,[100])] else (110::x.1,102::gU x.2.2.length)::chk x.1 0 (dG 64 x.2.2)
def cH (l:List Ent):List P2:=eW (l.flatMap bM)
theorem jR {γ:Type} (xs:List γ) (n:Nat):(dG n xs).length=eK n xs.length:=by simp [dG,cQ]
theorem uX {len:Nat} (h:len<=192):eK 64 len<=3:=by
 unfold eK
 have:=(Nat.div_lt_iff_lt_mul (k:=64) (by omega) (x:=len+64-1) (y:=4)).2 (by omega)
 omega
theorem yP {len:Nat} (h:len<=12000):eK 64 len<=188:=by
 unfold eK
 have:=(Nat.div_lt_iff_lt_mul (k:=64) (by omega) (x:=len+64-1) (y:=189)).2 (by omega)
 omega
theorem rI (p:List UInt8):∀ (i:Nat) (cs:List (List UInt8)),(chk p i cs).length=cs.length
 | _,[]=>rfl
 | i,c::cs=>by simp [chk,rI p (i+1) cs]
theorem aKf {x:Ent} (h:x.2.2.length<=192):(bM x).length<=4:=by
 unfold bM
 split
 ·simp
 ·have:=uX h
  simp only [List.length_cons,rI,jR];omega
theorem yO (p:List UInt8):∀ (i:Nat) (cs:List (List UInt8)),(chk p i cs).map (·.2)=cs
 | _,[]=>rfl
 | i,c::cs=>by simp [chk,yO p (i+1) cs]
theorem kD {p:List UInt8}:∀ {i:Nat} {cs:List (List UInt8)} {x:P2},x∈chk p i cs->∃ j,i<=j/\j<i+cs.length/\x.1=99::(p++[0,u8 (j:Int)])
 | _,[],x,h=>by cases h
 | i,c::cs,x,h=>by
  rcases List.mem_cons.1 h with rfl | h
  ·exact ⟨i,Nat.le_refl _,by simp,rfl⟩
  ·obtain ⟨j,h1,h2,h3⟩:=kD h
   exact ⟨j,by omega,by simp at h2 ⊢;omega,h3⟩
theorem aEz:∀ p a b:List UInt8,Lib.compareBytes (p++a) (p++b)=Lib.compareBytes a b
 | [],_,_=>rfl
 | c::p,a,b=>by simp [Lib.compareBytes,aEz p a b]
theorem u8_lt {i j:Nat} (h:i<j) (hj:j<256):u8 (i:Int)<u8 (j:Int):=by
 rw [UInt8.lt_iff_toNat_lt]
 unfold u8
 simp
 omega
theorem wD {p:List UInt8}:∀ {i:Nat} {cs:List (List UInt8)},i+cs.length<=256->(chk p i cs).Pairwise ltP
 | _,[],_=>List.Pairwise.nil
 | i,c::cs,h=>by
  refine List.pairwise_cons.2 ⟨fun x hx=>?_,wD (by simp at h;omega)⟩
  obtain ⟨j,h1,h2,h3⟩:=kD hx
  simp only [List.length_cons] at h
  unfold ltP ltK
  rw [h3]
  show Lib.compareBytes ((99::p)++[0,u8 (i:Int)]) ((99::p)++[0,u8 (j:Int)])<0
  rw [aEz]
  simp only [Lib.compareBytes]
  rw [if_neg (by decide),if_neg (by decide),if_pos (u8_lt (by omega) (by omega))]
  omega
theorem aIr {a b:P2} (h:ltP a b):a.1≠b.1:=fun e=>by unfold ltP ltK at h;rw [e,lP] at h;omega
theorem nX {e:Ent} {x:P2} (h:x∈bM e):x.1=110::e.1\/∃ c,x.1=99::(e.1++[0,c]):=by
 unfold bM at h
 split at h
 ·simp at h;exact .inl (by rw [h])
 ·rcases List.mem_cons.1 h with rfl | h
  ·exact .inl rfl
  ·obtain ⟨j,_,_,h3⟩:=kD h
   exact .inr ⟨_,h3⟩
theorem aJs {e e':Ent} {x y:P2} (h:x∈bM e) (h':y∈bM e') (hk:x.1=y.1):e.1=e'.1:=by
 rcases nX h with h1 | ⟨c,h1⟩
 ·rcases nX h' with h2 | ⟨c',h2⟩
  ·rw [h1,h2] at hk;injection hk
  ·rw [h1,h2] at hk;injection hk with hk;exact absurd hk (by decide)
 ·rcases nX h' with h2 | ⟨c',h2⟩
  ·rw [h1,h2] at hk;injection hk with hk;exact absurd hk (by decide)
  ·rw [h1,h2] at hk
   injection hk with _ hk
   have:=congrArg List.length hk
   exact (List.append_inj hk (by simpa using this)).1
theorem rK {l:List Ent} (hn:(l.map (·.1)).Nodup) (hb:∀ x∈l,x.2.2.length<=12000):((l.flatMap bM).map (·.1)).Nodup:=by
 rw [List.nodup_iff_pairwise_ne,List.pairwise_map,List.pairwise_flatMap]
 rw [List.nodup_iff_pairwise_ne,List.pairwise_map] at hn
 refine ⟨fun e he=>?_,hn.imp fun {a b} h x hx y hy e=>h (aJs hx hy e)⟩
 unfold bM
 split
 ·simp
 ·refine List.pairwise_cons.2 ⟨fun x hx e2=>?_,(wD ?_).imp fun h=>aIr h⟩
  ·obtain ⟨j,_,_,h3⟩:=kD hx
   rw [h3] at e2
   injection e2 with e2;exact absurd e2 (by decide)
  ·have:=yP (hb e he)
   rw [jR];omega
theorem sB {l:List Ent} (hn:(l.map (·.1)).Nodup) (hb:∀ x∈l,x.2.2.length<=192):((l.flatMap bM).map (·.1)).Nodup:=rK hn fun x hx=>Nat.le_trans (hb x hx) (by decide)
theorem aD0 {l:List Ent} (hb:∀ x∈l,x.2.2.length<=12000):(l.flatMap bM).length<=190*l.length:=by
 induction l with
 | nil=>simp
 | cons x l ih =>
  have h1:(bM x).length<=190:=by
   have:=yP (hb x List.mem_cons_self)
   unfold bM
   split
   ·simp
   ·simp only [List.length_cons,rI,jR];omega
  have h2:=ih fun y hy=>hb y (List.mem_cons_of_mem _ hy)
  simp only [List.flatMap_cons,List.length_append,List.length_cons];omega
theorem xU {l:List Ent} (hb:∀ x∈l,x.2.2.length<=192):(l.flatMap bM).length<=4*l.length:=by
 induction l with
 | nil=>simp
 | cons x l ih =>
  have h1:=aKf (hb x List.mem_cons_self)
  have h2:=ih fun y hy=>hb y (List.mem_cons_of_mem _ hy)
  simp only [List.flatMap_cons,List.length_append,List.length_cons];omega
theorem aO5 {l l':List Ent} (hn:(l.map (·.1)).Nodup) (hb:∀ x∈l,x.2.2.length<=12000) (hp:l'.Perm l):cH l'=cH l:=by
 have h1:(l'.flatMap bM).Perm (l.flatMap bM):=hp.flatMap_right bM
 have hn':(l'.map (·.1)).Nodup:=(hp.map _).nodup_iff.2 hn
 have hb':∀ x∈l',x.2.2.length<=12000:=fun x hx=>hb x (hp.mem_iff.1 hx)
 refine sD (oE (rK hn' hb')) (oE (rK hn hb)) fun k=>?_
 exact (List.mergeSort_perm _ leP).mem_iff.trans (h1.mem_iff.trans (List.mergeSort_perm _ leP).mem_iff.symm)
theorem aEs (p:List UInt8) (hp:p.length<=100000) {f:Int×List P2->List UInt8->Option ((Int×List P2) ⊕ Empty)} (hf:∀ (i:Nat) (out:List P2) c,i<200->out.length<=100000000->c.length<=1000->f ((i:Int),out) c=some (.inl (((i+1:Nat):Int),out++[(99::(p++[0,u8 (i:Int)]),c)]))) :
  ∀ (cs:List (List UInt8)) (i:Nat) (out:List P2),i+cs.length<=200->out.length+cs.length<=100000000->(∀ c∈cs,c.length<=1000)->bW f ((i:Int),out) cs=some (.inl (((i+cs.length:Nat):Int),out++chk p i cs))
 | [],i,out,_,_,_=>by simp [bW,chk]
 | c::cs,i,out,h1,h2,h3=>by
  simp only [List.length_cons] at h1 h2
  show (f ((i:Int),out) c).bind _=_
  rw [hf i out c (by omega) (by omega) (h3 c List.mem_cons_self)]
  show bW f (((i+1:Nat):Int),out++[(99::(p++[0,u8 (i:Int)]),c)]) cs=_
  rw [aEs p hp hf cs (i+1) _ (by omega) (by simp;omega) fun d hd=>h3 d (List.mem_cons_of_mem _ hd)]
  simp only [chk,List.length_cons,List.append_assoc,List.cons_append,List.nil_append]
  congr 4;omega
theorem aCr {xs:List UInt8} {c:List UInt8} (h:c∈dG 64 xs):c.length<=64:=by
 unfold dG cQ at h
 rw [List.map_map] at h
 obtain ⟨k,_,rfl⟩:=List.mem_map.1 h
 simp;omega
set_option maxHeartbeats 1000000 in
theorem aF3 {s:FS} {l:List Ent} (hE:Enum s l) (hl:l.length<=10000000) (hb:∀ x∈l,x.1.length<=100000/\x.2.2.length<=12000) (hz:∀ l':List Ent,l'.length<=l.length->(∀ x∈l',x∈l)->(l'.flatMap bM).length<=10000000):eJ s=some (cH l):=by
 unfold eJ
 refine mP hE fun l' hE'=>?_
 have hp:l'.Perm l:=hE'.perm hE
 have hb':∀ x∈l',x.1.length<=100000/\x.2.2.length<=12000:=fun x hx=>hb x (hp.mem_iff.1 hx)
 have hl':l'.length<=10000000:=by rw [hp.length_eq];exact hl
 rw [(xI (fun (out:List P2) (x:Ent)=>out++bM x) (fun pre out=>out=pre.flatMap bM) l' l' [] [] rfl rfl ?_).1]
 ·simp only [obS,Sum.elim_inl]
  have:l'.foldl (fun (out:List P2) (x:Ent)=>out++bM x) []=l'.flatMap bM:=by
   have key:∀ (l':List Ent) (o:List P2),l'.foldl (fun (out:List P2) (x:Ent)=>out++bM x) o=o++l'.flatMap bM:=by
    intro l'
    induction l' with
    | nil=>intro o;simp
    | cons x l' ih=>intro o;simp [ih]
   simpa using key l' []
  rw [this]
  unfold rP qK
  rw [if_pos ⟨rK hE'.1 fun x hx=>(hb' x hx).2,by have:=hz l' (by rw [hp.length_eq];exact Nat.le_refl _) (fun x hx=>hp.mem_iff.1 hx);omega⟩]
  simp only [obS]
  congr 1
  exact aO5 hE.1 (fun x hx=>(hb x hx).2) hp
 ·rintro pre ⟨p,b,d⟩ post out hpp rfl
  refine ⟨?_,by simp⟩
  obtain ⟨hp1,hd1⟩:=hb' (p,b,d) (by rw [<- hpp];simp)
  simp only at hp1 hd1
  have hol:(pre.flatMap bM).length<=10000000:=hz pre (by rw [<- hp.length_eq,<- hpp];simp) fun x hx=>hp.mem_iff.1 (by rw [<- hpp];exact List.mem_append_left _ hx)
  generalize pre.flatMap bM=out at hol ⊢
  simp only
  rw [cR (by simp;omega)]
  simp only [obS,List.cons_append,List.nil_append]
  cases b with
  | true =>
   simp only [if_true,bM]
   rw [show u8O 100=some 100 from rfl]
   simp only [obS]
   rw [bI (by simp;omega)]
   rfl
  | false =>
   simp only [bM]
   rw [show u8O 102=some 102 from rfl]
   simp only [obS,Bool.false_eq_true,if_false]
   rw [aAq _ _ (by simp)]
   simp only [obS,List.nil_append]
   rw [lE (by omega) (by omega),aMm _ _ (by omega) (by simp)]
   simp only [obS]
   unfold penData
   rw [xE _ (by simp [gU])]
   simp only [obS]
   rw [bI (by simp;omega)]
   simp only [obS]
   have hcn:pI 64 d.length=some 64:=by unfold pI;rw [if_pos ⟨by omega,by omega,by omega⟩];rfl
   rw [hcn]
   simp only [obS]
   have hcl:=yP hd1
   refine (congrArg (fun o=>Option.bind (Option.bind o _) _) (aEs p hp1 (fun i o c hi ho hc=>?_) (dG 64 d) 0 (out++[(110::p,[102]++gU d.length)]) (by rw [jR];omega) (by simp [jR];omega) fun c hc=>by have:=aCr hc;omega)).trans ?_
   ·simp only
    rw [cR (by simp;omega)]
    simp only [obS]
    rw [show u8O 0=some 0 from rfl,wrap_u8',show ((i:Int) % 256)=(i:Int) by omega,lZ (by omega) (by omega)]
    simp only [obS]
    rw [cR (by simp;omega)]
    simp only [obS]
    rw [xE _ (by omega)]
    simp only [obS]
    rw [bI (by simp;omega)]
    simp only [obS]
    rw [aF (by omega) (by omega)]
    simp
   ·simp
theorem aGt {s:FS} {l:List Ent} (hE:Enum s l) (hl:l.length<=1000000) (hb:∀ x∈l,x.1.length<=100000/\x.2.2.length<=192):eJ s=some (cH l) :=
 aF3 hE (by omega) (fun x hx=>⟨(hb x hx).1,Nat.le_trans (hb x hx).2 (by decide)⟩) fun l' h1 h2=>by
  have:=xU (l:=l') fun x hx=>(hb x (h2 x hx)).2
  omega
theorem aIh (n:Nat) (hn:0<n) (xs:List UInt8):(dG n xs).flatten=xs:=by
 have key:∀ m:Nat,((List.range m).map fun k=>(xs.drop (k*n)).take n).flatten=xs.take (m*n):=by
  intro m
  induction m with
  | zero=>simp
  | succ m ih =>
   rw [List.range_succ,List.map_append,List.flatten_append,ih]
   simp only [List.map_cons,List.map_nil,List.flatten_cons,List.flatten_nil,List.append_nil]
   rw [Nat.succ_mul,List.take_add]
 unfold dG cQ
 rw [List.map_map]
 refine (key _).trans (List.take_of_length_le ?_)
 have:=(not_congr (kR (n:=n) (len:=xs.length) (k:=eK n xs.length) hn)).1 (Nat.lt_irrefl _)
 omega
theorem jn_nz {xs:List (List UInt8)} (h:∀ x∈xs,∀ c∈x,c≠0):∀ c∈jn xs,c≠0:=by
 induction xs with
 | nil=>intro c hc;simp [qQ] at hc
 | cons x r ih =>
  cases r with
  | nil=>intro c hc;rw [mI] at hc;exact h x List.mem_cons_self c hc
  | cons y r =>
   intro c hc
   rw [jX] at hc
   rcases List.mem_append.1 hc with hc | hc
   ·exact h x List.mem_cons_self c hc
   ·rcases List.mem_cons.1 hc with rfl | hc
    ·decide
    ·exact ih (fun z hz=>h z (List.mem_cons_of_mem _ hz)) c hc
theorem yQ {p:List UInt8} (h:okP p=true):∀ c∈p,c≠0:=by
 obtain ⟨h1,h2,_⟩:=bJ h
 rw [h2]
 intro c hc
 rcases List.mem_cons.1 hc with rfl | hc
 ·decide
 ·exact jn_nz (fun x hx=>aLw (h1 x hx)) c hc
theorem yA {p r:List UInt8} (h:∀ c∈p,c≠0):tw (p++0::r)=p:=by
 unfold tw
 induction p with
 | nil=>simp
 | cons c p ih =>
  have h1:=h c List.mem_cons_self
  rw [List.cons_append,List.takeWhile_cons,if_pos (by simpa using h1),ih fun d hd=>h d (List.mem_cons_of_mem _ hd)]
def cof (p:List UInt8) (x:P2):Option (List UInt8):=match x.1 with
 | []=>none
 | a::r=>if a=99/\tw r=p then some x.2 else none
theorem rC (p:List UInt8):∀ (L:List P2) (s:CS×FS),((L.foldl r1 s).1 p).getD []=(s.1 p).getD []++(L.filterMap (cof p)).flatten
 | [],s=>by simp
 | x::L,s=>by
  obtain ⟨k,v⟩:=x
  rw [List.foldl_cons,rC p L,List.filterMap_cons]
  cases k with
  | nil=>rfl
  | cons a r =>
   simp only [r1,cof]
   by_cases h99:a=99
   ·subst h99
    simp only [if_true,true_and,aI]
    by_cases e:p=tw r
    ·rw [if_pos e,if_pos e.symm,<- e];simp
    ·rw [if_neg e,if_neg (Ne.symm e)]
   ·rw [if_neg h99,if_neg (show ¬ (a=99/\tw r=p) from fun h=>h99 h.1)]
    split<;>rfl
theorem yN (p:List UInt8):∀ (L:List P2) (s:CS×FS),(∀ v,(110::p,v) ∉ L)->(L.foldl r1 s).2 p=s.2 p
 | [],s,_=>rfl
 | x::L,s,h=>by
  obtain ⟨k,v⟩:=x
  rw [List.foldl_cons,yN p L _ fun u hu=>h u (List.mem_cons_of_mem _ hu)]
  cases k with
  | nil=>rfl
  | cons a r =>
   simp only [r1]
   by_cases h99:a=99
   ·rw [if_pos h99]
   ·rw [if_neg h99]
    by_cases h110:a=110
    ·rw [if_pos h110]
     have e:p≠r:=fun e=>h v (by rw [e,h110];exact List.mem_cons_self)
     simp [aI,e]
    ·rw [if_neg h110]
theorem rH (p v:List UInt8):∀ (L:List P2) (s:CS×FS),(L.map (·.1)).Nodup->(110::p,v)∈L->(L.foldl r1 s).2 p=some (decide (v=[100]),[])
 | [],_,_,h=>by cases h
 | x::L,s,hn,h=>by
  simp only [List.map_cons,List.nodup_cons] at hn
  rw [List.foldl_cons]
  rcases List.mem_cons.1 h with rfl | h
  ·rw [yN p L _ fun u hu=>hn.1 (List.mem_map.2 ⟨_,hu,rfl⟩)]
   simp [r1,aI]
  ·exact rH p v L _ hn.2 h
theorem wV {α β:Type} (f:α->Option β) (g:α->β) (hg:∀ x y,f x=some y->y=g x):∀ l:List α,l.filterMap f=(l.filter fun x=>(f x).isSome).map g
 | []=>rfl
 | x::l=>by
  rw [List.filterMap_cons,List.filter_cons]
  cases h:f x with
  | none=>simp [wV f g hg l]
  | some y=>simp [wV f g hg l,hg x y h]
structure vN (l:List Ent):Prop where
 nd:(l.map (·.1)).Nodup
 ok:∀ x∈l,okP x.1=true
 len:∀ x∈l,x.2.2.length<=192
 dir:∀ x∈l,x.2.1=true->x.2.2=[]
theorem prs2_mem {l:List Ent} {x:P2}:x∈cH l↔∃ e∈l,x∈bM e:=by
 unfold cH eW
 rw [(List.mergeSort_perm _ leP).mem_iff,List.mem_flatMap]
theorem aH8 {l:List Ent} (h:vN l):∀ p,rdF (cH l) p=aZ p l:=by
 have hnd:=sB h.nd h.len
 have hst:=oE hnd
 have hkn:((cH l).map (·.1)).Nodup:=((List.mergeSort_perm _ leP).map _).nodup_iff.2 hnd
 intro p
 unfold rdF gE
 by_cases hp:∃ f,(p,f)∈l
 ·obtain ⟨⟨b,d⟩,hf⟩:=hp
  rw [cO h.nd hf]
  cases b with
  | true =>
   have hm:(110::p,[100])∈cH l:=prs2_mem.2 ⟨_,hf,by simp [bM]⟩
   rw [rH p _ _ _ hkn hm]
   have:=h.dir _ hf rfl
   simp only at this
   rw [this];rfl
  | false =>
   have hm:(110::p,102::gU d.length)∈cH l:=prs2_mem.2 ⟨_,hf,by simp [bM]⟩
   rw [rH p _ _ _ hkn hm]
   have hne:¬ (102::gU d.length=([100]:List UInt8)):=by simp
   rw [decide_eq_false hne]
   simp only
   rw [rC p,wV (cof p) (·.2) (fun x y hxy=>by
    unfold cof at hxy
    split at hxy
    ·cases hxy
    ·split at hxy
     ·exact (Option.some.inj hxy).symm
     ·cases hxy)]
   have hfil:(cH l).filter (fun x=>(cof p x).isSome)=chk p 0 (dG 64 d):=by
    refine sD (List.Pairwise.sublist List.filter_sublist hst) (wD (by have:=uX (h.len _ hf);rw [jR];simp only at this;omega)) fun x=>?_
    rw [List.mem_filter,prs2_mem]
    constructor
    ·rintro ⟨⟨e,he,hx⟩,hc⟩
     obtain ⟨q,b',d'⟩:=e
     have hq:=yQ (h.ok _ he)
     unfold bM at hx
     simp only at hx
     cases b' with
     | true=>simp at hx;rw [hx] at hc;simp [cof] at hc
     | false =>
      simp only [Bool.false_eq_true,if_false] at hx
      rcases List.mem_cons.1 hx with rfl | hx
      ·simp [cof] at hc
      ·obtain ⟨j,_,_,h3⟩:=kD hx
       unfold cof at hc
       rw [h3] at hc
       simp only [true_and] at hc
       rw [yA hq] at hc
       by_cases e:q=p
       ·subst e
        have:=cO h.nd he
        rw [cO h.nd hf] at this
        cases this
        exact hx
       ·rw [if_neg e] at hc;cases hc
    ·intro hx
     refine ⟨⟨_,hf,by simp [bM,hx]⟩,?_⟩
     obtain ⟨j,_,_,h3⟩:=kD hx
     unfold cof
     rw [h3]
     simp only [true_and]
     rw [yA (yQ (h.ok _ hf)),if_pos rfl];rfl
   rw [hfil,yO,aIh 64 (by omega)]
   rfl
 ·have hn:∀ v,(110::p,v) ∉ cH l:=fun v hv=>by
   obtain ⟨e,he,hx⟩:=prs2_mem.1 hv
   rcases nX hx with h1 | ⟨c,h1⟩
   ·simp only at h1
    injection h1 with _ h1
    exact hp ⟨e.2,by rw [h1];exact he⟩
   ·simp only at h1
    injection h1 with h1;exact absurd h1 (by decide)
  rw [yN p _ _ hn]
  symm
  refine gN fun hm=>?_
  obtain ⟨⟨a,b⟩,hx,hj⟩:=List.mem_map.1 hm
  simp only at hj
  exact hp ⟨b,by rw [<- hj];exact hx⟩
structure Snd (s:FS):Prop where
 root:∃ d,s [47]=some (true,d)
 ok:∀ p f,s p=some f->okP p=true
 len:∀ p f,s p=some f->f.2.length<=192
 dir:∀ p d,s p=some (true,d)->d=[]
 up:∀ p f,s p=some f->p≠[47]->∃ d,s (par p)=some (true,d)
theorem Snd.ent {s:FS} (h:Snd s) {l:List Ent} (hE:Enum s l):vN l :=
 ⟨hE.1,fun x hx=>h.ok x.1 x.2 ((bC hE).1 hx),fun x hx=>h.len x.1 x.2 ((bC hE).1 hx),fun x hx hd=>h.dir x.1 x.2.2 (by rw [<- hd];exact (bC hE).1 hx)⟩
noncomputable def bK (s:FS):List P2:=(eJ s).getD []
theorem Snd.prs {s:FS} (h:Snd s) {n:Nat} (hc:Crd s n) (hn:n<=1000000):eJ s=some (bK s)/\rdF (bK s)=s/\(bK s).length<=4*n/\∀ x∈bK s,x.1.length<=100/\x.2.length<=100:=by
 obtain ⟨l,hE,hl⟩:=hc
 have hk:=h.ent hE
 have h1:eJ s=some (cH l):=aGt hE (by omega) fun x hx=>⟨by have:=(bJ (hk.ok x hx)).2.2;omega,hk.len x hx⟩
 have h2:bK s=cH l:=by unfold bK;rw [h1];rfl
 rw [h2]
 refine ⟨h1,?_,?_,fun x hx=>?_⟩
 ·funext p
  rw [aH8 hk p]
  exact (hE.2 p).symm
 ·unfold cH eW
  rw [(List.mergeSort_perm _ leP).length_eq]
  have:=xU hk.len
  omega
 ·obtain ⟨e,he,hx⟩:=prs2_mem.1 hx
  have hp:=(bJ (hk.ok e he)).2.2
  refine ⟨?_,?_⟩
  ·rcases nX hx with h1 | ⟨c,h1⟩
   ·rw [h1];simp;omega
   ·rw [h1];simp;omega
  ·have hmem:∀ i (cs:List (List UInt8)),x∈chk e.1 i cs->x.2∈cs:=by
    intro i cs hh
    have:=yO e.1 i cs
    rw [<- this];exact List.mem_map.2 ⟨x,hh,rfl⟩
   unfold bM at hx
   split at hx
   ·simp at hx;rw [hx];simp
   ·rcases List.mem_cons.1 hx with rfl | hx
    ·simp [gU]
    ·have:=aCr (hmem 0 _ hx);omega
theorem aBl {β:Type} {f:Unit->β->Option (Unit ⊕ Bool)} (good:β->Bool):∀ (l:List β),(∀ x∈l,f () x=some (if good x=true then .inl () else .inr false))->bW f () l=some (if l.all good=true then .inl () else .inr false)
 | [],_=>rfl
 | x::l,h=>by
  show (f () x).bind _=_
  rw [h x List.mem_cons_self]
  by_cases hg:good x=true
  ·rw [if_pos hg]
   simp only [obS]
   rw [aBl good l fun y hy=>h y (List.mem_cons_of_mem _ hy)]
   simp [hg]
  ·rw [if_neg hg]
   simp [show good x=false by simpa using hg]
def gd (s:FS) (x:Ent):Bool:=okP x.1&&decide (x.2.2.length<=192)&&(decide (x.1=[47]) || ((s (par x.1)).getD (false,[])).1)
theorem aNg {s:FS} {l:List Ent} (hE:Enum s l) (hb:∀ x∈l,x.1.length<=90000/\x.2.2.length<=1000000000000000):pQ s=some (l.all (gd s)&&((s [47]).getD (false,[])).1):=by
 unfold pQ
 refine mP hE fun l' hE'=>?_
 have hp:l'.Perm l:=hE'.perm hE
 rw [aBl (gd s) l' fun x hx=>?_]
 ·have:l'.all (gd s)=l.all (gd s):=by
   rw [Bool.eq_iff_iff,List.all_eq_true,List.all_eq_true]
   exact ⟨fun h x hx=>h x (hp.mem_iff.2 hx),fun h x hx=>h x (hp.mem_iff.1 hx)⟩
  rw [this]
  cases l.all (gd s)<;>rfl
 ·obtain ⟨h1,h2⟩:=hb x (hp.mem_iff.1 hx)
  unfold gd
  rw [oB _ (by omega)]
  simp only [obS]
  cases okP x.1 with
  | false=>rfl
  | true =>
   rw [if_pos rfl,if_pos rfl]
   by_cases h3:192<(x.2.2.length:Int)
   ·rw [if_pos h3,decide_eq_false (show ¬ x.2.2.length<=192 by omega)];rfl
   ·rw [if_neg h3,decide_eq_true (show x.2.2.length<=192 by omega)]
    by_cases h4:x.1=[47]
    ·rw [if_pos h4,decide_eq_true h4];rfl
    ·rw [if_neg h4,decide_eq_false h4,wY _ (by omega)]
     simp only [obS]
     cases ((s (par x.1)).getD (false,[])).1<;>rfl
theorem zZ (L:List P2):∀ p d,rdF L p=some (true,d)->d=[]:=by
 have key:∀ (L:List P2) (s:CS×FS),(∀ p f,s.2 p=some f->f.2=[])->∀ p f,(L.foldl r1 s).2 p=some f->f.2=[]:=by
  intro L
  induction L with
  | nil=>intro s h;exact h
  | cons x L ih =>
   intro s h
   refine ih (r1 s x) fun p f hp=>?_
   obtain ⟨k,v⟩:=x
   cases k with
   | nil=>exact h p f hp
   | cons a r =>
    simp only [r1] at hp
    split at hp
    ·exact h p f hp
    ·split at hp
     ·simp only [aI] at hp
      split at hp
      ·cases hp;rfl
      ·exact h p f hp
     ·exact h p f hp
 intro p d h
 unfold rdF gE at h
 split at h
 ·cases h
 ·exact key L (bG,bG) (fun p f h=>by cases h) p _ h
theorem aMl (x y:List P2) (hx:x.length<=100000000):nP x y=some (decide (x=y)):=by
 have hs:∀ a b:P2,pZ a b=some (decide (a=b)):=fun a b=>by
  obtain ⟨a1,a2⟩:=a
  obtain ⟨b1,b2⟩:=b
  unfold pZ nR
  simp only [obS]
  by_cases h1:a1=b1
  ·rw [if_pos (decide_eq_true h1)]
   by_cases h2:a2=b2
   ·rw [decide_eq_true h2,decide_eq_true (by rw [h1,h2])]
   ·rw [decide_eq_false h2,decide_eq_false (by simp [h2])]
  ·rw [if_neg (by simp [h1]),decide_eq_false (by simp [h1])]
 unfold nP
 by_cases hl:(x.length:Int)=(y.length:Int)
 ·rw [if_pos hl]
  refine cK (fun k (s:Int)=>s=(k:Int)/\∀ j,j<k->x.getD j ([],[])=y.getD j ([],[])) (fun r=>(r=.inl ()/\x=y)\/(r=.inr false/\x≠y)) x.length ⟨rfl,fun j hj=>by omega⟩ ?_ ?_ ?_
  ·rintro k _ hk ⟨rfl,hne⟩
   rw [if_pos (by omega),iT ([],[]) rfl hk,iT ([],[]) rfl (show k<y.length by omega)]
   simp only [obS,hs]
   by_cases e:x.getD k ([],[])=y.getD k ([],[])
   ·rw [if_neg (by rw [decide_eq_true e];decide),aF (by omega) (by omega)]
    exact .inl ⟨_,rfl,rfl,fun j hj=>by
     by_cases ej:j=k
     ·subst ej;exact e
     ·exact hne j (by omega)⟩
   ·rw [if_pos (by rw [decide_eq_false e];rfl)]
    exact .inr ⟨_,rfl,.inr ⟨rfl,fun h=>e (by rw [h])⟩⟩
  ·rintro _ ⟨rfl,hne⟩
   refine ⟨.inl (),?_,.inl ⟨rfl,List.ext_getElem (by omega) fun j h1 h2=>?_⟩⟩
   ·rw [if_neg (by omega)]
   ·have:=hne j h1
    simpa [List.getD_eq_getElem?_getD,List.getElem?_eq_getElem h1,List.getElem?_eq_getElem h2] using this
  ·rintro _ (⟨rfl,h1⟩ | ⟨rfl,h1⟩)
   ·simp [h1]
   ·simp [h1]
 ·rw [if_neg hl,decide_eq_false fun h=>hl (by rw [h])]
theorem aHz (L:List P2) (hn:L.length<=1000) (hb:∀ x∈L,x.1.length<=10000/\x.2.length<=10000):(gJ L=some 0/\Snd (rdF L)/\bK (rdF L)=L)\/(gJ L=some 22/\¬ (Snd (rdF L)/\bK (rdF L)=L)):=by
 unfold gJ
 rw [yM L (by omega) fun x hx=>by have:=hb x hx;omega]
 simp only [obS]
 obtain ⟨l,hE,hl⟩:=iU L
 have hkey:∀ p f,rdF L p=some f->p.length<=10000/\f.2.length<=100000000:=by
  have key:∀ (L:List P2) (s:CS×FS) (n:Nat),(∀ x∈L,x.1.length<=10000/\x.2.length<=10000)->(∀ p f,s.2 p=some f->p.length<=10000)->(∀ p,((s.1 p).getD []).length<=n)->(∀ p f,(L.foldl r1 s).2 p=some f->p.length<=10000)/\∀ p,(((L.foldl r1 s).1 p).getD []).length<=n+L.length*10000:=by
   intro L
   induction L with
   | nil=>intro s n _ h1 h2;exact ⟨h1,fun p=>by have:=h2 p;simpa using this⟩
   | cons x L ih =>
    intro s n hb h1 h2
    obtain ⟨h3,h4⟩:=hb x List.mem_cons_self
    obtain ⟨h5,h6⟩:=ih (r1 s x) (n+10000) (fun y hy=>hb y (List.mem_cons_of_mem _ hy)) (fun p f hp=>by
     obtain ⟨k,v⟩:=x
     cases k with
     | nil=>exact h1 p f hp
     | cons a r =>
      simp only [r1] at hp
      split at hp
      ·exact h1 p f hp
      ·split at hp
       ·simp only [aI] at hp
        split at hp
        ·rename_i e;subst e;simp at h3;omega
        ·exact h1 p f hp
       ·exact h1 p f hp) (vZ s x n 10000 h2 h4)
    exact ⟨h5,fun p=>by have:=h6 p;simp only [List.foldl_cons,List.length_cons] at this ⊢;omega⟩
  obtain ⟨h1,h2⟩:=key L (bG,bG) 0 hb (fun p f h=>by cases h) (fun p=>by simp [bG])
  intro p f hp
  unfold rdF gE at hp
  split at hp
  ·rename_i b e
   cases hp
   exact ⟨h1 p _ e,by have:=h2 p;simp only;omega⟩
  ·rename_i e1 e2
   refine ⟨h1 p f hp,?_⟩
   obtain ⟨b,d⟩:=f
   cases b with
   | false=>exact absurd hp (e2 d)
   | true =>
    have:=zZ L p d (by unfold rdF gE;simp only [hp])
    rw [this];simp
 have hbl:∀ x∈l,x.1.length<=90000/\x.2.2.length<=1000000000000000:=fun x hx=>by
  have:=hkey x.1 x.2 ((bC hE).1 hx);omega
 rw [aNg hE hbl]
 simp only [obS]
 have hsnd:(l.all (gd (rdF L))&&((rdF L [47]).getD (false,[])).1)=true↔Snd (rdF L):=by
  rw [Bool.and_eq_true,List.all_eq_true]
  have hdd:∀ p,((rdF L p).getD (false,[])).1=true↔∃ d,rdF L p=some (true,d):=fun p=>by
   cases h:rdF L p with
   | none=>simp
   | some v=>obtain ⟨b,d⟩:=v;cases b<;>simp
  rw [hdd]
  have hg:∀ x,gd (rdF L) x=true↔okP x.1=true/\x.2.2.length<=192/\(x.1≠[47]->∃ d,rdF L (par x.1)=some (true,d)):=fun x=>by
   unfold gd
   simp only [Bool.and_eq_true,Bool.or_eq_true,decide_eq_true_eq,hdd]
   constructor
   ·rintro ⟨⟨a,b⟩,c⟩;exact ⟨a,b,fun h=>c.resolve_left h⟩
   ·rintro ⟨a,b,c⟩
    refine ⟨⟨a,b⟩,?_⟩
    by_cases h:x.1=[47]
    ·exact .inl h
    ·exact .inr (c h)
  constructor
  ·rintro ⟨h1,h2⟩
   exact ⟨h2,fun p f hp=>((hg (p,f)).1 (h1 _ ((bC hE).2 hp))).1,fun p f hp=>((hg (p,f)).1 (h1 _ ((bC hE).2 hp))).2.1,zZ L,fun p f hp=>((hg (p,f)).1 (h1 _ ((bC hE).2 hp))).2.2⟩
  ·intro h
   exact ⟨fun x hx=>(hg x).2 ⟨h.ok _ _ ((bC hE).1 hx),h.len _ _ ((bC hE).1 hx),h.up _ _ ((bC hE).1 hx)⟩,h.root⟩
 by_cases hs:(l.all (gd (rdF L))&&((rdF L [47]).getD (false,[])).1)=true
 ·have hS:=hsnd.1 hs
  rw [if_neg (by rw [hs];decide)]
  obtain ⟨h1,_,h3,_⟩:=hS.prs ⟨l,hE,hl⟩ (by omega)
  rw [h1]
  simp only [obS]
  rw [aMl _ _ (by omega)]
  simp only [obS]
  by_cases he:bK (rdF L)=L
  ·rw [if_neg (by simp [he])];exact .inl ⟨rfl,hS,he⟩
  ·rw [if_pos (by simp [he])];exact .inr ⟨rfl,fun h=>he h.2⟩
 ·rw [if_pos (by simp only [show (l.all (gd (rdF L))&&((rdF L [47]).getD (false,[])).1)=false by simpa using hs];rfl)]
  exact .inr ⟨rfl,fun h=>hs (hsnd.2 h.1)⟩
def zf:Bool×List UInt8:=(false,[])
def ag (s:FS) (a:List UInt8):Option Int:=match s a with
 | none=>some 91
 | some f=>if f.1=true then none else some 93
def cS (p:List UInt8):List (List UInt8):=(List.range (nmP p).length).map fun i=>pth ((nmP p).take i)
def lk (s:FS) (p:List UInt8):(Bool×List UInt8)×Int:=if okP p=true then (match (cS p).findSome? (ag s) with
 | some e=>(zf,e)
 | none=>match s p with
  | none=>(zf,91)
  | some f=>(f,0)) else (zf,90)
theorem look_eq (s:FS) (p:List UInt8) (h:p.length<=1500000000):fO s p=some (lk s p):=by
 unfold fO lk
 rw [oB _ (by omega)]
 simp only [obS]
 by_cases hk:okP p=true
 ·rw [if_pos hk,if_pos rfl,if_pos hk,aKe _ h]
  simp only [obS]
  have hlen:(cS p).length<=2000000001:=by have:=lC p;simp [cS];omega
  rw [show ((List.range (nmP p).length).map fun i=>pth ((nmP p).take i))=cS p from rfl]
  rw [rY (cS p) (fun a=>(ag s a).map fun e=>(Sum.inr (zf,e):Unit ⊕ (Bool×List UInt8)×Int)) (.inl ()) (fun i hi=>?_) ?_]
  ·simp only [obS]
   have:(cS p).findSome? (fun a=>(ag s a).map fun e=>(Sum.inr (zf,e):Unit ⊕ (Bool×List UInt8)×Int))=((cS p).findSome? (ag s)).map fun e=>(Sum.inr (zf,e):Unit ⊕ (Bool×List UInt8)×Int):=by
    generalize cS p=l
    induction l with
    | nil=>rfl
    | cons x l ih =>
     rw [List.findSome?_cons,List.findSome?_cons]
     cases ag s x with
     | none=>exact ih
     | some e=>rfl
   rw [this]
   cases (cS p).findSome? (ag s) with
   | some e=>rfl
   | none =>
    simp only [Option.map_none,Option.getD_none,Sum.elim_inl]
    cases s p with
    | none=>rfl
    | some f=>rfl
  ·rw [if_neg (by omega)]
  ·rw [if_pos (by omega),aX hi]
   simp only [obS]
   unfold ag
   cases hs:s (cS p)[i] with
   | none=>rfl
   | some f =>
    obtain ⟨b,d⟩:=f
    cases b with
    | true=>rw [if_neg (by simp),if_neg (by simp),aF (by omega) (by omega)];rfl
    | false=>rfl
 ·rw [if_neg hk,if_neg (by omega),if_neg hk];rfl
theorem mK {s:FS} {p:List UInt8} (h:(lk s p).2=0):okP p=true/\∃ f,s p=some f/\lk s p=(f,0):=by
 unfold lk at h ⊢
 by_cases hk:okP p=true
 ·rw [if_pos hk] at h ⊢
  refine ⟨hk,?_⟩
  cases hf:(cS p).findSome? (ag s) with
  | some e =>
   rw [hf] at h
   simp only at h
   subst h
   obtain ⟨a,_,ha⟩:=List.exists_of_findSome?_eq_some hf
   unfold ag at ha
   split at ha
   ·cases ha
   ·split at ha<;>cases ha
  | none =>
   rw [hf] at h
   simp only at h ⊢
   cases hp:s p with
   | none=>rw [hp] at h;cases h
   | some f=>exact ⟨f,rfl,rfl⟩
 ·rw [if_neg hk] at h;cases h
theorem aJf {s:FS} (hs:Snd s) {p:List UInt8} {f:Bool×List UInt8} (hp:s p=some f):∀ i,i<(nmP p).length->∃ d,s (pth ((nmP p).take i))=some (true,d):=by
 obtain ⟨h1,h2,h3⟩:=bJ (hs.ok p f hp)
 have hlen:∀ i,(pth ((nmP p).take i)).length<=24:=fun i=>by
  have:=jS (xs:=nmP p) i
  rw [h2] at h3
  simp only [pth,List.length_cons] at h3 ⊢
  omega
 have hnp:∀ i,NP ((nmP p).take i):=fun i x hx=>h1 x (List.mem_of_mem_take hx)
 have key:∀ k i,i+k=(nmP p).length->0<k->∃ d,s (pth ((nmP p).take i))=some (true,d):=by
  intro k
  induction k with
  | zero=>intro i _ h0;omega
  | succ k ih =>
   intro i hi _
   have hx:∃ g,s (pth ((nmP p).take (i+1)))=some g:=by
    by_cases hk:k=0
    ·subst hk
     rw [List.take_of_length_le (show (nmP p).length<=i+1 by omega),<- h2];exact ⟨f,hp⟩
    ·obtain ⟨d,hd⟩:=ih (i+1) (by omega) (by omega);exact ⟨_,hd⟩
   obtain ⟨g,hg⟩:=hx
   have hn:=sJ (hnp (i+1)) (hlen (i+1))
   have hne:(nmP p).take (i+1)≠[]:=by
    intro e
    have:=congrArg List.length e
    rw [List.length_take,List.length_nil] at this;omega
   obtain ⟨d,hd⟩:=hs.up _ g hg (fun e=>hne (by rw [<- hn,e];rfl))
   refine ⟨d,?_⟩
   rw [<- hd]
   unfold par
   rw [hn,if_neg hne,List.dropLast_eq_take,List.take_take,List.length_take]
   rw [show min (min (i+1) (nmP p).length-1) (i+1)=i by omega]
 intro i hi
 exact key ((nmP p).length-i) i (by omega) (by omega)
def rg (s:FS) (p:List UInt8):(Bool×List UInt8)×Int:=if (lk s p).2=0 then (if (lk s p).1.1=true then (zf,94) else lk s p) else lk s p
theorem aD7 (s:FS) (p:List UInt8) (h:p.length<=1500000000):lJ s p=some (rg s p):=by
 unfold lJ rg
 rw [look_eq s p h]
 simp only [obS]
 split
 ·split<;>rfl
 ·rfl
theorem lF {s:FS} {p:List UInt8} (h:(rg s p).2=0):∃ d,s p=some (false,d)/\rg s p=((false,d),0):=by
 unfold rg at h ⊢
 by_cases h1:(lk s p).2=0
 ·rw [if_pos h1] at h ⊢
  obtain ⟨_,f,h2,h3⟩:=mK h1
  obtain ⟨b,d⟩:=f
  rw [h3] at h ⊢
  cases b with
  | true=>cases h
  | false=>exact ⟨d,h2,rfl⟩
 ·rw [if_neg h1] at h;exact absurd h h1
def rm (s:FS) (p:List UInt8):Int:=if okP p=true then (if p=[47] then 92 else if (lk s (par p)).2=0 then (if (lk s (par p)).1.1=true then (if (s p).isSome=true then 92 else 0) else 93) else (lk s (par p)).2) else 90
theorem aCa {p:List UInt8} (h:okP p=true):(par p).length<=24:=by
 obtain ⟨h1,h2,h3⟩:=bJ h
 unfold par
 split
 ·simp
 ·have:=jS (xs:=nmP p) ((nmP p).length-1)
  rw [<- List.dropLast_eq_take] at this
  rw [h2] at h3
  simp only [pth,List.length_cons] at h3 ⊢
  omega
theorem uR (s:FS) (p:List UInt8) (h:p.length<=1500000000):mJ s p=some (rm s p):=by
 unfold mJ rm
 rw [oB _ (by omega)]
 simp only [obS]
 by_cases hk:okP p=true
 ·rw [if_pos hk,if_pos rfl,if_pos hk]
  by_cases hr:p=[47]
  ·rw [if_pos hr,if_pos hr]
  ·rw [if_neg hr,if_neg hr,wY _ h]
   simp only [obS]
   rw [look_eq _ _ (by have:=aCa hk;omega)]
   simp only [obS]
   by_cases he:(lk s (par p)).2=0
   ·rw [if_pos he,if_pos he]
    cases (lk s (par p)).1.1 with
    | false=>rfl
    | true =>
     cases s p<;>rfl
   ·rw [if_neg he,if_neg he]
 ·rw [if_neg hk,if_neg (by omega),if_neg hk]
theorem lH {s:FS} {p:List UInt8} (h:rm s p=0):okP p=true/\p≠[47]/\(∃ d,s (par p)=some (true,d))/\s p=none:=by
 unfold rm at h
 by_cases hk:okP p=true
 ·rw [if_pos hk] at h
  by_cases hr:p=[47]
  ·rw [if_pos hr] at h;cases h
  ·rw [if_neg hr] at h
   by_cases he:(lk s (par p)).2=0
   ·rw [if_pos he] at h
    obtain ⟨_,f,h2,h3⟩:=mK he
    obtain ⟨b,d⟩:=f
    rw [h3] at h
    cases b with
    | false=>cases h
    | true =>
     cases hp:s p with
     | none=>exact ⟨hk,hr,⟨d,h2⟩,rfl⟩
     | some g=>rw [hp] at h;cases h
   ·rw [if_neg he] at h;exact absurd h he
 ·rw [if_neg hk] at h;cases h
def tle (x y:List UInt8):Bool:=decide (x<=y)
theorem tH (xs:List (List UInt8)):(xs.mergeSort tle).Pairwise (·<=·):=by
 refine (List.pairwise_mergeSort (le:=tle) (fun a b c h1 h2=>?_) (fun a b=>?_) xs).imp fun h=>of_decide_eq_true h
 ·exact decide_eq_true (List.le_trans (of_decide_eq_true h1) (of_decide_eq_true h2))
 ·rcases List.le_total a b with h | h
  ·simp [tle,h]
  ·simp [tle,h]
theorem aO0 {xs ys:List (List UInt8)} (h:xs.Perm ys):xs.mergeSort tle=ys.mergeSort tle :=
 List.Perm.eq_of_pairwise (le:=(·<=·)) (fun a b _ _ h1 h2=>List.le_antisymm h1 h2) (tH xs) (tH ys) ((List.mergeSort_perm xs tle).trans (h.trans (List.mergeSort_perm ys tle).symm))
def inD (p:List UInt8) (x:Ent):Bool:=decide (x.1≠[47])&&decide (par x.1=p)
def blL (l:List Ent) (p:List UInt8):List (List UInt8):=((l.filter (inD p)).map fun x=>bas x.1).mergeSort tle
theorem wK {s:FS} {l:List Ent} (hE:Enum s l) (hl:l.length<=1000000) (hb:∀ x∈l,x.1.length<=1500000000) (p:List UInt8):gF s p=some (blL l p):=by
 unfold gF
 refine mP hE fun l' hE'=>?_
 have hp:l'.Perm l:=hE'.perm hE
 have hl':l'.length<=1000000:=by rw [hp.length_eq];exact hl
 rw [(xI (fun (out:List (List UInt8)) (x:Ent)=>if inD p x=true then out++[bas x.1] else out) (fun pre out=>out=(pre.filter (inD p)).map fun x=>bas x.1) l' l' [] [] rfl rfl ?_).1]
 ·have hfold:l'.foldl (fun (out:List (List UInt8)) (x:Ent)=>if inD p x=true then out++[bas x.1] else out) []=(l'.filter (inD p)).map fun x=>bas x.1:=by
   have key:∀ (l':List Ent) (o:List (List UInt8)),l'.foldl (fun (out:List (List UInt8)) (x:Ent)=>if inD p x=true then out++[bas x.1] else out) o=o++(l'.filter (inD p)).map fun x=>bas x.1:=by
    intro l'
    induction l' with
    | nil=>intro o;simp
    | cons x l' ih =>
     intro o
     rw [List.foldl_cons,ih,List.filter_cons]
     split<;>simp
   simpa using key l' []
  rw [hfold]
  simp only [obS,Sum.elim_inl]
  unfold sW tD
  have hlen:((l'.filter (inD p)).map fun x=>bas x.1).length<=1000000:=by
   have:=List.length_filter_le (inD p) l'
   simp only [List.length_map];omega
  rw [if_pos (by omega)]
  simp only [obS]
  congr 1
  exact aO0 ((hp.filter _).map _)
 ·rintro pre x post out hpp rfl
  have hxl:=hb x (hp.mem_iff.1 (by rw [<- hpp];simp))
  have hpl:(pre.filter (inD p)).length<=1000000:=by
   have h1:=List.length_filter_le (inD p) pre
   have h2:=congrArg List.length hpp
   simp at h2;omega
  refine ⟨?_,?_⟩
  ·unfold inD
   by_cases hr:x.1=[47]
   ·rw [if_pos hr]
    simp [hr]
   ·rw [if_neg hr,wY _ hxl]
    simp only [obS]
    by_cases hq:par x.1=p
    ·rw [if_pos hq,aNf _ hxl]
     simp only [obS]
     rw [bI (by simp only [List.length_map,List.length_cons,List.length_nil];unfold inD at hpl;omega)]
     simp [hr,hq]
    ·rw [if_neg hq]
     simp [hr,hq]
  ·rw [List.filter_append,List.map_append]
   by_cases hi:inD p x=true
   ·rw [if_pos hi];simp [hi]
   ·rw [if_neg hi];simp [hi]
def szd (d:List UInt8) (n:Nat):List UInt8:=d.take n++List.replicate (n-d.length) 0
theorem eD (d:List UInt8) (n:Nat):(szd d n).length=n:=by simp [szd];omega
theorem aCi (d:List UInt8) (n:Nat) (h:n<=1000000):sized d (n:Int)=some (szd d n):=by
 unfold sized mkO
 rw [if_pos ⟨by omega,by omega⟩]
 simp only [obS,Int.toNat_natCast]
 congr 1
 unfold putAt szd
 simp
 rw [Nat.min_comm]
 omega
abbrev Ans:=Int×Int×List UInt8×List (List UInt8)
abbrev Opr:=Int×List UInt8×List UInt8×Int×Int×List UInt8
def wr (s:FS) (o:Opr):Ans×FS :=
  if (rg s o.2.1).2=0 then
    (if (if o.1=3 then o.2.2.2.1 else o.2.2.2.2.1)<0 then ((1,0,[],[]),s)
     else if 192<(if o.1=3 then o.2.2.2.1 else o.2.2.2.2.1)\/(o.1=3/\192<o.2.2.2.1+(o.2.2.2.2.2.length:Int)) then ((97,0,[],[]),s)
     else if o.1=4 then ((0,0,[],[]),aI o.2.1 (false,szd (rg s o.2.1).1.2 o.2.2.2.2.1.toNat) s)
     else ((0,(o.2.2.2.2.2.length:Int),[],[]),if 0<o.2.2.2.2.2.length then aI o.2.1 (false,putAt (szd (rg s o.2.1).1.2 (max (rg s o.2.1).1.2.length ((if o.1=3 then o.2.2.2.1 else o.2.2.2.2.1).toNat+o.2.2.2.2.2.length))) (if o.1=3 then o.2.2.2.1 else o.2.2.2.2.1).toNat o.2.2.2.2.2) s else s))
  else (((rg s o.2.1).2,0,[],[]),s)
theorem aE0 (s:FS) (o:Opr) (hk:o.1=3\/o.1=4) (hp:o.2.1.length<=1500000000) (hd:o.2.2.2.2.2.length<=1500000000) (hf:∀ p f,s p=some f->f.2.length<=100000):pV s o=some (wr s o):=by
 obtain ⟨k,p,t,off,n,d⟩:=o
 simp only at hk hp hd
 unfold pV wr
 simp only
 rw [aD7 s p hp]
 simp only [obS]
 by_cases he:(rg s p).2=0
 ·obtain ⟨fd,h1,h2⟩:=lF he
  have hfl:=hf _ _ h1
  rw [h2]
  simp only [if_true] at hfl ⊢
  rcases hk with rfl | rfl
  ·simp only [if_true]
   simp only [obS]
   by_cases hn:off<0
   ·rw [if_pos hn,if_pos hn];rfl
   ·rw [if_neg hn,if_neg hn]
    by_cases hb:192<off
    ·rw [if_pos hb,if_pos (.inl hb)];rfl
    ·rw [if_neg hb,aF (by omega) (by omega)]
     by_cases hb2:192<off+(d.length:Int)
     ·rw [if_pos hb2,if_pos (.inr ⟨trivial,hb2⟩)];rfl
     ·rw [if_neg hb2]
      rw [if_neg (show ¬ (192<off\/True/\192<off+(d.length:Int)) from fun h=>h.elim hb fun h=>hb2 h.2)]
      simp only [show ((3:Int)=4)=False from by simp,if_false]
      by_cases hz:0<d.length
      ·rw [if_pos (by omega),if_pos hz]
       obtain ⟨m,rfl⟩:∃ m:Nat,off=m:=⟨off.toNat,by omega⟩
       rw [show max ((fd.length:Nat):Int) ((m:Int)+(d.length:Int))=((max fd.length (m+d.length):Nat):Int) by omega,aCi _ _ (by omega)]
       simp only [obS]
       rw [cD (by rw [eD];omega) (Nat.le_refl _)]
       simp only [obS,Int.toNat_natCast]
       rw [List.take_of_length_le (l:=d) (by simp [eD];omega)]
      ·rw [if_neg (by omega),if_neg hz];rfl
  ·simp only [show ((4:Int)=3)=False from by simp,if_false,false_and,or_false]
   simp only [obS]
   by_cases hn:n<0
   ·rw [if_pos hn,if_pos hn];rfl
   ·rw [if_neg hn,if_neg hn]
    by_cases hb:192<n
    ·rw [if_pos hb,if_pos hb];rfl
    ·rw [if_neg hb,if_neg hb]
     simp only [if_true]
     obtain ⟨m,rfl⟩:∃ m:Nat,n=m:=⟨n.toNat,by omega⟩
     rw [aCi _ _ (by omega)]
     simp
 ·rw [if_neg he]
  rcases hk with rfl | rfl
  ·simp only [if_true,obS,if_neg he]
  ·simp only [show ((4:Int)=3)=False from by simp,if_false,obS,if_neg he]
def rdA (s:FS) (o:Opr):Ans :=
 if (rg s o.2.1).2=0 then (if o.2.2.2.1<0\/o.2.2.2.2.1<0 then (1,0,[],[]) else (0,((rg s o.2.1).1.2.length:Int),(((rg s o.2.1).1.2.drop o.2.2.2.1.toNat).take (min o.2.2.2.2.1.toNat 64)),[])) else ((rg s o.2.1).2,0,[],[])
theorem aEr (s:FS) (o:Opr) (hp:o.2.1.length<=1500000000) (hf:∀ p f,s p=some f->f.2.length<=100000):nD s o=some (rdA s o):=by
 obtain ⟨k,p,t,off,n,d⟩:=o
 simp only at hp
 unfold nD rdA
 simp only
 rw [aD7 s p hp]
 simp only [obS]
 by_cases he:(rg s p).2=0
 ·obtain ⟨fd,h1,h2⟩:=lF he
  have hfl:=hf _ _ h1
  rw [h2]
  simp only [if_true] at hfl ⊢
  by_cases ho:off<0
  ·rw [if_pos ho,if_pos (.inl ho)];rfl
  ·rw [if_neg ho]
   by_cases hn:n<0
   ·rw [if_pos hn,if_pos (.inr hn)];rfl
   ·rw [if_neg hn,if_neg (by rintro (h | h);exact ho h;exact hn h)]
    obtain ⟨m,hm⟩:∃ m:Nat,min off ((fd.length:Nat):Int)=m:=⟨(min off ((fd.length:Nat):Int)).toNat,by omega⟩
    rw [hm,cD (by omega) (Nat.le_refl _)]
    simp only [obS,List.take_length]
    rw [aF (by omega) (by omega)]
    obtain ⟨q,hq⟩:∃ q:Nat,min (min n 64) (((fd.length:Nat):Int)-(m:Int))=q:=⟨(min (min n 64) (((fd.length:Nat):Int)-(m:Int))).toNat,by omega⟩
    rw [hq,show (0:Int)=((0:Nat):Int) from rfl,cD (Nat.zero_le _) (by simp;omega)]
    simp only [obS,List.drop_zero]
    rw [xE _ (by simp;omega)]
    simp only [obS]
    have e1:(fd.drop m).take q=(fd.drop off.toNat).take (min n.toNat 64):=by
     by_cases hom:off<=((fd.length:Nat):Int)
     ·have:m=off.toNat:=by omega
      rw [this]
      by_cases hq2:q=min n.toNat 64
      ·rw [hq2]
      ·rw [List.take_of_length_le (by simp;omega),List.take_of_length_le (by simp;omega)]
     ·rw [List.drop_eq_nil_of_le (by omega),List.drop_eq_nil_of_le (by omega)];simp
    rw [e1]
 ·rw [if_neg he,if_neg he];rfl
def kid (p x:List UInt8):List UInt8:=pth (nmP p++[x])
theorem kQ {q:List UInt8} (h:okP q=true) (hr:q≠[47]):nmP (par q)=(nmP q).dropLast/\nmP q=(nmP q).dropLast++[bas q]/\okP (par q)=true:=by
 obtain ⟨h1,h2,h3⟩:=bJ h
 have hne:=fN h hr
 have hl:(nmP q).dropLast++[bas q]=nmP q:=by
  unfold bas
  rw [List.getLast?_eq_some_getLast hne]
  exact List.dropLast_concat_getLast hne
 have hnp:NP (nmP q).dropLast:=fun x hx=>h1 x (List.dropLast_subset _ hx)
 have hp:=aCa h
 unfold par at hp ⊢
 rw [if_neg hne] at hp ⊢
 exact ⟨sJ hnp hp,hl.symm,zA hnp hp⟩
theorem aFg {q:List UInt8} (h:okP q=true) (hr:q≠[47]):q=kid (par q) (bas q):=by
 obtain ⟨h1,h2,_⟩:=kQ h hr
 unfold kid
 rw [h1,<- h2]
 exact (bJ h).2.1
noncomputable def bl (s:FS) (p:List UInt8):List (List UInt8):=(gF s p).getD []
structure Bl (s:FS) (p:List UInt8) (n:Nat):Prop where
 eq:gF s p=some (bl s p)
 mem:∀ x,x∈bl s p↔∃ q f,s q=some f/\q≠[47]/\par q=p/\bas q=x
 le:(bl s p).Pairwise (·<=·)
 len:(bl s p).length<=n
 nd:(bl s p).Nodup
theorem Snd.below {s:FS} (hs:Snd s) {n:Nat} (hc:Crd s n) (hn:n<=1000000) (p:List UInt8):Bl s p n:=by
 obtain ⟨l,hE,hl⟩:=hc
 have h1:=wK hE (by omega) (fun x hx=>by have:=(bJ (hs.ok _ _ ((bC hE).1 hx))).2.2;omega) p
 have h2:bl s p=blL l p:=by unfold bl;rw [h1];rfl
 have hpm:=List.mergeSort_perm ((l.filter (inD p)).map fun x=>bas x.1) tle
 refine ⟨by rw [h1,h2],fun x=>?_,by rw [h2];exact tH _,?_,?_⟩
 ·rw [h2]
  unfold blL
  rw [hpm.mem_iff,List.mem_map]
  constructor
  ·rintro ⟨⟨q,f⟩,hq,rfl⟩
   obtain ⟨h3,h4⟩:=List.mem_filter.1 hq
   simp only [inD,Bool.and_eq_true,decide_eq_true_eq] at h4
   exact ⟨q,f,(bC hE).1 h3,h4.1,h4.2,rfl⟩
  ·rintro ⟨q,f,h3,h4,h5,rfl⟩
   exact ⟨(q,f),List.mem_filter.2 ⟨(bC hE).2 h3,by simp [inD,h4,h5]⟩,rfl⟩
 ·rw [h2]
  unfold blL
  rw [hpm.length_eq,List.length_map]
  have:=List.length_filter_le (inD p) l
  omega
 ·rw [h2]
  unfold blL
  rw [hpm.nodup_iff,List.nodup_iff_pairwise_ne,List.pairwise_map,List.pairwise_filter]
  have hn:=hE.1
  rw [List.nodup_iff_pairwise_ne,List.pairwise_map] at hn
  refine hn.imp_of_mem fun {a b} ha hb hne hda hdb e=>hne ?_
  simp only [inD,Bool.and_eq_true,decide_eq_true_eq] at hda hdb
  rw [aFg (hs.ok _ _ ((bC hE).1 ha)) hda.1,aFg (hs.ok _ _ ((bC hE).1 hb)) hdb.1,hda.2,hdb.2,e]
def BlB (s:FS):Prop:=∀ p,gF s p=some (bl s p)/\(bl s p).length<=1000000
theorem Snd.blB {s:FS} (hs:Snd s) {n:Nat} (hc:Crd s n) (hn:n<=1000000):BlB s:=fun p=>⟨(hs.below hc hn p).eq,Nat.le_trans (hs.below hc hn p).len hn⟩
noncomputable def rv (s:FS) (p:List UInt8):Int×FS:=if (lk s p).2=0 then (if p=[47] then (96,s) else if 0<(bl s p).length then (95,s) else (0,bZ p s)) else ((lk s p).2,s)
theorem aA7 {s:FS} (hB:BlB s) (p:List UInt8) (h:p.length<=1500000000):nW s p=some (rv s p):=by
 unfold nW rv
 rw [look_eq s p h]
 simp only [obS]
 split
 ·split
  ·rfl
  ·rw [(hB p).1]
   simp only [obS]
   by_cases h0:0<(bl s p).length
   ·rw [if_pos h0,if_pos (by omega)]
   ·rw [if_neg h0,if_neg (by omega)]
 ·rfl
noncomputable def ls (s:FS) (o:Opr):Ans:=if (lk s o.2.1).2=0 then (if (lk s o.2.1).1.1=true then (0,((bl s o.2.1).length:Int),[],((bl s o.2.1).filter fun x=>!cA x o.2.2.1).take 6) else (93,0,[],[])) else ((lk s o.2.1).2,0,[],[])
theorem aOj (s:List (List UInt8)) (h:s.length<=274877906944):iY s=some s:=by
 unfold iY;rw [bI (by simp;omega)];rfl
theorem aDq {s:FS} (hB:BlB s) (o:Opr) (h:o.2.1.length<=1500000000):oS s o=some (ls s o):=by
 unfold oS ls
 rw [look_eq s _ h]
 simp only [obS]
 by_cases h1:(lk s o.2.1).2=0
 ·rw [if_pos h1,if_pos h1]
  cases hb:(lk s o.2.1).1.1 with
  | false=>rfl
  | true =>
   rw [if_neg (by decide),if_pos rfl,(hB o.2.1).1]
   simp only [obS]
   unfold pL
   rw [if_pos (by have:=(hB o.2.1).2;omega)]
   simp only [obS]
   have hfl:=List.length_filter_le (fun x=>!cA x o.2.2.1) (bl s o.2.1)
   have hbl:=(hB o.2.1).2
   obtain ⟨m,hm⟩:∃ m:Nat,min ((((bl s o.2.1).filter fun x=>!cA x o.2.2.1).length:Nat):Int) 6=m:=⟨(min ((((bl s o.2.1).filter fun x=>!cA x o.2.2.1).length:Nat):Int) 6).toNat,by omega⟩
   rw [hm,show (0:Int)=((0:Nat):Int) from rfl,cD (Nat.zero_le _) (by omega)]
   simp only [obS,List.drop_zero]
   rw [aOj _ (by simp;omega)]
   simp only [obS]
   have:((bl s o.2.1).filter fun x=>!cA x o.2.2.1).take m=((bl s o.2.1).filter fun x=>!cA x o.2.2.1).take 6:=by
    by_cases h6:m=6
    ·rw [h6]
    ·rw [List.take_of_length_le (by omega),List.take_of_length_le (by omega)]
   rw [this];try rfl
 ·rw [if_neg h1,if_neg h1];rfl
noncomputable def stt (s:FS) (p:List UInt8):Ans:=if (lk s p).2=0 then (if (lk s p).1.1=true then (0,((bl s p).length:Int),[100],[]) else (0,((lk s p).1.2.length:Int),[102],[])) else ((lk s p).2,0,[],[])
theorem aHc {s:FS} (hB:BlB s) (p:List UInt8) (h:p.length<=1500000000):pR s p=some (stt s p):=by
 unfold pR stt
 rw [look_eq s _ h]
 simp only [obS]
 by_cases h1:(lk s p).2=0
 ·rw [if_pos h1,if_pos h1]
  cases hb:(lk s p).1.1 with
  | false =>
   rw [if_neg (by decide),if_neg (by decide),show u8O 102=some 102 from rfl]
   rfl
  | true =>
   rw [if_pos rfl,if_pos rfl,show u8O 100=some 100 from rfl]
   simp only [obS]
   rw [(hB p).1]
   rfl
 ·rw [if_neg h1,if_neg h1];rfl
def rst (c:List (List UInt8)):List UInt8:=if c=[] then [] else pth c
theorem oZ {a:List (List UInt8)} (ha:a≠[]) (c:List (List UInt8)):pth (a++c)=pth a++rst c:=by
 unfold rst
 by_cases hc:c=[]
 ·rw [if_pos hc,hc];simp
 ·rw [if_neg hc]
  unfold pth
  rw [oL a c ha hc];rfl
theorem aNh {a:List (List UInt8)} (ha:a≠[]) (c:List (List UInt8)):(pth (a++c)).drop (pth a).length=rst c:=by
 rw [oZ ha c,List.drop_left]
theorem cY {p q:List UInt8} (hp:okP p=true):aK p q=true↔okP q=true/\∃ c,nmP q=nmP p++c:=by
 unfold aK
 rw [hp]
 simp only [Bool.true_and,Bool.and_eq_true,decide_eq_true_eq]
 constructor
 ·rintro ⟨h1,c,h2⟩;exact ⟨h1,c,h2.symm⟩
 ·rintro ⟨h1,c,h2⟩;exact ⟨h1,c,h2.symm⟩
theorem kY {p q:List UInt8} (h:aK p q=true):okP p=true/\okP q=true:=by
 unfold aK at h
 simp only [Bool.and_eq_true] at h
 exact h.1
def mvP (F T p:List UInt8):List UInt8:=T++p.drop F.length
structure Ren (s:FS) (F T:List UInt8):Prop where
 snd:Snd s
 okF:okP F=true
 okT:okP T=true
 neF:F≠[47]
 neT:T≠[47]
 out:aK F T=false
 up:∃ d,s (par T)=some (true,d)
 noT:s T=none
 isF:∃ f,s F=some f
section
variable {s:FS} {F T:List UInt8}
theorem aNe (hs:Snd s) (hT:okP T=true) (h0:s T=none) {q:List UInt8} (hq:aK T q=true):s q=none:=by
 cases hf:s q with
 | none=>rfl
 | some f =>
  obtain ⟨hk,c,hc⟩:=(cY hT).1 hq
  by_cases hcn:c=[]
  ·have e:q=T:=by rw [(bJ hk).2.1,(bJ hT).2.1,hc,hcn,List.append_nil]
   rw [e,h0] at hf;cases hf
  ·obtain ⟨d,hd⟩:=aJf hs hf (nmP T).length (by rw [hc,List.length_append];have:=List.length_pos_iff.2 hcn;omega)
   rw [hc,List.take_left,<- (bJ hT).2.1,h0] at hd
   cases hd
theorem Ren.notT (h:Ren s F T) {q:List UInt8} (hq:aK T q=true):s q=none:=aNe h.snd h.okT h.noT hq
theorem Ren.apart (h:Ren s F T) {q:List UInt8} (h1:aK F q=true) (h2:aK T q=true):False:=by
 obtain ⟨hk,c,hc⟩:=(cY h.okF).1 h1
 obtain ⟨_,c',hc'⟩:=(cY h.okT).1 h2
 rcases Nat.le_total (nmP F).length (nmP T).length with hl | hl
 ·have:nmP F <+: nmP T:=List.prefix_of_prefix_length_le ⟨c,hc.symm⟩ ⟨c',hc'.symm⟩ hl
  obtain ⟨d,hd⟩:=this
  have:=(cY h.okF).2 ⟨h.okT,d,hd.symm⟩
  rw [h.out] at this;cases this
 ·have:nmP T <+: nmP F:=List.prefix_of_prefix_length_le ⟨c',hc'.symm⟩ ⟨c,hc.symm⟩ hl
  obtain ⟨d,hd⟩:=this
  have:=(cY h.okT).2 ⟨h.okF,d,hd.symm⟩
  have:=h.notT this
  obtain ⟨f,hf⟩:=h.isF
  rw [hf] at this;cases this
theorem oQ {c:List (List UInt8)} {p:List UInt8} (hF:okP F=true) (hT:okP T=true) (hF0:F≠[47]) (hT0:T≠[47]) (hp:okP p=true) (hc:nmP p=nmP F++c):mvP F T p=pth (nmP T++c)/\p=pth (nmP F++c):=by
 have e:=(bJ hp).2.1
 rw [hc] at e
 refine ⟨?_,e⟩
 unfold mvP
 have hf:=(bJ hF).2.1
 have ht:=(bJ hT).2.1
 have hd:p.drop F.length=rst c:=by
  rw [e]
  have:=aNh (fN hF hF0) c
  rwa [<- hf] at this
 rw [hd,oZ (fN hT hT0),<- ht]
theorem mF (hF:okP F=true) (hT:okP T=true) (hF0:F≠[47]) (hT0:T≠[47]) {p:List UInt8} (hp:aK F p=true) (hl:(mvP F T p).length<=24):aK T (mvP F T p)=true/\mvP T F (mvP F T p)=p:=by
 obtain ⟨hk,c,hc⟩:=(cY hF).1 hp
 obtain ⟨h1,h2⟩:=oQ hF hT hF0 hT0 hk hc
 have hnp:NP (nmP T++c):=fun x hx=>by
  rcases List.mem_append.1 hx with hx | hx
  ·exact (bJ hT).1 x hx
  ·exact (bJ hk).1 x (by rw [hc];exact List.mem_append_right _ hx)
 rw [h1] at hl ⊢
 have hn:=sJ hnp hl
 have hk2:=zA hnp hl
 refine ⟨(cY hT).2 ⟨hk2,c,hn⟩,?_⟩
 rw [(oQ hT hF hT0 hF0 hk2 hn).1,<- h2]
open Classical in
noncomputable def rnF (s:FS) (F T:List UInt8):FS:=fun q=>if aK F q=true then none else if aK T q=true then s (mvP T F q) else s q
def badR (s:FS) (F T:List UInt8):Prop:=∃ p f,s p=some f/\aK F p=true/\24<(mvP F T p).length
theorem aAk {β σ ρ:Type} {f:σ->β->Option (σ ⊕ ρ)} (bad:β->Bool) (r:ρ) (g:σ->β->σ):∀ (l:List β) (s:σ),(∀ x∈l,∀ s,f s x=some (if bad x=true then .inr r else .inl (g s x)))->bW f s l=some (if l.any bad=true then .inr r else .inl (l.foldl g s))
 | [],_,_=>rfl
 | x::l,s,h=>by
  show (f s x).bind _=_
  rw [h x List.mem_cons_self]
  by_cases hb:bad x=true
  ·rw [if_pos hb];simp [hb]
  ·rw [if_neg hb]
   simp only [obS]
   rw [aAk bad r g l _ fun y hy=>h y (List.mem_cons_of_mem _ hy)]
   simp [hb]
theorem aF1 (hap:∀ {q:List UInt8},aK F q=true->aK T q=true->False):∀ (l:List (List UInt8×List UInt8)) (u:FS),(l.map (·.1)).Nodup->(∀ x∈l,aK F x.1=true/\aK T x.2=true/\mvP T F x.2=x.1) ->
  ∀ q,(l.foldl (fun (u:FS) x=>bZ x.1 (aI x.2 ((u x.1).getD (false,[])) u)) u) q=if q∈l.map (·.1) then none else if (mvP T F q,q)∈l then some ((u (mvP T F q)).getD (false,[])) else u q
 | [],u,_,_,q=>by simp
 | (p,t)::l,u,hn,hx,q=>by
  simp only [List.map_cons,List.nodup_cons] at hn
  have hx':=fun x hx'=>hx x (List.mem_cons_of_mem _ hx')
  obtain ⟨g1,g2,g3⟩:=hx (p,t) List.mem_cons_self
  simp only at g1 g2 g3
  rw [List.foldl_cons,aF1 hap l _ hn.2 hx' q]
  by_cases h1:q∈l.map (·.1)
  ·rw [if_pos h1,if_pos (show q∈((p,t)::l).map (·.1) from List.mem_cons_of_mem _ h1)]
  ·rw [if_neg h1]
   by_cases h2:(mvP T F q,q)∈l
   ·obtain ⟨k1,k2,k3⟩:=hx' _ h2
    simp only at k1 k2
    have hqp:q≠p:=fun e=>hap g1 (by rw [<- e];exact k2)
    rw [if_pos h2,if_neg (show ¬ q∈((p,t)::l).map (·.1) from fun hm=>(List.mem_cons.1 hm).elim hqp h1),if_pos (show (mvP T F q,q)∈(p,t)::l from List.mem_cons_of_mem _ h2)]
    have e1:mvP T F q≠p:=fun e=>hn.1 (List.mem_map.2 ⟨_,h2,e⟩)
    have e2:mvP T F q≠t:=fun e=>hap k1 (by rw [e];exact g2)
    simp [bZ,aI,e1,e2]
   ·rw [if_neg h2]
    by_cases e:q=p
    ·rw [if_pos (show q∈((p,t)::l).map (·.1) from by rw [e];exact List.mem_cons_self)]
     simp [bZ,e]
    ·rw [if_neg (show ¬ q∈((p,t)::l).map (·.1) from fun hm=>(List.mem_cons.1 hm).elim e h1)]
     by_cases e2:q=t
     ·have e3:mvP T F q=p:=by rw [e2];exact g3
      rw [if_pos (show (mvP T F q,q)∈(p,t)::l from by rw [e3,e2];exact List.mem_cons_self),e3]
      simp [bZ,aI,e2,show ¬ t=p from fun e'=>e (e2.trans e')]
     ·rw [if_neg (fun hm=>by
       rcases List.mem_cons.1 hm with hm | hm
       ·injection hm with _ hm;exact e2 hm
       ·exact h2 hm)]
      simp [bZ,aI,e,e2]
end
open Classical in
noncomputable def rn (s:FS) (F T:List UInt8):Int×FS :=
 if okP F=true then (if okP T=true then (if (lk s F).2=0 then (if F=[47] then (96,s) else if aK F T=true then (96,s) else if rm s T=0 then (if badR s F T then (90,s) else (0,rnF s F T)) else (rm s T,s)) else ((lk s F).2,s)) else (90,s)) else (90,s)
theorem xF {s:FS} (hs:Snd s) {F T:List UInt8} (h1:okP F=true) (h2:(lk s F).2=0) (h3:F≠[47]) (h4:aK F T=false) (h5:rm s T=0):Ren s F T:=by
 obtain ⟨_,f,hf,_⟩:=mK h2
 obtain ⟨a,b,c,d⟩:=lH h5
 exact ⟨hs,h1,a,h3,b,h4,c,d,f,hf⟩
noncomputable def rnM (s:FS) (F T:List UInt8):CS:=fun p=>if (s p).isSome=true/\aK F p=true then some (mvP F T p) else none
noncomputable def rnG (s:FS) (F T:List UInt8):FS:=fun q=>if (rnM s F T q).isSome=true then none else if rnM s F T (mvP T F q)=some q then some ((s (mvP T F q)).getD (false,[])) else s q
open Classical in
noncomputable def rnW (s:FS) (F T:List UInt8):Int×FS :=
 if okP F=true then (if okP T=true then (if (lk s F).2=0 then (if F=[47] then (96,s) else if aK F T=true then (96,s) else if rm s T=0 then (if badR s F T then (90,s) else (0,rnG s F T)) else (rm s T,s)) else ((lk s F).2,s)) else (90,s)) else (90,s)
theorem lk_up {s:FS} {p:List UInt8} (h:(lk s p).2=0):∀ i,i<(nmP p).length->s (pth ((nmP p).take i))≠none:=by
 intro i hi e
 unfold lk at h
 have hk:=(mK (s:=s) (p:=p) (by unfold lk;exact h)).1
 rw [if_pos hk] at h
 cases hf:(cS p).findSome? (ag s) with
 | some e =>
  rw [hf] at h
  simp only at h
  subst h
  obtain ⟨a,_,ha⟩:=List.exists_of_findSome?_eq_some hf
  unfold ag at ha
  split at ha
  ·cases ha
  ·split at ha<;>cases ha
 | none =>
  have:=List.findSome?_eq_none_iff.1 hf (pth ((nmP p).take i)) (List.mem_map.2 ⟨i,List.mem_range.2 hi,rfl⟩)
  unfold ag at this
  rw [e] at this
  cases this
theorem aMd {s:FS} {F T q:List UInt8} (hF:okP F=true) (h3:(lk s F).2=0) (hout:aK F T=false) (h6:rm s T=0) (h1:aK F q=true) (h2:aK T q=true):False:=by
 obtain ⟨hT,neT,_,noT⟩:=lH h6
 obtain ⟨hk,c,hc⟩:=(cY hF).1 h1
 obtain ⟨_,c',hc'⟩:=(cY hT).1 h2
 rcases Nat.le_total (nmP F).length (nmP T).length with hl | hl
 ·have:nmP F <+: nmP T:=List.prefix_of_prefix_length_le ⟨c,hc.symm⟩ ⟨c',hc'.symm⟩ hl
  obtain ⟨d,hd⟩:=this
  have:=(cY hF).2 ⟨hT,d,hd.symm⟩
  rw [hout] at this;cases this
 ·have:nmP T <+: nmP F:=List.prefix_of_prefix_length_le ⟨c',hc'.symm⟩ ⟨c,hc.symm⟩ hl
  have e:nmP T=(nmP F).take (nmP T).length:=List.prefix_iff_eq_take.1 this
  by_cases hlt:(nmP T).length<(nmP F).length
  ·have:=lk_up h3 _ hlt
   rw [<- e,<- (bJ hT).2.1] at this
   exact this noT
  ·rw [List.take_of_length_le (by omega)] at e
   have e2:T=F:=by rw [(bJ hT).2.1,(bJ hF).2.1,e]
   obtain ⟨_,f,hf,_⟩:=mK h3
   rw [e2,hf] at noT
   cases noT
theorem aG9 {s:FS} (hks:∀ p f,s p=some f->p.length<=1500000000) {n:Nat} (hc:Crd s n) (o:Opr) (hF:o.2.1.length<=1100000000) (hT:o.2.2.1.length<=1100000000):lO s o=some (rnW s o.2.1 o.2.2.1):=by
 obtain ⟨k,F,T,r⟩:=o
 simp only at hF hT
 unfold lO rnW
 simp only
 rw [oB F (by omega),oB T (by omega)]
 simp only [obS]
 by_cases h1:okP F=true
 ·rw [if_pos h1,if_pos rfl,if_pos h1]
  by_cases h2:okP T=true
  ·rw [if_pos h2,if_pos rfl,if_pos h2,look_eq _ _ (by omega)]
   simp only [obS]
   by_cases h3:(lk s F).2=0
   ·rw [if_pos h3,if_pos h3]
    by_cases h4:F=[47]
    ·rw [if_pos h4,if_pos h4]
    ·rw [if_neg h4,if_neg h4,aBb _ _ (by omega) (by omega)]
     simp only [obS]
     by_cases h5:aK F T=true
     ·rw [if_pos h5,if_pos h5]
     ·rw [if_neg h5,if_neg h5,uR _ _ (by omega)]
      simp only [obS]
      by_cases h6:rm s T=0
      ·rw [if_pos h6,if_pos h6]
       obtain ⟨_,neT,_,_⟩:=lH h6
       have hap:∀ {q:List UInt8},aK F q=true->aK T q=true->False:=fun {q}=>aMd h1 h3 (by simpa using h5) h6
       obtain ⟨l,hE,hl⟩:=hc
       refine mP hE fun l' hE'=>?_
       have hkl:∀ x∈l',x.1.length<=1500000000:=fun x hx=>hks _ _ ((bC hE').1 hx)
       have hF24:=(bJ h1).2.2
       have hT24:=(bJ h2).2.2
       rw [aAk (fun x:Ent=>aK F x.1&&decide (24<(mvP F T x.1).length)) ((90,s):Int×FS) (fun (m:CS) x=>if aK F x.1=true then aI x.1 (mvP F T x.1) m else m) l' bG fun x hx m=>?_]
       ·simp only [obS]
        have hb:(l'.any fun x:Ent=>aK F x.1&&decide (24<(mvP F T x.1).length))=true↔badR s F T:=by
         rw [List.any_eq_true]
         constructor
         ·rintro ⟨⟨p,f⟩,hx,hb⟩
          simp only [Bool.and_eq_true,decide_eq_true_eq] at hb
          exact ⟨p,f,(bC hE').1 hx,hb.1,hb.2⟩
         ·rintro ⟨p,f,hp,a,b⟩
          exact ⟨(p,f),(bC hE').2 hp,by simp [a,b]⟩
        by_cases hbad:badR s F T
        ·rw [if_pos (hb.2 hbad),if_pos hbad];rfl
        ·rw [if_neg (fun h=>hbad (hb.1 h)),if_neg hbad]
         simp only [Sum.elim_inl]
         have hmov:∀ p,(l'.foldl (fun (m:CS) x=>if aK F x.1=true then aI x.1 (mvP F T x.1) m else m) bG) p=if (s p).isSome=true/\aK F p=true then some (mvP F T p) else none:=by
          intro p
          have key:∀ (l':List Ent) (m:CS),(l'.foldl (fun (m:CS) x=>if aK F x.1=true then aI x.1 (mvP F T x.1) m else m) m) p=if p∈l'.map (·.1)/\aK F p=true then some (mvP F T p) else m p:=by
           intro l'
           induction l' with
           | nil=>intro m;simp
           | cons x l' ih =>
            intro m
            rw [List.foldl_cons,ih]
            by_cases hw:aK F p=true
            ·by_cases hi:p∈l'.map (·.1)
             ·rw [if_pos ⟨hi,hw⟩,if_pos (show p∈(x::l').map (·.1)/\aK F p=true from ⟨List.mem_cons_of_mem _ hi,hw⟩)]
             ·rw [if_neg (show ¬ (p∈l'.map (·.1)/\aK F p=true) from fun h=>hi h.1)]
              by_cases e:p=x.1
              ·have hw':aK F x.1=true:=by rw [<- e];exact hw
               rw [if_pos hw',if_pos (show p∈(x::l').map (·.1)/\aK F p=true from ⟨by rw [e];exact List.mem_cons_self,hw⟩),e]
               simp [aI]
              ·rw [if_neg (show ¬ (p∈(x::l').map (·.1)/\aK F p=true) from fun h=>(List.mem_cons.1 h.1).elim e hi)]
               split
               ·simp [aI,e]
               ·rfl
            ·rw [if_neg (show ¬ (p∈l'.map (·.1)/\aK F p=true) from fun h=>hw h.2),if_neg (show ¬ (p∈(x::l').map (·.1)/\aK F p=true) from fun h=>hw h.2)]
             split
             ·rename_i hx
              have e:¬ p=x.1:=fun e=>hw (by rw [e];exact hx)
              simp [aI,e]
             ·rfl
          rw [key]
          have:p∈l'.map (·.1)↔(s p).isSome=true:=by rw [hE'.2 p];exact (iP p l').symm
          simp only [this,bG]
         generalize hM:l'.foldl (fun (m:CS) x=>if aK F x.1=true then aI x.1 (mvP F T x.1) m else m) bG=M at hmov
         have hfin:∃ kv,Enum M kv/\kv.map (·.1)=(l'.map (·.1)).filter (aK F):=by
          refine aGm (m:=M) _ M (hE'.1.filter _) fun q=>?_
          rw [hmov q,List.mem_filter]
          have:q∈l'.map (·.1)↔(s q).isSome=true:=by rw [hE'.2 q];exact (iP q l').symm
          rw [this]
          split
          ·rename_i hh;simp [hh]
          ·rename_i hh;simp only [Option.isSome_none,Bool.false_eq_true,iff_false];exact hh
         obtain ⟨kv,hkv,_⟩:=hfin
         rw [mP hkv (r:=rnG s F T) fun kv' hkv'=>?_]
         ·rfl
         ·rw [wN (fun (u:FS) (x:List UInt8×List UInt8)=>bZ x.1 (aI x.2 ((u x.1).getD (false,[])) u)) kv' s fun x _ u=>rfl]
          simp only [obS,Sum.elim_inl]
          congr 1
          funext q
          have hmem:∀ x∈kv',(s x.1).isSome=true/\aK F x.1=true/\x.2=mvP F T x.1:=fun x hx=>by
           have h7:=(bC hkv').1 hx
           rw [hmov] at h7
           split at h7
           ·rename_i hh;exact ⟨hh.1,hh.2,(Option.some.inj h7).symm⟩
           ·cases h7
          have hle:∀ p,(s p).isSome=true->aK F p=true->(mvP F T p).length<=24:=fun p hp hw=>by
           obtain ⟨f,hf⟩:=Option.isSome_iff_exists.1 hp
           by_cases h24:(mvP F T p).length<=24
           ·exact h24
           ·exact absurd ⟨p,f,hf,hw,by omega⟩ hbad
          rw [aF1 hap kv' s hkv'.1 (fun x hx=>by
           obtain ⟨a,b,c⟩:=hmem x hx
           have:=mF h1 h2 h4 neT b (hle _ a b)
           exact ⟨b,by rw [c];exact this.1,by rw [c];exact this.2⟩) q]
          unfold rnG
          have hM2:∀ p,rnM s F T p=M p:=fun p=>by rw [hmov p];rfl
          rw [hM2 q,hM2 (mvP T F q)]
          have e1:q∈kv'.map (·.1)↔(M q).isSome=true:=by rw [<- iP q kv',<- hkv'.2 q]
          have e2:(mvP T F q,q)∈kv'↔M (mvP T F q)=some q:=bC hkv'
          by_cases hi:q∈kv'.map (·.1)
          ·rw [if_pos hi,if_pos (e1.1 hi)]
          ·rw [if_neg hi,if_neg (fun h=>hi (e1.2 h))]
           by_cases hm:(mvP T F q,q)∈kv'
           ·rw [if_pos hm,if_pos (e2.1 hm)]
           ·rw [if_neg hm,if_neg (fun h=>hm (e2.2 h))]
       ·have hx24:=hkl x hx
        rw [aBb _ _ (by omega) (by omega)]
        simp only [obS]
        by_cases hw:aK F x.1=true
        ·obtain ⟨_,c,hc⟩:=(cY h1).1 hw
         have hFl:F.length<=x.1.length:=by
          obtain ⟨_,e⟩:=oQ h1 h2 h4 neT (kY hw).2 hc
          rw [oZ (fN h1 h4),<- (bJ h1).2.1] at e
          rw [e,List.length_append];omega
         rw [if_pos hw,cD hFl (Nat.le_refl _),List.take_length]
         simp only [obS]
         rw [cR (by simp;omega)]
         simp only [obS]
         have e:(aI x.1 (T++List.drop F.length x.1) m x.1).getD []=mvP F T x.1:=by simp [aI,mvP]
         rw [e,hw]
         by_cases h24:24<((mvP F T x.1).length:Int)
         ·rw [if_pos h24,if_pos (by simp;omega)];rfl
         ·rw [if_neg h24,if_neg (by simp;omega),if_pos rfl];rfl
        ·rw [if_neg hw]
         have hw':aK F x.1=false:=by simpa using hw
         rw [hw'];rfl
      ·rw [if_neg h6,if_neg h6]
   ·rw [if_neg h3,if_neg h3]
  ·rw [if_neg h2,if_neg (by omega),if_neg h2]
 ·rw [if_neg h1,if_neg (by omega),if_neg h1]
theorem aI0 {s:FS} {F T:List UInt8} (hR:Ren s F T) (hbad:¬ badR s F T):rnG s F T=rnF s F T:=by
 have hle:∀ p,(s p).isSome=true->aK F p=true->(mvP F T p).length<=24:=fun p hp hw=>by
  obtain ⟨f,hf⟩:=Option.isSome_iff_exists.1 hp
  by_cases h24:(mvP F T p).length<=24
  ·exact h24
  ·exact absurd ⟨p,f,hf,hw,by omega⟩ hbad
 funext q
 unfold rnG rnF rnM
 by_cases hq:aK F q=true
 ·rw [if_pos hq]
  cases hs':s q with
  | some f=>rw [if_pos (by rw [if_pos ⟨rfl,hq⟩];rfl)]
  | none =>
   rw [if_neg (by simp),if_neg]
   intro h7
   split at h7
   ·rename_i h8
    have:=mF hR.okF hR.okT hR.neF hR.neT h8.2 (hle _ h8.1 h8.2)
    rw [Option.some.inj h7] at this
    exact hR.apart hq this.1
   ·cases h7
 ·rw [if_neg hq,if_neg (by rw [if_neg (fun h=>hq h.2)];simp)]
  by_cases ht:aK T q=true
  ·rw [if_pos ht]
   cases hs':s (mvP T F q) with
   | none =>
    rw [if_neg (by simp)]
    exact hR.notT ht
   | some f =>
    have hl2:=(bJ (hR.snd.ok _ _ hs')).2.2
    have:=mF hR.okT hR.okF hR.neT hR.neF ht hl2
    rw [if_pos (by rw [if_pos ⟨rfl,this.1⟩,this.2])]
    rfl
  ·rw [if_neg ht,if_neg]
   intro h7
   split at h7
   ·rename_i h8
    have:=mF hR.okF hR.okT hR.neF hR.neT h8.2 (hle _ h8.1 h8.2)
    rw [Option.some.inj h7] at this
    exact ht this.1
   ·cases h7
theorem aN8 {s:FS} (hs:Snd s) {n:Nat} (hc:Crd s n) (o:Opr) (hF:o.2.1.length<=1100000000) (hT:o.2.2.1.length<=1100000000):lO s o=some (rn s o.2.1 o.2.2.1):=by
 rw [aG9 (fun p f h=>by have:=(bJ (hs.ok p f h)).2.2;omega) hc o hF hT]
 congr 1
 obtain ⟨k,F,T,r⟩:=o
 simp only
 unfold rnW rn
 by_cases h1:okP F=true
 ·rw [if_pos h1,if_pos h1]
  by_cases h2:okP T=true
  ·rw [if_pos h2,if_pos h2]
   by_cases h3:(lk s F).2=0
   ·rw [if_pos h3,if_pos h3]
    by_cases h4:F=[47]
    ·rw [if_pos h4,if_pos h4]
    ·rw [if_neg h4,if_neg h4]
     by_cases h5:aK F T=true
     ·rw [if_pos h5,if_pos h5]
     ·rw [if_neg h5,if_neg h5]
      by_cases h6:rm s T=0
      ·rw [if_pos h6,if_pos h6]
       by_cases hb:badR s F T
       ·rw [if_pos hb,if_pos hb]
       ·rw [if_neg hb,if_neg hb,aI0 (xF hs h1 h3 h4 (by simpa using h5) h6) hb]
      ·rw [if_neg h6,if_neg h6]
   ·rw [if_neg h3,if_neg h3]
  ·rw [if_neg h2,if_neg h2]
 ·rw [if_neg h1,if_neg h1]
theorem sH {s:FS} (hs:Snd s) {l:List Ent} (hE:Enum s l) (hl:l.length<=1000000):bK s=cH l:=by
 have hk:=hs.ent hE
 unfold bK
 rw [aGt hE hl fun x hx=>⟨by have:=(bJ (hk.ok x hx)).2.2;omega,hk.len x hx⟩];rfl
theorem aOn (l:List Ent):(cH l).length=(l.flatMap bM).length:=by
 unfold cH eW;exact (List.mergeSort_perm _ leP).length_eq
theorem vY {β:Type} {l:List (List UInt8×β)} {k:List UInt8} (h:k ∉ l.map (·.1)):l.filter (fun x=>x.1≠k)=l:=by
 rw [List.filter_eq_self]
 intro x hx
 simp only [decide_eq_true_eq]
 exact fun e=>h (List.mem_map.2 ⟨x,hx,e⟩)
theorem aL7 {β:Type} {l:List (List UInt8×β)} {k:List UInt8} (h:k∈l.map (·.1)):(l.filter fun x=>x.1≠k).length+1<=l.length:=by
 induction l with
 | nil=>simp at h
 | cons x l ih =>
  rw [List.filter_cons]
  by_cases e:x.1=k
  ·simp only [e,ne_eq,not_true,decide_false,Bool.false_eq_true,if_false,List.length_cons]
   have:=List.length_filter_le (fun x:List UInt8×β=>decide (x.1≠k)) l
   simp only [ne_eq] at this
   omega
  ·have:k∈l.map (·.1):=by
    rcases List.mem_cons.1 h with h | h
    ·exact absurd h.symm e
    ·exact h
   have:=ih this
   simp only [ne_eq,e,not_false_eq_true,decide_true,if_true,List.length_cons] at this ⊢
   omega
theorem yH {β:Type} {m:List UInt8->Option β} {l:List (List UInt8×β)} (h:Enum m l) (k:List UInt8):k∈l.map (·.1)↔(m k).isSome=true:=by
 rw [h.2 k];exact (iP k l).symm
theorem Crd.upd {β:Type} {m:List UInt8->Option β} {n:Nat} (h:Crd m n) {k:List UInt8} (hk:(m k).isSome=true) (v:β):Crd (aI k v m) n:=by
 obtain ⟨l,h1,h2⟩:=h
 refine ⟨_,sO h1 k v,?_⟩
 have:=aL7 ((yH h1 k).2 hk)
 simp only [List.length_cons]
 omega
theorem eC {β:Type} {k q:List UInt8} {v:β} {m:List UInt8->Option β} (h:q≠k):aI k v m q=m q:=by unfold aI;rw [if_neg h]
theorem mQ {β:Type} {k:List UInt8} {v:β} {m:List UInt8->Option β}:aI k v m k=some v:=by unfold aI;rw [if_pos rfl]
theorem aPx {q:List UInt8} (h:okP q=true) (hr:q≠[47]):par q≠q:=fun e=>by
 obtain ⟨h1,h2,_⟩:=kQ h hr
 have h3:=congrArg List.length h1
 rw [e,List.length_dropLast] at h3
 have:=List.length_pos_iff.2 (fN h hr)
 omega
theorem Snd.create {s:FS} (hs:Snd s) {p:List UInt8} (h:rm s p=0) (b:Bool):Snd (aI p (b,[]) s):=by
 obtain ⟨h1,h2,⟨d,h3⟩,h4⟩:=lH h
 obtain ⟨dr,hr⟩:=hs.root
 refine ⟨⟨dr,by rw [eC (Ne.symm h2)];exact hr⟩,fun q f hq=>?_,fun q f hq=>?_,fun q f hq=>?_,fun q f hq hn=>?_⟩
 ·by_cases e:q=p
  ·rw [e];exact h1
  ·rw [eC e] at hq;exact hs.ok q f hq
 ·by_cases e:q=p
  ·rw [e,mQ] at hq;cases hq;simp
  ·rw [eC e] at hq;exact hs.len q f hq
 ·by_cases e:q=p
  ·rw [e,mQ] at hq;cases hq;rfl
  ·rw [eC e] at hq;exact hs.dir q f hq
 ·by_cases e:q=p
  ·rw [e,eC (aPx h1 h2)];exact ⟨d,h3⟩
  ·rw [eC e] at hq
   obtain ⟨d',hd'⟩:=hs.up q f hq hn
   exact ⟨d',by rw [eC (fun e2=>by rw [e2,h4] at hd';cases hd')];exact hd'⟩
theorem Snd.write {s:FS} (hs:Snd s) {p d:List UInt8} (h:s p=some (false,d)) {d':List UInt8} (hd:d'.length<=192):Snd (aI p (false,d') s):=by
 obtain ⟨dr,hr⟩:=hs.root
 refine ⟨⟨dr,by rw [eC (fun e=>by rw [e,h] at hr;cases hr)];exact hr⟩,fun q f hq=>?_,fun q f hq=>?_,fun q f hq=>?_,fun q f hq hn=>?_⟩
 ·by_cases e:q=p
  ·rw [e];exact hs.ok _ _ h
  ·rw [eC e] at hq;exact hs.ok q f hq
 ·by_cases e:q=p
  ·rw [e,mQ] at hq;cases hq;exact hd
  ·rw [eC e] at hq;exact hs.len q f hq
 ·by_cases e:q=p
  ·rw [e,mQ] at hq;cases hq
  ·rw [eC e] at hq;exact hs.dir q f hq
 ·have hup:∃ d,s (par q)=some (true,d):=by
   by_cases e:q=p
   ·subst e;exact hs.up _ _ h hn
   ·rw [eC e] at hq;exact hs.up q f hq hn
  obtain ⟨d',hd'⟩:=hup
  exact ⟨d',by rw [eC (fun e2=>by rw [e2,h] at hd';cases hd')];exact hd'⟩
theorem Snd.remove {s:FS} (hs:Snd s) {p:List UInt8} (hr:p≠[47]) (h:∀ q f,s q=some f->q≠[47]->par q≠p):Snd (bZ p s):=by
 obtain ⟨dr,hroot⟩:=hs.root
 have hd:∀ q f,bZ p s q=some f->q≠p/\s q=some f:=fun q f hq=>by
  unfold bZ at hq
  split at hq
  ·cases hq
  ·rename_i e;exact ⟨e,hq⟩
 have hk:∀ q,q≠p->bZ p s q=s q:=fun q e=>by unfold bZ;rw [if_neg e]
 exact ⟨⟨dr,by rw [hk _ (Ne.symm hr)];exact hroot⟩,fun q f hq=>hs.ok q f (hd q f hq).2,fun q f hq=>hs.len q f (hd q f hq).2,fun q f hq=>hs.dir q f (hd q _ hq).2,fun q f hq hn=>by
  obtain ⟨d',hd'⟩:=hs.up q f (hd q f hq).2 hn
  exact ⟨d',by rw [hk _ (h q f (hd q f hq).2 hn)];exact hd'⟩⟩
theorem aHp {p q:List UInt8} (hq:okP q=true) (hr:q≠[47]) (h:aK p (par q)=true):aK p q=true:=by
 have hp:=(kY h).1
 obtain ⟨_,c,hc⟩:=(cY hp).1 h
 obtain ⟨h1,h2,_⟩:=kQ hq hr
 exact (cY hp).2 ⟨hq,c++[bas q],by rw [h2,<- h1,hc,List.append_assoc]⟩
section
variable {s:FS} {F T:List UInt8}
def ren (F T p:List UInt8):List UInt8:=if aK F p=true then mvP F T p else p
theorem Ren.back (h:Ren s F T) (hb:¬ badR s F T) {p:List UInt8} {f:Bool×List UInt8} (hp:s p=some f):rnF s F T (ren F T p)=some f/\(aK F p=true->aK T (mvP F T p)=true/\mvP T F (mvP F T p)=p):=by
 by_cases hw:aK F p=true
 ·have hl:(mvP F T p).length<=24:=by
   by_cases h24:(mvP F T p).length<=24
   ·exact h24
   ·exact absurd ⟨p,f,hp,hw,by omega⟩ hb
  have:=mF h.okF h.okT h.neF h.neT hw hl
  refine ⟨?_,fun _=>this⟩
  unfold ren rnF
  rw [if_pos hw,if_neg (fun hh=>h.apart hh this.1),if_pos this.1,this.2];exact hp
 ·refine ⟨?_,fun hh=>absurd hh hw⟩
  unfold ren rnF
  rw [if_neg hw,if_neg hw,if_neg (fun hh=>by rw [h.notT hh] at hp;cases hp)];exact hp
theorem Ren.from (h:Ren s F T) {q:List UInt8} {f:Bool×List UInt8} (hq:rnF s F T q=some f):aK F q=false/\((aK T q=true/\s (mvP T F q)=some f/\aK F (mvP T F q)=true/\mvP F T (mvP T F q)=q)\/(aK T q=false/\s q=some f)):=by
 unfold rnF at hq
 split at hq
 ·cases hq
 ·rename_i h1
  refine ⟨by simpa using h1,?_⟩
  split at hq
  ·rename_i h2
   have hl:=(bJ (h.snd.ok _ _ hq)).2.2
   have:=mF h.okT h.okF h.neT h.neF h2 hl
   exact .inl ⟨h2,hq,this.1,this.2⟩
  ·rename_i h2;exact .inr ⟨by simpa using h2,hq⟩
theorem Ren.enum (h:Ren s F T) (hb:¬ badR s F T) {l:List Ent} (hE:Enum s l):Enum (rnF s F T) (l.map fun x=>(ren F T x.1,x.2)):=by
 have hnd:((l.map fun x:Ent=>(ren F T x.1,x.2)).map (·.1)).Nodup:=by
  rw [List.map_map,List.nodup_iff_pairwise_ne,List.pairwise_map]
  have hn:=hE.1
  rw [List.nodup_iff_pairwise_ne,List.pairwise_map] at hn
  refine hn.imp_of_mem fun {a b} ha hb' hne e=>hne ?_
  replace e:ren F T a.1=ren F T b.1:=e
  have ha':=(bC hE).1 (show (a.1,a.2)∈l from ha)
  have hb'':=(bC hE).1 (show (b.1,b.2)∈l from hb')
  have ka:=(h.back hb ha').2
  have kb:=(h.back hb hb'').2
  unfold ren at e
  by_cases h1:aK F a.1=true
  ·by_cases h2:aK F b.1=true
   ·rw [if_pos h1,if_pos h2] at e
    rw [<- (ka h1).2,e,(kb h2).2]
   ·rw [if_pos h1,if_neg h2] at e
    have:=h.notT (ka h1).1
    rw [e,hb''] at this;cases this
  ·by_cases h2:aK F b.1=true
   ·rw [if_neg h1,if_pos h2] at e
    have:=h.notT (kb h2).1
    rw [<- e,ha'] at this;cases this
   ·rwa [if_neg h1,if_neg h2] at e
 refine ⟨hnd,fun q=>?_⟩
 cases hq:rnF s F T q with
 | some f =>
  symm
  refine cO hnd ?_
  obtain ⟨h1,⟨h2,h3,h4,h5⟩ | ⟨h2,h3⟩⟩:=h.from hq
  ·exact List.mem_map.2 ⟨_,(bC hE).2 h3,by simp only [ren,if_pos h4,h5]⟩
  ·exact List.mem_map.2 ⟨_,(bC hE).2 h3,by simp [ren,h1]⟩
 | none =>
  symm
  refine gN fun hm=>?_
  rw [List.map_map] at hm
  obtain ⟨x,hx,hj⟩:=List.mem_map.1 hm
  replace hj:ren F T x.1=q:=hj
  have:=(h.back hb ((bC hE).1 (show (x.1,x.2)∈l from hx))).1
  rw [hj,hq] at this;cases this
theorem Ren.sound (h:Ren s F T) (hb:¬ badR s F T):Snd (rnF s F T):=by
 have hs:=h.snd
 have hroot:∀ {p:List UInt8},okP p=true->p≠[47]->aK p [47]=false:=fun {p} hk hn=>by
  cases hw:aK p [47] with
  | false=>rfl
  | true =>
   obtain ⟨_,c,hc⟩:=(cY hk).1 hw
   rw [uI] at hc
   have:=congrArg List.length hc
   have h0:=List.length_pos_iff.2 (fN hk hn)
   rw [List.length_nil,List.length_append] at this
   omega
 refine ⟨?_,fun q f hq=>?_,fun q f hq=>?_,fun q d hq=>?_,fun q f hq hn=>?_⟩
 ·obtain ⟨d,hd⟩:=hs.root
  refine ⟨d,?_⟩
  unfold rnF
  rw [if_neg (by rw [hroot h.okF h.neF];decide),if_neg (by rw [hroot h.okT h.neT];decide)]
  exact hd
 ·obtain ⟨h1,⟨h2,_⟩ | ⟨h2,h3⟩⟩:=h.from hq
  ·exact (kY h2).2
  ·exact hs.ok _ _ h3
 ·obtain ⟨h1,⟨h2,h3,_⟩ | ⟨h2,h3⟩⟩:=h.from hq
  ·exact hs.len _ _ h3
  ·exact hs.len _ _ h3
 ·obtain ⟨h1,⟨h2,h3,_⟩ | ⟨h2,h3⟩⟩:=h.from hq
  ·exact hs.dir _ _ h3
  ·exact hs.dir _ _ h3
 ·obtain ⟨h1,⟨h2,h3,h4,h5⟩ | ⟨h2,h3⟩⟩:=h.from hq
  ·have hk:=(kY h2).2
   obtain ⟨_,c,hc⟩:=(cY h.okT).1 h2
   obtain ⟨n1,n2,n3⟩:=kQ hk hn
   by_cases hcn:c=[]
   ·have e:q=T:=by rw [(bJ hk).2.1,(bJ h.okT).2.1,hc,hcn,List.append_nil]
    subst e
    obtain ⟨d,hd⟩:=h.up
    refine ⟨d,?_⟩
    unfold rnF
    rw [if_neg (fun hw=>by rw [aHp hk hn hw] at h1;cases h1),if_neg (fun hw=>by rw [h.notT hw] at hd;cases hd)]
    exact hd
   ·have hcl:c=c.dropLast++[bas q]:=by
     have e2:nmP q=nmP T++c.dropLast++[c.getLast hcn]:=by
      rw [hc]
      conv=>lhs;rw [<- List.dropLast_concat_getLast hcn]
      rw [List.append_assoc]
     have e3:bas q=c.getLast hcn:=by
      unfold bas
      rw [e2];simp
     rw [e3,List.dropLast_concat_getLast]
    have hpT:aK T (par q)=true:=(cY h.okT).2 ⟨n3,c.dropLast,by rw [n1,hc,List.dropLast_append_of_ne_nil hcn]⟩
    have hF:=(kY h4).2
    have nF:nmP (mvP T F q)=nmP F++c:=by
     obtain ⟨m1,_⟩:=oQ h.okT h.okF h.neT h.neF hk hc
     rw [m1] at hF ⊢
     refine sJ (fun x hx=>?_) (bJ hF).2.2
     rcases List.mem_append.1 hx with hx | hx
     ·exact (bJ h.okF).1 x hx
     ·exact (bJ hk).1 x (by rw [hc];exact List.mem_append_right _ hx)
    have hFn:mvP T F q≠[47]:=fun e=>by
     rw [e,uI] at nF
     exact hcn (List.append_eq_nil_iff.1 nF.symm).2
    obtain ⟨d,hd⟩:=hs.up _ _ h3 hFn
    refine ⟨d,?_⟩
    have e4:mvP T F (par q)=par (mvP T F q):=by
     have g1:=kQ hF hFn
     obtain ⟨m1,_⟩:=oQ h.okT h.okF h.neT h.neF n3 (show nmP (par q)=nmP T++c.dropLast by rw [n1,hc,List.dropLast_append_of_ne_nil hcn])
     rw [m1]
     unfold par
     rw [if_neg (by rw [nF];intro e;exact hcn (List.append_eq_nil_iff.1 e).2),nF,List.dropLast_append_of_ne_nil hcn]
    unfold rnF
    rw [if_neg (fun hw=>h.apart hw hpT),if_pos hpT,e4]
    exact hd
  ·obtain ⟨d,hd⟩:=hs.up _ _ h3 hn
   refine ⟨d,?_⟩
   have hk:=hs.ok _ _ h3
   unfold rnF
   rw [if_neg (fun hw=>by rw [aHp hk hn hw] at h1;cases h1),if_neg (fun hw=>by rw [h.notT hw] at hd;cases hd)]
   exact hd
end
open Classical in
noncomputable def doP (s:FS) (o:Opr):Ans×FS :=
 if o.1=1\/o.1=2 then ((rm s o.2.1,0,[],[]),if rm s o.2.1=0 then aI o.2.1 (decide (o.1=2),[]) s else s)
 else if o.1=3\/o.1=4 then wr s o
 else if o.1=5 then (rdA s o,s)
 else if o.1=6 then (((rn s o.2.1 o.2.2.1).1,0,[],[]),(rn s o.2.1 o.2.2.1).2)
 else if o.1=7 then (((rv s o.2.1).1,0,[],[]),(rv s o.2.1).2)
 else if o.1=8 then (ls s o,s)
 else if o.1=9 then (stt s o.2.1,s)
 else ((1,0,[],[]),s)
structure eX (o:Opr):Prop where
 p:o.2.1.length<=1100000000
 t:o.2.2.1.length<=1100000000
 d:o.2.2.2.2.2.length<=1100000000
theorem do_eq {s:FS} (hs:Snd s) {n:Nat} (hc:Crd s n) (hn:n<=1000000) (o:Opr) (ho:eX o):sDo s o=some (doP s o):=by
 obtain ⟨hp,ht,hd⟩:=ho
 obtain ⟨k,p,t,off,m,d⟩:=o
 simp only at hp ht hd
 unfold sDo doP
 simp only
 have hlen:=fun q f hq=>Nat.le_trans (hs.len q f hq) (show 192<=100000 by decide)
 have hB:BlB s:=hs.blB hc hn
 by_cases h12:k=1\/k=2
 ·rw [if_pos h12]
  have h1:(if k=1 then (some (decide (k=1))) else some (decide (k=2)))=some true:=by
   rcases h12 with h | h<;>subst h<;>rfl
  rw [h1]
  simp only [obS,if_true]
  rw [uR s p (by omega)]
  simp only [obS]
  by_cases h0:rm s p=0
  ·rw [if_pos h0,if_pos h0];rfl
  ·rw [if_neg h0,if_neg h0];rfl
 ·rw [if_neg h12]
  have h1:(if k=1 then (some (decide (k=1))) else some (decide (k=2)))=some false:=by
   rw [if_neg (fun h=>h12 (.inl h)),decide_eq_false (fun h=>h12 (.inr h))]
  rw [h1]
  simp only [obS,Bool.false_eq_true,if_false]
  by_cases h34:k=3\/k=4
  ·rw [if_pos h34]
   have h1:(if k=3 then (some (decide (k=3))) else some (decide (k=4)))=some true:=by
    rcases h34 with h | h<;>subst h<;>rfl
   rw [h1]
   simp only [obS,if_true]
   rw [aE0 s (k,p,t,off,m,d) h34 (by simp only;omega) (by simp only;omega) hlen]
   rfl
  ·rw [if_neg h34]
   have h1:(if k=3 then (some (decide (k=3))) else some (decide (k=4)))=some false:=by
    rw [if_neg (fun h=>h34 (.inl h)),decide_eq_false (fun h=>h34 (.inr h))]
   rw [h1]
   simp only [obS,Bool.false_eq_true,if_false]
   by_cases h5:k=5
   ·rw [if_pos h5,if_pos h5,aEr s _ (by simp only;omega) hlen];rfl
   ·rw [if_neg h5,if_neg h5]
    by_cases h6:k=6
    ·rw [if_pos h6,if_pos h6,aN8 hs hc _ (by simp only;omega) (by simp only;omega)];rfl
    ·rw [if_neg h6,if_neg h6]
     by_cases h7:k=7
     ·rw [if_pos h7,if_pos h7,aA7 hB p (by omega)];rfl
     ·rw [if_neg h7,if_neg h7]
      by_cases h8:k=8
      ·rw [if_pos h8,if_pos h8,aDq hB _ (by simp only;omega)];rfl
      ·rw [if_neg h8,if_neg h8]
       by_cases h9:k=9
       ·rw [if_pos h9,if_pos h9,aHc hB _ (by omega)];rfl
       ·rw [if_neg h9,if_neg h9];rfl
noncomputable def nx (s:FS) (o:Opr):FS:=if (doP s o).1.1=0 then (doP s o).2 else s
theorem xV (xs:List UInt8) (d:Nat) (src:List UInt8) (h:d+src.length<=xs.length):(putAt xs d src).length=xs.length:=by
 simp [putAt];omega
theorem yS {s:FS} (hs:Snd s) {n:Nat} (hc:Crd s n) (hn:n<=1000000) (o:Opr):Snd (nx s o)/\Crd (nx s o) (n+1):=by
 have h0:Snd s/\Crd s (n+1):=⟨hs,hc.mono (by omega)⟩
 unfold nx
 by_cases hz:(doP s o).1.1=0
 ·rw [if_pos hz]
  unfold doP at hz ⊢
  by_cases h12:o.1=1\/o.1=2
  ·rw [if_pos h12] at hz ⊢
   simp only at hz ⊢
   rw [if_pos hz]
   exact ⟨hs.create hz _,hc.set _ _⟩
  ·rw [if_neg h12] at hz ⊢
   by_cases h34:o.1=3\/o.1=4
   ·rw [if_pos h34] at hz ⊢
    unfold wr at hz ⊢
    by_cases h1:(rg s o.2.1).2=0
    ·rw [if_pos h1] at hz ⊢
     obtain ⟨fd,h2,h3⟩:=lF h1
     have hfl:fd.length<=192:=hs.len _ _ h2
     rw [h3] at hz ⊢
     generalize hm:(if o.1=3 then o.2.2.2.1 else o.2.2.2.2.1)=m at hz ⊢
     by_cases g1:m<0
     ·rw [if_pos g1] at hz;cases hz
     ·rw [if_neg g1] at hz ⊢
      by_cases g2:192<m\/(o.1=3/\192<o.2.2.2.1+(o.2.2.2.2.2.length:Int))
      ·rw [if_pos g2] at hz;cases hz
      ·rw [if_neg g2]
       by_cases h4:o.1=4
       ·rw [if_pos h4]
        rw [if_neg (by omega)] at hm
        refine ⟨hs.write h2 ?_,(hc.upd (by rw [h2];rfl) _).mono (by omega)⟩
        rw [eD]
        have:¬ 192<m:=fun h=>g2 (.inl h)
        omega
       ·rw [if_neg h4]
        have h5:o.1=3:=by omega
        rw [if_pos h5] at hm
        simp only
        split
        ·refine ⟨hs.write h2 ?_,(hc.upd (by rw [h2];rfl) _).mono (by omega)⟩
         have:¬ (192<o.2.2.2.1+(o.2.2.2.2.2.length:Int)):=fun h=>g2 (.inr ⟨h5,h⟩)
         rw [xV _ _ _ (by rw [eD];omega),eD]
         omega
        ·exact h0
    ·rw [if_neg h1] at hz;exact absurd hz h1
   ·rw [if_neg h34] at hz ⊢
    by_cases h5:o.1=5
    ·rw [if_pos h5];exact h0
    ·rw [if_neg h5] at hz ⊢
     by_cases h6:o.1=6
     ·rw [if_pos h6] at hz ⊢
      simp only at hz ⊢
      unfold rn at hz ⊢
      by_cases a1:okP o.2.1=true
      ·rw [if_pos a1] at hz ⊢
       by_cases a2:okP o.2.2.1=true
       ·rw [if_pos a2] at hz ⊢
        by_cases a3:(lk s o.2.1).2=0
        ·rw [if_pos a3] at hz ⊢
         by_cases a4:o.2.1=[47]
         ·rw [if_pos a4];exact h0
         ·rw [if_neg a4] at hz ⊢
          by_cases a5:aK o.2.1 o.2.2.1=true
          ·rw [if_pos a5];exact h0
          ·rw [if_neg a5] at hz ⊢
           by_cases a6:rm s o.2.2.1=0
           ·rw [if_pos a6] at hz ⊢
            by_cases a7:badR s o.2.1 o.2.2.1
            ·rw [if_pos a7];exact h0
            ·rw [if_neg a7]
             have hR:=xF hs a1 a3 a4 (by simpa using a5) a6
             obtain ⟨l,hE,hl⟩:=hc
             exact ⟨hR.sound a7,_,hR.enum a7 hE,by simp;omega⟩
           ·rw [if_neg a6];exact h0
        ·rw [if_neg a3];exact h0
       ·rw [if_neg a2];exact h0
      ·rw [if_neg a1];exact h0
     ·rw [if_neg h6] at hz ⊢
      by_cases h7:o.1=7
      ·rw [if_pos h7] at hz ⊢
       simp only at hz ⊢
       unfold rv at hz ⊢
       by_cases b1:(lk s o.2.1).2=0
       ·rw [if_pos b1] at hz ⊢
        by_cases b2:o.2.1=[47]
        ·rw [if_pos b2];exact h0
        ·rw [if_neg b2] at hz ⊢
         by_cases b3:0<(bl s o.2.1).length
         ·rw [if_pos b3];exact h0
         ·rw [if_neg b3]
          have hB:=hs.below hc hn o.2.1
          refine ⟨hs.remove b2 fun q f hq hr hp=>b3 ?_,(hc.del _).mono (by omega)⟩
          exact List.length_pos_of_mem ((hB.mem (bas q)).2 ⟨q,f,hq,hr,hp,rfl⟩)
       ·rw [if_neg b1];exact h0
      ·rw [if_neg h7] at hz ⊢
       by_cases h8:o.1=8
       ·rw [if_pos h8];exact h0
       ·rw [if_neg h8] at hz ⊢
        by_cases h9:o.1=9
        ·rw [if_pos h9];exact h0
        ·rw [if_neg h9];exact h0
 ·rw [if_neg hz];exact h0
theorem aI6 {s:FS} (hs:Snd s) {n:Nat} (hc:Crd s n) (hn:n<=200000) (o:Opr) (ho:eX o):fDo (bK s) o=some (bK (nx s o),(doP s o).1):=by
 obtain ⟨h1,h2,h3,h4⟩:=hs.prs hc (by omega)
 unfold fDo
 rw [yM _ (by omega) (fun x hx=>by have:=h4 x hx;omega),h2]
 simp only [obS,nV]
 rw [do_eq hs hc (by omega) o ho]
 simp only [obS]
 obtain ⟨k1,k2⟩:=yS hs hc (by omega) o
 obtain ⟨h5,_⟩:=k1.prs k2 (by omega)
 unfold nx at h5 ⊢
 by_cases hz:(doP s o).1.1=0
 ·rw [if_pos hz] at h5 ⊢
  rw [if_pos hz,h5];rfl
 ·rw [if_neg hz] at h5 ⊢
  rw [if_neg hz,h5];rfl
theorem vG (x y:List P2) (hx:x.length<=100000000):jO x y=some (decide (x=y)):=by
 unfold jO
 by_cases hl:(x.length:Int)=(y.length:Int)
 ·rw [if_pos hl]
  refine cK (fun k (s:Int)=>s=(k:Int)/\∀ j,j<k->x.getD j ([],[])=y.getD j ([],[])) (fun r=>(r=.inl ()/\x=y)\/(r=.inr false/\x≠y)) x.length ⟨rfl,fun j hj=>by omega⟩ ?_ ?_ ?_
  ·rintro k _ hk ⟨rfl,hne⟩
   rw [if_pos (by omega),iT ([],[]) rfl hk,iT ([],[]) rfl (show k<y.length by omega)]
   simp only [obS]
   by_cases e1:(x.getD k ([],[])).1=(y.getD k ([],[])).1
   ·rw [if_pos e1]
    by_cases e2:(x.getD k ([],[])).2=(y.getD k ([],[])).2
    ·rw [if_pos e2,aF (by omega) (by omega)]
     exact .inl ⟨_,rfl,rfl,fun j hj=>by
      by_cases ej:j=k
      ·subst ej;exact Prod.ext e1 e2
      ·exact hne j (by omega)⟩
    ·rw [if_neg e2]
     exact .inr ⟨_,rfl,.inr ⟨rfl,fun h=>e2 (by rw [h])⟩⟩
   ·rw [if_neg e1]
    exact .inr ⟨_,rfl,.inr ⟨rfl,fun h=>e1 (by rw [h])⟩⟩
  ·rintro _ ⟨rfl,hne⟩
   refine ⟨.inl (),?_,.inl ⟨rfl,List.ext_getElem (by omega) fun j h1 h2=>?_⟩⟩
   ·rw [if_neg (by omega)]
   ·have:=hne j h1
    simpa [List.getD_eq_getElem?_getD,List.getElem?_eq_getElem h1,List.getElem?_eq_getElem h2] using this
  ·rintro _ (⟨rfl,h1⟩ | ⟨rfl,h1⟩)
   ·simp [h1]
   ·simp [h1]
 ·rw [if_neg hl,decide_eq_false fun h=>hl (by rw [h])]
theorem aD5 (L:List P2):gC L=some true\/(gC L=some false/\(∀ x∈L,x.1.length<=8000/\x.2.length<=8000)):=by
 unfold gC
 refine dR (C:=fun o=>o=some true\/(o=some false/\∀ x∈L,x.1.length<=8000/\x.2.length<=8000)) (fun k (s:Int×Int)=>s.2=(k:Int)/\8*(k:Int)<=s.1/\s.1<=30000/\k<=1001/\k<=L.length/\∀ j (hj:j<L.length),j<k->L[j].1.length<=8000/\L[j].2.length<=8000) (fun r=>r=.inr true\/(∃ n:Int,r=.inl n/\(8000<n\/∀ x∈L,x.1.length<=8000/\x.2.length<=8000))) (min L.length 1002) ⟨rfl,by omega,by omega,by omega,by omega,fun j hj hk=>by omega⟩ ?_ ?_ ?_
 ·rintro k ⟨n,i⟩ hk ⟨h1,h2,h3,h3',h4,h5⟩
  simp only at h1 h2 h3
  subst h1
  simp only
  have hkl:k<L.length:=by omega
  rw [if_pos (by omega)]
  by_cases h6:n<=8000
  ·rw [if_pos h6]
   simp only [aX hkl,obS]
   by_cases h7:8000<(L[k].1.length:Int)
   ·rw [if_pos h7];exact .inr ⟨_,rfl,.inl rfl⟩
   ·rw [if_neg h7]
    by_cases h8:8000<(L[k].2.length:Int)
    ·rw [if_pos h8];exact .inr ⟨_,rfl,.inl rfl⟩
    ·rw [if_neg h8]
     rw [aF (n:=8+(L[k].1.length:Int)) (by omega) (by omega),aF (n:=8+(L[k].1.length:Int)+(L[k].2.length:Int)) (by omega) (by omega),aF (n:=n+(8+(L[k].1.length:Int)+(L[k].2.length:Int))) (by omega) (by omega),aF (n:=(k:Int)+1) (by omega) (by omega)]
     refine .inl ⟨_,rfl,rfl,?_,?_,?_,?_,fun j hj hk2=>?_⟩
     ·simp only;omega
     ·simp only;omega
     ·omega
     ·omega
     ·by_cases e:j=k
      ·subst e;omega
      ·exact h5 j hj (by omega)
  ·rw [if_neg h6]
   exact .inr ⟨_,rfl,.inr ⟨n,rfl,.inl (by omega)⟩⟩
 ·rintro ⟨n,i⟩ ⟨h1,h2,h3,h3',h4,h5⟩
  simp only at h1 h2 h3
  subst h1
  simp only
  by_cases h0:L.length<=1001
  ·rw [if_neg (by omega)]
   refine ⟨_,rfl,.inr ⟨n,rfl,.inr fun x hx=>?_⟩⟩
   obtain ⟨j,hj,rfl⟩:=List.getElem_of_mem hx
   exact h5 j hj (by omega)
  ·omega
 ·rintro _ (rfl | ⟨n,rfl,h | h⟩)
  ·exact .inl rfl
  ·exact .inl (by simp only [Sum.elim_inl];rw [decide_eq_true h])
  ·by_cases h8:8000<n
   ·exact .inl (by simp only [Sum.elim_inl];rw [decide_eq_true h8])
   ·exact .inr ⟨by simp only [Sum.elim_inl];rw [decide_eq_false h8],h⟩
theorem aJ9 (o:Opr):rGreatOp o=some true\/(rGreatOp o=some false/\o.2.1.length<=400/\o.2.2.1.length<=400/\o.2.2.2.2.2.length<=400):=by
 unfold rGreatOp
 by_cases h1:400<(o.2.1.length:Int)
 ·rw [if_pos h1];exact .inl rfl
 ·rw [if_neg h1]
  by_cases h2:400<(o.2.2.1.length:Int)
  ·rw [if_pos h2];exact .inl rfl
  ·rw [if_neg h2]
   by_cases h3:400<(o.2.2.2.2.2.length:Int)
   ·rw [decide_eq_true h3];exact .inl rfl
   ·rw [decide_eq_false h3];exact .inr ⟨rfl,by omega,by omega,by omega⟩
theorem opOk {o:Opr} (h1:o.2.1.length<=400) (h2:o.2.2.1.length<=400) (h3:o.2.2.2.2.2.length<=400):eX o:=⟨by omega,by omega,by omega⟩
def s00:FS:=aI [47] (true,[]) bG
theorem uG:Enum s00 [([47],(true,[]))]:=⟨by simp,fun k=>by
 unfold s00 aI bG
 simp only [aZ]
 by_cases h:k=[47]
 ·rw [if_pos h,if_pos h.symm]
 ·rw [if_neg h,if_neg (Ne.symm h)]⟩
theorem wB:Crd s00 1:=⟨_,uG,by simp⟩
theorem s00_snd:Snd s00:=by
 have h:∀ p f,s00 p=some f->p=[47]/\f=(true,[]):=fun p f hp=>by
  unfold s00 aI bG at hp
  split at hp
  ·rename_i e;exact ⟨e,(Option.some.inj hp).symm⟩
  ·cases hp
 exact ⟨⟨[],rfl⟩,fun p f hp=>by rw [(h p f hp).1];rfl,fun p f hp=>by rw [(h p f hp).2];simp,fun p d hp=>by have:=(h p _ hp).2;injection this,fun p f hp hn=>absurd (h p f hp).1 hn⟩
theorem aNs:fNew=some (bK s00):=by
 unfold fNew
 have:=(s00_snd.prs wB (by omega)).1
 show (eJ s00).bind _=_
 rw [this];rfl
theorem aIw {s:FS} {o:Opr} (h:(doP s o).1.1≠0):(doP s o).1=((doP s o).1.1,0,[],[]):=by
 unfold doP at h ⊢
 split
 ·rfl
 ·rename_i h12
  rw [if_neg h12] at h
  split
  ·rename_i h34
   rw [if_pos h34] at h
   unfold wr at h ⊢
   by_cases h1:(rg s o.2.1).2=0
   ·rw [if_pos h1] at h ⊢
    generalize (if o.1=3 then o.2.2.2.1 else o.2.2.2.2.1)=m at h ⊢
    by_cases g1:m<0
    ·rw [if_pos g1]
    ·rw [if_neg g1] at h ⊢
     by_cases g2:192<m\/(o.1=3/\192<o.2.2.2.1+(o.2.2.2.2.2.length:Int))
     ·rw [if_pos g2]
     ·rw [if_neg g2] at h ⊢
      by_cases g3:o.1=4
      ·rw [if_pos g3]
      ·rw [if_neg g3] at h
       exact absurd rfl h
   ·rw [if_neg h1]
  ·rename_i h34
   rw [if_neg h34] at h
   split
   ·rename_i h5
    rw [if_pos h5] at h
    unfold rdA at h ⊢
    split
    ·rename_i h1
     rw [if_pos h1] at h
     split
     ·rfl
     ·rename_i h2;rw [if_neg h2] at h;exact absurd rfl h
    ·rfl
   ·rename_i h5
    rw [if_neg h5] at h
    split
    ·rfl
    ·rename_i h6
     rw [if_neg h6] at h
     split
     ·rfl
     ·rename_i h7
      rw [if_neg h7] at h
      split
      ·rename_i h8
       rw [if_pos h8] at h
       unfold ls at h ⊢
       split
       ·rename_i h1
        rw [if_pos h1] at h
        split
        ·rename_i h2;rw [if_pos h2] at h;exact absurd rfl h
        ·rfl
       ·rfl
      ·rename_i h8
       rw [if_neg h8] at h
       split
       ·rename_i h9
        rw [if_pos h9] at h
        unfold stt at h ⊢
        split
        ·rename_i h1
         rw [if_pos h1] at h
         split
         ·rename_i h2;rw [if_pos h2] at h;exact absurd rfl h
         ·rename_i h2;rw [if_neg h2] at h;exact absurd rfl h
        ·rfl
       ·rfl
theorem fI:∀ l m:List UInt8,aT l m=true↔l<m
 | [],[]=>by simp [aT,Op.bytesLess]
 | [],b::m=>by simp [aT,Op.bytesLess]
 | a::l,[]=>by simp [aT,Op.bytesLess]
 | a::l,b::m=>by
  have ih:=fI l m
  unfold aT at ih ⊢
  rw [List.cons_lt_cons_iff,<- ih]
  simp [Op.bytesLess]
theorem aMe (xs:List UInt8) (o:Nat) (d:List UInt8) (h:o+d.length<=xs.length) (i:Nat):(putAt xs o d).getD i 0=if o<=i/\i<o+d.length then d.getD (i-o) 0 else xs.getD i 0:=by
 unfold putAt
 simp only [List.getD_eq_getElem?_getD]
 by_cases h1:i<o
 ·rw [if_neg (by omega),List.append_assoc,List.getElem?_append_left (by simp;omega),List.getElem?_take_of_lt h1]
 ·by_cases h2:i<o+d.length
  ·rw [if_pos ⟨by omega,h2⟩,List.getElem?_append_left (by simp;omega),List.getElem?_append_right (by simp;omega)]
   simp only [List.length_take,Nat.min_eq_left (show o<=xs.length by omega)]
  ·rw [if_neg (by omega),List.getElem?_append_right (by simp;omega),List.getElem?_drop]
   congr 2
   simp only [List.length_append,List.length_take,Nat.min_eq_left (show o<=xs.length by omega)]
   omega
theorem aB9 (d:List UInt8) (n i:Nat) (h:i<n):(szd d n).getD i 0=d.getD i 0:=by
 unfold szd
 simp only [List.getD_eq_getElem?_getD]
 by_cases h1:i<d.length
 ·rw [List.getElem?_append_left (by simp;omega),List.getElem?_take_of_lt h]
 ·rw [List.getElem?_append_right (by simp;omega),List.getElem?_eq_none (show d.length<=i by omega)]
  cases hx:(List.replicate (n-d.length) (0:UInt8))[i-(d.take n).length]? with
  | none=>rfl
  | some y =>
   have:=List.mem_of_getElem? hx
   rw [List.mem_replicate] at this
   rw [this.2];rfl
theorem tT {σ ρ:Type} {f:σ->Option (σ ⊕ ρ)} (I:Nat->σ->Prop) (r0:ρ) (n:Nat) {s0:σ} (h0:I 0 s0)
  (hs:∀ i s,i<n->I i s->(∃ s',f s=some (.inl s')/\I (i+1) s')\/(∃ r,f s=some (.inr r)/\r=r0))
  (he:∀ s,I n s->∃ r,f s=some (.inr r)/\r=r0):aH f s0=some r0:=by
 obtain ⟨r,h1,h2⟩:=mW I (fun r=>r=r0) n hs he n 0 s0 (by omega) h0
 rw [h1,h2]
end Go.Proofs.YtkcgdaihfblncaaGreatDoor
