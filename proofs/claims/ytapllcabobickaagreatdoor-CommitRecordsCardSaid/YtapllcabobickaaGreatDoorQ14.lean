/- Texts Spk, RcdC, RcdD. -/
import Derived.Test.YtapllcabobickaaGreatDoorQ5
import Derived.Test.YtapllcabobickaaGreatDoorQ4
import Derived.Test.YtapllcabobickaaGreatDoorQ13
set_option linter.unusedSimpArgs false
set_option linter.unusedVariables false
set_option maxRecDepth 100000
set_option maxHeartbeats 4000000
namespace Go.Proofs.YtapllcabobickaaGreatDoor
open Go.RowKit Go.Tri
theorem bev {α β:Type} {x:Option α} {k:α→Option β} {b:α} {r:β} (h:x=some b) (h2:k b=some r):x.bind k=some r:=by rw [h];exact h2
theorem det1 {κ β ρ:Type} [DecidableEq κ] {m:κ→Option β} {f:List (κ×β)→Option ρ} {a:κ×β} {r:ρ} (h:Enum m [a]) (hf:f [a]=some r):detM m f=some r :=
 detM_of h fun l hl=>by rw [List.perm_singleton.1 (hl.perm h)];exact hf
theorem det2 {κ β ρ:Type} [DecidableEq κ] {m:κ→Option β} {f:List (κ×β)→Option ρ} {a b:κ×β} {r:ρ} (h:Enum m [a,b]) (hf:f [a,b]=some r) (hg:f [b,a]=some r):detM m f=some r :=
 detM_of h fun l hl=>by
  have hp:=hl.perm h
  have hlen:=hp.length_eq
  obtain ⟨x,y,rfl⟩:∃ x y,l=[x,y]:=by
   match l,hlen with
   | [x,y],_=>exact ⟨x,y,rfl⟩
  have hx:x∈[a,b]:=hp.subset (by simp)
  have hy:y∈[a,b]:=hp.subset (by simp)
  have hnd:[x,y].Nodup:=hp.symm.nodup (by
   have:=h.1
   simp only [List.map_cons,List.map_nil,List.nodup_cons,List.mem_singleton,List.not_mem_nil,not_false_eq_true,List.nodup_nil,and_true] at this ⊢
   exact fun e=>this (congrArg Prod.fst e))
  simp only [List.nodup_cons,List.mem_singleton] at hnd
  simp only [List.mem_cons,List.not_mem_nil,or_false] at hx hy
  rcases hx with rfl | rfl<;>rcases hy with rfl | rfl
  ·exact absurd rfl hnd.1
  ·exact hf
  ·exact hg
  ·exact absurd rfl hnd.1
theorem en1 {κ β:Type} [DecidableEq κ] (k:κ) (v:β):Enum (fset k v (fnil:κ→Option β)) [(k,v)]:=⟨by simp,fun j=>by
 unfold fset fnil aget;simp only [aget];by_cases h:j=k
 ·rw [if_pos h,if_pos h.symm]
 ·rw [if_neg h,if_neg (fun e=>h e.symm)]⟩
theorem en2 {κ β:Type} [DecidableEq κ] {k j:κ} {v u:β} (hn:k≠j):Enum (fset k v (fset j u (fnil:κ→Option β))) [(k,v),(j,u)]:=⟨by simp [hn],fun i=>by
 have h1:=(en1 j u).2 i
 show (if i=k then some v else fset j u fnil i)=_
 rw [h1]
 by_cases h:i=k
 ·rw [if_pos h];simp only [aget,if_pos h.symm]
 ·rw [if_neg h];show _=aget i [(k,v),(j,u)];simp only [aget,if_neg (fun e=>h e.symm:¬ k=i)]⟩
def bF0:List UInt8:=[84,0,1,0,2,110,47,0,1,100]
def hF0:List UInt8:=[208,32,64,191,70,255,202,17,251,135,228,118,188,189,67,232,103,119,39,62,101,186,137,75,235,137,238,18,167,36,206,192]
def bE:List UInt8:=[84,0,0]
def hE:List UInt8:=[11,226,244,58,110,116,228,69,211,201,61,169,133,66,90,104,30,17,120,132,36,13,30,5,161,159,70,232,130,169,17,144]
def bR0:List UInt8:=[82,0,0,0,0,0,0,0,0,0,0,0,0,0,0,0,0,0,0,0,0,0,0,0,0,0,0,0,0,0,0,0,0,0,0,0,0,0,0,0,0,0,0,0,0,0,0,0,0,208,32,64,191,70,255,202,17,251,135,228,118,188,189,67,232,103,119,39,62,101,186,137,75,235,137,238,18,167,36,206,192,11,226,244,58,110,116,228,69,211,201,61,169,133,66,90,104,30,17,120,132,36,13,30,5,161,159,70,232,130,169,17,144,11,226,244,58,110,116,228,69,211,201,61,169,133,66,90,104,30,17,120,132,36,13,30,5,161,159,70,232,130,169,17,144,0,0,0,0,0,0,0,0,0,0,0]
def h0:List UInt8:=[251,195,51,209,8,234,53,143,76,170,102,99,144,4,20,230,102,28,227,10,193,148,174,206,35,251,99,224,161,137,12,100]
def bF1:List UInt8:=[84,0,2,0,2,110,47,0,1,100,0,3,110,47,97,0,3,102,0,0]
def hF1:List UInt8:=[98,83,135,227,43,177,99,48,2,168,92,92,156,113,234,136,215,174,153,144,181,178,193,85,14,6,168,33,153,198,64,153]
def bS1:List UInt8:=[84,0,1,0,1,0,0,15,0,0,0,0,0,0,0,1,0,0,0,0,0,0,0]
def hS1:List UInt8:=[246,104,138,151,42,185,83,96,255,120,0,80,2,110,132,226,49,132,1,243,201,166,201,150,244,43,1,181,126,175,111,36]
def bR1:List UInt8:=[82,0,0,0,0,0,0,0,1,0,0,0,0,0,0,0,3,251,195,51,209,8,234,53,143,76,170,102,99,144,4,20,230,102,28,227,10,193,148,174,206,35,251,99,224,161,137,12,100,98,83,135,227,43,177,99,48,2,168,92,92,156,113,234,136,215,174,153,144,181,178,193,85,14,6,168,33,153,198,64,153,11,226,244,58,110,116,228,69,211,201,61,169,133,66,90,104,30,17,120,132,36,13,30,5,161,159,70,232,130,169,17,144,246,104,138,151,42,185,83,96,255,120,0,80,2,110,132,226,49,132,1,243,201,166,201,150,244,43,1,181,126,175,111,36,0,0,0,0,0,0,0,0,1,0,13,1,0,0,0,0,0,2,47,97,0,0,0,0]
def k1:List UInt8:=[254,67,69,142,34,156,204,123,189,28,213,143,191,143,62,94,238,255,69,13,51,101,70,57,14,163,175,219,187,159,92,52]
def opB:List UInt8:=[1,0,0,0,0,0,2,47,97,0,0,0,0]
def seB:List UInt8:=[0,0,0,0,0,0,0,1,0,0,0,0,0,0,0]
abbrev PP:=List UInt8×List UInt8
def F0:List PP:=[([110,47],[100])]
def F1:List PP:=[([110,47],[100]),([110,47,97],[102,0,0])]
noncomputable def S0:List UInt8→Option T_files_file:=fset [47] (true,[]) fnil
noncomputable def S1:List UInt8→Option T_files_file:=fset [47,97] (false,[]) S0
abbrev OP:T_api_Op:=(1,[47,97],[],0,0,[])
abbrev A0:T_api_Answer:=(0,0,[],[])
abbrev W0:T_api_Whole:=((F0,[]),[])
abbrev W1:T_api_Whole:=((F1,[]),[(0,1,A0)])
abbrev R00:T_api_Record:=(0,0,List.replicate 32 0,List.replicate 32 0,List.replicate 32 0,List.replicate 32 0,(0,0,(0,[],[],0,0,[])))
abbrev R0v:T_api_Record:=(0,0,List.replicate 32 0,hF0,hE,hE,(0,0,(0,[],[],0,0,[])))
abbrev R1v:T_api_Record:=(1,3,h0,hF1,hE,hS1,(0,1,OP))
noncomputable def Bag0:List UInt8→Option (List UInt8):=fset h0 bR0 (fset hE bE (fset hE bE (fset hF0 bF0 fnil)))
noncomputable def M1:List UInt8→Option (List UInt8):=fset k1 bR1 (fset hS1 bS1 (fset hE bE (fset hF1 bF1 fnil)))
noncomputable def More:List UInt8→Option (List UInt8):=fun k=>if (Bag0 k).isSome=true then none else M1 k
noncomputable def Bag2:List UInt8→Option (List UInt8):=fun j=>(More j).or (Bag0 j)
theorem tF0:trBuild F0=some (hF0,fset hF0 bF0 fnil,0):=by kernel_rfl
theorem tE:trBuild []=some (hE,fset hE bE fnil,0):=by kernel_rfl
theorem tF1:trBuild F1=some (hF1,fset hF1 bF1 fnil,0):=by kernel_rfl
theorem tS1:trBuild [([0],seB)]=some (hS1,fset hS1 bS1 fnil,0):=by kernel_rfl
theorem mapCopy1 (d:List UInt8→Option (List UInt8)) (k v:List UInt8):mapCopy d (fset k v fnil)=some (fset k v d):=bev (det1 (en1 k v) rfl) rfl
theorem mkTree1 {m:List UInt8→Option (List UInt8)} {P:List PP} {h b:List UInt8} (hB:trBuild P=some (h,fset h b fnil,0)):mkTree m P=some (h,fset h b m):=bev hB (bev (mapCopy1 _ _ _) rfl)
theorem ifp {α:Type} {c:Prop} [Decidable c] {t e r:α} (h:c) (k:t=r):(if c then t else e)=r:=by rw [if_pos h];exact k
theorem ifn {α:Type} {c:Prop} [Decidable c] {t e r:α} (h:¬ c) (k:e=r):(if c then t else e)=r:=by rw [if_neg h];exact k
theorem sel {α β γ:Type} {f:α→γ} {g:β→γ} {a:α} {r:γ} (h:f a=r):Sum.elim f g (.inl a)=r:=h
theorem so1 (x:PP):sortPs [x]=some [x]:=by
 unfold sortPs sortPO sortPairs
 rw [if_pos ⟨by simp,by simp⟩,List.mergeSort_singleton]
theorem srtF:sortPs F1=some F1:=by
 unfold sortPs sortPO
 rw [if_pos (by decide)]
 exact congrArg some (List.mergeSort_of_pairwise (by decide))
theorem srtG:sortPs [([110,47,97],[102,0,0]),([110,47],[100])]=some F1:=by
 unfold sortPs sortPO
 rw [if_pos (by decide)]
 refine congrArg some ?_
 have h1:=sortPairs_strict (xs:=[([110,47,97],[102,0,0]),([110,47],[100])]) (by decide)
 have h2:=sortPairs_strict (xs:=F1) (by decide)
 have e2:sortPairs F1=F1:=List.mergeSort_of_pairwise (by decide)
 rw [← e2]
 refine pairs_same h1 h2 fun k=>?_
 unfold sortPairs
 rw [List.mem_mergeSort,List.mem_mergeSort]
 unfold F1
 simp only [List.mem_cons,List.not_mem_nil,or_false]
 exact Or.comm
theorem sp0:sPairs S0=some F0:=det1 (en1 _ _) (bev (b:=Sum.inl F0) (by kernel_rfl) (sel (bev (so1 _) rfl)))
theorem ff {κ β:Type} [DecidableEq κ] (k:κ) (v u:β) (m:κ→Option β):fset k v (fset k u m)=fset k v m:=by
 funext j;unfold fset;by_cases h:j=k
 ·rw [if_pos h,if_pos h]
 ·rw [if_neg h,if_neg h,if_neg h]
theorem enS1:Enum S1 [([47,97],(false,[])),([47],(true,[]))]:=en2 (by decide)
theorem sp1:sPairs S1=some F1:=det2 enS1 (bev (b:=Sum.inl [([110,47,97],[102,0,0]),([110,47],[100])]) (by kernel_rfl) (sel (bev srtG rfl))) (bev (b:=Sum.inl F1) (by kernel_rfl) (sel (bev srtF rfl)))
theorem sn0:sSound S0=some true:=det1 (en1 _ _) (by kernel_rfl)
theorem sn1:sSound S1=some true:=det2 enS1 (by kernel_rfl) (by kernel_rfl)
theorem rd0:fRead F0=some S0:=bev (b:=S0) (by kernel_rfl) (det1 (en1 _ _) (by kernel_rfl))
theorem rd1:fRead F1=some S1:=by
 have h:fRead F1=some (fset [47,97] (false,[]) S1):=bev (b:=S1) (by kernel_rfl) (det2 enS1 (by kernel_rfl) (by kernel_rfl))
 rw [h];exact congrArg some (ff _ _ _ _)
theorem fc0:fCheck F0=some 0:=bev rd0 (bev sn0 (bev sp0 (by kernel_rfl)))
theorem fc1:fCheck F1=some 0:=bev rd1 (bev sn1 (bev sp1 (by kernel_rfl)))
theorem nc0:nCheck (F0,[])=some 0:=bev fc0 (by kernel_rfl)
theorem nc1:nCheck (F1,[])=some 0:=bev fc1 (by kernel_rfl)
theorem tc0:tCheck W0=some 0:=bev nc0 (by kernel_rfl)
theorem tc1:tCheck W1=some 0:=bev nc1 (by kernel_rfl)
theorem rec0:cRecord Bag0 h0=some (R0v,0):=by kernel_rfl
theorem al0:ldTree (Bag0,0) hF0=some (F0,0):=by kernel_rfl
theorem alE:ldTree (Bag0,0) hE=some ([],0):=by kernel_rfl
theorem ld0:cLoad Bag0 h0=some (R0v,W0,0):=bev rec0 (ifp rfl (bev al0 (bev alE (bev (b:=()) (by kernel_rfl) (bev alE (bev (b:=(0,[])) (by kernel_rfl) (bev tc0 (by kernel_rfl))))))))
theorem fd:fDo F0 OP=some (F1,A0):=bev rd0 (bev (b:=S0) rfl (bev (b:=(A0,S1)) (by kernel_rfl) (ifp rfl (bev sp1 (by kernel_rfl)))))
theorem nd:nDo (F0,[]) OP 1=some ((F1,[]),A0):=bev (b:=(F0,[])) (by kernel_rfl) (bev (b:=((F1,[]),A0,(F0,[]))) (bev (b:=false) (by kernel_rfl) (ifn (by decide) (ifn (by decide) (bev fd (by kernel_rfl))))) (by kernel_rfl))
theorem td:tDo W0 (0,1,OP) 1=some (W1,A0,0):=bev (b:=true) (by kernel_rfl) (ifn (by decide) (bev (b:=(0,A0)) (by kernel_rfl) (ifp rfl (bev nd (by kernel_rfl)))))
theorem wh0:mkWhole fnil R00 W0=some (h0,Bag0):=bev (b:=()) (by kernel_rfl) (bev (b:=[]) (by kernel_rfl) (bev (mkTree1 tF0) (bev (mkTree1 tE) (bev (mkTree1 tE) (bev (b:=(bR0,0)) (by kernel_rfl) (bev (b:=h0) (by kernel_rfl) rfl))))))
theorem wh1:mkWhole fnil (1,3,h0,List.replicate 32 0,List.replicate 32 0,List.replicate 32 0,(0,1,OP)) W1=some (k1,M1):=bev (b:=()) (by kernel_rfl) (bev (b:=[([0],seB)]) (by kernel_rfl) (bev (mkTree1 tF1) (bev (mkTree1 tE) (bev (mkTree1 tS1) (bev (b:=(bR1,0)) (by kernel_rfl) (bev (b:=k1) (by kernel_rfl) rfl))))))
theorem nw:tNew=some W0:=bev (bev (bev sp0 rfl) rfl) rfl
theorem beg:cBegin=some (h0,Bag0):=bev nw (bev wh0 rfl)
theorem nxt:cNext Bag0 h0 3 (0,1,OP)=some (k1,More,(0,0),0):=bev ld0 (ifp rfl (bev (b:=(opB,0)) (by kernel_rfl) (bev td (ifp rfl (ifp rfl (ifn (by decide) (bev (b:=[]) (by kernel_rfl) (bev wh1 (bev rfl rfl)))))))))
theorem fold_over {κ β:Type} [DecidableEq κ]:∀ (l:List (κ×β)) (d:κ→Option β),(l.map (·.1)).Nodup→foldO (ρ:=κ→Option β) (fun s x=>some (.inl (fset x.1 x.2 s))) d l=some (.inl fun j=>(aget j l).or (d j))
 | [],d,_=>rfl
 | x::xs,d,h=>by
  rw [List.map_cons,List.nodup_cons] at h
  show foldO _ (fset x.1 x.2 d) xs=_
  rw [fold_over xs _ h.2]
  refine congrArg (fun z=>some (Sum.inl z)) (funext fun j=>?_)
  simp only [aget]
  by_cases e:x.1=j
  ·subst e
   rw [if_pos rfl,aget_none h.1]
   show fset x.1 x.2 d x.1=_
   unfold fset;rw [if_pos rfl];rfl
  ·rw [if_neg e]
   unfold fset;rw [if_neg fun h=>e h.symm]
theorem en_fset {κ β:Type} [DecidableEq κ] {m:κ→Option β} {l:List (κ×β)} (h:Enum m l) (k:κ) (v:β) (hn:m k=none):Enum (fset k v m) ((k,v)::l):=by
 refine ⟨?_,fun j=>?_⟩
 ·rw [List.map_cons,List.nodup_cons]
  refine ⟨fun hm=>?_,h.1⟩
  obtain ⟨p,hp,rfl⟩:=List.mem_map.1 hm
  rw [h.2,aget_of_mem h.1 hp] at hn;cases hn
 ·simp only [aget];unfold fset
  by_cases e:j=k
  ·rw [if_pos e,if_pos e.symm]
  ·rw [if_neg e,if_neg (fun h=>e h.symm)];exact h.2 j
theorem en_not {κ β:Type} [DecidableEq κ] {m:κ→Option β} {l:List (κ×β)} (p:κ→Bool) (h:Enum m l):Enum (fun k=>if p k=true then none else m k) (l.filter fun x=>!p x.1):=⟨(List.filter_sublist.map _).nodup h.1,fun j=>by
 have hs:(l.filter fun x=>!p x.1).Sublist l:=List.filter_sublist
 show (if p j=true then none else m j)=_
 cases hp:p j with
 | true =>
  rw [if_pos rfl,aget_none]
  intro hm
  obtain ⟨x,hx,rfl⟩:=List.mem_map.1 hm
  have:=(List.mem_filter.1 hx).2
  rw [hp] at this;cases this
 | false =>
  rw [if_neg (by decide),h.2]
  cases ha:aget j l with
  | none =>
   rw [aget_none]
   intro hm
   obtain ⟨x,hx,rfl⟩:=List.mem_map.1 hm
   rw [aget_of_mem h.1 (hs.subset hx)] at ha;cases ha
  | some v =>
   exact (aget_of_mem ((hs.map _).nodup h.1) (List.mem_filter.2 ⟨aget_mem' ha,by rw [hp];rfl⟩)).symm⟩
theorem enB0:Enum Bag0 [(h0,bR0),(hE,bE),(hF0,bF0)]:=by
 unfold Bag0
 rw [ff]
 exact en_fset (en_fset (en1 _ _) _ _ (by kernel_rfl)) _ _ (by kernel_rfl)
theorem enM1:Enum M1 [(k1,bR1),(hS1,bS1),(hE,bE),(hF1,bF1)]:=en_fset (en_fset (en_fset (en1 _ _) _ _ (by kernel_rfl)) _ _ (by kernel_rfl)) _ _ (by kernel_rfl)
theorem enMore:Enum More ([(k1,bR1),(hS1,bS1),(hE,bE),(hF1,bF1)].filter fun x=>!(Bag0 x.1).isSome):=en_not (fun k=>(Bag0 k).isSome) enM1
theorem ovr {f:List (List UInt8×List UInt8)→Option (List UInt8→Option (List UInt8))} (hf:∀ l,f l=(foldO (ρ:=List UInt8→Option (List UInt8)) (fun s x=>some (.inl (fset x.1 x.2 s))) Bag0 l).bind (Sum.elim (fun s=>some s) some)):detM More f=some Bag2 :=
 detM_of enMore fun l hl=>by
  rw [hf,fold_over l _ hl.1]
  refine congrArg some (funext fun j=>?_)
  show (aget j l).or (Bag0 j)=_
  rw [← hl.2];rfl
theorem rec1:cRecord Bag2 k1=some (R1v,0):=by kernel_rfl
theorem al1:ldTree (Bag2,0) hF1=some (F1,0):=by kernel_rfl
theorem alE1:ldTree (Bag2,0) hE=some ([],0):=by kernel_rfl
theorem alS1:ldTree (Bag2,0) hS1=some ([([0],seB)],0):=by kernel_rfl
theorem ld1:cLoad Bag2 k1=some (R1v,W1,0):=bev rec1 (ifp rfl (bev al1 (bev alE1 (bev (b:=()) (by kernel_rfl) (bev alS1 (bev (b:=(0,[(0,1,A0)])) (by kernel_rfl) (bev tc1 (by kernel_rfl))))))))
theorem speaks_true:lSpeaks=some true:=by
 have hl:flen Bag0=3:=flen_eq enB0
 refine bev beg (bev nxt (bev (ovr fun l=>rfl) (bev ld1 ?_)))
 show (if 0<((flen Bag0:Nat):Int) then _ else _)=_
 rw [hl]
 kernel_rfl
abbrev z32:List UInt8:=List.replicate 32 0
def zR:T_api_Record:=(0,0,z32,z32,z32,z32,(0,0,(0,[],[],0,0,[])))
structure WF (r:T_api_Record):Prop where
 g0:0≤r.1
 g1:r.1<18446744073709551616
 v0:0≤r.2.1
 v1:r.2.1<18446744073709551616
 n0:0≤r.2.2.2.2.2.2.2.1
 n1:r.2.2.2.2.2.2.2.1<18446744073709551616
 p:r.2.2.1.length=32
 f:r.2.2.2.1.length=32
 s:r.2.2.2.2.1.length=32
 t:r.2.2.2.2.2.1.length=32
def RR (r:T_api_Record):Prop:=if r.1=0 then r.2.1=0∧r.2.2.1=z32∧r.2.2.2.2.2.2.1=0∧r.2.2.2.2.2.2.2.1=0∧r.2.2.2.2.2.2.2.2=zO else 0≤r.2.2.2.2.2.2.1∧r.2.2.2.2.2.2.1≤3∧0<r.2.2.2.2.2.2.2.1∧RO r.2.2.2.2.2.2.2.2
instance (r:T_api_Record):Decidable (RR r):=by unfold RR;infer_instance
def ops (r:T_api_Record):List UInt8:=if r.1=0 then [] else encO r.2.2.2.2.2.2.2.2
def encR (r:T_api_Record):List UInt8:=82::(be 8 r.1.toNat++(be 8 r.2.1.toNat++(r.2.2.1++(r.2.2.2.1++(r.2.2.2.2.1++(r.2.2.2.2.2.1++(be 1 r.2.2.2.2.2.2.1.toNat++(be 8 r.2.2.2.2.2.2.2.1.toNat++tx (ops r)))))))))
theorem ops_len {r:T_api_Record} (h:RR r):(ops r).length≤139:=by
 unfold ops
 by_cases hg:r.1=0
 ·rw [if_pos hg];simp
 ·rw [if_neg hg]
  unfold RR at h
  rw [if_neg hg] at h
  obtain ⟨_,_,_,h⟩:=h
  unfold RO at h
  rw [encO_len];omega
theorem RR_cl {r:T_api_Record} (h:RR r):0≤r.2.2.2.2.2.2.1∧r.2.2.2.2.2.2.1≤3:=by
 unfold RR at h
 by_cases hg:r.1=0
 ·rw [if_pos hg] at h;omega
 ·rw [if_neg hg] at h;omega
theorem encR_len {r:T_api_Record} (w:WF r):(encR r).length=156+(ops r).length:=by
 simp only [encR,List.length_cons,List.length_append,be_len,tx_len,w.p,w.f,w.s,w.t];omega
theorem cRight_eq (r:T_api_Record):∃ x,cRight r=some (x,decide (RR r))∧(RR r→x=ops r):=by
  obtain ⟨G,V,P,F,S,T,C,N,O⟩:=r
  unfold cRight
  simp only [Option.bind_some]
  by_cases hg:G=0
  · rw [if_pos hg]
    refine ⟨[],?_,fun _=>by unfold ops;rw [if_pos hg]⟩
    obtain ⟨k,a,b,f,n,d⟩:=O
    by_cases h:RR (G,V,P,F,S,T,C,N,(k,a,b,f,n,d))
    · rw [decide_eq_true h]
      unfold RR at h
      rw [if_pos hg] at h
      obtain ⟨h1,h2,h3,h4,h5⟩:=h
      simp only [zO] at h1 h2 h3 h4 h5
      cases h5
      simp only [h1,h2,h3,h4,if_true,decide_true,List.length_nil,Int.natCast_zero]
    · rw [decide_eq_false h]
      unfold RR at h
      rw [if_pos hg] at h
      simp only
      repeat' split
      all_goals first
        | rfl
        | (rename_i q1 q2 q3 q4 q5 q6 q7 q8 q9
           rw [decide_eq_false]
           intro q
           have q6':d=[]:=List.eq_nil_of_length_eq_zero (by omega)
           subst q1 q2 q3 q4 q5 q6'
           exact h ⟨q7,q8,q9,q,rfl⟩)
  · rw [if_neg hg,oWrite_eq]
    simp only [Option.bind_some]
    by_cases ho:RO O
    · rw [if_pos ho,if_pos rfl]
      refine ⟨encO O,?_,fun _=>by unfold ops;rw [if_neg hg]⟩
      by_cases h:RR (G,V,P,F,S,T,C,N,O)
      · rw [decide_eq_true h]
        unfold RR at h
        rw [if_neg hg] at h
        simp only at h
        rw [if_pos (by omega),if_pos (by omega),decide_eq_true (by omega)]
      · rw [decide_eq_false h]
        unfold RR at h
        rw [if_neg hg] at h
        simp only at h
        repeat' split
        all_goals first
          | rfl
          | (rw [decide_eq_false (fun q=>h ⟨by omega,by omega,q,ho⟩)])
    · rw [if_neg ho,if_neg (by decide)]
      have hn:¬ RR (G,V,P,F,S,T,C,N,O):=by
        unfold RR
        rw [if_neg hg]
        exact fun h=>ho h.2.2.2
      exact ⟨[],by rw [decide_eq_false hn],fun h=>absurd h hn⟩
theorem cWrite_eq (r:T_api_Record) (w:WF r):cWrite r=some (if RR r then (encR r,0) else ([],1)):=by
 unfold cWrite
 obtain ⟨x,hx,hxo⟩:=cRight_eq r
 rw [hx]
 simp only [Option.bind_some]
 by_cases h:RR r
 ·rw [decide_eq_true h,if_neg (by decide),if_pos h,hxo h]
  have hol:=ops_len h
  have hcl:=RR_cl h
  obtain ⟨w1,w2,w3,w4,w5,w6,w7,w8,w9,w10⟩:=w
  generalize hops:ops r=o at hol
  unfold encR
  rw [hops]
  clear hops hxo hx
  obtain ⟨G,V,P,F,S,T,C,N,O⟩:=r
  simp only at *
  obtain ⟨g,rfl⟩:=Int.eq_ofNat_of_zero_le w1
  obtain ⟨v,rfl⟩:=Int.eq_ofNat_of_zero_le w3
  obtain ⟨n,rfl⟩:=Int.eq_ofNat_of_zero_le w5
  obtain ⟨c,rfl⟩:=Int.eq_ofNat_of_zero_le hcl.1
  rw [show u8O 82=some 82 from rfl]
  simp only [Option.bind_some]
  rw [penRaw_eq _ _ (by simp)]
  simp only [Option.bind_some,List.nil_append]
  rw [show ∀ p,p.length≤1000→penUint p (g:Int) 8=_ from fun p hp=>penUint_eq p g 8 (by decide) (by show g<18446744073709551616;omega) (by omega)]
  simp only [Option.bind_some]
  rw [show ∀ p,p.length≤1000→penUint p (v:Int) 8=_ from fun p hp=>penUint_eq p v 8 (by decide) (by show v<18446744073709551616;omega) (by omega)]
  simp only [Option.bind_some]
  rw [penRaw_eq _ _ (by simp [be_len];omega)]
  simp only [Option.bind_some]
  rw [penRaw_eq _ _ (by simp [be_len];omega)]
  simp only [Option.bind_some]
  rw [penRaw_eq _ _ (by simp [be_len];omega)]
  simp only [Option.bind_some]
  rw [penRaw_eq _ _ (by simp [be_len];omega)]
  simp only [Option.bind_some]
  rw [u64_id (n:=(c:Int)) (by omega) (by omega)]
  rw [show ∀ p,p.length≤1000→penUint p (c:Int) 1=_ from fun p hp=>penUint_eq p c 1 (by decide) (by show c<256;omega) (by omega)]
  simp only [Option.bind_some]
  rw [show ∀ p,p.length≤1000→penUint p (n:Int) 8=_ from fun p hp=>penUint_eq p n 8 (by decide) (by show n<18446744073709551616;omega) (by omega)]
  simp only [Option.bind_some]
  rw [penText_eq _ _ (by omega) (by simp [be_len];omega)]
  simp only [Option.bind_some]
  unfold penData
  rw [cloneB_eq _ (by simp [be_len,tx_len];omega)]
  simp only [Option.bind_some,Int.toNat_natCast,List.append_assoc,List.cons_append,List.nil_append]
  all_goals (simp [be_len];try omega)
 ·rw [decide_eq_false h,if_pos (by decide),if_neg h]
theorem sameOp_eq (a b:T_api_Op):rSameOp a b=some (decide (a=b)):=by
 obtain ⟨a1,a2,a3,a4,a5,a6⟩:=a
 obtain ⟨b1,b2,b3,b4,b5,b6⟩:=b
 unfold rSameOp
 simp only [Prod.mk.injEq]
 repeat' split
 all_goals simp_all
theorem right14_eq (r:T_api_Record):m_triremeref14_Right r=some (decide (RR r)):=by
 obtain ⟨G,V,P,F,S,T,C,N,O⟩:=r
 unfold m_triremeref14_Right
 simp only
 by_cases hg:G=0
 ·rw [if_pos hg,sameOp_eq]
  simp only [Option.bind_some]
  by_cases h:RR (G,V,P,F,S,T,C,N,O)
  ·rw [decide_eq_true h]
   unfold RR at h
   rw [if_pos hg] at h
   simp only [zO] at h
   rw [if_pos h.1,if_pos h.2.1,if_pos h.2.2.1,if_pos h.2.2.2.1,decide_eq_true h.2.2.2.2]
  ·rw [decide_eq_false h]
   unfold RR at h
   rw [if_pos hg] at h
   repeat' split
   all_goals first
    | rfl
    | (rename_i q1 q2 q3 q4;rw [decide_eq_false (p:=O=(0,[],[],0,0,[])) (fun q=>h ⟨q1,q2,q3,q4,q⟩)])
 ·rw [if_neg hg,right10_eq]
  simp only [Option.bind_some]
  by_cases h:RR (G,V,P,F,S,T,C,N,O)
  ·rw [decide_eq_true h]
   unfold RR at h
   rw [if_neg hg] at h
   rw [if_pos h.1,if_pos h.2.1,if_pos h.2.2.1,decide_eq_true h.2.2.2]
  ·rw [decide_eq_false h]
   unfold RR at h
   rw [if_neg hg] at h
   repeat' split
   all_goals first
    | rfl
    | (rename_i q1 q2 q3;rw [decide_eq_false (fun q=>h ⟨q1,q2,q3,q⟩)])
theorem rEight_eq (n:Nat) (h:n<18446744073709551616):rEight (n:Int)=some (be 8 n):=by
 unfold rEight
 rw [show rUint (n:Int) 8=_ from rUint_eq n 8 (by decide) h]
 rfl
theorem write14_eq (r:T_api_Record) (w:WF r):m_triremeref14_Write r=some (if RR r then (encR r,0) else ([],1)):=by
 unfold m_triremeref14_Write
 rw [right14_eq]
 simp only [Option.bind_some]
 by_cases h:RR r
 ·rw [decide_eq_true h,if_neg (by decide),if_pos h]
  have hol:=ops_len h
  have hcl:=RR_cl h
  have hw:m_triremeref10_Write r.2.2.2.2.2.2.2.2=some (ops r,if RO r.2.2.2.2.2.2.2.2 then 0 else 1):=by
   rw [write10_eq]
   unfold ops
   unfold RR at h
   by_cases hg:r.1=0
   ·rw [if_pos hg] at h
    rw [if_pos hg,h.2.2.2.2,if_neg (by decide),if_neg (by decide)]
   ·rw [if_neg hg] at h
    rw [if_neg hg,if_pos h.2.2.2,if_pos h.2.2.2]
  obtain ⟨w1,w2,w3,w4,w5,w6,w7,w8,w9,w10⟩:=w
  rw [hw]
  clear hw
  generalize hops:ops r=o at hol
  unfold encR
  rw [hops]
  clear hops
  obtain ⟨G,V,P,F,S,T,C,N,O⟩:=r
  simp only at *
  obtain ⟨g,rfl⟩:=Int.eq_ofNat_of_zero_le w1
  obtain ⟨v,rfl⟩:=Int.eq_ofNat_of_zero_le w3
  obtain ⟨n,rfl⟩:=Int.eq_ofNat_of_zero_le w5
  obtain ⟨c,rfl⟩:=Int.eq_ofNat_of_zero_le hcl.1
  rw [show u8O 82=some 82 from rfl,rEight_eq g (by omega)]
  simp only [Option.bind_some]
  rw [appO_of (by simp [be_len])]
  simp only [Option.bind_some]
  rw [rEight_eq v (by omega)]
  simp only [Option.bind_some]
  rw [appO_of (by simp [be_len])]
  simp only [Option.bind_some]
  rw [appO_of (by simp [be_len];omega)]
  simp only [Option.bind_some]
  rw [appO_of (by simp [be_len];omega)]
  simp only [Option.bind_some]
  rw [appO_of (by simp [be_len];omega)]
  simp only [Option.bind_some]
  rw [appO_of (by simp [be_len];omega)]
  simp only [Option.bind_some]
  rw [wrap_u8',show (c:Int) % 256=((c / 256 ^ 0 % 256:Nat):Int) by omega,u8O_of (by omega) (by omega)]
  simp only [Option.bind_some]
  rw [appO_of (by simp [be_len];omega)]
  simp only [Option.bind_some]
  rw [rEight_eq n (by omega)]
  simp only [Option.bind_some]
  rw [appO_of (by simp [be_len];omega)]
  simp only [Option.bind_some]
  rw [rText_eq _ (by omega)]
  simp only [Option.bind_some]
  rw [appO_of (by simp [be_len,tx_len];omega)]
  simp only [Option.bind_some,Int.toNat_natCast,List.append_assoc,List.cons_append,List.nil_append,be]
 ·rw [decide_eq_false h,if_pos (by decide),if_neg h]
def Dec (raw:List UInt8) (r:T_api_Record):Prop:=WF r∧RR r∧encR r=raw
theorem dec_parts {c:UInt8} {g v P F S T:List UInt8} {k:UInt8} {n l body:List UInt8} {r:T_api_Record} (hg:g.length=8) (hv:v.length=8) (hP:P.length=32) (hF:F.length=32) (hS:S.length=32) (hT:T.length=32) (hn:n.length=8) (hl:l.length=2)
  (h:Dec (c::(g++(v++(P++(F++(S++(T++(k::(n++(l++body)))))))))) r):c=82∧val l=body.length∧body=ops r∧RR r∧r=((val g:Int),(val v:Int),P,F,S,T,(k.toNat:Int),(val n:Int),r.2.2.2.2.2.2.2.2):=by
 obtain ⟨w,hr,he⟩:=h
 have hol:=ops_len hr
 have hcl:=RR_cl hr
 unfold encR at he
 generalize ops r=o at *
 obtain ⟨G,V,p,f,s,t,C,N,O⟩:=r
 obtain ⟨w1,w2,w3,w4,w5,w6,w7,w8,w9,w10⟩:=w
 simp only at *
 obtain ⟨i1,rfl⟩:=Int.eq_ofNat_of_zero_le w1
 obtain ⟨i2,rfl⟩:=Int.eq_ofNat_of_zero_le w3
 obtain ⟨i3,rfl⟩:=Int.eq_ofNat_of_zero_le w5
 obtain ⟨i4,rfl⟩:=Int.eq_ofNat_of_zero_le hcl.1
 simp only [Int.toNat_natCast,List.cons.injEq] at he
 have E0:=he.1
 have E1:=List.append_inj he.2 (by rw [be_len,hg])
 have E2:=List.append_inj E1.2 (by rw [be_len,hv])
 have E3:=List.append_inj E2.2 (by rw [w7,hP])
 have E4:=List.append_inj E3.2 (by rw [w8,hF])
 have E5:=List.append_inj E4.2 (by rw [w9,hS])
 have E6:=List.append_inj E5.2 (by rw [w10,hT])
 have E7:=E6.2
 rw [show be 1 i4=[u8 ((i4 / 256 ^ 0 % 256:Nat):Int)] from rfl,List.cons_append,List.nil_append,List.cons.injEq] at E7
 have E8:=List.append_inj E7.2 (by rw [be_len,hn])
 have E9:=List.append_inj (show be 2 o.length++o=l++body from E8.2) (by rw [be_len,hl])
 rw [← E0,← E1.1,← E2.1,← E3.1,← E4.1,← E5.1,← E6.1,← E7.1,← E8.1,← E9.1,← E9.2]
 refine ⟨rfl,?_,rfl,hr,?_⟩
 ·rw [val_be];omega
 ·rw [val_be,val_be,val_be]
  rw [Nat.mod_eq_of_lt (show i1<256 ^ 8 by show i1<18446744073709551616;omega),Nat.mod_eq_of_lt (show i2<256 ^ 8 by show i2<18446744073709551616;omega),Nat.mod_eq_of_lt (show i3<256 ^ 8 by show i3<18446744073709551616;omega)]
  rw [u8_nat _ (by omega),show i4 / 256 ^ 0 % 256=i4 by omega]
theorem seg_drop {α:Type} (x:List α) (i j:Nat) (h:i≤j) (h2:j≤x.length):x.drop i=(x.take j).drop i++x.drop j:=by
 conv=>lhs;rw [← List.take_append_drop j x]
 rw [List.drop_append_of_le_length (by rw [List.length_take];omega)]
theorem raw_parts (x:List UInt8) (h:156≤x.length):∃ c g v P F S T k n l body,g.length=8∧v.length=8∧P.length=32∧F.length=32∧S.length=32∧T.length=32∧n.length=8∧l.length=2∧body.length+156=x.length
  ∧ x=c::(g++(v++(P++(F++(S++(T++(k::(n++(l++body)))))))))
  ∧ idxO x 0=some c∧slcO x 1 9=some g∧slcO x 9 17=some v∧slcO x 17 49=some P∧slcO x 49 81=some F∧slcO x 81 113=some S∧slcO x 113 145=some T∧idxO x 145=some k∧slcO x 146 154=some n∧slcO x 154 156=some l∧slcO x 156 (x.length:Int)=some body:=by
 refine ⟨x.getD 0 0,(x.take 9).drop 1,(x.take 17).drop 9,(x.take 49).drop 17,(x.take 81).drop 49,(x.take 113).drop 81,(x.take 145).drop 113,x.getD 145 0,(x.take 154).drop 146,(x.take 156).drop 154,x.drop 156,?_,?_,?_,?_,?_,?_,?_,?_,?_,?_,idxO_getD 0 rfl (by omega),slcO_of (i:=1) (j:=9) (by omega) (by omega),slcO_of (i:=9) (j:=17) (by omega) (by omega),slcO_of (i:=17) (j:=49) (by omega) (by omega),slcO_of (i:=49) (j:=81) (by omega) (by omega),slcO_of (i:=81) (j:=113) (by omega) (by omega),slcO_of (i:=113) (j:=145) (by omega) (by omega),idxO_getD 0 rfl (by omega),slcO_of (i:=146) (j:=154) (by omega) (by omega),slcO_of (i:=154) (j:=156) (by omega) (by omega),?_⟩
 all_goals try (simp only [List.length_drop,List.length_take];omega)
 ·rw [← seg_drop x 154 156 (by omega) h,← seg_drop x 146 154 (by omega) (by omega)]
  have e:x.getD 145 0::x.drop 146=x.drop 145:=by
   rw [List.drop_eq_getElem_cons (show 145<x.length by omega)]
   simp [List.getD_eq_getElem?_getD,show 145<x.length by omega]
  have e0:x.getD 0 0::x.drop 1=x:=by
   have:x.drop 0=_:=List.drop_eq_getElem_cons (show 0<x.length by omega)
   rw [List.drop_zero] at this
   conv=>rhs;rw [this]
   simp [List.getD_eq_getElem?_getD,show 0<x.length by omega]
  rw [e,← seg_drop x 113 145 (by omega) (by omega),← seg_drop x 81 113 (by omega) (by omega),← seg_drop x 49 81 (by omega) (by omega),← seg_drop x 17 49 (by omega) (by omega),← seg_drop x 9 17 (by omega) (by omega),← seg_drop x 1 9 (by omega) (by omega),e0]
 ·rw [show slcO x 156 (x.length:Int)=_ from slcO_of (i:=156) h (Nat.le_refl _),List.take_length]
theorem hash_eq (x:List UInt8) (h:x.length=32):m_triremeref14_hash x=some x:=by
 unfold m_triremeref14_hash
 rw [(loop_for0 (fun (i:Nat) (s:List UInt8)=>s.set i (x.getD i 0)) (fun s=>s) 32 (fun i s=>s.length=32) (fun i s hi hs=>?_) (fun s _=>by simp only;rw [if_neg (by omega)]) (s0:=List.replicate 32 0) (by simp)).1]
 ·rw [iter_set_all (fun i=>x.getD i 0) 32 _ (by simp)]
  simp only [Option.bind_some,Option.some.injEq]
  apply List.ext_getElem?
  intro i
  by_cases hi:i<32
  ·simp [hi,List.getD_eq_getElem?_getD,show i<x.length by omega]
  ·rw [List.getElem?_eq_none (by simp;omega),List.getElem?_eq_none (by omega)]
 ·refine ⟨?_,by simp [hs]⟩
  simp only
  rw [if_pos (by omega),idxO_getD 0 rfl (by omega),idxO_getD 0 rfl (by omega)]
  simp only [Option.bind_some]
  rw [u8_ok]
  simp only [Option.bind_some]
  rw [i64_id (by omega) (by omega)]
  rfl
theorem ops_some {r:T_api_Record} (h:RR r) (h2:ops r≠[]):r.1≠0∧strO (ops r)=some r.2.2.2.2.2.2.2.2:=by
 unfold ops at *
 unfold RR at h
 by_cases hg:r.1=0
 ·rw [if_pos hg] at h2;exact absurd rfl h2
 ·rw [if_neg hg] at h h2 ⊢
  exact ⟨hg,(strO_iff _ _).2 ⟨h.2.2.2,rfl⟩⟩
theorem ops_none {r:T_api_Record} (h:RR r) (h2:ops r=[]):r.1=0∧r.2.2.2.2.2.2.2.2=zO:=by
 unfold ops at *
 unfold RR at h
 by_cases hg:r.1=0
 ·rw [if_pos hg] at h;exact ⟨hg,h.2.2.2.2⟩
 ·rw [if_neg hg] at h2
  have:=congrArg List.length h2
  rw [encO_len] at this
  simp at this
def opOf (body:List UInt8):T_api_Op:=if body=[] then zO else (gotO body).1
theorem opOf_eq {r:T_api_Record} (h:RR r):opOf (ops r)=r.2.2.2.2.2.2.2.2:=by
 unfold opOf
 by_cases h2:ops r=[]
 ·rw [if_pos h2,(ops_none h h2).2]
 ·rw [if_neg h2]
  unfold gotO
  rw [(ops_some h h2).2]
theorem dec_uniq {raw:List UInt8} {r1 r2:T_api_Record} (h1:Dec raw r1) (h2:Dec raw r2):r1=r2:=by
 have hl:156≤raw.length:=by rw [← h1.2.2,encR_len h1.1];omega
 obtain ⟨c,g,v,P,F,S,T,k,n,l,body,q1,q2,q3,q4,q5,q6,q7,q8,q9,rfl,_⟩:=raw_parts raw hl
 obtain ⟨_,_,a1,a2,a3⟩:=dec_parts q1 q2 q3 q4 q5 q6 q7 q8 h1
 obtain ⟨_,_,b1,b2,b3⟩:=dec_parts q1 q2 q3 q4 q5 q6 q7 q8 h2
 rw [a3,b3,← opOf_eq a2,← opOf_eq b2,← a1,← b1]
def Got (raw:List UInt8) (m:Option (T_api_Record×Int)):Prop:=(∃ r,Dec raw r∧m=some (r,0))∨((∀ r,¬ Dec raw r)∧m=some (zR,22))
theorem read14_eq (raw:List UInt8) (hb:raw.length≤100000):Got raw (m_triremeref14_Read raw):=by
 unfold m_triremeref14_Read
 by_cases hl:raw.length<156
 ·rw [if_pos (by omega)]
  refine .inr ⟨fun r h=>?_,rfl⟩
  have:=encR_len h.1
  rw [h.2.2] at this
  omega
 rw [if_neg (by omega)]
 obtain ⟨c,g,v,P,F,S,T,k,n,l,body,q1,q2,q3,q4,q5,q6,q7,q8,q9,hraw,j1,j2,j3,j4,j5,j6,j7,j8,j9,j10,j11⟩:=raw_parts raw (by omega)
 have hvl:=val_lt l
 rw [q8] at hvl
 rw [j1]
 simp only [Option.bind_some]
 by_cases hc:(c.toNat:Int)=82
 rotate_left
 ·rw [if_neg hc]
  refine .inr ⟨fun r h=>hc ?_,rfl⟩
  rw [hraw] at h
  obtain ⟨rfl,_⟩:=dec_parts q1 q2 q3 q4 q5 q6 q7 q8 h
  rfl
 have hc':c=82:=UInt8.toNat_inj.1 (by show c.toNat=82;omega)
 rw [if_pos hc,j2,j3,j4,j5,j6,j7]
 simp only [Option.bind_some]
 rw [num_eq g (by omega),num_eq v (by omega),hash_eq P q3,hash_eq F q4,hash_eq S q5,hash_eq T q6,j8,j9]
 simp only [Option.bind_some]
 rw [num_eq n (by omega),j10]
 simp only [Option.bind_some]
 rw [num_eq l (by omega)]
 simp only [Option.bind_some]
 rw [i64_id (n:=(val l:Int)) (by omega) (by omega),i64_id (n:=(raw.length:Int) - 156) (by omega) (by omega)]
 by_cases hlb:val l=body.length
 rotate_left
 ·rw [if_neg (by omega)]
  refine .inr ⟨fun r h=>?_,rfl⟩
  rw [hraw] at h
  exact hlb (dec_parts q1 q2 q3 q4 q5 q6 q7 q8 h).2.1
 rw [if_pos (by omega),j11]
 simp only [Option.bind_some]
 have hkt:=k.toNat_lt
 have hgl:=val_lt g
 have hvv:=val_lt v
 have hnl:=val_lt n
 rw [q1] at hgl
 rw [q2] at hvv
 rw [q7] at hnl
 have hgl':val g<18446744073709551616:=hgl
 have hvv':val v<18446744073709551616:=hvv
 have hnl':val n<18446744073709551616:=hnl
 rw [read10_eq body (by omega),i64_id (n:=(k.toNat:Int)) (by omega) (by omega)]
 simp only [Option.bind_some]
 -- what is right
 have hdec:∀ o,RR ((val g:Int),(val v:Int),P,F,S,T,(k.toNat:Int),(val n:Int),o)→ops ((val g:Int),(val v:Int),P,F,S,T,(k.toNat:Int),(val n:Int),o)=body→Dec raw ((val g:Int),(val v:Int),P,F,S,T,(k.toNat:Int),(val n:Int),o):=fun o hr ho=>by
  refine ⟨⟨by simp only;omega,by simp only;omega,by simp only;omega,by simp only;omega,by simp only;omega,by simp only;omega,q3,q4,q5,q6⟩,hr,?_⟩
  unfold encR
  rw [ho,hraw]
  simp only [Int.toNat_natCast]
  have e1:=be_val g
  have e2:=be_val v
  have e3:=be_val n
  have e4:=be_val l
  rw [q1] at e1
  rw [q2] at e2
  rw [q7] at e3
  rw [q8,hlb] at e4
  rw [e1,e2,e3,hc']
  unfold tx
  rw [e4]
  simp only [be,Nat.pow_zero,Nat.div_one,Nat.mod_eq_of_lt hkt,u8_toNat,List.cons_append,List.nil_append,List.append_assoc]
 have hnd:∀ r,Dec raw r→body=ops r∧RR r∧r=((val g:Int),(val v:Int),P,F,S,T,(k.toNat:Int),(val n:Int),opOf body):=fun r h=>by
  rw [hraw] at h
  obtain ⟨_,_,a1,a2,a3⟩:=dec_parts q1 q2 q3 q4 q5 q6 q7 q8 h
  refine ⟨a1,a2,?_⟩
  rw [a1,opOf_eq a2]
  exact a3
 by_cases hb0:body=[]
 ·have h0:val l=0:=by rw [hlb,hb0];rfl
  rw [if_neg (by omega)]
  simp only [Option.bind_some,Sum.elim_inl]
  rw [right14_eq]
  simp only [Option.bind_some]
  have hz:opOf body=zO:=by unfold opOf;rw [if_pos hb0]
  rw [show ((0,[],[],0,0,[]):T_api_Op)=zO from rfl]
  by_cases hr:RR ((val g:Int),(val v:Int),P,F,S,T,(k.toNat:Int),(val n:Int),zO)
  ·rw [decide_eq_true hr,if_neg (by decide)]
   have hg0:((val g:Nat):Int)=0:=by
    by_cases hg:((val g:Nat):Int)=0
    ·exact hg
    ·unfold RR at hr
     rw [if_neg hg] at hr
     exact absurd (show RO zO from hr.2.2.2) (by decide)
   rw [if_pos (by rw [decide_eq_true hg0,decide_eq_true (by omega)])]
   exact .inl ⟨_,hdec zO hr (by unfold ops;rw [if_pos hg0,hb0]),rfl⟩
  ·rw [decide_eq_false hr,if_pos (by decide)]
   refine .inr ⟨fun r h=>hr ?_,rfl⟩
   obtain ⟨a1,a2,a3⟩:=hnd r h
   rw [hz] at a3
   rw [← a3]
   exact a2
 ·have hbl:0<body.length:=List.length_pos_iff.2 hb0
  rw [if_pos (by omega)]
  have hgot:opOf body=(gotO body).1:=by unfold opOf;rw [if_neg hb0]
  unfold gotO at hgot ⊢
  cases hs:strO body with
  | none =>
   simp only
   rw [if_neg (by decide)]
   simp only [Option.bind_some,Sum.elim_inr]
   refine .inr ⟨fun r h=>?_,rfl⟩
   obtain ⟨a1,a2,a3⟩:=hnd r h
   have:=(ops_some a2 (by rw [← a1];exact hb0)).2
   rw [← a1,hs] at this
   cases this
  | some o =>
   rw [hs] at hgot
   simp only at hgot ⊢
   rw [if_pos trivial]
   simp only [Option.bind_some,Sum.elim_inl]
   rw [right14_eq]
   simp only [Option.bind_some]
   obtain ⟨ro,eo⟩:=(strO_iff _ _).1 hs
   by_cases hr:RR ((val g:Int),(val v:Int),P,F,S,T,(k.toNat:Int),(val n:Int),o)
   ·rw [decide_eq_true hr,if_neg (by decide)]
    have hg0:¬ ((val g:Nat):Int)=0:=fun hg=>by
     unfold RR at hr
     rw [if_pos hg] at hr
     rw [show o=zO from hr.2.2.2.2] at ro
     exact absurd ro (by decide)
    rw [if_pos (by rw [decide_eq_false hg0,decide_eq_false (by omega)])]
    exact .inl ⟨_,hdec o hr (by unfold ops;rw [if_neg hg0,eo]),rfl⟩
   ·rw [decide_eq_false hr,if_pos (by decide)]
    refine .inr ⟨fun r h=>hr ?_,rfl⟩
    obtain ⟨a1,a2,a3⟩:=hnd r h
    rw [hgot] at a3
    rw [← a3]
    exact a2
theorem cRead_eq (raw:List UInt8) (hb:raw.length≤100000):Got raw (cRead raw):=by
 obtain ⟨v1,c1,e1,g1,d1,b1,l1⟩:=eU raw 1 (by decide) hb
 obtain ⟨v2,c2,e2,g2,d2,b2,l2⟩:=eU e1 8 (by decide) l1
 obtain ⟨v3,c3,e3,g3,d3,b3,l3⟩:=eU e2 8 (by decide) l2
 obtain ⟨t1,c4,e4,g4,d4,l4⟩:=eH e3 l3
 obtain ⟨t2,c5,e5,g5,d5,l5⟩:=eH e4 l4
 obtain ⟨t3,c6,e6,g6,d6,l6⟩:=eH e5 l5
 obtain ⟨t4,c7,e7,g7,d7,l7⟩:=eH e6 l6
 obtain ⟨v8,c8,e8,g8,d8,b8,l8⟩:=eU e7 1 (by decide) l7
 obtain ⟨v9,c9,e9,g9,d9,b9,l9⟩:=eU e8 8 (by decide) l8
 obtain ⟨t10,c10,e10,g10,d10,m10,l10⟩:=eT e9 l9
 have B2:v2<18446744073709551616:=b2
 have B3:v3<18446744073709551616:=b3
 have B8:v8<256:=b8
 have B9:v9<18446744073709551616:=b9
 unfold cRead newEye
 rw [cloneB_eq _ (by omega)]
 simp only [Option.bind_some]
 rw [show eyeUint raw 1=_ from g1]
 simp only [Option.bind_some]
 rw [show eyeUint e1 8=_ from g2]
 simp only [Option.bind_some]
 rw [show eyeUint e2 8=_ from g3]
 simp only [Option.bind_some]
 rw [g4]
 simp only [Option.bind_some]
 rw [g5]
 simp only [Option.bind_some]
 rw [g6]
 simp only [Option.bind_some]
 rw [g7]
 simp only [Option.bind_some]
 rw [show eyeUint e7 1=_ from g8]
 simp only [Option.bind_some]
 rw [show eyeUint e8 8=_ from g9]
 simp only [Option.bind_some]
 rw [g10]
 simp only [Option.bind_some]
 have hop:(if 0<(t10.length:Int) then (oRead t10).bind fun x36=>some x36.1 else some (0,[],[],0,0,[]))=some (opOf t10):=by
  unfold opOf
  by_cases h0:t10=[]
  ·rw [if_pos h0,h0];rfl
  ·have:=List.length_pos_iff.2 h0
   rw [if_neg h0,if_pos (by omega),oRead_eq _ m10];rfl
 rw [hop]
 simp only [Option.bind_some]
 rw [i64_id (n:=(v8:Int)) (by omega) (by omega)]
 generalize hr':(((v2:Int),(v3:Int),putAt (List.replicate 32 0) 0 (t1.take 32),putAt (List.replicate 32 0) 0 (t2.take 32),putAt (List.replicate 32 0) 0 (t3.take 32),putAt (List.replicate 32 0) 0 (t4.take 32),(v8:Int),(v9:Int),opOf t10):T_api_Record)=r'
 have w:WF r':=by
  subst hr'
  exact ⟨by simp only;omega,by simp only;omega,by simp only;omega,by simp only;omega,by simp only;omega,by simp only;omega,put32_len _,put32_len _,put32_len _,put32_len _⟩
 have huniq:∀ r,Dec raw r→r=r':=fun r h=>by
  obtain ⟨w,hr,he⟩:=h
  have hol:=ops_len hr
  have hcl:=RR_cl hr
  have hopr:=opOf_eq hr
  unfold encR at he
  generalize ops r=o at *
  obtain ⟨G,V,p,f,s,t,C,N,O⟩:=r
  obtain ⟨w1,w2,w3,w4,w5,w6,w7,w8,w9,w10⟩:=w
  simp only at *
  obtain ⟨i1,rfl⟩:=Int.eq_ofNat_of_zero_le w1
  obtain ⟨i2,rfl⟩:=Int.eq_ofNat_of_zero_le w3
  obtain ⟨i3,rfl⟩:=Int.eq_ofNat_of_zero_le w5
  obtain ⟨i4,rfl⟩:=Int.eq_ofNat_of_zero_le hcl.1
  simp only [Int.toNat_natCast] at he
  subst he
  obtain ⟨_,rfl⟩:=d1 _ _ (show rdN 1 (be 1 82++_)=_ from rdN_be (by decide) _)
  obtain ⟨rfl,rfl⟩:=d2 _ _ (rdN_be (by show i1<18446744073709551616;omega) _)
  obtain ⟨rfl,rfl⟩:=d3 _ _ (rdN_be (by show i2<18446744073709551616;omega) _)
  obtain ⟨y1,rfl⟩:=d4 _ _ w7 rfl
  obtain ⟨y2,rfl⟩:=d5 _ _ w8 rfl
  obtain ⟨y3,rfl⟩:=d6 _ _ w9 rfl
  obtain ⟨y4,rfl⟩:=d7 _ _ w10 rfl
  obtain ⟨rfl,rfl⟩:=d8 _ _ (rdN_be (by show i4<256;omega) _)
  obtain ⟨rfl,rfl⟩:=d9 _ _ (rdN_be (by show i3<18446744073709551616;omega) _)
  obtain ⟨rfl,rfl⟩:=d10 _ _ (show rdT (tx o)=some (o,[]) by have:=rdT_tx (b:=o) (by omega) [];rwa [List.append_nil] at this)
  rw [← hr',y1,y2,y3,y4,hopr]
 rw [cWrite_eq r' w]
 simp only [Option.bind_some]
 by_cases hr:RR r'
 ·rw [if_pos hr,if_pos rfl,equalB_eq _ _ (by rw [encR_len w];have:=ops_len hr;omega)]
  simp only [Option.bind_some]
  by_cases he:encR r'=raw
  ·rw [decide_eq_true he,if_neg (by decide)]
   exact .inl ⟨r',⟨w,hr,he⟩,by rw [← hr']⟩
  ·rw [decide_eq_false he,if_pos (by decide)]
   exact .inr ⟨fun r h=>he (by rw [← huniq r h];exact h.2.2),rfl⟩
 ·rw [if_neg hr,if_neg (by decide)]
  exact .inr ⟨fun r h=>hr (by rw [← huniq r h];exact h.2.1),rfl⟩
theorem got_eq {raw:List UInt8} {m m':Option (T_api_Record×Int)} (h:Got raw m) (h':Got raw m'):m=m':=by
 rcases h with ⟨r,d,rfl⟩ | ⟨d,rfl⟩<;>rcases h' with ⟨r',d',rfl⟩ | ⟨d',rfl⟩
 ·rw [dec_uniq d d']
 ·exact absurd d (d' r)
 ·exact absurd d' (d r')
 ·rfl
theorem got_some {raw:List UInt8} {m:Option (T_api_Record×Int)} (h:Got raw m):∃ x,m=some x:=by
 rcases h with ⟨r,d,rfl⟩ | ⟨d,rfl⟩<;>exact ⟨_,rfl⟩
theorem same_refl (a:T_api_Record):m_triremeref14_Same a a=some true:=by
 unfold m_triremeref14_Same m_triremeref14_SameCall
 simp only [sameOp_eq,if_true,decide_true,Option.bind_some]
theorem great_eq (o:T_api_Op):∃ b,rGreatOp o=some b:=by
 unfold rGreatOp
 repeat' split
 all_goals exact ⟨_,rfl⟩
theorem records_true (r:T_api_Record) (raw:List UInt8) (w:WF r):lRecords r raw=some true:=by
 unfold lRecords
 rw [speaks_true]
 simp only [Option.bind_some]
 rw [if_neg (by decide)]
 obtain ⟨b,hb⟩:=great_eq r.2.2.2.2.2.2.2.2
 rw [hb]
 simp only [Option.bind_some]
 by_cases h1:b=true
 ·rw [if_pos h1]
 rw [if_neg h1]
 by_cases h2:1000<(raw.length:Int)
 ·rw [if_pos h2]
 rw [if_neg h2]
 rw [show cWrite (r.1,r.2.1,r.2.2.1,r.2.2.2.1,r.2.2.2.2.1,r.2.2.2.2.2.1,(r.2.2.2.2.2.2.1,r.2.2.2.2.2.2.2.1,r.2.2.2.2.2.2.2.2))=_ from cWrite_eq r w,show m_triremeref14_Write (r.1,r.2.1,r.2.2.1,r.2.2.2.1,r.2.2.2.2.1,r.2.2.2.2.2.1,(r.2.2.2.2.2.2.1,r.2.2.2.2.2.2.2.1,r.2.2.2.2.2.2.2.2))=_ from write14_eq r w,appO_of (by simp;omega)]
 simp only [Option.bind_some,List.nil_append]
 have k1:=cRead_eq raw (by omega)
 have k2:=read14_eq raw (by omega)
 obtain ⟨x,hx⟩:=got_some k1
 rw [← got_eq k1 k2,hx]
 simp only [Option.bind_some,if_true]
 rw [same_refl]
 simp only [Option.bind_some]
 rw [if_neg (by decide)]
 by_cases hr:RR r
 ·rw [if_pos hr,if_pos rfl]
  have hd:Dec (encR r) r:=⟨w,hr,rfl⟩
  have hl:=ops_len hr
  have he:=encR_len w
  rcases cRead_eq (encR r) (by omega) with ⟨r',d,h⟩ | ⟨d,h⟩
  ·rw [h]
   simp only [Option.bind_some,if_true]
   obtain rfl:=dec_uniq d hd
   exact (congrArg (fun o=>Option.bind o fun x39=>some x39) (same_refl r')).trans rfl
  ·exact absurd hd (d r)
 ·rw [if_neg hr,if_neg (by decide)]
end Go.Proofs.YtapllcabobickaaGreatDoor
