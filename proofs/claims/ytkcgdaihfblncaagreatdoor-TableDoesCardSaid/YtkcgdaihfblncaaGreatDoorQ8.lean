/- Texts Au. -/
import Derived.Test.YtkcgdaihfblncaaGreatDoorQ4
import Derived.Test.YtkcgdaihfblncaaGreatDoorQ5
import Derived.Test.YtkcgdaihfblncaaGreatDoorQ7
set_option linter.unusedSimpArgs false
set_option linter.unusedVariables false
namespace Go.Tri
open Go.RowKit
def Sel (l t:List HP):Prop:=∀ (F:List HP) (w0 w:World),St w0 w (F++l)->St w0 w (F++t)
section
variable {l t r:List HP} {A:HP} {w0 w:World}
theorem Sel.st (H:St w0 w l) (h:Sel l t):St w0 w t:=h [] _ _ H
theorem Sel.nil:Sel l l:=fun _ _ _ h=>h
theorem Sel.cons (h:Sel l t):Sel (A::l) (A::t):=fun F w0 w H=>by simpa using h (F++[A]) w0 w (by simpa using H)
theorem Sel.trans {m:List HP} (h:Sel l m) (h':Sel m t):Sel l t:=fun F w0 w H=>h' F w0 w (h F w0 w H)
theorem Sel.perm (h:l.Perm t):Sel l t:=fun F _ _ H=>H.perm (h.append_left F)
theorem Sel.of {m:List HP} (h:∀ (G:List HP) (w0 w:World),St w0 w (l++G)->St w0 w (m++G)):Sel l m:=fun F w0 w H =>
 (h F w0 w (H.perm List.perm_append_comm)).perm List.perm_append_comm
theorem Sel.drop1 (h:Sel l t):Sel (A::l) t:=Sel.trans (Sel.of (l:=[A]++l) (m:=l) fun _ _ _ H=>H.tail) h
def pkP (i:Nat) (l:List HP):Option (HP×List HP):=match pkL i l with
 | some (A,r)=>match A.ps with
  | true=>some (A,l)
  | false=>some (A,r)
 | none=>none
theorem nU:∀ {n:Nat} {l r:List HP} {A:HP},pkL n l=some (A,r)->l.Perm (A::r)
 | _,[],_,_,h=>by cases ‹Nat›<;>cases h
 | 0,_::_,_,_,h=>by cases h;exact List.Perm.refl _
 | n+1,b::r,r2,a,h=>by
  simp only [pkL] at h
  split at h
  ·rename_i x r' e
   cases h
   exact ((nU e).cons b).trans (List.Perm.swap _ _ _)
  ·cases h
theorem St.dup (H:St w0 w (A::l)) (hA:A.ps=true):St w0 w (A::A::l) :=
 H.more fun B _ hp=>by obtain ⟨S,h⟩:=hp 0 A rfl;exact A.pok hA h
theorem Sel.at (i:Nat) (h:pkP i l=some (A,r)) (k:Sel r t):Sel l (A::t):=by
 unfold pkP at h
 split at h
 ·rename_i C r' e
  have hp:=nU e
  split at h
  ·rename_i hps
   cases h
   exact Sel.trans (Sel.perm hp) (Sel.trans (Sel.of (l:=[A]++r') (m:=[A]++[A]++r') fun G _ _ H=>St.dup H hps) (Sel.cons (Sel.trans (Sel.perm hp.symm) k)))
  ·cases h
   exact Sel.trans (Sel.perm hp) (Sel.cons k)
 ·cases h
theorem Sel.fz {α:Type} {R:Rp α} {e:TypeId} {p:Option Addr} {cap:Nat} {xs:List α} (i:Nat) (h:pkL i l=some (HP.ow R e p cap xs,r)) (k:Sel (HP.sl R p cap xs::r) t):Sel l (HP.sl R p cap xs::t) :=
 Sel.trans (Sel.perm (nU h)) (Sel.trans (Sel.of (l:=[HP.ow R e p cap xs]++r) (m:=[HP.sl R p cap xs]++r) fun _ _ _ H=>St.frz H 0 rfl) (Sel.at 0 (r:=HP.sl R p cap xs::r) rfl k))
theorem Sel.on {α:Type} {R:Rp α} {e:TypeId} (k:Sel l t):Sel l (HP.ow R e none 0 []::t):=fun F w0 w H =>
 (St.oN (k F w0 w H) R e).perm (List.perm_middle.symm)
theorem Sel.sn {α:Type} {R:Rp α} (k:Sel l t):Sel l (HP.sl R none 0 []::t):=fun F w0 w H =>
 (St.frz (St.oN (k F w0 w H) R 0) 0 rfl).perm (List.perm_middle.symm)
end
def HP.top:HP:=HP.pe (fun _=>True) (fun h _=>h)
section
variable {l t:List HP} {A B C D:HP} {w0 w:World}
theorem Sel.top:Sel l (HP.top::l):=fun F _ _ H=>(H.more fun _ _ _=>trivial).perm List.perm_middle.symm
theorem Sel.tp (k:Sel l t):Sel l (HP.top::t):=fun F w0 w H=>Sel.top F w0 w (k F w0 w H)
theorem St.d0 (H:St w0 w (HP.top::l)):St w0 w l:=H.tail
theorem St.d1 (H:St w0 w (A::HP.top::l)):St w0 w (A::l):=(H.perm (List.Perm.swap _ _ _)).tail
theorem St.d2 (H:St w0 w (A::B::HP.top::l)):St w0 w (A::B::l):=(H.perm (List.perm_middle (l₁:=[A,B]))).tail
theorem St.d3 (H:St w0 w (A::B::C::HP.top::l)):St w0 w (A::B::C::l):=(H.perm (List.perm_middle (l₁:=[A,B,C]))).tail
theorem St.d4 (H:St w0 w (A::B::C::D::HP.top::l)):St w0 w (A::B::C::D::l):=(H.perm (List.perm_middle (l₁:=[A,B,C,D]))).tail
end
theorem St.midTail {w0 w:World} {l F:List HP} {A:HP} (H:St w0 w (F++A::l)):St w0 w (F++l):=(H.perm List.perm_middle).tail
theorem St.midFront {w0 w:World} {l F:List HP} {A:HP} (H:St w0 w (F++A::l)):St w0 w (A::(F++l)):=H.perm List.perm_middle
theorem St.midBack {w0 w:World} {l F:List HP} {A:HP} (H:St w0 w (A::(F++l))):St w0 w (F++A::l):=H.perm List.perm_middle.symm
class FoldA {α:Type} (R:Rp α) (cs:List Value) (x:α) (rest:outParam (List Value)) (need:outParam (List HP->List HP)):Prop where
 pf:∃ c,cs=c++rest/\∀ l,Sel (need l) (HP.rc R c x::l)
 ap:∀ l r,need (l++r)=need l++r
section
variable {α β:Type} {R:Rp α} {Q:Rp β} {rest m:List Value} {n1 n2:List HP->List HP}
instance {b:Bool}:FoldA iW (.bool b::rest) b rest (fun l=>l):=⟨⟨[.bool b],rfl,fun _ _ _ _ H=>(H.mR (R:=iW) (cs:=[.bool b]) (x:=b) fun _=>rfl).midBack⟩,fun _ _=>rfl⟩
instance {c:UInt8}:FoldA rByte (.int .u8 ((c.toNat:Nat):Int)::rest) c rest (fun l=>l):=⟨⟨[.int .u8 ((c.toNat:Nat):Int)],rfl,fun _ _ _ _ H=>(H.mR (R:=rByte) (cs:=[.int .u8 ((c.toNat:Nat):Int)]) (x:=c) fun _=>rfl).midBack⟩,fun _ _=>rfl⟩
instance {k:IntKind} {i:Int}:FoldA (dC k) (.int k i::rest) i rest (fun l=>l):=⟨⟨[.int k i],rfl,fun _ _ _ _ H=>(H.mR (R:=dC k) (cs:=[.int k i]) (x:=i) fun _=>rfl).midBack⟩,fun _ _=>rfl⟩
instance {s:List UInt8}:FoldA rStr (.string (txb s)::rest) s rest (fun l=>l):=⟨⟨[.string (txb s)],rfl,fun _ _ _ _ H=>(H.mR (R:=rStr) (cs:=[.string (txb s)]) (x:=s) fun _=>rfl).midBack⟩,fun _ _=>rfl⟩
instance:FoldA rStr (.string ByteArray.empty::rest) [] rest (fun l=>l):=⟨⟨[.string ByteArray.empty],rfl,fun _ _ _ _ H=>(H.mR (R:=rStr) (cs:=[.string ByteArray.empty]) (x:=[]) fun _=>rfl).midBack⟩,fun _ _=>rfl⟩
instance {p:Option Addr} {c:Nat} {xs:List α}:FoldA (rSl R) (.slice p xs.length c::rest) xs rest (fun l=>HP.sl R p c xs::l):=⟨⟨[.slice p xs.length c],rfl,fun l=>Sel.of (l:=HP.sl R p c xs::l) (m:=HP.rc (rSl R) _ xs::l) fun _ _ _ H=>((H.mR (R:=rSl R) (x:=xs) fun g=>⟨p,c,rfl,(g 0 _ rfl).choose_spec⟩).perm (List.Perm.swap _ _ _)).tail⟩,fun _ _=>rfl⟩
instance:FoldA (rSl R) (.slice none 0 0::rest) [] rest (fun l=>l):=⟨⟨[.slice none 0 0],rfl,fun l=>Sel.trans (Sel.sn (R:=R) Sel.nil) (Sel.of (l:=HP.sl R none 0 []::l) (m:=HP.rc (rSl R) _ []::l) fun _ _ _ H=>((H.mR (R:=rSl R) (x:=[]) fun g=>⟨none,0,rfl,(g 0 _ rfl).choose_spec⟩).perm (List.Perm.swap _ _ _)).tail)⟩,fun _ _=>rfl⟩
instance {y:α} {p:Option Addr} {c:Nat}:FoldA (rSl R) (.slice p 1 c::rest) [y] rest (fun l=>HP.sl R p c [y]::l):=⟨⟨[.slice p 1 c],rfl,fun l=>Sel.of (l:=HP.sl R p c [y]::l) (m:=HP.rc (rSl R) _ [y]::l) fun _ _ _ H=>((H.mR (R:=rSl R) (x:=[y]) fun g=>⟨p,c,rfl,(g 0 _ rfl).choose_spec⟩).perm (List.Perm.swap _ _ _)).tail⟩,fun _ _=>rfl⟩
instance {cs:List Value} {x:α×β} [a:FoldA R cs x.1 m n1] [b:FoldA Q m x.2 rest n2]:FoldA (bP R Q) cs x rest (fun l=>n1 (n2 l)):=⟨by
 obtain ⟨c,rfl,h1⟩:=a.pf
 obtain ⟨d,rfl,h2⟩:=b.pf
 refine ⟨c++d,by simp,fun l=>Sel.trans (h1 _) (Sel.trans (Sel.cons (h2 l)) (Sel.of (l:=HP.rc R c x.1::HP.rc Q d x.2::l) (m:=HP.rc (bP R Q) (c++d) x::l) fun G w0 w H=>?_))⟩
 have H1:=H.mR (R:=bP R Q) (cs:=c++d) (x:=x) fun g=>⟨c,d,rfl,(g 0 _ rfl).choose_spec,(g 1 _ rfl).choose_spec⟩
 exact (((H1.perm (List.Perm.swap _ _ _)).tail).perm (List.Perm.swap _ _ _)).tail,fun l r=>by rw [b.ap,a.ap]⟩
theorem FoldA.tl {cs:List Value} {x:α} {need:List HP->List HP} (f:FoldA R cs x [] need) (r:List HP):Sel (need []++r) (HP.rc R cs x::r):=by
 obtain ⟨c,e,h⟩:=f.pf
 rw [List.append_nil] at e
 subst e
 rw [<- f.ap]
 exact h r
theorem Sel.fo {l t:List HP} {cs:List Value} {x:α} {need:List HP->List HP} (f:FoldA R cs x [] need) (k:Sel l (need t)):Sel l (HP.rc R cs x::t):=by
 obtain ⟨c,e,h⟩:=f.pf
 rw [List.append_nil] at e
 subst e
 exact Sel.trans k (h t)
end
section
variable {α β:Type} {R:Rp α} {l t r:List HP} {need:List HP->List HP} {b:Nat} {cs:List Value} {e:TypeId} {x:α}
theorem Sel.bn (i:Nat) (h:pkL i l=some (HP.blk b [] e,r)) (k:Sel r t):Sel l (HP.ow R e (some ⟨b,0,none⟩) 0 []::t) :=
 Sel.trans (Sel.perm (nU h)) (Sel.trans (Sel.cons k) (Sel.of (l:=HP.blk b [] e::t) (m:=HP.ow R e (some ⟨b,0,none⟩) 0 []::t) fun G _ _ H=>St.blkOw (R:=R) (xs:=[]) H 0 rfl (fun _=>⟨[],rfl,trivial⟩) (by simp)))
theorem Sel.b1 (i:Nat) (h:pkL i l=some (HP.blk b cs e,r)) (f:FoldA R cs x [] need) (k:Sel r (need t)):Sel l (HP.ow R e (some ⟨b,0,none⟩) 1 [x]::t):=by
 obtain ⟨c,e1,hf⟩:=f.pf
 rw [List.append_nil] at e1
 subst e1
 refine Sel.trans (Sel.perm (nU h)) (Sel.trans (Sel.cons (Sel.trans k (hf t))) (Sel.of (l:=HP.blk b cs e::HP.rc R cs x::t) (m:=HP.ow R e (some ⟨b,0,none⟩) 1 [x]::t) fun G w0 w H=>?_))
 have H3:=(St.bO H (x:=x) (R:=R) fun g=>(g 1 _ rfl).choose_spec)
 exact (H3.perm (List.Perm.swap _ _ _)).tail
end
class Has (l:List HP) (A:HP) (r:outParam (List HP)):Prop where
 pf:Sel l (A::r)
class Hall (l As:List HP) (r:outParam (List HP)):Prop where
 pf:Sel l (As++r)
section
variable {α:Type} {R:Rp α} {l t r r' As:List HP} {A C:HP} {p:Option Addr} {cap b o e u:Nat} {xs:List α} {cs:List Value} {x:α} {need:List HP->List HP}
theorem Sel.dup (h:A.ps=true):Sel (A::l) (A::A::l):=Sel.of (l:=A::l) (m:=A::A::l) fun _ _ _ H=>St.dup H h
theorem Sel.has (h:Has l A r) (k:Sel r t):Sel l (A::t):=Sel.trans h.pf (Sel.cons k)
instance:Hall l [] l:=⟨Sel.nil⟩
instance [a:Has l A r'] [c:Hall r' As r]:Hall l (A::As) r:=⟨Sel.trans a.pf (Sel.cons c.pf)⟩
instance (priority:=900):Has (HP.sl R p cap xs::l) (HP.sl R p cap xs) (HP.sl R p cap xs::l):=⟨Sel.dup rfl⟩
instance (priority:=900):Has (HP.rc R cs x::l) (HP.rc R cs x) (HP.rc R cs x::l):=⟨Sel.dup rfl⟩
instance (priority:=900):Has (HP.row b o cs::l) (HP.row b o cs) (HP.row b o cs::l):=⟨Sel.dup rfl⟩
instance (priority:=800):Has (A::l) A l:=⟨Sel.nil⟩
instance (priority:=700):Has (HP.ow R e p cap xs::l) (HP.sl R p cap xs) (HP.sl R p cap xs::l):=⟨Sel.fz 0 rfl (Sel.nil)⟩
instance (priority:=700):Has (HP.blk b [] e::l) (HP.ow R e (some ⟨b,0,none⟩) 0 []) l:=⟨Sel.bn 0 rfl Sel.nil⟩
instance (priority:=700):Has (HP.blk b [] e::l) (HP.sl R (some ⟨b,0,none⟩) 0 []) (HP.sl R (some ⟨b,0,none⟩) 0 []::l):=⟨Sel.trans (Sel.bn (R:=R) 0 rfl Sel.nil) (Sel.fz 0 rfl Sel.nil)⟩
instance (priority:=700) [f:FoldA R cs x [] need] [n:Hall l (need []) r]:Has (HP.blk b cs e::l) (HP.ow R e (some ⟨b,0,none⟩) 1 [x]) r:=⟨by
 obtain ⟨c,e1,hf⟩:=f.pf
 rw [List.append_nil] at e1
 subst e1
 have h2:Sel l (HP.rc R cs x::r):=Sel.trans n.pf (f.tl r)
 refine Sel.trans (Sel.cons h2) (Sel.of (l:=HP.blk b cs e::HP.rc R cs x::r) (m:=HP.ow R e (some ⟨b,0,none⟩) 1 [x]::r) fun G w0 w H=>?_)
 have H3:=(St.bO H (x:=x) (R:=R) fun g=>(g 1 _ rfl).choose_spec)
 exact (H3.perm (List.Perm.swap _ _ _)).tail⟩
instance (priority:=690) [h:Has (HP.blk b cs e::l) (HP.ow R e (some ⟨b,0,none⟩) 1 [x]) r]:Has (HP.blk b cs e::l) (HP.sl R (some ⟨b,0,none⟩) 1 [x]) (HP.sl R (some ⟨b,0,none⟩) 1 [x]::r):=⟨Sel.trans h.pf (Sel.fz 0 rfl Sel.nil)⟩
instance (priority:=600) [h:Has l A r]:Has (C::l) A (C::r):=⟨Sel.trans (Sel.cons h.pf) (Sel.perm (List.Perm.swap _ _ _))⟩
instance (priority:=300):Has l (HP.ow R e none 0 []) l:=⟨Sel.on Sel.nil⟩
instance (priority:=300):Has l (HP.ow R e none 0 ([]++[])) l:=⟨Sel.on Sel.nil⟩
instance (priority:=300):Has l (HP.sl R none 0 []) l:=⟨Sel.sn Sel.nil⟩
instance (priority:=300) [f:FoldA R cs x [] need] [n:Hall l (need []) r]:Has l (HP.rc R cs x) r:=⟨by
 obtain ⟨c,e1,hf⟩:=f.pf
 rw [List.append_nil] at e1
 subst e1
 exact Sel.trans n.pf (f.tl r)⟩
class HasB (l:List HP) (b:Nat) (cs:outParam (List Value)) (u:outParam Nat) (r:outParam (List HP)):Prop where
 pf:Sel l (HP.blk b cs u::r)
class HasS (l:List HP) (p:Option Addr) {α:outParam Type} (R:outParam (Rp α)) (cap:outParam Nat) (xs:outParam (List α)):Prop where
 pf:Sel l (HP.sl R p cap xs::l)
class HasR (l:List HP) (b o:Nat) (cs:outParam (List Value)):Prop where
 pf:Sel l (HP.row b o cs::l)
instance (priority:=900):HasB (HP.blk b cs u::l) b cs u l:=⟨Sel.nil⟩
instance (priority:=600) [h:HasB l b cs u r]:HasB (C::l) b cs u (C::r):=⟨Sel.trans (Sel.cons h.pf) (Sel.perm (List.Perm.swap _ _ _))⟩
instance (priority:=900):HasS (HP.sl R p cap xs::l) p R cap xs:=⟨Sel.dup rfl⟩
instance (priority:=600) [h:HasS l p R cap xs]:HasS (C::l) p R cap xs:=⟨Sel.trans (Sel.cons h.pf) (Sel.perm (List.Perm.swap _ _ _))⟩
instance (priority:=900):HasR (HP.row b o cs::l) b o cs:=⟨Sel.dup rfl⟩
instance (priority:=600) [h:HasR l b o cs]:HasR (C::l) b o cs:=⟨Sel.trans (Sel.cons h.pf) (Sel.perm (List.Perm.swap _ _ _))⟩
class HasX {α:Type} (l:List HP) (xs:List α) (R:outParam (Rp α)) (p:outParam (Option Addr)) (cap:outParam Nat):Prop where
 pf:Sel l (HP.sl R p cap xs::l)
instance (priority:=900):HasX (HP.sl R p cap xs::l) xs R p cap:=⟨Sel.dup rfl⟩
instance (priority:=600) [h:HasX l xs R p cap]:HasX (C::l) xs R p cap:=⟨Sel.trans (Sel.cons h.pf) (Sel.perm (List.Perm.swap _ _ _))⟩
end
class OpX (A:HP) (ι:outParam Type) (need:outParam (ι->List HP->List HP)):Prop where
 pf:∀ {F l:List HP} {w0 w:World},St w0 w (F++A::l)->∃ i,St w0 w (F++need i l)
section
variable {ι:Type} {f:ι->List HP} {need:ι->List HP->List HP} {A B C D E:HP} {l r r':List HP} {w0 w:World}
theorem opx (h:∀ i l,need i l=f i++l) {F:List HP} (H:St w0 w (F++HP.ex f::l)):∃ i,St w0 w (F++need i l):=by
 obtain ⟨i,H⟩:=H.midFront.exOpen
 refine ⟨i,?_⟩
 rw [h]
 refine H.perm ?_
 rw [<- List.append_assoc,<- List.append_assoc]
 exact List.perm_append_comm.append_right l
theorem shx (i:ι) (h:Sel l (f i++r)):Sel l (HP.ex f::r):=Sel.trans h (Sel.of (l:=f i++r) (m:=HP.ex f::r) fun G _ _ H=>St.exShut i (by simpa using H))
theorem St.x0 (H:St w0 w (A::l)) (O:OpX A ι need):∃ i,St w0 w (need i l):=O.pf (F:=[]) H
theorem St.x1 (H:St w0 w (B::A::l)) (O:OpX A ι need):∃ i,St w0 w (B::need i l):=O.pf (F:=[B]) H
theorem St.x2 (H:St w0 w (B::C::A::l)) (O:OpX A ι need):∃ i,St w0 w (B::C::need i l):=O.pf (F:=[B,C]) H
theorem St.x3 (H:St w0 w (B::C::D::A::l)) (O:OpX A ι need):∃ i,St w0 w (B::C::D::need i l):=O.pf (F:=[B,C,D]) H
theorem Sel.hb {b u:Nat} {cs:List Value} {t:List HP} (h:HasB l b cs u r) (k:Sel r t):Sel l (HP.blk b cs u::t):=Sel.trans h.pf (Sel.cons k)
end
class HasM (l:List HP) (p:Option Nat) {κ β:outParam Type} (dk:outParam (DecidableEq κ)) (ek:outParam (κ->Value)) (agg:outParam Bool) (R:outParam (Rp β)) (ok:outParam (κ->Prop)) (m:outParam (κ->Option β)) (r:outParam (List HP)):Prop where
 pf:Sel l (HP.mm p ek agg R ok m::r)
section
variable {κ β:Type} {dk:DecidableEq κ} {p:Option Nat} {ek:κ->Value} {agg:Bool} {R:Rp β} {ok:κ->Prop} {m:κ->Option β} {l r:List HP} {C:HP}
instance (priority:=900):HasM (HP.mm p ek agg R ok m::l) p dk ek agg R ok m l:=⟨Sel.nil⟩
instance (priority:=600) [h:HasM l p dk ek agg R ok m r]:HasM (C::l) p dk ek agg R ok m (C::r):=⟨Sel.trans (Sel.cons h.pf) (Sel.perm (List.Perm.swap _ _ _))⟩
end
def HP.rg {κ β:Type} [DecidableEq κ] (r:Nat) (p:Option Nat) (ek:κ->Value) (agg:Bool) (R:Rp β) (ok:κ->Prop) (m:κ->Option β) (es:List (κ×(List Value×β))) (raw:Array MapEntry) (c:Nat) (vis:List Nat):HP :=
 HP.ex fun _:Unit=>[HP.obj r (mit p c (bL raw vis)),HP.es R ok es m,HP.mo p raw c,HP.pe (fun _=>MRaw ek agg es raw c) (fun h _=>h)]
class HasG (l:List HP) (r:Nat) {κ β:outParam Type} (dk:outParam (DecidableEq κ)) (p:outParam (Option Nat)) (ek:outParam (κ->Value)) (agg:outParam Bool) (R:outParam (Rp β)) (ok:outParam (κ->Prop)) (m:outParam (κ->Option β)) (es:outParam (List (κ×(List Value×β)))) (raw:outParam (Array MapEntry)) (c:outParam Nat) (vis:outParam (List Nat)) (r1:outParam (List HP)):Prop where
 pf:Sel l (HP.rg r p ek agg R ok m es raw c vis::r1)
class HasL (l:List HP) (p:Option Nat) {κ β:outParam Type} (dk:outParam (DecidableEq κ)) (ek:outParam (κ->Value)) (agg:outParam Bool) (R:outParam (Rp β)) (ok:outParam (κ->Prop)) (m:outParam (κ->Option β)):Prop where
 pf:∀ {F:List HP} {w0 w:World},St w0 w (F++l)->∃ es,∃ (l2:List HP) (i:Nat),l2[i]?=some (HP.mx p ek agg R ok es m)/\St w0 w l2/\∀ (k:κ) {zc:List Value} {z0:β},(∀ B,R.rd B zc z0)->St w0 w (F++HP.rc R (eO es k zc) ((m k).getD z0)::l)
section
variable {κ β:Type} {dk:DecidableEq κ} {p:Option Nat} {ek:κ->Value} {agg:Bool} {R:Rp β} {ok:κ->Prop} {m:κ->Option β} {l r1:List HP} {C:HP} {r c:Nat} {es:List (κ×(List Value×β))} {raw:Array MapEntry} {vis:List Nat} {w0 w:World}
theorem rgOp (H:St w0 w (HP.rg r p ek agg R ok m es raw c vis::l)):MRaw ek agg es raw c/\Enum m (prs es)/\St w0 w (HP.obj r (mit p c (bL raw vis))::HP.es R ok es m::HP.mo p raw c::l):=by
 obtain ⟨_,H⟩:=H.exOpen
 obtain ⟨_,_,_,h,_⟩:=H.get 3 rfl
 obtain ⟨_,_,_,h2,_⟩:=H.get 1 rfl
 exact ⟨h,h2.enum,St.midTail (F:=[_,_,_]) H⟩
theorem sS (hM:MRaw ek agg es raw c) (H:St w0 w (HP.obj r (mit p c (bL raw vis))::HP.es R ok es m::HP.mo p raw c::l)):St w0 w (HP.rg r p ek agg R ok m es raw c vis::l) :=
 St.exShut () ((H.more (A:=HP.pe (fun _=>MRaw ek agg es raw c) (fun h _=>h)) fun _ _ _=>hM).midBack (F:=[_,_,_]))
instance (priority:=900):HasG (HP.rg r p ek agg R ok m es raw c vis::l) r dk p ek agg R ok m es raw c vis l:=⟨Sel.nil⟩
instance (priority:=600) [h:HasG l r dk p ek agg R ok m es raw c vis r1]:HasG (C::l) r dk p ek agg R ok m es raw c vis (C::r1):=⟨Sel.trans (Sel.cons h.pf) (Sel.perm (List.Perm.swap _ _ _))⟩
instance (priority:=700):Has (HP.rg r p ek agg R ok m es raw c vis::l) (HP.mm p ek agg R ok m) l:=⟨Sel.of (l:=HP.rg r p ek agg R ok m es raw c vis::l) (m:=HP.mm p ek agg R ok m::l) fun _ _ _ H=>by
 obtain ⟨h,_,H⟩:=rgOp H
 exact ((H.moMm 2 1 h rfl rfl).tail).tail⟩
instance (priority:=900):HasL (HP.mm p ek agg R ok m::l) p dk ek agg R ok m:=⟨fun {F _ _} H=>by
 obtain ⟨es,H2⟩:=H.midFront.mmOpen 0 rfl
 refine ⟨es,_,0,rfl,H2,fun k _ _ hz=>?_⟩
 obtain ⟨cs,rfl,H3⟩:=H2.mxGet 0 rfl k hz
 exact ((H3.mxShut 1 rfl).perm (((List.perm_middle (l₁:=F)).symm.cons _).trans List.perm_middle.symm))⟩
instance (priority:=900):HasL (HP.rg r p ek agg R ok m es raw c vis::l) p dk ek agg R ok m:=⟨fun {F _ _} H=>by
 obtain ⟨h,_,H2⟩:=rgOp H.midFront
 refine ⟨es,_,2,rfl,H2.moMx 2 1 h rfl rfl,fun k _ _ hz=>?_⟩
 obtain ⟨cs,rfl,H3⟩:=H2.esLook 1 rfl k hz
 exact (sS h (H3.perm (l':=_::_::_::HP.rc R _ _::(F++l)) (List.perm_middle (l₁:=[_,_,_])).symm)).perm ((List.Perm.swap _ _ _).trans (((List.perm_middle (l₁:=F)).symm.cons _).trans List.perm_middle.symm))⟩
instance (priority:=600) [h:HasL l p dk ek agg R ok m]:HasL (C::l) p dk ek agg R ok m:=⟨fun {F _ _} H=>by
 obtain ⟨es,l2,i,h1,h2,h3⟩:=h.pf (F:=F++[C]) (by simpa using H)
 exact ⟨es,l2,i,h1,h2,fun k _ _ hz=>(h3 k hz).perm (by simpa using (List.Perm.swap _ _ _).append_left F)⟩⟩
end
class HasO {α:Type} (l:List HP) (xs:List α) (R:outParam (Rp α)) (p:outParam (Option Addr)) (e cap:outParam Nat) (r:outParam (List HP)):Prop where
 pf:Sel l (HP.ow R e p cap xs::r)
class HasQ {α:Type} (l:List HP) (xs:List α) (R:outParam (Rp α)) (p:outParam (Option Addr)) (e cap:outParam Nat) (css:outParam (List (List Value))) (r:outParam (List HP)):Prop where
 pf:Sel l (HP.ox R e p cap css xs::r)
class HasW (l:List HP) (p:Option Addr) {α:outParam Type} (R:outParam (Rp α)) (e cap:outParam Nat) (xs:outParam (List α)) (r:outParam (List HP)):Prop where
 pf:Sel l (HP.ow R e p cap xs::r)
class HasP (l:List HP) (p:Option Addr) {α:outParam Type} (R:outParam (Rp α)) (e cap:outParam Nat) (css:outParam (List (List Value))) (xs:outParam (List α)) (r:outParam (List HP)):Prop where
 pf:Sel l (HP.ox R e p cap css xs::r)
section
variable {α:Type} {R:Rp α} {p:Option Addr} {e cap:Nat} {css:List (List Value)} {xs:List α} {l r:List HP} {C:HP}
theorem Sel.ox:Sel (HP.ox R e p cap css xs::l) (HP.ow R e p cap xs::l):=Sel.of (l:=HP.ox R e p cap css xs::l) (m:=HP.ow R e p cap xs::l) fun _ _ _ H=>H.oxShut 0 rfl
instance (priority:=900):HasO (HP.ow R e p cap xs::l) xs R p e cap l:=⟨Sel.nil⟩
instance (priority:=600) [h:HasO l xs R p e cap r]:HasO (C::l) xs R p e cap (C::r):=⟨Sel.trans (Sel.cons h.pf) (Sel.perm (List.Perm.swap _ _ _))⟩
instance (priority:=900):HasW (HP.ow R e p cap xs::l) p R e cap xs l:=⟨Sel.nil⟩
instance (priority:=900):HasW (HP.ox R e p cap css xs::l) p R e cap xs l:=⟨Sel.ox⟩
instance (priority:=600) [h:HasW l p R e cap xs r]:HasW (C::l) p R e cap xs (C::r):=⟨Sel.trans (Sel.cons h.pf) (Sel.perm (List.Perm.swap _ _ _))⟩
instance (priority:=900):HasP (HP.ox R e p cap css xs::l) p R e cap css xs l:=⟨Sel.nil⟩
instance (priority:=900):HasQ (HP.ox R e p cap css xs::l) xs R p e cap css l:=⟨Sel.nil⟩
instance (priority:=600) [h:HasQ l xs R p e cap css r]:HasQ (C::l) xs R p e cap css (C::r):=⟨Sel.trans (Sel.cons h.pf) (Sel.perm (List.Perm.swap _ _ _))⟩
instance (priority:=600) [h:HasP l p R e cap css xs r]:HasP (C::l) p R e cap css xs (C::r):=⟨Sel.trans (Sel.cons h.pf) (Sel.perm (List.Perm.swap _ _ _))⟩
instance (priority:=700):Has (HP.ox R e p cap css xs::l) (HP.ow R e p cap xs) l:=⟨Sel.ox⟩
instance (priority:=700):Has (HP.ox R e p cap css xs::l) (HP.sl R p cap xs) (HP.sl R p cap xs::l):=⟨Sel.trans Sel.ox (Sel.fz 0 rfl Sel.nil)⟩
end
class HasF {α:Type} (l:List HP) (xs:List α) (R:outParam (Rp α)) (p:outParam (Option Addr)) (cap:outParam Nat) (r:outParam (List HP)):Prop where
 pf:Sel l (HP.sl R p cap xs::r)
class HasC {α:Type} (l:List HP) (R:Rp α) (x:α) (cs:outParam (List Value)):Prop where
 pf:Sel l (HP.rc R cs x::l)
section
variable {α:Type} {R:Rp α} {p:Option Addr} {e cap:Nat} {xs:List α} {l r t:List HP} {C:HP} {cs:List Value} {x:α}
instance (priority:=900):HasF (HP.sl R p cap xs::l) xs R p cap (HP.sl R p cap xs::l):=⟨Sel.dup rfl⟩
instance (priority:=900):HasF (HP.ow R e p cap xs::l) xs R p cap (HP.sl R p cap xs::l):=⟨Sel.fz 0 rfl Sel.nil⟩
instance (priority:=600) [h:HasF l xs R p cap r]:HasF (C::l) xs R p cap (C::r):=⟨Sel.trans (Sel.cons h.pf) (Sel.perm (List.Perm.swap _ _ _))⟩
instance (priority:=900):HasC (HP.rc R cs x::l) R x cs:=⟨Sel.dup rfl⟩
instance (priority:=600) [h:HasC l R x cs]:HasC (C::l) R x cs:=⟨Sel.trans (Sel.cons h.pf) (Sel.perm (List.Perm.swap _ _ _))⟩
theorem Sel.hf (h:HasF l xs R p cap r) (k:Sel r t):Sel l (HP.sl R p cap xs::t):=Sel.trans h.pf (Sel.cons k)
theorem Sel.ho (h:HasO l xs R p e cap r) (k:Sel r t):Sel l (HP.ow R e p cap xs::t):=Sel.trans h.pf (Sel.cons k)
theorem Sel.hc (h:HasC l R x cs) (k:Sel l t):Sel l (HP.rc R cs x::t):=Sel.trans h.pf (Sel.cons k)
end
class HasN (l:List HP) {κ β:Type} (dk:DecidableEq κ) (ek:κ->Value) (agg:Bool) (R:Rp β) (ok:κ->Prop) (m:κ->Option β) (p:outParam (Option Nat)) (r:outParam (List HP)):Prop where
 pf:Sel l (HP.mm p ek agg R ok m::r)
section
variable {κ β:Type} {dk:DecidableEq κ} {p:Option Nat} {ek:κ->Value} {agg:Bool} {R:Rp β} {ok:κ->Prop} {m:κ->Option β} {l r t:List HP} {C:HP}
instance (priority:=900):HasN (HP.mm p ek agg R ok m::l) dk ek agg R ok m p l:=⟨Sel.nil⟩
instance (priority:=600) [h:HasN l dk ek agg R ok m p r]:HasN (C::l) dk ek agg R ok m p (C::r):=⟨Sel.trans (Sel.cons h.pf) (Sel.perm (List.Perm.swap _ _ _))⟩
theorem Sel.hn (h:HasN l dk ek agg R ok m p r) (k:Sel r t):Sel l (HP.mm p ek agg R ok m::t):=Sel.trans h.pf (Sel.cons k)
end
class Ctr (P:Program) (f:FuncId) (k:Nat) (A:outParam Prop):Prop where
 en:En P f
 pf:A
class FldC (P:Program) (t:TypeId) (f:Nat) (h:outParam Nat):Prop where
 pf:aM P t f h
class FlpC (P:Program) (t:TypeId) (f:Nat) (h:outParam Nat):Prop where
 pf:∃ fs fd,P.underlying t=some (.struct fs)/\fs[f]?=some fd/\fd.offset=h/\Plain P fd.type
class PlnC (P:Program) (t:TypeId):Prop where
 pf:Plain P t
class ZerC (P:Program) (t:TypeId) (z:outParam Value):Prop where
 pf:Zero1 P t z
class AggC (P:Program) (t:TypeId) (n:outParam Nat) (z:outParam (List Value)):Prop where
 pf:AggT P t n z
class ElmC (P:Program) (t:TypeId) (e:outParam TypeId) (size bytes:outParam Nat) (z:outParam Value):Prop where
 pf:ElemT P t e size bytes z
class UndC (P:Program) (t:TypeId) (u:outParam TypeDesc):Prop where
 pf:P.underlying t=some u
class RpC (P:Program) (t:TypeId) {α:outParam Type} (R:outParam (Rp α)):Prop where
 ok:True
class ZzC (P:Program) (t:TypeId) (z:outParam (List Value)):Prop where
 ok:True
class BldC (P:Program) (t:TypeId) (offs:outParam (List Nat)):Prop where
 ok:True
def aL4:Value->List Value
 | .agg a=>a.toList
 | v=>[v]
def fR:Nat->List Value->List Value->Option (List Value)
 | 0,[],cs=>some cs
 | 0,v::r,_::cs=>match fR 0 r cs with
  | some c=>some (v::c)
  | none=>none
 | k+1,l,c::cs=>match fR k l cs with
  | some d=>some (c::d)
  | none=>none
 | _,_,[]=>none
def vS (offs:List Nat):List (Nat×Value)->List Value->Option (List Value)
 | [],cs=>some cs
 | (i,v)::r,cs=>match atL i offs with
  | some o=>match fR o (aL4 v) cs with
   | some c=>vS offs r c
   | none=>none
  | none=>none
class StrC (s:ByteArray) (l:outParam (List UInt8)):Prop where
 pf:s=txb l
instance {l:List UInt8}:StrC (txb l) l:=⟨rfl⟩
instance {l:List UInt8}:StrC ⟨l.toArray⟩ l:=⟨rfl⟩
instance:StrC ByteArray.empty []:=⟨rfl⟩
instance {s:ByteArray} {l:List UInt8} {rest:List Value} [S:StrC s l]:FoldA rStr (.string s::rest) l rest (fun l=>l):=⟨⟨[.string s],rfl,fun _ _ _ _ H=>(H.mR (R:=rStr) (cs:=[.string s]) (x:=l) fun _=>by rw [S.pf];rfl).midBack⟩,fun _ _=>rfl⟩
class OpenA {α:Type} (R:Rp α) (x:α) (ι:outParam Type) (cs:outParam (ι->List Value->List Value)) (need:outParam (ι->List HP->List HP)):Prop where
 pf:∀ {c:List Value} {w0 w:World} {l F:List HP},St w0 w (F++HP.rc R c x::l)->∃ i:ι,(∀ r,cs i r=c++r)/\St w0 w (F++need i l)
instance {b:Bool}:OpenA iW b Unit (fun _ r=>.bool b::r) (fun _ l=>l):=⟨fun H=>⟨(),fun r=>by rw [H.midFront.rB 0 rfl];rfl,H.midTail⟩⟩
instance {k:IntKind} {b:Int}:OpenA (dC k) b Unit (fun _ r=>.int k b::r) (fun _ l=>l):=⟨fun H=>⟨(),fun r=>by rw [H.midFront.rcI 0 rfl];rfl,H.midTail⟩⟩
instance {b:UInt8}:OpenA rByte b Unit (fun _ r=>.int .u8 b.toNat::r) (fun _ l=>l):=⟨fun H=>⟨(),fun r=>by rw [H.midFront.rcB 0 rfl];rfl,H.midTail⟩⟩
instance {b:List UInt8}:OpenA rStr b Unit (fun _ r=>.string (txb b)::r) (fun _ l=>l):=⟨fun H=>⟨(),fun r=>by rw [H.midFront.rS 0 rfl];rfl,H.midTail⟩⟩
instance {α:Type} {R:Rp α} {b:List α}:OpenA (rSl R) b (Option Addr×Nat) (fun i r=>.slice i.1 b.length i.2::r) (fun i l=>HP.sl R i.1 i.2 b::l):=⟨fun H=>by
 obtain ⟨p,c,rfl,H1⟩:=H.midFront.rcSl 0 rfl
 exact ⟨(p,c),fun _=>rfl,(H1.perm (List.Perm.swap _ _ _)).tail.midBack⟩⟩
instance {α β ι κ:Type} {R:Rp α} {Q:Rp β} {x:α×β} {cs:ι->List Value->List Value} {ds:κ->List Value->List Value} {n:ι->List HP->List HP} {m:κ->List HP->List HP} [O:OpenA R x.1 ι cs n] [O':OpenA Q x.2 κ ds m] :
  OpenA (bP R Q) x (ι×κ) (fun i r=>cs i.1 (ds i.2 r)) (fun i l=>n i.1 (m i.2 l)):=⟨fun {c w0 w l F} H=>by
 obtain ⟨c1,d1,rfl,H1⟩:=H.midFront.rcPair 0 rfl
 have H2:St w0 w ((F++[HP.rc R c1 x.1])++HP.rc Q d1 x.2::l):=by
  have h3:=(H1.perm (l':=HP.rc (bP R Q) (c1++d1) x::HP.rc R c1 x.1::HP.rc Q d1 x.2::(F++l)) (by
   exact ((List.Perm.swap _ _ _).cons _).trans (List.Perm.swap _ _ _))).tail
  refine h3.perm ?_
  rw [List.append_assoc]
  exact ((List.perm_middle (a:=HP.rc Q d1 x.2) (l₁:=F) (l₂:=l)).symm.cons _).trans (List.perm_middle (a:=HP.rc R c1 x.1) (l₁:=F) (l₂:=HP.rc Q d1 x.2::l)).symm
 obtain ⟨j,hj,H3⟩:=O'.pf H2
 rw [List.append_assoc] at H3
 obtain ⟨i,hi,H4⟩:=O.pf (F:=F) H3
 exact ⟨(i,j),fun r=>by simp only [hi,hj,List.append_assoc],H4⟩⟩
section
variable {α ι:Type} {R:Rp α} {x:α} {cs:ι->List Value->List Value} {n:ι->List HP->List HP} {c:List Value} {w0 w:World} {l:List HP} {A B C D:HP}
theorem St.o0 (H:St w0 w (HP.rc R c x::l)) (O:OpenA R x ι cs n):∃ i,c=cs i []/\St w0 w (n i l):=by
 obtain ⟨i,h,H⟩:=O.pf (F:=[]) H
 exact ⟨i,by simpa using (h []).symm,H⟩
theorem St.o1 (H:St w0 w (A::HP.rc R c x::l)) (O:OpenA R x ι cs n):∃ i,c=cs i []/\St w0 w (A::n i l):=by
 obtain ⟨i,h,H⟩:=O.pf (F:=[A]) H
 exact ⟨i,by simpa using (h []).symm,H⟩
theorem St.o2 (H:St w0 w (A::B::HP.rc R c x::l)) (O:OpenA R x ι cs n):∃ i,c=cs i []/\St w0 w (A::B::n i l):=by
 obtain ⟨i,h,H⟩:=O.pf (F:=[A,B]) H
 exact ⟨i,by simpa using (h []).symm,H⟩
theorem St.o3 (H:St w0 w (A::B::C::HP.rc R c x::l)) (O:OpenA R x ι cs n):∃ i,c=cs i []/\St w0 w (A::B::C::n i l):=by
 obtain ⟨i,h,H⟩:=O.pf (F:=[A,B,C]) H
 exact ⟨i,by simpa using (h []).symm,H⟩
theorem St.o4 (H:St w0 w (A::B::C::D::HP.rc R c x::l)) (O:OpenA R x ι cs n):∃ i,c=cs i []/\St w0 w (A::B::C::D::n i l):=by
 obtain ⟨i,h,H⟩:=O.pf (F:=[A,B,C,D]) H
 exact ⟨i,by simpa using (h []).symm,H⟩
end
class RnC {α:Type} (R:Rp α) (n:outParam Nat):Prop where
 pf:R.n=n
instance:RnC iW 1:=⟨rfl⟩
instance:RnC rByte 1:=⟨rfl⟩
instance:RnC rStr 1:=⟨rfl⟩
instance {k:IntKind}:RnC (dC k) 1:=⟨rfl⟩
instance {α:Type} {R:Rp α}:RnC (rSl R) 1:=⟨rfl⟩
instance {n:Nat}:RnC (aH4 n) n:=⟨rfl⟩
instance {α β:Type} {R:Rp α} {Q:Rp β} {n m:Nat} [A:RnC R n] [B:RnC Q m]:RnC (bP R Q) (n+m):=⟨by show R.n+Q.n=_;rw [A.pf,B.pf]⟩
class MapC (P:Program) (T:TypeId) {κ β:Type} [DecidableEq κ] (K E:outParam TypeId) (ek:κ->Value) (agg:Bool) (R:Rp β) (ok:κ->Prop) (zc:outParam (List Value)) (z0:outParam β):Prop where
 hT:P.underlying T=some (.map K E)
 hK:dS P K ek ok
 hz:∀ w,(zeroValue E).run P w=.ok (mkV agg zc) w
 hz0:∀ B,R.rd B zc z0
class KeyC {κ:Type} (ek:κ->Value) (v:Value) (k:outParam κ):Prop where
 pf:v=ek k
instance {s:ByteArray} {l:List UInt8} [S:StrC s l]:KeyC aU (.string s) l:=⟨by rw [S.pf];rfl⟩
instance {k:IntKind} {n:Int}:KeyC (Value.int k) (.int k n) n:=⟨rfl⟩
instance (priority:=10) {κ:Type} {ek:κ->Value} {k:κ}:KeyC ek (ek k) k:=⟨rfl⟩
instance {κ:Type} {ek:κ->Value} {v:Value} {k:κ} [K:KeyC ek v k]:KeyC ek (mkV false [v]) k:=⟨K.pf⟩
class MapT (P:Program) (T:TypeId) {κ β:outParam Type} (dk:outParam (DecidableEq κ)) (ek:outParam (κ->Value)) (agg:outParam Bool) (R:outParam (Rp β)) (ok:outParam (κ->Prop)):Prop where
 ok:True
class ReadX {α:Type} (R:Rp α) (cs:List Value) (x:outParam α) (rest:outParam (List Value)):Prop where
 ok:True
instance {b:Bool} {r:List Value}:ReadX iW (.bool b::r) b r:=⟨trivial⟩
instance {k:IntKind} {n:Int} {r:List Value}:ReadX (dC k) (.int k n::r) n r:=⟨trivial⟩
instance {s:ByteArray} {l:List UInt8} {r:List Value} [StrC s l]:ReadX rStr (.string s::r) l r:=⟨trivial⟩
instance {α:Type} {R:Rp α} {p:Option Addr} {c:Nat} {xs:List α} {r:List Value}:ReadX (rSl R) (.slice p xs.length c::r) xs r:=⟨trivial⟩
instance {α:Type} {R:Rp α} {r:List Value}:ReadX (rSl R) (.slice none 0 0::r) [] r:=⟨trivial⟩
instance {α β:Type} {R:Rp α} {Q:Rp β} {cs m r:List Value} {x:α} {y:β} [ReadX R cs x m] [ReadX Q m y r]:ReadX (bP R Q) cs (x,y) r:=⟨trivial⟩
class CelC (l:List HP) (cs:List Value) (n:outParam Nat):Prop where
 pf:∀ {w0 w:World} {F:List HP},St w0 w (F++l)->cs.length=n/\Flat cs
section
variable {α:Type} {R:Rp α} {cs:List Value} {x:α} {l:List HP} {A:HP} {n:Nat}
instance (priority:=900) [C:RnC R n]:CelC (HP.rc R cs x::l) cs n:=⟨fun H=>⟨by rw [<- C.pf];exact H.midFront.rL 0 rfl,H.midFront.rF 0 rfl⟩⟩
instance (priority:=600) [h:CelC l cs n]:CelC (A::l) cs n:=⟨fun {_ _ F} H=>h.pf (F:=F++[A]) (by simpa using H)⟩
end
class U8C (i:Int) (c:outParam UInt8):Prop where
 pf:u8O i=some c
class FoldB (cs:List Value) (xs:outParam (List UInt8)):Prop where
 pf:cs=aQ xs
section
variable {cs:List Value} {xs:List UInt8} {c:UInt8} {i:Int} {b e n:Nat} {l:List HP}
instance:FoldB [] []:=⟨rfl⟩
instance (priority:=900) [h:FoldB cs xs]:FoldB (.int .u8 ((c.toNat:Nat):Int)::cs) (c::xs):=⟨by rw [h.pf];rfl⟩
instance (priority:=600) [u:U8C i c] [h:FoldB cs xs]:FoldB (.int .u8 i::cs) (c::xs):=⟨by rw [h.pf,<- cP u.pf];rfl⟩
class LenC {α:Type} (xs:List α) (n:outParam Nat):Prop where
 pf:xs.length=n
instance {α:Type}:LenC ([]:List α) 0:=⟨rfl⟩
instance {α:Type} {x:α} {xs:List α} [h:LenC xs n]:LenC (x::xs) (n+1):=⟨by simp [h.pf]⟩
theorem xW [h:FoldB cs xs] (hm:xs.length=n) (h2:Nat.ble n 1000000=true):Sel (HP.blk b cs e::l) (HP.ow rByte e (some ⟨b,0,none⟩) n xs::l):=by
 subst hm
 exact Sel.of (l:=HP.blk b cs e::l) (m:=HP.ow rByte e (some ⟨b,0,none⟩) xs.length xs::l) fun G _ _ H=>St.blkOw (R:=rByte) (xs:=xs) H 0 rfl (fun _=>⟨_,by rw [qL,h.pf],gK _ xs⟩) (Nat.le_of_ble_eq_true h2)
end
class PthC {α:Type} (R:Rp α) (off:Nat) {γ:outParam Type} (R':outParam (Rp γ)):Prop where
 ok:True
class SetC {α γ:Type} (R:Rp α) (off:Nat) (u:α) (R':Rp γ) (z:γ) (zz:outParam α):Prop where
 pf:∀ {B:Base} {cs:List Value} {v:Value},R.rd B cs u->R'.rd B [v] z->R.rd B (cs.set off v) zz
section
variable {α β γ:Type} {R:Rp α} {Q:Rp β} {R':Rp γ} {k:Nat} {u:α×β} {y x:α} {z:γ} {q:β}
instance (priority:=600):PthC R 0 R:=⟨trivial⟩
instance (priority:=900):PthC (bP R Q) 0 R:=⟨trivial⟩
instance (priority:=900) [PthC Q k R']:PthC (bP R Q) (k+1) R':=⟨trivial⟩
instance (priority:=600) [h:RnC R 1]:SetC R 0 y R x x:=⟨fun h1 h2=>aMh h.pf h1 h2⟩
instance (priority:=900) [h:RnC R 1]:SetC (bP R Q) 0 u R x (x,u.2):=⟨fun h1 h2=>aQe h.pf h1 h2⟩
instance (priority:=900) [h:RnC R 1] [s:SetC Q k u.2 R' z q]:SetC (bP R Q) (k+1) u R' z (u.1,q):=⟨fun h1 h2=>aH0 (k:=k) (by rw [h.pf];omega) h1 fun d hd=>s.pf hd h2⟩
end
instance {c:UInt8} {r:List Value}:ReadX rByte (.int .u8 ((c.toNat:Nat):Int)::r) c r:=⟨trivial⟩
instance (priority:=600) {i:Int} {c:UInt8} {r:List Value} [U8C i c]:ReadX rByte (.int .u8 i::r) c r:=⟨trivial⟩
def QV (P:Program) (sl:List (Nat×Value)) (ls:List HP) (op:Op) (v:Value):Prop :=
 dD op=true/\∀ {N:Fs} {a:Act} {w0 w:World} {o:Oper},Fr N a sl->St w0 w ls->o.op=op->(execOp a.eval o).run P w=.ok (.value v) w
def qP {α:Type} (k n:Nat) (l:List α):Option (List α):=match spL k l with
 | some (_,t)=>match spL n t with
  | some (f,_)=>some f
  | none=>none
 | none=>none
theorem aGo {α:Type} {k n:Nat} {l m:List α} (h:qP k n l=some m):∃ A C,l=A++m++C/\A.length=k/\m.length=n:=by
 unfold qP at h
 split at h
 ·rename_i f t e
  split at h
  ·rename_i f2 t2 e2
   cases h
   obtain ⟨rfl,h1⟩:=qO e
   obtain ⟨rfl,h2⟩:=qO e2
   exact ⟨f,t2,by simp,h1,h2⟩
  ·cases h
 ·cases h
def stB (op:BinOp) (l m:List UInt8):Option Bool:=match op with
 | .eql=>some (decide (l=m))
 | .neq=>some (!decide (l=m))
 | .lss=>some (aT l m)
 | .leq=>some (cA l m)
 | .gtr=>some (eY l m)
 | .geq=>some (mL l m)
 | _=>none
section
variable {cs rest:List Value} {xs:List UInt8} {c:UInt8} {i:Int} {b e n:Nat} {l:List HP}
instance [u:U8C i c]:FoldA rByte (.int .u8 i::rest) c rest (fun l=>l):=⟨⟨[.int .u8 i],rfl,fun _ _ _ _ H=>(H.mR (R:=rByte) (cs:=[.int .u8 i]) (x:=c) fun _=>by rw [<- cP u.pf];rfl).midBack⟩,fun _ _=>rfl⟩
instance (priority:=90) {α:Type} {R:Rp α} {xs:List α} {p:Option Addr} {c:Nat} [h:LenC xs n]:FoldA (rSl R) (.slice p n c::rest) xs rest (fun l=>HP.sl R p c xs::l):=h.pf▸inferInstance
class HasFo {α:Type} (l:List HP) (xs:List α) (r:outParam (List HP)):Prop where
 pf:Sel l r
instance (priority:=900) {α:Type} {R:Rp α} {xs:List α} {p:Option Addr} {cap:Nat}:HasFo (HP.ow R e p cap xs::l) xs (HP.sl R p cap xs::l):=⟨Sel.fz 0 rfl (Sel.drop1 Sel.nil)⟩
instance (priority:=600) {α:Type} {xs:List α} {r:List HP} {C:HP} [h:HasFo l xs r]:HasFo (C::l) xs (C::r):=⟨Sel.cons h.pf⟩
class LenB {α:Type} (k:Nat) (xs:List α) (n:outParam Nat):Prop where
 pf:xs.length=n/\n<=k
instance {α:Type} {k:Nat}:LenB k ([]:List α) 0:=⟨rfl,Nat.zero_le _⟩
instance {α:Type} {x:α} {xs:List α} {k:Nat} [h:LenB k xs n]:LenB (k+1) (x::xs) (n+1):=⟨by simp [h.pf.1],Nat.succ_le_succ h.pf.2⟩
theorem lenB (h:LenB 64 xs n):Nat.ble n 1000000=true:=Nat.ble_eq_true_of_le (Nat.le_trans h.pf.2 (by decide))
instance (priority:=695) [f:FoldB cs xs] [h:LenB 64 xs n]:Has (HP.blk b cs e::l) (HP.ow rByte e (some ⟨b,0,none⟩) n xs) l:=⟨xW h.pf.1 (lenB h)⟩
instance (priority:=694) [f:FoldB cs xs] [h:LenB 64 xs n]:Has (HP.blk b cs e::l) (HP.sl rByte (some ⟨b,0,none⟩) n xs) (HP.sl rByte (some ⟨b,0,none⟩) n xs::l):=⟨Sel.trans (xW h.pf.1 (lenB h)) (Sel.fz 0 rfl Sel.nil)⟩
end
section
variable {P:Program} {sl:List (Nat×Value)} {ls l1:List HP} {t t' e u:TypeId} {x y z:Operand} {b k n bytes size:Nat} {p:Option Addr} {cap:Nat} {cs zz:List Value} {v zv:Value}
theorem vq {op:Op} (h:kB P ls sl 0 op=some (v,[])):QV P sl ls op v:=⟨aCb h,fun F H ho=>oY (ob:=[]) F H (by rw [ho];exact h) trivial⟩
theorem vf {f h:Nat} (hx:ev sl x=some (.pointer (some ⟨b,k,none⟩))) (C:FldC P t f h):QV P sl ls (.fieldAddr t x f) (.pointer (some ⟨b,k+h,none⟩)):=⟨rfl,fun F H ho=>pA F C.pf ho hx⟩
theorem vfi {f h:Nat} (hx:ev sl x=some (.agg cs.toArray)) (C:FlpC P t f h) (hj:atL h cs=some v):QV P sl ls (.field t x f) v:=⟨rfl,fun F H ho=>by
 obtain ⟨fs,fd,h1,h2,h3,h4⟩:=C.pf
 rw [cU] at hj
 subst h3
 exact aI4 F h1 h2 h4 ho hx hj⟩
theorem vl (hx:ev sl x=some (.pointer (some ⟨b,k,none⟩))) (C:PlnC P t) (hS:HasB ls b cs u l1) (hj:atL k cs=some v):QV P sl ls (.load t x) v:=⟨rfl,fun F H ho=>by
 rw [cU] at hj
 exact bS F C.pf ho hx (by simpa using ((Sel.st H hS.pf).blk 0 rfl).row _ _ hj)⟩
theorem vr {o j:Nat} (hx:ev sl x=some (.pointer (some ⟨b,o+j,none⟩))) (C:PlnC P t) (hS:HasR ls b o cs) (hj:atL j cs=some v):QV P sl ls (.load t x) v:=⟨rfl,fun F H ho=>by
 rw [cU] at hj
 exact bS F C.pf ho hx ((Sel.st H hS.pf).tagRow (i:=0) rfl rfl _ _ hj)⟩
theorem vr0 {o:Nat} (hx:ev sl x=some (.pointer (some ⟨b,o,none⟩))) (C:PlnC P t) (hS:HasR ls b o [v]):QV P sl ls (.load t x) v:=⟨rfl,fun F H ho =>
 bS F C.pf ho hx (by simpa using (Sel.st H hS.pf).tagRow (i:=0) rfl rfl 0 v rfl)⟩
theorem vla {ds:List Value} (hx:ev sl x=some (.pointer (some ⟨b,k,none⟩))) (C:AggC P t n zz) (hS:HasB ls b cs u l1) (hn:qP k n cs=some ds):QV P sl ls (.load t x) (.agg ds.toArray):=⟨rfl,fun F H ho=>by
 obtain ⟨A,D,rfl,rfl,h2⟩:=aGo hn
 have hr:=((Sel.st H hS.pf).blk 0 rfl).row
 rw [List.append_assoc] at hr
 exact dJ F C.pf ho hx (by simpa using iL (A:=A) (X:=ds) (C:=D) (w:=_) hr rfl) h2⟩
theorem vra0 {o:Nat} (hx:ev sl x=some (.pointer (some ⟨b,o,none⟩))) (C:AggC P t n zz) (hS:HasR ls b o cs) (hn:cs.length=n):QV P sl ls (.load t x) (.agg cs.toArray):=⟨rfl,fun F H ho =>
 dJ F C.pf ho hx ((Sel.st H hS.pf).tagRow (i:=0) rfl rfl) hn⟩
theorem vra {o j:Nat} {ds:List Value} (hx:ev sl x=some (.pointer (some ⟨b,o+j,none⟩))) (C:AggC P t n zz) (hS:HasR ls b o cs) (hn:qP j n cs=some ds):QV P sl ls (.load t x) (.agg ds.toArray):=⟨rfl,fun F H ho=>by
 obtain ⟨A,D,rfl,rfl,h2⟩:=aGo hn
 have hr:=(Sel.st H hS.pf).tagRow (i:=0) rfl rfl
 rw [List.append_assoc] at hr
 exact dJ F C.pf ho hx (iL (A:=A) (X:=ds) (C:=D) (w:=_) hr rfl) h2⟩
theorem vn (hx:ev sl x=some (.slice p n cap)) (C:UndC P t (.slice e)):QV P sl ls (.call { callee:=.builtin .len,args:=#[x],argTypes:=#[t] }) (.int .i64 n):=⟨rfl,fun F H ho=>tC F ho C.pf hx⟩
theorem vnt {s:ByteArray} {m:List UInt8} (hx:ev sl x=some (.string s)) (S:StrC s m) (C:UndC P t .string):QV P sl ls (.call { callee:=.builtin .len,args:=#[x],argTypes:=#[t] }) (.int .i64 (m.length:Nat)):=⟨rfl,fun F H ho=>aMn F ho C.pf (S.pf▸hx)⟩
theorem vt {op:BinOp} {s s':ByteArray} {l m:List UInt8} {r:Bool} (hx:ev sl x=some (.string s)) (hy:ev sl y=some (.string s')) (S:StrC s l) (S':StrC s' m) (hb:stB op l m=some r):QV P sl ls (.binOp op t x y t') (.bool r):=⟨rfl,fun F H ho=>by
 rw [S.pf] at hx;rw [S'.pf] at hy
 cases op<;>simp only [stB,reduceCtorEq,Option.some.injEq] at hb<;>subst hb
 ·exact rA F ho hx hy
 ·exact y_neT F ho hx hy
 ·exact aHu F ho hx hy
 ·exact zI F ho hx hy
 ·exact uS F ho hx hy
 ·exact aKh F ho hx hy⟩
theorem vta {s s':ByteArray} {l m r:List UInt8} (hm:aL l m=some r) (hx:ev sl x=some (.string s)) (hy:ev sl y=some (.string s')) (S:StrC s l) (S':StrC s' m):QV P sl ls (.binOp .add t x y t') (.string (txb r)):=⟨rfl,fun F H ho=>mU F ho (S.pf▸hx) (S'.pf▸hy) hm⟩
theorem vd {parts:List (Nat×Operand)} {vs:List (Nat×Value)} {offs:List Nat} (hv:evp sl parts=some vs) (C:AggC P t n zz) (B:BldC P t offs) (hc:vS offs vs zz=some cs) (hb:P.built t vs=some cs.toArray):QV P sl ls (.build t parts.toArray) (.agg cs.toArray):=⟨rfl,fun F H ho=>bU F ho hv hb⟩
theorem vlaW {m:Nat} (hx:ev sl x=some (.pointer (some ⟨b,0,none⟩))) (C:AggC P t n zz) (hS:HasB ls b cs u l1) (hC:CelC ls cs m) (hn:m=n):QV P sl ls (.load t x) (.agg cs.toArray):=⟨rfl,fun F H ho=>dJ F C.pf ho hx ((Sel.st H hS.pf).blk 0 rfl).row ((hC.pf (F:=[]) H).1.trans hn)⟩
theorem vmf {f:FuncId} {xs:List Operand} {vs:List Value} (hv:evs sl xs=some vs):QV P sl ls (.makeFunc (.func f) #[] xs.toArray) (.func (.func f) #[] vs.toArray):=⟨rfl,fun F H ho=>aE9 F ho hv⟩
theorem vd0 {parts:List (Nat×Operand)} {vs:List (Nat×Value)} {offs:List Nat} (hv:evp sl parts=some vs) (C:ZzC P t zz) (B:BldC P t offs) (hc:vS offs vs zz=some cs) (hb:P.built t vs=some cs.toArray):QV P sl ls (.build t parts.toArray) (.agg cs.toArray):=⟨rfl,fun F H ho=>bU F ho hv hb⟩
theorem vnb {p q:Bool} (hx:ev sl x=some (.bool p)) (hy:ev sl y=some (.bool q)) (C:UndC P t .bool):QV P sl ls (.binOp .neq t x y t') (.bool (!decide (p=q))):=⟨rfl,fun F H ho=>aP3 F ho C.pf hx hy⟩
theorem veb {p q:Bool} (hx:ev sl x=some (.bool p)) (hy:ev sl y=some (.bool q)) (C:UndC P t .bool):QV P sl ls (.binOp .eql t x y t') (.bool (decide (p=q))):=⟨rfl,fun F H ho=>aI1 F ho C.pf hx hy⟩
theorem vc {k k':IntKind} {m:Int} (hx:ev sl x=some (.int k m)) (C:UndC P t (.int k)) (C':UndC P t' (.int k')):QV P sl ls (.convert t t' x) (.int k' (k'.wrap m)):=⟨rfl,fun F H ho=>aDm F C.pf C'.pf ho hx⟩
theorem vbs {xs:List UInt8} (hx:ev sl x=some (.slice p n cap)) (C:UndC P t (.slice e)) (C':UndC P t' .string) (C2:UndC P e (.int .u8)) (hS:HasS ls p rByte cap xs) (hn:n=xs.length):QV P sl ls (.convert t t' x) (.string (txb xs)):=⟨rfl,fun F H ho=>by
 subst hn;exact uV F C.pf C'.pf C2.pf ho hx (Sel.st H hS.pf) 0 rfl⟩
theorem vmin {k:IntKind} {m n:Int} {ts:Array TypeId} (hx:ev sl x=some (.int k m)) (hy:ev sl y=some (.int k n)):QV P sl ls (.call { callee:=.builtin .min,args:=#[x,y],argTypes:=ts }) (.int k (min m n)):=⟨rfl,fun F H ho=>zJ F ho hx hy rfl⟩
theorem vmin3 {k:IntKind} {m n q:Int} {ts:Array TypeId} (hx:ev sl x=some (.int k m)) (hy:ev sl y=some (.int k n)) (hz:ev sl z=some (.int k q)):QV P sl ls (.call { callee:=.builtin .min,args:=#[x,y,z],argTypes:=ts }) (.int k (min (min m n) q)):=⟨rfl,fun F H ho=>aLe F ho hx hy hz rfl⟩
theorem vmax {k:IntKind} {m n:Int} {ts:Array TypeId} (hx:ev sl x=some (.int k m)) (hy:ev sl y=some (.int k n)):QV P sl ls (.call { callee:=.builtin .max,args:=#[x,y],argTypes:=ts }) (.int k (max m n)):=⟨rfl,fun F H ho=>yL F ho hx hy rfl⟩
theorem vpi {b:Bool} (hx:ev sl x=some (.bool b)) (hy:ev sl y=some (.bool true)) (hz:ev sl z=some (.bool false)):QV P sl ls (.pick x y z) (.bool b):=⟨rfl,fun F H ho=>tN F ho hx hy hz⟩
theorem vit {l:List UInt8} {i:Int} {c:UInt8} {k:IntKind} (hm:aD l i=some c) (hx:ev sl x=some (.string (txb l))) (hy:ev sl y=some (.int k i)) (C:UndC P t .string):QV P sl ls (.index t x y) (.int .u8 ((c.toNat:Nat):Int)):=⟨rfl,fun F H ho=>aNy F ho C.pf hx hy hm⟩
theorem vitA {l:List UInt8} {i:Int} {c:UInt8} {k:IntKind} (hx:ev sl x=some (.string (txb l))) (hy:ev sl y=some (.int k i)) (C:UndC P t .string) (hm:aD l i=some c):QV P sl ls (.index t x y) (.int .u8 ((c.toNat:Nat):Int)):=vit hm hx hy C
theorem vst1 {l r:List UInt8} {lo hi:Operand} {k k':IntKind} {i j:Int} (hm:aY l i j=some r) (hx:ev sl x=some (.string (txb l))) (C:UndC P t .string) (hl:ev sl lo=some (.int k i)) (hh:ev sl hi=some (.int k' j)):QV P sl ls (.slice t x (some lo) (some hi) none) (.string (txb r)):=⟨rfl,fun F H ho=>aMk F ho C.pf hx hl hh hm⟩
theorem vst2 {l r:List UInt8} {lo:Operand} {k:IntKind} {i:Int} (hm:aY l i ((l.length:Nat):Int)=some r) (hx:ev sl x=some (.string (txb l))) (C:UndC P t .string) (hl:ev sl lo=some (.int k i)):QV P sl ls (.slice t x (some lo) none none) (.string (txb r)):=⟨rfl,fun F H ho=>aL8 F ho C.pf hx hl hm⟩
theorem vst3 {l r:List UInt8} {hi:Operand} {k:IntKind} {j:Int} (hm:aY l 0 j=some r) (hx:ev sl x=some (.string (txb l))) (C:UndC P t .string) (hh:ev sl hi=some (.int k j)):QV P sl ls (.slice t x none (some hi) none) (.string (txb r)):=⟨rfl,fun F H ho=>aJw F ho C.pf hx hh hm⟩
theorem vix {α:Type} {xs:List α} {q:Int} {kd:IntKind} {m:α} {o:Nat} (hx:ev sl x=some (.slice p n cap)) (hy:ev sl y=some (.int kd q)) (hp:p=some ⟨b,o,none⟩) (hn:xs.length=n) (hq:aD xs q=some m) (C:ElmC P t e size bytes zv):QV P sl ls (.indexAddr t x y) (.pointer (some ⟨b,o+q.toNat*size,none⟩)):=⟨rfl,fun F H ho=>by
 subst hn;exact dW F C.pf ho hx hy hp hq⟩
theorem vsr {k k':IntKind} {m n:Int} (hx:ev sl x=some (.int k m)) (hy:ev sl y=some (.int k' n)) (h:decide (0<=n)=true):QV P sl ls (.binOp .shr t x y t') (.int k (cL k m n)):=⟨rfl,fun F H ho=>aD6 F ho hx hy (of_decide_eq_true h)⟩
theorem vsl {k k':IntKind} {m n:Int} (hx:ev sl x=some (.int k m)) (hy:ev sl y=some (.int k' n)) (h:decide (0<=n)=true):QV P sl ls (.binOp .shl t x y t') (.int k (oO k m n)):=⟨rfl,fun F H ho=>aBc F ho hx hy (of_decide_eq_true h)⟩
theorem vsro {k k':IntKind} {m n r:Int} (hm:eG k m n=some r) (hx:ev sl x=some (.int k m)) (hy:ev sl y=some (.int k' n)):QV P sl ls (.binOp .shr t x y t') (.int k r):=⟨rfl,fun F H ho=>aJe F ho hx hy hm⟩
theorem vslo {k k':IntKind} {m n r:Int} (hm:qW k m n=some r) (hx:ev sl x=some (.int k m)) (hy:ev sl y=some (.int k' n)):QV P sl ls (.binOp .shl t x y t') (.int k r):=⟨rfl,fun F H ho=>aIc F ho hx hy hm⟩
theorem vqo {k:IntKind} {m n r:Int} (hm:kN k m n=some r) (hx:ev sl x=some (.int k m)) (hy:ev sl y=some (.int k n)):QV P sl ls (.binOp .quo t x y t') (.int k r):=⟨rfl,fun F H ho=>aHf F ho hx hy hm⟩
theorem vre {k:IntKind} {m n r:Int} (hm:mA m n=some r) (hx:ev sl x=some (.int k m)) (hy:ev sl y=some (.int k n)):QV P sl ls (.binOp .rem t x y t') (.int k r):=⟨rfl,fun F H ho=>aHb F ho hx hy hm⟩
theorem ven {op:BinOp} {r:Bool} (hx:ev sl x=some (.slice none 0 0)) (hy:ev sl y=some (.slice none 0 0)) (C:UndC P t (.slice e)) (ho2:(match op with | .eql=>some true | .neq=>some false | _=>none)=some r):QV P sl ls (.binOp op t x y t') (.bool r):=⟨rfl,fun F H ho=>by
 cases op<;>cases ho2
 ·exact aDp F ho C.pf hx hy (.inl rfl)
 ·exact aDp F ho C.pf hx hy (.inr rfl)⟩
theorem ves {op:BinOp} {r:Bool} {ad:Addr} (hx:ev sl x=some (.slice (some ad) n cap)) (hy:ev sl y=some (.slice none 0 0)) (C:UndC P t (.slice e)) (ho2:(match op with | .eql=>some false | .neq=>some true | _=>none)=some r):QV P sl ls (.binOp op t x y t') (.bool r):=⟨rfl,fun F H ho=>by
 cases op<;>cases ho2
 ·exact aE1 F ho C.pf hx hy (.inl rfl)
 ·exact aE1 F ho C.pf hx hy (.inr rfl)⟩
end
section
variable {P:Program} {ops:Array Oper} {Q:Exit->Act->World->Prop} {a:Act} {w w0 w':World} {N:Fs} {sl sl' s1:List (Nat×Value)} {ls l1:List HP} {o:Oper} {rest l l':List Oper} {d:Nat} {v:Value}
 {dst:Option Nat} {t t' e u:TypeId} {x y z:Operand} {ty:Nat} {pos:String} {ed:Array Edge} {b k n bytes size:Nat} {p:Option Addr} {cap:Nat} {cs zz:List Value} {z0:Value}
theorem ac (k:Nat) {f:FuncId} {vs:List Value} {A:Prop} {R:Value->World->Prop} (F:Fr N a sl) (h:opC N.n sl o=some (d,f,vs)) (C:Ctr P f k A)
  (hc:A->Calls P f vs.toArray w fun e w'=>∃ v,e=.returned v/\R v w') (hk:∀ v w' a',R v w'->Fr N a' ((d,v)::sl)->wpList P ops Q rest a' w'):wpList P ops Q (o::rest) a w:=sd F h C.en (hc C.pf) hk
theorem aq {op:Op} (F:Fr N a sl) (H:St w0 w ls) (hq:QV P sl ls op v) (hd:Nat.blt d N.n=true) (hk:∀ a',Fr N a' ((d,v)::sl)->wpList P ops Q rest a' w):wpList P ops Q (⟨some d,op,ty,pos,ed,none⟩::rest) a w:=bD wkP F rfl rfl hd hq.1 (hq.2 F H rfl) hk
theorem aqq {op:Op} {Q:Act->Prop} (F:Fr N a sl) (hq:QV P sl ls op v) (hd:Nat.blt d N.n=true) (hk:∀ a',Fr N a' ((d,v)::sl)->wpQuiet P ops (fun u=>St w0 u ls) Q rest a'):wpQuiet P ops (fun u=>St w0 u ls) Q (⟨some d,op,ty,pos,ed,none⟩::rest) a:=aF9 F rfl rfl hd (fun _ H=>hq.2 F H rfl) hk
theorem aqc (k:Nat) {f:FuncId} {vs:List Value} {A:Prop} {Q:Act->Prop} (F:Fr N a sl) (h:opC N.n sl o=some (d,f,vs)) (C:Ctr P f k A) (hc:A->∀ u,St w0 u ls->Calls P f vs.toArray u fun e w'=>∃ v',e=.returned v'/\v'=v/\St w0 w' ls)
  (hk:∀ a',Fr N a' ((d,v)::sl)->wpQuiet P ops (fun u=>St w0 u ls) Q rest a'):wpQuiet P ops (fun u=>St w0 u ls) Q (o::rest) a:=by
 obtain ⟨h1,h2,h3,xs,ts,h4,h5⟩:=aGf h
 refine aEh F h1 h2 h3 (fun u _=>nA F h4 h5 C.en) (fun u hu=>(hc C.pf u hu).mono fun e w' he=>?_) hk
 obtain ⟨v',e1,rfl,H⟩:=he
 exact ⟨e1,H⟩
theorem isL (h:wpList P ops Q rest a w):wpList P ops Q rest a w:=h
theorem isQ {C:World->Prop} {Q:Act->Prop} (h:wpQuiet P ops C Q rest a):wpQuiet P ops C Q rest a:=h
theorem isM {C:World->Prop} {K:Act->World->Prop} {s:Sc} (h:aW P ops C K s a w):aW P ops C K s a w:=h
theorem isC {c:Code} (h:c.wp P Q a w):c.wp P Q a w:=h
theorem ck {M B G:Prop} (_:M->B) (_:M) (g:G):G:=g
theorem api {α ι:Type} {R:Rp α} {xs:List α} {q:Int} {m:α} {ds:ι->List Value->List Value} {nd:ι->List HP->List HP} (H:St w0 w ls) (hq:aD xs q=some m) (hS:HasX ls xs R p cap) (O:OpenA R m ι ds nd):∃ b o i,p=some ⟨b,o,none⟩/\St w0 w (HP.row b (o+q.toNat*R.n) (ds i [])::nd i ls):=by
 obtain ⟨b,o,hp,cs,H2⟩:=(Sel.st H hS.pf).slE 0 rfl hq
 have H3:=(H2.perm (l':=HP.sl R p cap xs::HP.row b (o+q.toNat*R.n) cs::HP.rc R cs m::ls) (by
  exact ((List.Perm.swap _ _ _).cons _).trans (List.Perm.swap _ _ _))).tail
 obtain ⟨i,rfl,H4⟩:=H3.o1 O
 exact ⟨b,o,i,hp,H4⟩
theorem vI {G:Prop} {α ι:Type} {R:Rp α} {xs:List α} {q:Int} {m:α} {ds:ι->List Value->List Value} {nd:ι->List HP->List HP} (H:St w0 w ls) (hq:aD xs q=some m) (hS:HasX ls xs R p cap) (O:OpenA R m ι ds nd) (hn:RnC R n) (hk:∀ b o i,p=some ⟨b,o,none⟩->St w0 w (HP.row b (o+q.toNat*n) (ds i [])::nd i ls)->G):G:=by
 obtain ⟨b,o,i,h1,h2⟩:=api H hq hS O
 exact hk b o i h1 (hn.pf▸h2)
theorem xG {G:Prop} {α ι:Type} {R:Rp α} {xs:List α} {q:Int} {m:α} {o:Nat} {ds:ι->List Value->List Value} {nd:ι->List HP->List HP} (H:St w0 w ls) (hq:aD xs q=some m) (hS:HasX ls xs R p cap) (hp:p=some ⟨b,o,none⟩) (O:OpenA R m ι ds nd) (hn:RnC R n) (hk:∀ i,St w0 w (HP.row b (o+q.toNat*n) (ds i [])::nd i ls)->G):G:=by
 obtain ⟨cs,H2⟩:=(Sel.st H hS.pf).slF 0 rfl hp hq
 have H3:=(H2.perm (l':=HP.sl R p cap xs::HP.row b (o+q.toNat*R.n) cs::HP.rc R cs m::ls) (by
  exact ((List.Perm.swap _ _ _).cons _).trans (List.Perm.swap _ _ _))).tail
 obtain ⟨i,rfl,H4⟩:=H3.o1 O
 exact hk i (hn.pf▸H4)
theorem aLp {c:Code} {Q:Exit->Act->World->Prop} (h:(Code.loop c).wp P Q a w):(Code.loop c).wp P Q a w:=h
theorem aRg {id:Nat} {l:List Oper} {Q:Exit->Act->World->Prop} (h:(Code.region id l.toArray true).wp P Q a w):(Code.region id l.toArray true).wp P Q a w:=h
def PS (_:List Nat) (X:Prop):Prop:=X
def psE:List Nat->List Oper->List Nat
 | _,[]=>[]
 | gs,o::r=>match o.guard with
  | some (g,_)=>match gs.contains g with
   | true=>psO o.op (psE gs r)
   | false=>2::psO o.op (psE (g::gs) r)
  | none=>psO o.op (psE gs r)
where psO:Op->List Nat->List Nat
 | .indexAddr _ _ _,r=>0::r
 | .call { callee:=.value _,args:=_,argTypes:=_ },r=>1::r
 | _,r=>r
theorem aRi {id:Nat} {l:List Oper} {Q:Exit->Act->World->Prop} (_:(l.any fun o=>match o.op,o.guard with | .indexAddr _ _ _,some _=>true | _,_=>false)=true) (_:P.follows .mixedOrders=true) (_:Region.lexB .any l.toArray=true) (h:PS (psE [] l) ((Code.region id l.toArray true).wp P Q a w)):(Code.region id l.toArray true).wp P Q a w:=h
section
variable {n r:List Nat} {X:Prop}
theorem psI (_:n=0::r) (h:PS r X):PS n X:=h
theorem psC (_:n=1::r) (h:PS r X):PS n X:=h
theorem psS (_:n=2::r) (h:PS r X):PS n X:=h
theorem psN (_:n=[]) (h:X):PS n X:=h
end
theorem aqT {s g:Nat} {bb:Bool} {op:Op} {og:Oper} {os:List Oper} {C:World->Prop} {Q:Act->Prop} (F:Fr N a sl) (hog:atL g os=some og) (hog2:og.dst=some s) (hv:lk s sl=some (.bool bb)) (h:wpQuiet P os.toArray C Q (⟨dst,op,ty,pos,ed,none⟩::rest) a):wpQuiet P os.toArray C Q (⟨dst,op,ty,pos,ed,some (g,bb)⟩::rest) a:=by
 rw [cU] at hog
 exact qg_on F rfl (by simpa using hog) hog2 hv h
theorem asP {G:Prop} {s:Nat} {q:Prop} {i1 i2:Decidable q} {α:Type} {A B r:α} (F:Fr N a sl) (hm:@ite α q i2 A B=r) (hv:lk s sl=some (.bool (@decide q i1))) (ht:q->A=r->Fr N a ((s,.bool true)::sl)->G) (hf:¬ q->B=r->Fr N a ((s,.bool false)::sl)->G):G:=by
 rcases spP s F hv hm with ⟨h1,h2,h3⟩ | ⟨h1,h2,h3⟩
 ·exact ht h1 h2 h3
 ·exact hf h1 h2 h3
theorem asN {G:Prop} {s:Nat} {q:Prop} {i1 i2:Decidable q} {α:Type} {A B r:α} (F:Fr N a sl) (hm:@ite α q i2 A B=r) (hv:lk s sl=some (.bool (!@decide q i1))) (ht:q->A=r->Fr N a ((s,.bool false)::sl)->G) (hf:¬ q->B=r->Fr N a ((s,.bool true)::sl)->G):G:=by
 rcases spN s F hv hm with ⟨h1,h2,h3⟩ | ⟨h1,h2,h3⟩
 ·exact ht h1 h2 h3
 ·exact hf h1 h2 h3
theorem asV {G:Prop} {s:Nat} {c:Bool} {i2:Decidable (c=true)} {α:Type} {A B r:α} (F:Fr N a sl) (hm:@ite α (c=true) i2 A B=r) (hv:lk s sl=some (.bool c)) (ht:c=true->A=r->Fr N a ((s,.bool true)::sl)->G) (hf:¬ c=true->B=r->Fr N a ((s,.bool false)::sl)->G):G:=by
 by_cases h:c=true
 ·exact ht h (ifT h hm) (F.vT s h hv)
 ·exact hf h (ifF h hm) (F.vF s h hv)
def GS (_:Nat) (X:Prop):Prop:=X
theorem agQ {s g:Nat} {bb:Bool} {op:Op} {og:Oper} {os:List Oper} {C:World->Prop} {Q:Act->Prop} (hog:atL g os=some og) (hog2:og.dst=some s) (h:GS s (wpQuiet P os.toArray C Q (⟨dst,op,ty,pos,ed,some (g,bb)⟩::rest) a)):wpQuiet P os.toArray C Q (⟨dst,op,ty,pos,ed,some (g,bb)⟩::rest) a:=h
theorem agM {s g k i:Nat} {bb:Bool} {op:Op} {og:Oper} {os:List Oper} {C:World->Prop} {K:Act->World->Prop} {sc:Sc} (hi:atL i os=some ⟨dst,op,ty,pos,ed,some (g,bb)⟩) (hog:atL g os=some og) (hog2:og.dst=some s) (h:GS s (aW P os.toArray C K (.step k i sc) a w)):aW P os.toArray C K (.step k i sc) a w:=h
theorem gsP {G:Prop} {s:Nat} {q:Prop} {i1 i2:Decidable q} {α:Type} {A B r:α} (F:Fr N a sl) (hm:@ite α q i2 A B=r) (hv:lk s sl=some (.bool (@decide q i1))) (ht:q->A=r->Fr N a ((s,.bool true)::sl)->G) (hf:¬ q->B=r->Fr N a ((s,.bool false)::sl)->G):GS s G:=asP F hm hv ht hf
theorem gsN {G:Prop} {s:Nat} {q:Prop} {i1 i2:Decidable q} {α:Type} {A B r:α} (F:Fr N a sl) (hm:@ite α q i2 A B=r) (hv:lk s sl=some (.bool (!@decide q i1))) (ht:q->A=r->Fr N a ((s,.bool false)::sl)->G) (hf:¬ q->B=r->Fr N a ((s,.bool true)::sl)->G):GS s G:=asN F hm hv ht hf
theorem gsV {G:Prop} {s:Nat} {c:Bool} {i2:Decidable (c=true)} {α:Type} {A B r:α} (F:Fr N a sl) (hm:@ite α (c=true) i2 A B=r) (hv:lk s sl=some (.bool c)) (ht:c=true->A=r->Fr N a ((s,.bool true)::sl)->G) (hf:¬ c=true->B=r->Fr N a ((s,.bool false)::sl)->G):GS s G:=asV F hm hv ht hf
theorem art {k:Nat} (h:lk k sl=some v):RV P sl w (.tmp k) v:=h
theorem lU {k m:Nat} (H:St w0 w ls) (h:lk k sl=some (.pointer (some ⟨b,0,none⟩))) (C:AggC P t n zz) (hS:HasB ls b cs u l1) (hC:CelC ls cs m) (hn:m=n):RV P sl w (.cell k t) (.agg cs.toArray):=⟨_,h,C.pf.run_load ((Sel.st H hS.pf).blk 0 rfl).row ((hC.pf (F:=[]) H).1.trans hn)⟩
theorem arc {k:Nat} (H:St w0 w ls) (h:lk k sl=some (.pointer (some ⟨b,0,none⟩))) (C:AggC P t n zz) (hS:HasB ls b cs u l1) (hn:cs.length=n):RV P sl w (.cell k t) (.agg cs.toArray):=⟨_,h,C.pf.run_load ((Sel.st H hS.pf).blk 0 rfl).row hn⟩
theorem aq0 {op:Op} {K:Act->World->Prop} {s:Sc} {i:Nat} {os:List Oper} {L:List HP->List HP} (F:Fr N a sl) (hi:atL i os=some ⟨some d,op,ty,pos,ed,none⟩) (hq:∀ r,QV P sl (L r) op v) (hd:Nat.blt d N.n=true) (hk:∀ a',Fr N a' ((d,v)::sl)->aW P os.toArray (fun u=>∃ r,St w0 u (L r)) K s a' w):aW P os.toArray (fun u=>∃ r,St w0 u (L r)) K (.step 0 i s) a w :=
 bH F (by rw [cU] at hi;simpa using hi) rfl rfl hd (fun u hu=>(hq hu.choose).2 F hu.choose_spec rfl) hk
theorem aq1 {op:Op} {K:Act->World->Prop} {s:Sc} {i:Nat} {os:List Oper} {C:World->Prop} (F:Fr N a sl) (H:St w0 w ls) (hi:atL i os=some ⟨some d,op,ty,pos,ed,none⟩) (hq:QV P sl ls op v) (hd:Nat.blt d N.n=true) (hk:∀ a',Fr N a' ((d,v)::sl)->aW P os.toArray C K s a' w):aW P os.toArray C K (.step 1 i s) a w :=
 aMu F (by rw [cU] at hi;simpa using hi) rfl rfl hd (hq.2 F H rfl) hk
theorem aq2 {K:Act->World->Prop} {s:Sc} {i:Nat} {os:List Oper} {C:World->Prop} {op:Op} (hi:atL i os=some ⟨dst,op,ty,pos,ed,none⟩) (h:wpList P os.toArray (Exit.then (fun a' w'=>C w'/\aW P os.toArray C K s a' w') (fun _ _ _=>False)) [⟨dst,op,ty,pos,ed,none⟩] a w):aW P os.toArray C K (.step 2 i s) a w:=aE (by rw [cU] at hi;simpa using hi) rfl h
theorem aq3 {K:Act->World->Prop} {s:Sc} {i:Nat} {os:List Oper} {C:World->Prop} {op:Op} (hi:atL i os=some ⟨dst,op,ty,pos,ed,none⟩) (h:wpList P os.toArray (Exit.then (fun a' w'=>aW P os.toArray C K s a' w') (fun _ _ _=>False)) [⟨dst,op,ty,pos,ed,none⟩] a w):aW P os.toArray C K (.step 3 i s) a w:=dF (by rw [cU] at hi;simpa using hi) rfl h
theorem aqC {L:List HP->List HP} {X:Prop} (H:St w0 w ls) (hS:Sel ls (L l1)) (h:X):(∃ r,St w0 w (L r))/\X:=⟨⟨_,Sel.st H hS⟩,h⟩
theorem ai {α ι:Type} {R:Rp α} {xs:List α} {q:Int} {kd:IntKind} {m:α} {zv:Value} {ds:ι->List Value->List Value} {nd:ι->List HP->List HP} (F:Fr N a sl) (H:St w0 w ls) (hq:aD xs q=some m) (hx:ev sl x=some (.slice p xs.length cap)) (hy:ev sl y=some (.int kd q)) (C:ElmC P t e size bytes zv) (hd:Nat.blt d N.n=true)
  (hS:HasS ls p R cap xs) (hn:R.n=size) (O:OpenA R m ι ds nd)
  (hk:∀ b o i a',p=some ⟨b,o,none⟩->St w0 w (HP.row b (o+q.toNat*size) (ds i [])::nd i ls)->Fr N a' ((d,.pointer (some ⟨b,o+q.toNat*size,none⟩))::sl)->wpList P ops Q rest a' w):wpList P ops Q (⟨some d,.indexAddr t x y,ty,pos,ed,none⟩::rest) a w:=by
 subst hn
 obtain ⟨b,o,hp,cs,H2⟩:=(Sel.st H hS.pf).slE 0 rfl hq
 have H3:=(H2.perm (l':=HP.sl R p cap xs::HP.row b (o+q.toNat*R.n) cs::HP.rc R cs m::ls) (by
  exact ((List.Perm.swap _ _ _).cons _).trans (List.Perm.swap _ _ _))).tail
 obtain ⟨i,rfl,H4⟩:=H3.o1 O
 exact bD wkP F rfl rfl hd rfl (dW F C.pf rfl hx hy hp hq) fun a' F'=>hk b o i a' hp H4 F'
def qY (n:Nat) (sl:List (Nat×Value)) (o:Oper):Option (Nat×FuncId×List Value):=match o.guard with
 | some _=>none
 | none=>match o.dst with
  | none=>none
  | some d=>match Nat.blt d n with
   | false=>none
   | true=>match o.op with
    | .call c=>match c.callee with
     | .value g=>match ev sl g with
      | some (.func (.func f) ⟨[]⟩ ⟨[]⟩)=>match evs sl c.args.toList with
       | some vs=>some (d,f,vs)
       | none=>none
      | _=>none
     | _=>none
    | _=>none
theorem aF6 {n d:Nat} {f:FuncId} {vs:List Value} {sl:List (Nat×Value)} {o:Oper} (h:qY n sl o=some (d,f,vs)):o.guard=none/\o.dst=some d/\Nat.blt d n=true/\∃ g xs ts,o.op=.call { callee:=.value g,args:=List.toArray xs,argTypes:=ts }/\ev sl g=some (.func (.func f) #[] #[])/\evs sl xs=some vs:=by
 unfold qY at h
 split at h
 ·cases h
 ·rename_i hg
  split at h
  ·cases h
  ·rename_i d' hd
   split at h
   ·cases h
   ·rename_i hN
    split at h
    ·rename_i c ho
     split at h
     ·rename_i g hc
      split at h
      ·rename_i f' hev
       split at h
       ·rename_i vs' hv
        cases h
        obtain ⟨cc,⟨ca⟩,ct⟩:=c
        simp only at hc hv
        subst hc
        exact ⟨hg,hd,hN,g,ca,ct,ho,hev,hv⟩
       ·cases h
      ·cases h
     ·cases h
    ·cases h
theorem acv (k:Nat) {f:FuncId} {vs:List Value} {A:Prop} {R:Value->World->Prop} (F:Fr N a sl) (h:qY N.n sl o=some (d,f,vs)) (C:Ctr P f k A)
  (hc:A->Calls P f vs.toArray w fun e w'=>∃ v,e=.returned v/\R v w') (hk:∀ v w' a',R v w'->Fr N a' ((d,v)::sl)->wpList P ops Q rest a' w'):wpList P ops Q (o::rest) a w:=by
 obtain ⟨h1,h2,h3,g,xs,ts,h4,h5,h6⟩:=aF6 h
 exact rM wkP F h1 h2 h3 (by rw [h4];rfl) (aAe F h4 h5 h6 C.en) (hc C.pf) hk
theorem qI (k:Nat) {f:FuncId} {vs:List Value} {A:Prop} {Q:Act->Prop} (F:Fr N a sl) (h:qY N.n sl o=some (d,f,vs)) (C:Ctr P f k A) (hc:A->∀ u,St w0 u ls->Calls P f vs.toArray u fun e w'=>∃ v',e=.returned v'/\v'=v/\St w0 w' ls)
  (hk:∀ a',Fr N a' ((d,v)::sl)->wpQuiet P ops (fun u=>St w0 u ls) Q rest a'):wpQuiet P ops (fun u=>St w0 u ls) Q (o::rest) a:=by
 obtain ⟨h1,h2,h3,g,xs,ts,h4,h5,h6⟩:=aF6 h
 refine aEh F h1 h2 h3 (fun u _=>aAe F h4 h5 h6 C.en) (fun u hu=>(hc C.pf u hu).mono fun e w' he=>?_) hk
 obtain ⟨v',e1,rfl,H⟩:=he
 exact ⟨e1,H⟩
theorem aiF {α ι:Type} {R:Rp α} {xs:List α} {q:Int} {kd:IntKind} {m:α} {zv:Value} {o:Nat} {ds:ι->List Value->List Value} {nd:ι->List HP->List HP} (F:Fr N a sl) (H:St w0 w ls) (hq:aD xs q=some m) (hx:ev sl x=some (.slice p xs.length cap)) (hy:ev sl y=some (.int kd q)) (hp:p=some ⟨b,o,none⟩) (C:ElmC P t e size bytes zv) (hd:Nat.blt d N.n=true)
  (hS:HasS ls p R cap xs) (hn:R.n=size) (O:OpenA R m ι ds nd)
  (hk:∀ i a',St w0 w (HP.row b (o+q.toNat*size) (ds i [])::nd i ls)->Fr N a' ((d,.pointer (some ⟨b,o+q.toNat*size,none⟩))::sl)->wpList P ops Q rest a' w):wpList P ops Q (⟨some d,.indexAddr t x y,ty,pos,ed,none⟩::rest) a w:=by
 subst hn
 obtain ⟨cs,H2⟩:=(Sel.st H hS.pf).slF 0 rfl hp hq
 have H3:=(H2.perm (l':=HP.sl R p cap xs::HP.row b (o+q.toNat*R.n) cs::HP.rc R cs m::ls) (by
  exact ((List.Perm.swap _ _ _).cons _).trans (List.Perm.swap _ _ _))).tail
 obtain ⟨i,rfl,H4⟩:=H3.o1 O
 exact bD wkP F rfl rfl hd rfl (dW F C.pf rfl hx hy hp hq) fun a' F'=>hk i a' H4 F'
theorem aA (F:Fr N a sl) (H:St w0 w ls) (C:AggC P t n zz) (hd:Nat.blt d N.n=true) (hk:∀ b w' a',St w0 w' (HP.blk b zz t::ls)->Fr N a' ((d,.pointer (some ⟨b,0,none⟩))::sl)->wpList P ops Q rest a' w'):wpList P ops Q (⟨some d,.alloc t,ty,pos,ed,none⟩::rest) a w :=
 bE wkP F rfl rfl hd C.pf rfl H hk
theorem aA1 (F:Fr N a sl) (H:St w0 w ls) (C:ZerC P t v) (hd:Nat.blt d N.n=true) (hk:∀ b w' a',St w0 w' (HP.blk b [v] t::ls)->Fr N a' ((d,.pointer (some ⟨b,0,none⟩))::sl)->wpList P ops Q rest a' w'):wpList P ops Q (⟨some d,.alloc t,ty,pos,ed,none⟩::rest) a w :=
 sR wkP F rfl rfl hd C.pf rfl H hk
theorem aB (F:Fr N a sl) (H:St w0 w ls) (hx:ev sl x=some (.agg cs.toArray)) (hd:Nat.blt d N.n=true) (hk:∀ b w' a',St w0 w' (HP.blk b cs t::ls)->Fr N a' ((d,.pointer (some ⟨b,0,none⟩))::sl)->wpList P ops Q rest a' w'):wpList P ops Q (⟨some d,.box t x,ty,pos,ed,none⟩::rest) a w :=
 gB wkP F rfl rfl hd rfl hx H hk
theorem aB1 (F:Fr N a sl) (H:St w0 w ls) (hx:ev sl x=some v) (hv:v.cells=#[v]) (hd:Nat.blt d N.n=true) (hk:∀ b w' a',St w0 w' (HP.blk b [v] t::ls)->Fr N a' ((d,.pointer (some ⟨b,0,none⟩))::sl)->wpList P ops Q rest a' w'):wpList P ops Q (⟨some d,.box t x,ty,pos,ed,none⟩::rest) a w :=
 uN wkP F rfl rfl hd rfl hx hv H hk
theorem aS {old:List Value} (F:Fr N a sl) (H:St w0 w ls) (hx:ev sl x=some (.pointer (some ⟨b,0,none⟩))) (hy:ev sl y=some (.agg cs.toArray)) (C:AggC P t n zz) (hS:HasB ls b old u l1) (hn:cs.length=n) (ho:old.length=n) (hf:cs.all Value.oneCell'=true)
  (hk:∀ w',St w0 w' (HP.blk b cs u::l1)->wpList P ops Q rest a w'):wpList P ops Q (⟨none,.store t x y,ty,pos,ed,none⟩::rest) a w :=
 aJ wkP F rfl rfl C.pf rfl hx hy (Sel.st H hS.pf) 0 rfl hn ho (fl hf) hk
theorem aS1 {z1:Value} {old old':List Value} (F:Fr N a sl) (H:St w0 w ls) (hx:ev sl x=some (.pointer (some ⟨b,k,none⟩))) (hy:ev sl y=some v) (C:ZerC P t z1) (hS:HasB ls b old u l1) (hv:v.cells=#[v]) (h1:v.oneCell'=true) (hs:mZ k old v=some old')
  (hk:∀ w',St w0 w' (HP.blk b old' u::l1)->wpList P ops Q rest a w'):wpList P ops Q (⟨none,.store t x y,ty,pos,ed,none⟩::rest) a w :=
 cN wkP F rfl rfl C.pf rfl hx hy hv h1 (Sel.st H hS.pf) 0 rfl hs hk
theorem xO:∀ {k:Nat} {l cs d:List Value},fR k l cs=some d->d=cs.take k++l++cs.drop (k+l.length)/\k+l.length<=cs.length
 | 0,[],cs,d,h=>by simp only [fR,Option.some.injEq] at h;subst h;simp
 | 0,v::r,[],d,h=>by simp [fR] at h
 | 0,v::r,_::cs,d,h=>by
  simp only [fR] at h
  split at h
  ·rename_i c e
   cases h
   obtain ⟨h1,h2⟩:=xO e
   simp at h1 h2
   subst h1
   simp;omega
  ·cases h
 | k+1,l,[],d,h=>by simp [fR] at h
 | k+1,l,c::cs,d,h=>by
  simp only [fR] at h
  split at h
  ·rename_i c2 e
   cases h
   obtain ⟨h1,h2⟩:=xO e
   subst h1
   simp at h2 ⊢
   refine ⟨?_,by omega⟩
   rw [show k+1+l.length=(k+l.length)+1 by omega];simp
  ·cases h
theorem aSo {old new:List Value} (F:Fr N a sl) (H:St w0 w ls) (hx:ev sl x=some (.pointer (some ⟨b,k,none⟩))) (hy:ev sl y=some (.agg cs.toArray)) (C:AggC P t n zz) (hS:HasB ls b old u l1) (hn:cs.length=n) (hs:fR k cs old=some new) (hf:cs.all Value.oneCell'=true)
  (hk:∀ w',St w0 w' (HP.blk b new u::l1)->wpList P ops Q rest a w'):wpList P ops Q (⟨none,.store t x y,ty,pos,ed,none⟩::rest) a w:=by
 obtain ⟨h1,h2⟩:=xO hs
 subst hn
 refine fF wkP F rfl rfl rfl (wZ F C.pf rfl hx hy ((Sel.st H hS.pf).blk 0 rfl) rfl h2 (fl hf)) ?_
 rw [<- h1]
 exact hk _ ((Sel.st H hS.pf).setBlk 0 rfl new)
theorem aM2 {κ β ι:Type} {dk:DecidableEq κ} {T K E:TypeId} {ek:κ->Value} {agg:Bool} {R:Rp β} {ok:κ->Prop} {zc:List Value} {b0:β} {m:κ->Option β} {mp:Option Nat} {kk:κ} {ds:ι->List Value->List Value} {nd:ι->List HP->List HP} (F:Fr N a sl) (H:St w0 w ls) (hx:ev sl x=some (.map mp)) (hy:ev sl y=some v) (hS:HasL ls mp dk ek agg R ok m) (C:MapC P T K E ek agg R ok zc b0) (hv:KeyC ek v kk) (hok:ok kk) (O:OpenA R ((m kk).getD b0) ι ds nd) (hd:Nat.blt d N.n=true)
  (hk:∀ i a',St w0 w (nd i ls)->Fr N a' ((d,.tuple [mkV agg (ds i []),.bool (m kk).isSome].toArray)::sl)->wpList P ops Q rest a' w):wpList P ops Q (⟨some d,.lookup T x y true,ty,pos,ed,none⟩::rest) a w:=by
 obtain ⟨es,l2,j,h1,h2,h3⟩:=hS.pf (F:=[]) H
 obtain ⟨i,e,H4⟩:=(h3 kk C.hz0).o0 O
 exact bD wkP F rfl rfl hd rfl (aNb F C.hT C.hK C.hz rfl h2 j h1 hx (hy.trans (by rw [hv.pf])) hok e) fun a' F'=>hk i a' H4 F'
theorem aM1 {κ β ι:Type} {dk:DecidableEq κ} {T K E:TypeId} {ek:κ->Value} {agg:Bool} {R:Rp β} {ok:κ->Prop} {zc:List Value} {b0:β} {m:κ->Option β} {mp:Option Nat} {kk:κ} {ds:ι->List Value->List Value} {nd:ι->List HP->List HP} (F:Fr N a sl) (H:St w0 w ls) (hx:ev sl x=some (.map mp)) (hy:ev sl y=some v) (hS:HasL ls mp dk ek agg R ok m) (C:MapC P T K E ek agg R ok zc b0) (hv:KeyC ek v kk) (hok:ok kk) (O:OpenA R ((m kk).getD b0) ι ds nd) (hd:Nat.blt d N.n=true)
  (hk:∀ i a',St w0 w (nd i ls)->Fr N a' ((d,mkV agg (ds i []))::sl)->wpList P ops Q rest a' w):wpList P ops Q (⟨some d,.lookup T x y false,ty,pos,ed,none⟩::rest) a w:=by
 obtain ⟨es,l2,j,h1,h2,h3⟩:=hS.pf (F:=[]) H
 obtain ⟨i,e,H4⟩:=(h3 kk C.hz0).o0 O
 exact bD wkP F rfl rfl hd rfl (wM F C.hT C.hK C.hz rfl h2 j h1 hx (hy.trans (by rw [hv.pf])) hok e) fun a' F'=>hk i a' H4 F'
theorem aMSa {κ β:Type} {dk:DecidableEq κ} {T K E mb:Nat} {ek:κ->Value} {R:Rp β} {ok:κ->Prop} {zc:List Value} {b0 xv:β} {m:κ->Option β} {kk:κ} {r1 r2:List HP} (F:Fr N a sl) (H:St w0 w ls) (hx:ev sl x=some (.map (some mb))) (hy:ev sl y=some v) (hz:ev sl z=some (.agg cs.toArray)) (hS:HasM ls (some mb) dk ek true R ok m r1) (C:MapC P T K E ek true R ok zc b0) (hv:KeyC ek v kk) (hok:ok kk) (V:ReadX R cs xv []) (hV:Has r1 (HP.rc R cs xv) r2)
  (hk:∀ w',St w0 w' (HP.mm (some mb) ek true R ok (aI kk xv m)::r2)->wpList P ops Q rest a w'):wpList P ops Q (⟨none,.mapUpdate T x y z,ty,pos,ed,none⟩::rest) a w :=
 gT wkP F rfl rfl C.hT C.hK rfl (Sel.st H (Sel.trans hS.pf (Sel.cons hV.pf))) 0 rfl hx (hy.trans (by rw [hv.pf])) (cs:=cs) hz hok (fun g=>(g 1 _ rfl).choose_spec) fun w' H'=>hk w' ((H'.perm (List.Perm.swap _ _ _)).tail)
theorem aMSb {κ β:Type} {dk:DecidableEq κ} {T K E mb:Nat} {ek:κ->Value} {R:Rp β} {ok:κ->Prop} {zc:List Value} {b0 xv:β} {m:κ->Option β} {kk:κ} {r1 r2:List HP} {vz:Value} (F:Fr N a sl) (H:St w0 w ls) (hx:ev sl x=some (.map (some mb))) (hy:ev sl y=some v) (hz:ev sl z=some vz) (hS:HasM ls (some mb) dk ek false R ok m r1) (C:MapC P T K E ek false R ok zc b0) (hv:KeyC ek v kk) (hok:ok kk) (V:ReadX R [vz] xv []) (hV:Has r1 (HP.rc R [vz] xv) r2)
  (hk:∀ w',St w0 w' (HP.mm (some mb) ek false R ok (aI kk xv m)::r2)->wpList P ops Q rest a w'):wpList P ops Q (⟨none,.mapUpdate T x y z,ty,pos,ed,none⟩::rest) a w :=
 gT wkP F rfl rfl C.hT C.hK rfl (Sel.st H (Sel.trans hS.pf (Sel.cons hV.pf))) 0 rfl hx (hy.trans (by rw [hv.pf])) (cs:=[vz]) hz hok (fun g=>(g 1 _ rfl).choose_spec) fun w' H'=>hk w' ((H'.perm (List.Perm.swap _ _ _)).tail)
theorem aMN {κ β:Type} {dk:DecidableEq κ} {T:Nat} {ek:κ->Value} {agg:Bool} {R:Rp β} {ok:κ->Prop} (F:Fr N a sl) (H:St w0 w ls) (C:MapT P T dk ek agg R ok) (hd:Nat.blt d N.n=true)
  (hk:∀ b w' a',St w0 w' (HP.mm (some b) ek agg R ok bG::ls)->Fr N a' ((d,.map (some b))::sl)->wpList P ops Q rest a' w'):wpList P ops Q (⟨some d,.makeMap T none,ty,pos,ed,none⟩::rest) a w:=xS ek agg R ok wkP F rfl rfl hd rfl H hk
theorem aMD {κ β:Type} {dk:DecidableEq κ} {T K E mb t2:Nat} {ek:κ->Value} {agg:Bool} {R:Rp β} {ok:κ->Prop} {zc:List Value} {b0:β} {m:κ->Option β} {kk:κ} {r1:List HP} (F:Fr N a sl) (H:St w0 w ls) (hx:ev sl x=some (.map (some mb))) (hy:ev sl y=some v) (hS:HasM ls (some mb) dk ek agg R ok m r1) (C:MapC P T K E ek agg R ok zc b0) (hv:KeyC ek v kk) (hok:ok kk) (hd:Nat.blt d N.n=true)
  (hk:∀ w' a',St w0 w' (HP.mm (some mb) ek agg R ok (bZ kk m)::r1)->Fr N a' ((d,.tuple #[])::sl)->wpList P ops Q rest a' w'):wpList P ops Q (⟨some d,.call { callee:=.builtin .delete,args:=#[x,y],argTypes:=#[T,t2] },ty,pos,ed,none⟩::rest) a w :=
 aL5 wkP F rfl rfl hd C.hT C.hK rfl (Sel.st H hS.pf) 0 rfl hx (hy.trans (by rw [hv.pf])) hok hk
theorem aMIa {κ β:Type} {dk:DecidableEq κ} {T K E mb:Nat} {ek:κ->Value} {R:Rp β} {ok:κ->Prop} {zc:List Value} {b0 xv:β} {m:κ->Option β} {kk:κ} {r1 r2:List HP} (F:Fr N a sl) (H:St w0 w ls) (hx:ev sl x=some (.map (some mb))) (hy:ev sl y=some v) (hz:ev sl z=some (.agg cs.toArray)) (hS:HasM ls (some mb) dk ek true R ok m r1) (C:MapC P T K E ek true R ok zc b0) (hv:KeyC ek v kk) (hok:ok kk) (V:ReadX R cs xv []) (hV:Has r1 (HP.rc R cs xv) r2)
  (hk:∀ w',St w0 w' (HP.mm (some mb) ek true R ok (aI kk xv m)::r2)->wpList P ops Q rest a w'):wpList P ops Q (⟨none,.insert T x y z,ty,pos,ed,none⟩::rest) a w :=
 zP wkP F rfl rfl C.hT C.hK rfl (Sel.st H (Sel.trans hS.pf (Sel.cons hV.pf))) 0 rfl hx (hy.trans (by rw [hv.pf])) (cs:=cs) hz hok (fun g=>(g 1 _ rfl).choose_spec) fun w' H'=>hk w' ((H'.perm (List.Perm.swap _ _ _)).tail)
theorem aMIb {κ β:Type} {dk:DecidableEq κ} {T K E mb:Nat} {ek:κ->Value} {R:Rp β} {ok:κ->Prop} {zc:List Value} {b0 xv:β} {m:κ->Option β} {kk:κ} {r1 r2:List HP} {vz:Value} (F:Fr N a sl) (H:St w0 w ls) (hx:ev sl x=some (.map (some mb))) (hy:ev sl y=some v) (hz:ev sl z=some vz) (hS:HasM ls (some mb) dk ek false R ok m r1) (C:MapC P T K E ek false R ok zc b0) (hv:KeyC ek v kk) (hok:ok kk) (V:ReadX R [vz] xv []) (hV:Has r1 (HP.rc R [vz] xv) r2)
  (hk:∀ w',St w0 w' (HP.mm (some mb) ek false R ok (aI kk xv m)::r2)->wpList P ops Q rest a w'):wpList P ops Q (⟨none,.insert T x y z,ty,pos,ed,none⟩::rest) a w :=
 zP wkP F rfl rfl C.hT C.hK rfl (Sel.st H (Sel.trans hS.pf (Sel.cons hV.pf))) 0 rfl hx (hy.trans (by rw [hv.pf])) (cs:=[vz]) hz hok (fun g=>(g 1 _ rfl).choose_spec) fun w' H'=>hk w' ((H'.perm (List.Perm.swap _ _ _)).tail)
theorem aMDn {κ β:Type} {dk:DecidableEq κ} {T K E mb t2:Nat} {ek:κ->Value} {agg:Bool} {R:Rp β} {ok:κ->Prop} {zc:List Value} {b0:β} {m:κ->Option β} {kk:κ} {r1:List HP} (F:Fr N a sl) (H:St w0 w ls) (hx:ev sl x=some (.map (some mb))) (hy:ev sl y=some v) (hS:HasM ls (some mb) dk ek agg R ok m r1) (C:MapC P T K E ek agg R ok zc b0) (hv:KeyC ek v kk) (hok:ok kk) 
  (hk:∀ w',St w0 w' (HP.mm (some mb) ek agg R ok (bZ kk m)::r1)->wpList P ops Q rest a w'):wpList P ops Q (⟨none,.call { callee:=.builtin .delete,args:=#[x,y],argTypes:=#[T,t2] },ty,pos,ed,none⟩::rest) a w :=
 aOw wkP F rfl rfl C.hT C.hK rfl (Sel.st H hS.pf) 0 rfl hx (hy.trans (by rw [hv.pf])) hok hk
theorem aNil {α:Type} {R:Rp α} {xs:List α} {op:BinOp} (F:Fr N a sl) (H:St w0 w ls) (hx:ev sl x=some (.slice p n cap)) (hy:ev sl y=some (.slice none 0 0)) (hS:HasS ls p R cap xs)
  (h0:p=none->xs=[]->cap=0->wpList P ops Q (⟨some d,.binOp op t x y t',ty,pos,ed,none⟩::rest) a w) (h1:∀ ad,p=some ad->wpList P ops Q (⟨some d,.binOp op t x y t',ty,pos,ed,none⟩::rest) a w):wpList P ops Q (⟨some d,.binOp op t x y t',ty,pos,ed,none⟩::rest) a w:=by
 cases p with
 | none =>
  obtain ⟨e1,e2⟩:=(Sel.st H hS.pf).slNone 0 rfl
  exact h0 rfl e1 e2
 | some ad=>exact h1 ad rfl
theorem aP {α:Type} [Cap α] {R:Rp α} {xs ys zs:List α} {q:Option Addr} {c2 n2:Nat} {zv:Value} {r1:List HP} (F:Fr N a sl) (H:St w0 w ls) (hz:aL xs ys=some zs) (hs:ev sl x=some (.slice p n cap)) (hx:ev sl y=some (.slice q n2 c2)) (hd:Nat.blt d N.n=true) (C2:RpC P t R) (C:ElmC P t e size bytes zv)
  (hS:Has ls (HP.sl R q c2 ys) r1) (hS2:Has r1 (HP.ow R e p cap xs) l1) (hn:R.n=size) (h1:xs.length=n) (h2:ys.length=n2) (hb:Nat.ble (Cap.cap α*bytes) 140737488355328=true)
  (hk:∀ p' c' w' a',St w0 w' (HP.ow R e p' c' zs::l1)->Fr N a' ((d,.slice p' zs.length c')::sl)->wpList P ops Q rest a' w'):wpList P ops Q (⟨some d,.call { callee:=.builtin .append,args:=#[x,y],argTypes:=#[t,t] },ty,pos,ed,none⟩::rest) a w:=by
 subst hn h1 h2
 exact cE wkP F rfl rfl hd rfl hs hx C.pf hb hz (Sel.st H (Sel.trans hS.pf (Sel.cons hS2.pf))) 1 0 rfl rfl fun p' c' w' a' H' F'=>hk p' c' w' a' H'.tail F'
theorem aZ0 (F:Fr N a sl) (H:St w0 w ls) (C:ElmC P t e size bytes v) (hd:Nat.blt d N.n=true) (hk:∀ b w' a',St w0 w' (HP.blk b [] e::ls)->Fr N a' ((d,.slice (some ⟨b,0,none⟩) 0 0)::sl)->wpList P ops Q rest a' w'):wpList P ops Q (⟨some d,.buildSlice t 0 #[],ty,pos,ed,none⟩::rest) a w :=
 bD wkP F rfl rfl hd rfl (aD3 F C.pf rfl) fun a' F'=>hk _ _ a' (H.alloc [] e) F'
theorem aZ1 (F:Fr N a sl) (H:St w0 w ls) (C:ElmC P t e n bytes (.agg zz.toArray)) (C2:AggC P e n zz) (hd:Nat.blt d N.n=true) (hy:ev sl y=some (.agg cs.toArray)) (hn:cs.length=n) (h24:Nat.ble n 16777216=true) (hk:∀ b w' a',St w0 w' (HP.blk b cs e::ls)->Fr N a' ((d,.slice (some ⟨b,0,none⟩) 1 1)::sl)->wpList P ops Q rest a' w'):wpList P ops Q (⟨some d,.buildSlice t 1 #[(0,y)],ty,pos,ed,none⟩::rest) a w :=
 gQ wkP F rfl rfl hd C2.pf C.pf rfl hy hn (Nat.le_of_ble_eq_true h24) H hk
theorem aZ2 (F:Fr N a sl) (H:St w0 w ls) (C:ElmC P t e 1 bytes z0) (C2:ZerC P e z0) (hd:Nat.blt d N.n=true) (hy:ev sl y=some v) (hv:v.cells=#[v]) (hk:∀ b w' a',St w0 w' (HP.blk b [v] e::ls)->Fr N a' ((d,.slice (some ⟨b,0,none⟩) 1 1)::sl)->wpList P ops Q rest a' w'):wpList P ops Q (⟨some d,.buildSlice t 1 #[(0,y)],ty,pos,ed,none⟩::rest) a w :=
 dU (parts:=[(0,y)]) wkP F rfl rfl hd C.pf C2.pf rfl (vs:=[v]) (by simp [evs,hy]) rfl rfl (by simpa using hv) (by decide) H hk
theorem aFz {α:Type} {xs:List α} {i j:Int} {lo hi:Option Operand} {β:Type} {f:List α->Option β} {r:β} (H:St w0 w ls) (_:(aY xs i j).bind f=some r) (hS:HasFo ls xs l1)
  (hk:St w0 w l1->wpList P ops Q (⟨some d,.slice t x lo hi none,ty,pos,ed,none⟩::rest) a w):wpList P ops Q (⟨some d,.slice t x lo hi none,ty,pos,ed,none⟩::rest) a w:=hk (Sel.st H hS.pf)
theorem oneCell_cells {v:Value} (h:v.oneCell'=true):v.cells=#[v]:=by cases v<;>first | rfl | cases h
theorem aSW {old:List Value} {m:Nat} (F:Fr N a sl) (H:St w0 w ls) (hx:ev sl x=some (.pointer (some ⟨b,0,none⟩))) (hy:ev sl y=some (.agg cs.toArray)) (C:AggC P t n zz) (hS:HasB ls b old u l1) (hC:CelC ls cs m) (hn:m=n) (ho:old.length=n)
  (hk:∀ w',St w0 w' (HP.blk b cs u::l1)->wpList P ops Q rest a w'):wpList P ops Q (⟨none,.store t x y,ty,pos,ed,none⟩::rest) a w :=
 aJ wkP F rfl rfl C.pf rfl hx hy (Sel.st H hS.pf) 0 rfl ((hC.pf (F:=[]) H).1.trans hn) ho (hC.pf (F:=[]) H).2 hk
theorem aCv {s:ByteArray} {xs:List UInt8} (F:Fr N a sl) (H:St w0 w ls) (hx:ev sl x=some (.string s)) (S:StrC s xs) (C:UndC P t .string) (C':UndC P t' (.slice e)) (C2:UndC P e (.int .u8)) (hd:Nat.blt d N.n=true)
  (hk:∀ b c w' a',St w0 w' (HP.sl rByte (some ⟨b,0,none⟩) c xs::ls)->Fr N a' ((d,.slice (some ⟨b,0,none⟩) xs.length c)::sl)->wpList P ops Q rest a' w'):wpList P ops Q (⟨some d,.convert t t' x,ty,pos,ed,none⟩::rest) a w:=by
 rw [S.pf] at hx
 exact iI wkP F rfl rfl hd C.pf C'.pf C2.pf rfl hx H fun b c w' a' H' F'=>hk b c w' a' (H'.cvFrz 0 rfl) F'
theorem aCs {xs:List UInt8} (F:Fr N a sl) (H:St w0 w ls) (hx:ev sl x=some (.slice (some ⟨b,0,none⟩) n cap)) (C:UndC P t (.slice e)) (C2:UndC P e (.int .u8)) (hB:HasB ls b cs u l1) (hF:FoldB cs xs) (hn:xs.length=n) (hc:cap=n) (h2:Nat.ble n 1000000=true) (hd:Nat.blt d N.n=true)
  (hk:∀ w' a',St w0 w' (HP.sl rByte (some ⟨b,0,none⟩) cap xs::l1)->Fr N a' ((d,.slice (some ⟨b,0,none⟩) n cap)::sl)->wpList P ops Q rest a' w'):wpList P ops Q (⟨some d,.convert t t x,ty,pos,ed,none⟩::rest) a w:=by
 subst hc hn
 exact qN wkP F rfl rfl hd C.pf C2.pf rfl hx (Sel.st H (Sel.trans hB.pf (xW rfl h2))) 0 rfl hk
theorem aZb {parts:List (Nat×Operand)} {vs:List Value} (F:Fr N a sl) (H:St w0 w ls) (C:ElmC P t e 1 bytes z0) (C2:ZerC P e z0) (hd:Nat.blt d N.n=true) (hy:evs sl (parts.map (·.2))=some vs) (hp:parts.map (·.1)=List.range n) (hn:vs.length=n) (h1:vs.all Value.oneCell'=true) (h24:Nat.ble n 16777216=true)
  (hk:∀ b w' a',St w0 w' (HP.blk b vs e::ls)->Fr N a' ((d,.slice (some ⟨b,0,none⟩) n n)::sl)->wpList P ops Q rest a' w'):wpList P ops Q (⟨some d,.buildSlice t n parts.toArray,ty,pos,ed,none⟩::rest) a w :=
 dU wkP F rfl rfl hd C.pf C2.pf rfl hy hp hn (fun u hu=>oneCell_cells (List.all_eq_true.1 h1 u hu)) (Nat.le_of_ble_eq_true h24) H hk
theorem obuE {G:Prop} {β:Type} {i:Int} {f:UInt8->Option β} {r:β} (h:(u8O i).bind f=some r) (k:∀ c,U8C i c->f c=some r->G):G:=by
 obtain ⟨c,h1,h2⟩:=ob h
 exact k c ⟨h1⟩ h2
theorem aW1 {α:Type} {R:Rp α} {xs zs:List α} {lo hi:Operand} {k k':IntKind} {i j:Int} (F:Fr N a sl) (H:St w0 w ls) (hm:aY xs i j=some zs) (hx:ev sl x=some (.slice p xs.length cap)) (C:ElmC P t e size bytes v) (hl:ev sl lo=some (.int k i)) (hh:ev sl hi=some (.int k' j)) (hd:Nat.blt d N.n=true) (hS:HasS ls p R cap xs) (hn:R.n=size)
  (hk:∀ p' c' a',St w0 w (HP.sl R p' c' zs::ls)->Fr N a' ((d,.slice p' zs.length c')::sl)->wpList P ops Q rest a' w):wpList P ops Q (⟨some d,.slice t x (some lo) (some hi) none,ty,pos,ed,none⟩::rest) a w:=by
 have H1:=(Sel.st H hS.pf)
 exact bD wkP F rfl rfl hd rfl (yU F C.pf rfl hx hl hh hm (H1.slCap 0 rfl)) fun a' F'=>hk _ _ a' (((H1.slSubN size hn 0 rfl hm).perm (List.Perm.swap _ _ _)).tail) F'
theorem aW2 {α:Type} {R:Rp α} {xs zs:List α} {lo:Operand} {k:IntKind} {i:Int} (F:Fr N a sl) (H:St w0 w ls) (hm:aY xs i xs.length=some zs) (hx:ev sl x=some (.slice p xs.length cap)) (C:ElmC P t e size bytes v) (hl:ev sl lo=some (.int k i)) (hd:Nat.blt d N.n=true) (hS:HasS ls p R cap xs) (hn:R.n=size)
  (hk:∀ p' c' a',St w0 w (HP.sl R p' c' zs::ls)->Fr N a' ((d,.slice p' zs.length c')::sl)->wpList P ops Q rest a' w):wpList P ops Q (⟨some d,.slice t x (some lo) none none,ty,pos,ed,none⟩::rest) a w:=by
 have H1:=(Sel.st H hS.pf)
 exact bD wkP F rfl rfl hd rfl (iS F C.pf rfl hx hl hm (H1.slCap 0 rfl)) fun a' F'=>hk _ _ a' (((H1.slSubN size hn 0 rfl hm).perm (List.Perm.swap _ _ _)).tail) F'
theorem aW3 {α:Type} {R:Rp α} {xs zs:List α} {hi:Operand} {k:IntKind} {j:Int} (F:Fr N a sl) (H:St w0 w ls) (hm:aY xs 0 j=some zs) (hx:ev sl x=some (.slice p xs.length cap)) (C:ElmC P t e size bytes v) (hh:ev sl hi=some (.int k j)) (hd:Nat.blt d N.n=true) (hS:HasS ls p R cap xs) (hn:R.n=size)
  (hk:∀ p' c' a',St w0 w (HP.sl R p' c' zs::ls)->Fr N a' ((d,.slice p' zs.length c')::sl)->wpList P ops Q rest a' w):wpList P ops Q (⟨some d,.slice t x none (some hi) none,ty,pos,ed,none⟩::rest) a w:=by
 have H1:=(Sel.st H hS.pf)
 exact bD wkP F rfl rfl hd rfl (nI F C.pf rfl hx hh hm (H1.slCap 0 rfl)) fun a' F'=>hk _ _ a' (((H1.slSubN size hn 0 rfl hm).perm (List.Perm.swap _ _ _)).tail) F'
theorem aZu {i:Int} {c:UInt8} (F:Fr N a sl) (H:St w0 w ls) (ex:u8O i=some c) (C:ElmC P t e 1 bytes z0) (C2:ZerC P e z0) (hd:Nat.blt d N.n=true) (hy:ev sl y=some (.int .u8 i)) (hk:∀ b w' a',St w0 w' (HP.blk b [.int .u8 ((c.toNat:Nat):Int)] e::ls)->Fr N a' ((d,.slice (some ⟨b,0,none⟩) 1 1)::sl)->wpList P ops Q rest a' w'):wpList P ops Q (⟨some d,.buildSlice t 1 #[(0,y)],ty,pos,ed,none⟩::rest) a w:=by
 rw [<- cP ex] at hy
 exact aZ2 F H C C2 hd hy rfl hk
theorem aFj {G:Prop} {α:Type} {R:Rp α} {xs zs:List α} {i j:Int} (H:St w0 w ls) (hm:aY xs i j=some zs) (hS:HasX ls xs R p cap) (hn:RnC R n) (hk:St w0 w (HP.sl R (shp p cap i.toNat n) (cap-i.toNat) zs::ls)->G):G:=hk (((Sel.st H hS.pf).slSubN n hn.pf 0 rfl hm).perm (List.Perm.swap _ _ _)).tail
section
variable {α:Type} {R:Rp α} {xs zs:List α} {lo hi:Operand} {k k':IntKind} {i j:Int} (hx:ev sl x=some (.slice p xs.length cap)) (C:ElmC P t e size bytes v)
include hx C
theorem vsA (hl:ev sl lo=some (.int k i)) (hh:ev sl hi=some (.int k' j)) (hS:HasS ls p R cap xs) (hm:aY xs i j=some zs):QV P sl ls (.slice t x (some lo) (some hi) none) (.slice (shp p cap i.toNat size) zs.length (cap-i.toNat)):=⟨rfl,fun F H ho=>yU F C.pf ho hx hl hh hm ((Sel.st H hS.pf).slCap 0 rfl)⟩
theorem vsB (hl:ev sl lo=some (.int k i)) (hS:HasS ls p R cap xs) (hm:aY xs i xs.length=some zs):QV P sl ls (.slice t x (some lo) none none) (.slice (shp p cap i.toNat size) zs.length (cap-i.toNat)):=⟨rfl,fun F H ho=>iS F C.pf ho hx hl hm ((Sel.st H hS.pf).slCap 0 rfl)⟩
theorem vsC (hh:ev sl hi=some (.int k' j)) (hS:HasS ls p R cap xs) (hm:aY xs 0 j=some zs):QV P sl ls (.slice t x none (some hi) none) (.slice (shp p cap (0:Int).toNat size) zs.length (cap-(0:Int).toNat)):=⟨rfl,fun F H ho=>nI F C.pf ho hx hh hm ((Sel.st H hS.pf).slCap 0 rfl)⟩
end
theorem agT {s g:Nat} {bb:Bool} {op:Op} {og:Oper} {os:List Oper} (F:Fr N a sl) (hog:atL g os=some og) (hog2:og.dst=some s) (hv:lk s sl=some (.bool bb)) (h:wpList P os.toArray Q (⟨dst,op,ty,pos,ed,none⟩::rest) a w):wpList P os.toArray Q (⟨dst,op,ty,pos,ed,some (g,bb)⟩::rest) a w:=by
 rw [cU] at hog
 exact nE F rfl (by simpa using hog) hog2 hv h
theorem aC {c:Operand} {x y:Code} {q:Prop} {i1 i2:Decidable q} {α:Type} {A B r:α} (F:Fr N a sl) (hm:(@ite α q i2 A B)=r) (hc:ev sl c=some (.bool (@decide q i1))) (ht:q->A=r->x.wp P Q a w) (hf:¬ q->B=r->y.wp P Q a w):(Code.cond c x y).wp P Q a w:=cPm F hc hm ht hf
theorem aN {c:Operand} {x y:Code} {q:Prop} {i1 i2:Decidable q} {α:Type} {A B r:α} (F:Fr N a sl) (hm:(@ite α q i2 A B)=r) (hc:ev sl c=some (.bool (!@decide q i1))) (hf:¬ q->B=r->x.wp P Q a w) (ht:q->A=r->y.wp P Q a w):(Code.cond c x y).wp P Q a w:=cNm F hc hm hf ht
theorem aV {c:Operand} {x y:Code} {t:Bool} {i2:Decidable (t=true)} {α:Type} {A B r:α} (F:Fr N a sl) (hm:(@ite α (t=true) i2 A B)=r) (hc:ev sl c=some (.bool t)) (ht:t=true->A=r->x.wp P Q a w) (hf:t=false->B=r->y.wp P Q a w):(Code.cond c x y).wp P Q a w :=
 wJ F hc (fun h=>ht h (ifT h hm)) (fun h=>hf h (ifF (nT h) hm))
theorem oa {α β γ:Type} {o:Option α} {g:α->Option β} {f:β->Option γ} {r:γ} (h:(o.bind g).bind f=some r):o.bind (fun x=>(g x).bind f)=some r:=by cases o<;>first | exact h | cases h
theorem os {α β:Type} {x:α} {f:α->Option β} {r:β} (h:(some x).bind f=some r):f x=some r:=h
theorem oi {α β:Type} {q:Prop} {i:Decidable q} {A B:Option α} {f:α->Option β} {r:β} (h:(@ite _ q i A B).bind f=some r):(@ite _ q i (A.bind f) (B.bind f))=some r:=by
 by_cases hq:q
 ·rw [if_pos hq] at h ⊢;exact h
 ·rw [if_neg hq] at h ⊢;exact h
theorem ol {α β γ:Type} {f:α->γ} {g:β->γ} {x:α} {r:γ} (h:Sum.elim f g (.inl x)=r):f x=r:=h
theorem obE {G:Prop} {α β:Type} {o:Option α} {f:α->Option β} {r:β} (h:o.bind f=some r) (k:∀ x,o=some x->f x=some r->G):G:=by
 obtain ⟨x,h1,h2⟩:=ob h
 exact k x h1 h2
theorem fC {G:Prop} {α β:Type} {xs:List α} {q:Int} {f:α->Option β} {r:β} (h:(aD xs q).bind f=some r) (k:∀ x,aD xs q=some x->f x=some r->G):G:=obE h k
theorem obiS {G:Prop} {α β:Type} {xs:List α} {q:Int} {y:α} {f:α->Option β} {r:β} (h:(aD xs q).bind f=some r) (h':aD xs q=some y) (k:f y=some r->G):G:=k (by rw [h'] at h;exact h)
theorem lB {G:Prop} {α:Type} {o:Option α} {r:α} (h:o=some r) (k:∀ x,o=some x->some x=some r->G):G:=k r h rfl
theorem splE {G:Prop} {q:Prop} {i:Decidable q} {α:Type} {A B r:α} (h:@ite α q i A B=r) (h1:q->A=r->G) (h2:¬ q->B=r->G):G:=by
 by_cases hq:q
 ·exact h1 hq (ifT hq h)
 ·exact h2 hq (ifF hq h)
theorem iteT {G q:Prop} {i:Decidable q} {α:Type} {A B r:α} (h:@ite α q i A B=r) (hq:q) (k:A=r->G):G:=k (ifT hq h)
theorem iteF {G q:Prop} {i:Decidable q} {α:Type} {A B r:α} (h:@ite α q i A B=r) (hq:¬ q) (k:B=r->G):G:=k (ifF hq h)
theorem oaE {G:Prop} {α β γ:Type} {o:Option α} {g:α->Option β} {f:β->Option γ} {r:γ} (h:(o.bind g).bind f=some r) (k:o.bind (fun x=>(g x).bind f)=some r->G):G:=k (oa h)
theorem osE {G:Prop} {α β:Type} {x:α} {f:α->Option β} {r:β} (h:(some x).bind f=some r) (k:f x=some r->G):G:=k h
theorem oiE {G:Prop} {α β:Type} {q:Prop} {i:Decidable q} {A B:Option α} {f:α->Option β} {r:β} (h:(@ite _ q i A B).bind f=some r) (k:(@ite _ q i (A.bind f) (B.bind f))=some r->G):G:=k (oi h)
theorem olE {G:Prop} {α β γ:Type} {f:α->γ} {g:β->γ} {s:α ⊕ β} {x:α} {r:γ} (h:Sum.elim f g s=r) (e:s=.inl x) (k:f x=r->G):G:=by subst e;exact k h
theorem orE {G:Prop} {α β γ:Type} {f:α->γ} {g:β->γ} {s:α ⊕ β} {x:β} {r:γ} (h:Sum.elim f g s=r) (e:s=.inr x) (k:g x=r->G):G:=by subst e;exact k h
theorem oelE {G:Prop} {α β γ δ:Type} {f:α->Option γ} {g:β->Option γ} {s:α ⊕ β} {x:α} {k:γ->Option δ} {r:δ} (h:(Sum.elim f g s).bind k=some r) (e:s=.inl x) (kk:(f x).bind k=some r->G):G:=by subst e;exact kk h
theorem oerE {G:Prop} {α β γ δ:Type} {f:α->Option γ} {g:β->Option γ} {s:α ⊕ β} {x:β} {k:γ->Option δ} {r:δ} (h:(Sum.elim f g s).bind k=some r) (e:s=.inr x) (kk:(g x).bind k=some r->G):G:=by subst e;exact kk h
theorem obsE {G:Prop} {α β:Type} {xs:List α} {i j:Int} {f:List α->Option β} {r:β} (h:(aY xs i j).bind f=some r) (k:∀ x,aY xs i j=some x->f x=some r->G):G:=obE h k
theorem ob1 {α:Type} {o:Option α} {r:α} (h:o=some r):∃ x,o=some x/\some x=some r:=⟨r,h,rfl⟩
def fid:Code->Nat
 | .region i _ _=>i
 | .seq x _=>fid x
 | .cond _ x _=>fid x
 | .block _ x=>fid x
 | .loop x=>fid x
 | .scope x=>fid x
 | _=>0
def PtL:List (Nat×Nat)->List (Nat×Value)->Prop
 | [],_=>True
 | (k,b)::r,sl=>lk k sl=some (.pointer (some ⟨b,0,none⟩))/\PtL r sl
theorem PtL.ni:PtL [] sl:=trivial
theorem PtL.co {r:List (Nat×Nat)} (h:lk k sl=some (.pointer (some ⟨b,0,none⟩))) (t:PtL r sl):PtL ((k,b)::r) sl:=⟨h,t⟩
structure LH0 {σ:Type} (_:Nat) (_:List Nat) (_:List (Nat×Nat)) (_:σ->List (Nat×Value)->List (Nat×Value)) (_:σ->List HP->List HP):Prop where
 ok:True
structure LH2 {σ T0 T1:Type} (_:Nat) (_:List Nat) (_:List (Nat×Nat)) (_:σ->T0->T1->List (Nat×Value)->List (Nat×Value)) (_:σ->T0->T1->List HP->List HP):Prop where
 ok:True
structure LH1 {σ T0:Type} (_:Nat) (_:List Nat) (_:List (Nat×Nat)) (_:σ->T0->List (Nat×Value)->List (Nat×Value)) (_:σ->T0->List HP->List HP):Prop where
 ok:True
structure LH4 {σ T0 T1 T2 T3:Type} (_:Nat) (_:List Nat) (_:List (Nat×Nat)) (_:σ->T0->T1->T2->T3->List (Nat×Value)->List (Nat×Value)) (_:σ->T0->T1->T2->T3->List HP->List HP):Prop where
 ok:True
theorem xa0 {c:Code} {σ ρ:Type} {f:σ->Option (σ ⊕ ρ)} {g0:σ} {r:ρ} {is:List Nat} {ps:List (Nat×Nat)} {S:σ->List (Nat×Value)->List (Nat×Value)} {L:σ->List HP->List HP} (F:Fr N a sl) (H:St w0 w ls) (hm:aH f g0=some r) (h:LH0 (fid c) is ps S L) (h1:pkS is sl=some s1) (hps:PtL ps sl)
  (h0:Fr N a (S g0 s1)) (hS:Sel ls (L g0 l1))
  (hk:∀ s a w o,Fr N a (S s s1)->St w0 w (L s l1)->f s=some o->c.wp P (Exit.then (fun a' w'=>∃ s',o=.inl s'/\Fr N a' (S s' s1)/\St w0 w' (L s' l1)) (fun e a' w'=>∃ r',o=.inr r'/\(r'=r->Q e a' w'))) a w):(Code.loop c).wp P Q a w:=by
 refine jC f (fun s a w=>Fr N a (S s s1)/\St w0 w (L s l1)) hm ⟨h0,Sel.st H hS⟩ ?_
 rintro s a w o ⟨F,H⟩ h
 exact hk s a w o F H h
theorem xa1 {c:Code} {σ ρ T0:Type} {f:σ->Option (σ ⊕ ρ)} {g0:σ} {r:ρ} {is:List Nat} {ps:List (Nat×Nat)} {S:σ->T0->List (Nat×Value)->List (Nat×Value)} {L:σ->T0->List HP->List HP} {x0:T0} (F:Fr N a sl) (H:St w0 w ls) (hm:aH f g0=some r) (h:LH1 (fid c) is ps S L) (h1:pkS is sl=some s1) (hps:PtL ps sl)
  (h0:Fr N a (S g0 x0 s1)) (hS:Sel ls (L g0 x0 l1))
  (hk:∀ s a w o x0,Fr N a (S s x0 s1)->St w0 w (L s x0 l1)->f s=some o->c.wp P (Exit.then (fun a' w'=>∃ s',o=.inl s'/\∃ x0,Fr N a' (S s' x0 s1)/\St w0 w' (L s' x0 l1)) (fun e a' w'=>∃ r',o=.inr r'/\(r'=r->Q e a' w'))) a w):(Code.loop c).wp P Q a w:=by
 refine jC f (fun s a w=>∃ x0,Fr N a (S s x0 s1)/\St w0 w (L s x0 l1)) hm ⟨x0,h0,Sel.st H hS⟩ ?_
 rintro s a w o ⟨x0,F,H⟩ h
 exact hk s a w o x0 F H h
theorem xa2 {c:Code} {σ ρ T0 T1:Type} {f:σ->Option (σ ⊕ ρ)} {g0:σ} {r:ρ} {is:List Nat} {ps:List (Nat×Nat)} {S:σ->T0->T1->List (Nat×Value)->List (Nat×Value)} {L:σ->T0->T1->List HP->List HP} {x0:T0} {x1:T1} (F:Fr N a sl) (H:St w0 w ls) (hm:aH f g0=some r) (h:LH2 (fid c) is ps S L) (h1:pkS is sl=some s1) (hps:PtL ps sl)
  (h0:Fr N a (S g0 x0 x1 s1)) (hS:Sel ls (L g0 x0 x1 l1))
  (hk:∀ s a w o x0 x1,Fr N a (S s x0 x1 s1)->St w0 w (L s x0 x1 l1)->f s=some o->c.wp P (Exit.then (fun a' w'=>∃ s',o=.inl s'/\∃ x0 x1,Fr N a' (S s' x0 x1 s1)/\St w0 w' (L s' x0 x1 l1)) (fun e a' w'=>∃ r',o=.inr r'/\(r'=r->Q e a' w'))) a w):(Code.loop c).wp P Q a w:=by
 refine jC f (fun s a w=>∃ x0 x1,Fr N a (S s x0 x1 s1)/\St w0 w (L s x0 x1 l1)) hm ⟨x0,x1,h0,Sel.st H hS⟩ ?_
 rintro s a w o ⟨x0,x1,F,H⟩ h
 exact hk s a w o x0 x1 F H h
theorem xa4 {c:Code} {σ ρ T0 T1 T2 T3:Type} {f:σ->Option (σ ⊕ ρ)} {g0:σ} {r:ρ} {is:List Nat} {ps:List (Nat×Nat)} {S:σ->T0->T1->T2->T3->List (Nat×Value)->List (Nat×Value)} {L:σ->T0->T1->T2->T3->List HP->List HP} {x0:T0} {x1:T1} {x2:T2} {x3:T3} (F:Fr N a sl) (H:St w0 w ls) (hm:aH f g0=some r) (h:LH4 (fid c) is ps S L) (h1:pkS is sl=some s1) (hps:PtL ps sl)
  (h0:Fr N a (S g0 x0 x1 x2 x3 s1)) (hS:Sel ls (L g0 x0 x1 x2 x3 l1))
  (hk:∀ s a w o x0 x1 x2 x3,Fr N a (S s x0 x1 x2 x3 s1)->St w0 w (L s x0 x1 x2 x3 l1)->f s=some o->c.wp P (Exit.then (fun a' w'=>∃ s',o=.inl s'/\∃ x0 x1 x2 x3,Fr N a' (S s' x0 x1 x2 x3 s1)/\St w0 w' (L s' x0 x1 x2 x3 l1)) (fun e a' w'=>∃ r',o=.inr r'/\(r'=r->Q e a' w'))) a w):(Code.loop c).wp P Q a w:=by
 refine jC f (fun s a w=>∃ x0 x1 x2 x3,Fr N a (S s x0 x1 x2 x3 s1)/\St w0 w (L s x0 x1 x2 x3 l1)) hm ⟨x0,x1,x2,x3,h0,Sel.st H hS⟩ ?_
 rintro s a w o ⟨x0,x1,x2,x3,F,H⟩ h
 exact hk s a w o x0 x1 x2 x3 F H h
structure MH (_:Nat) (_ _:List Nat) (_:Sc) (_:List Nat):Prop where
 ok:True
theorem Sel.none:∀ {l:List HP},Sel l []
 | []=>Sel.nil
 | _::_=>Sel.drop1 Sel.none
class PerC (l:List HP) (L:outParam (List HP->List HP)):Prop where
 pf:Sel l (L [])
instance (priority:=10):PerC ls (fun r=>r):=⟨Sel.none⟩
instance (priority:=50) {A:HP} {L:List HP->List HP} [C:PerC ls L]:PerC (A::ls) L:=⟨Sel.drop1 C.pf⟩
instance {α:Type} {R:Rp α} {xs:List α} {L:List HP->List HP} [C:PerC ls L]:PerC (HP.sl R p cap xs::ls) (fun r=>HP.sl R p cap xs::L r):=⟨Sel.cons C.pf⟩
instance {α:Type} {R:Rp α} {x:α} {L:List HP->List HP} [C:PerC ls L]:PerC (HP.rc R cs x::ls) (fun r=>HP.rc R cs x::L r):=⟨Sel.cons C.pf⟩
instance {o:Nat} {L:List HP->List HP} [C:PerC ls L]:PerC (HP.row b o cs::ls) (fun r=>HP.row b o cs::L r):=⟨Sel.cons C.pf⟩
instance {α:Type} {R:Rp α} {p:Option Addr} {e cap:Nat} {css:List (List Value)} {xs:List α} {L:List HP->List HP} [C:PerC ls L]:PerC (HP.ox R e p cap css xs::ls) (fun r=>HP.ox R e p cap css xs::L r):=⟨Sel.cons C.pf⟩
theorem amx {id:Nat} {l:List Oper} {Q:Exit->Act->World->Prop} {hs hz ks:List Nat} {ns:Sc} {L:List HP->List HP} (H:St w0 w ls) (_h:MH id hs hz ns ks) (h0:Sel ls (L [])) (hm:P.follows .mixedOrders=true)
  (hB:(Region.noSelect l.toArray&&dL .any l.toArray (fun i=>hs.contains i) (fun i=>hz.contains i) ns (Array.replicate l.toArray.size false)&&(ns.len==l.toArray.size))=true)
  (h:∀ w,St w0 w ls->aW P l.toArray (fun u=>∃ r,St w0 u (L r)) (Q .normal) ns a w):(Code.region id l.toArray true).wp P Q a w :=
 iK hs hz ns _ hm hB ⟨[],Sel.st H.drew h0⟩ (h _ H.drew)
theorem amx0 {id:Nat} {l:List Oper} {Q:Exit->Act->World->Prop} {hs hz:List Nat} {ns:Sc} {L:List HP->List HP} (H:St w0 w ls) (_h:MH id hs hz ns []) (hL:PerC ls L) (hm:P.follows .mixedOrders=true)
  (hB:(Region.noSelect l.toArray&&dL .any l.toArray (fun i=>hs.contains i) (fun i=>hz.contains i) ns (Array.replicate l.toArray.size false)&&(ns.len==l.toArray.size))=true)
  (h:∀ w,St w0 w ls->aW P l.toArray (fun u=>∃ r,St w0 u (L r)) (Q .normal) ns a w):(Code.region id l.toArray true).wp P Q a w:=amx H _h hL.pf hm hB h
theorem amx1 {id:Nat} {l:List Oper} {Q:Exit->Act->World->Prop} {hs hz:List Nat} {ns:Sc} {L:List HP->List HP} {k1 b1 o1 t1:Nat} {c1:List Value} (F:Fr N a sl) (H:St w0 w ls) (_h:MH id hs hz ns [k1]) (e1:lk k1 sl=some (.pointer (some ⟨b1,o1,none⟩))) (hS:HasB ls b1 c1 t1 l1) (hL:PerC l1 L) (hm:P.follows .mixedOrders=true)
  (hB:(Region.noSelect l.toArray&&dL .any l.toArray (fun i=>hs.contains i) (fun i=>hz.contains i) ns (Array.replicate l.toArray.size false)&&(ns.len==l.toArray.size))=true)
  (h:∀ w,St w0 w ls->aW P l.toArray (fun u=>∃ r,St w0 u (HP.blk b1 c1 t1::L r)) (Q .normal) ns a w):(Code.region id l.toArray true).wp P Q a w:=amx (L:=fun r=>HP.blk b1 c1 t1::L r) H _h (Sel.trans hS.pf (Sel.cons hL.pf)) hm hB h
theorem amx2 {id:Nat} {l:List Oper} {Q:Exit->Act->World->Prop} {hs hz:List Nat} {ns:Sc} {L:List HP->List HP} {k1 b1 o1 t1 k2 b2 o2 t2:Nat} {c1 c2:List Value} {r1:List HP} (F:Fr N a sl) (H:St w0 w ls) (_h:MH id hs hz ns [k1,k2]) (e1:lk k1 sl=some (.pointer (some ⟨b1,o1,none⟩))) (e2:lk k2 sl=some (.pointer (some ⟨b2,o2,none⟩))) (hS:HasB ls b1 c1 t1 r1) (hS2:HasB r1 b2 c2 t2 l1) (hL:PerC l1 L) (hm:P.follows .mixedOrders=true)
  (hB:(Region.noSelect l.toArray&&dL .any l.toArray (fun i=>hs.contains i) (fun i=>hz.contains i) ns (Array.replicate l.toArray.size false)&&(ns.len==l.toArray.size))=true)
  (h:∀ w,St w0 w ls->aW P l.toArray (fun u=>∃ r,St w0 u (HP.blk b1 c1 t1::HP.blk b2 c2 t2::L r)) (Q .normal) ns a w):(Code.region id l.toArray true).wp P Q a w:=amx (L:=fun r=>HP.blk b1 c1 t1::HP.blk b2 c2 t2::L r) H _h (Sel.trans hS.pf (Sel.cons (Sel.trans hS2.pf (Sel.cons hL.pf)))) hm hB h
def scP:List (Nat×Nat)->Sc
 | []=>.done
 | (k,i)::r=>.step k i (scP r)
theorem aSc {K:Act->World->Prop} {k i:Nat} {ns:List (Nat×Nat)} {C:World->Prop} (h:aW P ops C K (.step k i (scP ns)) a w):aW P ops C K (scP ((k,i)::ns)) a w:=h
theorem aSc0 {K:Act->World->Prop} {C:World->Prop} (k:K a w):aW P ops C K (scP []) a w:=k
theorem aRs {id:Nat} {l:List Oper} {Q:Exit->Act->World->Prop} (hg:(l.any fun o=>o.guard.isSome)=true) (h:(Code.region id l.toArray true).wp P Q a w):(Code.region id l.toArray true).wp P Q a w:=h
theorem gsT {G:Prop} {s:Nat} {q:Prop} {i1:Decidable q} (F:Fr N a sl) (hv:lk s sl=some (.bool (@decide q i1))) (hq:q) (h:Fr N a ((s,.bool true)::sl)->G):GS s G:=h (F.bT s hq hv)
theorem gsF {G:Prop} {s:Nat} {q:Prop} {i1:Decidable q} (F:Fr N a sl) (hv:lk s sl=some (.bool (@decide q i1))) (hq:¬ q) (h:Fr N a ((s,.bool false)::sl)->G):GS s G:=h (F.bF s hq hv)
theorem gnT {G:Prop} {s:Nat} {q:Prop} {i1:Decidable q} (F:Fr N a sl) (hv:lk s sl=some (.bool (!@decide q i1))) (hq:q) (h:Fr N a ((s,.bool false)::sl)->G):GS s G:=h (F.nT s hq hv)
theorem gnF {G:Prop} {s:Nat} {q:Prop} {i1:Decidable q} (F:Fr N a sl) (hv:lk s sl=some (.bool (!@decide q i1))) (hq:¬ q) (h:Fr N a ((s,.bool true)::sl)->G):GS s G:=h (F.nF s hq hv)
theorem gvT {G:Prop} {s:Nat} {c:Bool} (F:Fr N a sl) (hv:lk s sl=some (.bool c)) (hq:c=true) (h:Fr N a ((s,.bool true)::sl)->G):GS s G:=h (F.vT s hq hv)
theorem gvF {G:Prop} {s:Nat} {c:Bool} (F:Fr N a sl) (hv:lk s sl=some (.bool c)) (hq:¬ c=true) (h:Fr N a ((s,.bool false)::sl)->G):GS s G:=h (F.vF s hq hv)
theorem agG {g s:Nat} {bb:Bool} {op:Op} {og:Oper} {os:List Oper} (hog:atL g os=some og) (hog2:og.dst=some s) (h:GS s (wpList P os.toArray Q (⟨dst,op,ty,pos,ed,some (g,bb)⟩::rest) a w)):wpList P os.toArray Q (⟨dst,op,ty,pos,ed,some (g,bb)⟩::rest) a w:=h
theorem aCT {c:Operand} {x y:Code} {q:Prop} {i1:Decidable q} (F:Fr N a sl) (hc:ev sl c=some (.bool (@decide q i1))) (hq:q) (h:x.wp P Q a w):(Code.cond c x y).wp P Q a w:=kI F (hc.trans (by rw [decide_eq_true hq])) h
theorem aCF {c:Operand} {x y:Code} {q:Prop} {i1:Decidable q} (F:Fr N a sl) (hc:ev sl c=some (.bool (@decide q i1))) (hq:¬ q) (h:y.wp P Q a w):(Code.cond c x y).wp P Q a w:=iZ F (hc.trans (by rw [decide_eq_false hq])) h
theorem aNT {c:Operand} {x y:Code} {q:Prop} {i1:Decidable q} (F:Fr N a sl) (hc:ev sl c=some (.bool (!@decide q i1))) (hq:q) (h:y.wp P Q a w):(Code.cond c x y).wp P Q a w:=iZ F (hc.trans (by rw [decide_eq_true hq];rfl)) h
theorem aNF {c:Operand} {x y:Code} {q:Prop} {i1:Decidable q} (F:Fr N a sl) (hc:ev sl c=some (.bool (!@decide q i1))) (hq:¬ q) (h:x.wp P Q a w):(Code.cond c x y).wp P Q a w:=kI F (hc.trans (by rw [decide_eq_false hq];rfl)) h
theorem aVT {c:Operand} {x y:Code} {t:Bool} (F:Fr N a sl) (hc:ev sl c=some (.bool t)) (hq:t=true) (h:x.wp P Q a w):(Code.cond c x y).wp P Q a w:=kI F (hc.trans (by rw [hq])) h
theorem aVF {c:Operand} {x y:Code} {t:Bool} (F:Fr N a sl) (hc:ev sl c=some (.bool t)) (hq:¬ t=true) (h:y.wp P Q a w):(Code.cond c x y).wp P Q a w:=iZ F (hc.trans (by rw [eq_false_of_ne_true hq])) h
theorem aVG {c:Operand} {x y:Code} {t:Bool} (F:Fr N a sl) (hc:ev sl c=some (.bool t)) (hq:t=false) (h:y.wp P Q a w):(Code.cond c x y).wp P Q a w:=iZ F (hc.trans (by rw [hq])) h
theorem aq0g {op:Op} {K:Act->World->Prop} {s:Sc} {i g t0:Nat} {bb:Bool} {og:Oper} {os:List Oper} {L:List HP->List HP} (F:Fr N a sl) (hi:atL i os=some ⟨some d,op,ty,pos,ed,some (g,bb)⟩) (hog:atL g os=some og) (hog2:og.dst=some t0) (hv:lk t0 sl=some (.bool bb)) (hq:∀ r,QV P sl (L r) op v) (hd:Nat.blt d N.n=true) (hk:∀ a',Fr N a' ((d,v)::sl)->aW P os.toArray (fun u=>∃ r,St w0 u (L r)) K s a' w):aW P os.toArray (fun u=>∃ r,St w0 u (L r)) K (.step 0 i s) a w:=by
 rw [cU] at hi hog
 exact m_on (k:=0) F (by simpa using hi) rfl (by simpa using hog) hog2 hv rfl hd (fun u hu=>(hq hu.choose).2 F hu.choose_spec rfl) hk
theorem aq1g {op:Op} {K:Act->World->Prop} {s:Sc} {i g t0:Nat} {bb:Bool} {og:Oper} {os:List Oper} {C:World->Prop} (F:Fr N a sl) (H:St w0 w ls) (hi:atL i os=some ⟨some d,op,ty,pos,ed,some (g,bb)⟩) (hog:atL g os=some og) (hog2:og.dst=some t0) (hv:lk t0 sl=some (.bool bb)) (hq:QV P sl ls op v) (hd:Nat.blt d N.n=true) (hk:∀ a',Fr N a' ((d,v)::sl)->aW P os.toArray C K s a' w):aW P os.toArray C K (.step 1 i s) a w:=by
 rw [cU] at hi hog
 exact m_on1 (k:=0) F (by simpa using hi) rfl (by simpa using hog) hog2 hv rfl hd (hq.2 F H rfl) hk
theorem aq2g {K:Act->World->Prop} {s:Sc} {i g t0:Nat} {bb:Bool} {og:Oper} {os:List Oper} {C:World->Prop} {op:Op} (F:Fr N a sl) (hi:atL i os=some ⟨dst,op,ty,pos,ed,some (g,bb)⟩) (hog:atL g os=some og) (hog2:og.dst=some t0) (hv:lk t0 sl=some (.bool bb)) (h:wpList P os.toArray (Exit.then (fun a' w'=>C w'/\aW P os.toArray C K s a' w') (fun _ _ _=>False)) [⟨dst,op,ty,pos,ed,some (g,bb)⟩] a w):aW P os.toArray C K (.step 2 i s) a w:=by
 rw [cU] at hi hog
 exact aN6 F (by simpa using hi) rfl (by simpa using hog) hog2 hv h
theorem aq3g {K:Act->World->Prop} {s:Sc} {i g t0:Nat} {bb:Bool} {og:Oper} {os:List Oper} {C:World->Prop} {op:Op} (F:Fr N a sl) (hi:atL i os=some ⟨dst,op,ty,pos,ed,some (g,bb)⟩) (hog:atL g os=some og) (hog2:og.dst=some t0) (hv:lk t0 sl=some (.bool bb)) (h:wpList P os.toArray (Exit.then (fun a' w'=>aW P os.toArray C K s a' w') (fun _ _ _=>False)) [⟨dst,op,ty,pos,ed,some (g,bb)⟩] a w):aW P os.toArray C K (.step 3 i s) a w:=by
 rw [cU] at hi hog
 exact aJp F (by simpa using hi) rfl (by simpa using hog) hog2 hv h
theorem aRM {κ β:Type} {dk:DecidableEq κ} {T K E:TypeId} {ek:κ->Value} {agg:Bool} {R:Rp β} {ok:κ->Prop} {m:κ->Option β} {mp:Option Nat} {r1:List HP} (F:Fr N a sl) (H:St w0 w ls) (hx:ev sl x=some (.map mp)) (hS:HasM ls mp dk ek agg R ok m r1) (C:UndC P T (.map K E)) (hd:Nat.blt d N.n=true)
  (hk:∀ raw c es r w' a',St w0 w' (HP.rg r mp ek agg R ok m es raw c []::r1)->Fr N a' ((d,.pointer (some ⟨r,0,none⟩))::sl)->wpList P ops Q rest a' w'):wpList P ops Q (⟨some d,.range T x,ty,pos,ed,none⟩::rest) a w:=by
 obtain ⟨raw,c,es,hM,hE,H2⟩:=(Sel.st H hS.pf).moOpen 0 rfl
 exact wR wkP F rfl rfl hd C.pf rfl H2 1 rfl hx fun r w' a' H' F'=>hk raw c es r w' a' (sS hM H') F'
section
variable {κ β σ ρ τ:Type} {dk:DecidableEq κ} {ek:κ->Value} {agg:Bool} {R:Rp β} {ok:κ->Prop} {m:κ->Option β} {mp:Option Nat} {r1:List HP} {es:List (κ×(List Value×β))} {raw:Array MapEntry} {c r q:Nat} {vis:List Nat} {f:σ->κ×β->Option (σ ⊕ ρ)} {s0 s:σ} {K:σ ⊕ ρ->Option τ} {R0:τ}
theorem vent {k:κ} {v:β} (hx:ev sl x=some (.pointer (some ⟨r,0,none⟩))) (hG:HasG ls r dk mp ek agg R ok m es raw c (vis++[q]) r1) (hq:es[q]?=some (k,cs,v)):QV P sl ls (.entry x) (.tuple [ek k,mkV agg cs].toArray):=⟨rfl,fun F H ho=>by
 obtain ⟨h,_,H2⟩:=rgOp (Sel.st H hG.pf)
 exact uU F ho hx h hq H2 2 0 rfl rfl rfl⟩
theorem aNxM (F:Fr N a sl) (H:St w0 w ls) (hr:Rng es f s0 vis s) (hm:dX m (fun l=>(bW f s0 l).bind K)=some R0) (hx:ev sl x=some (.pointer (some ⟨r,0,none⟩))) (hG:HasG ls r dk mp ek agg R ok m es raw c vis r1) (hd:Nat.blt d N.n=true)
  (h0:K (.inl s)=some R0->∀ w' a',St w0 w' (HP.rg r mp ek agg R ok m es raw c vis::r1)->Fr N a' ((d,.tuple [.bool false].toArray)::sl)->wpList P ops Q rest a' w')
  (h1:∀ q k cs v o,es[q]?=some (k,cs,v)->f s (k,v)=some o->(∀ s',o=.inl s'->Rng es f s0 (vis++[q]) s')->(∀ r',o=.inr r'->K (.inr r')=some R0)->ok k->∀ w' a',St w0 w' (HP.rc R cs v::HP.rg r mp ek agg R ok m es raw c (vis++[q])::r1)->Fr N a' ((d,.tuple [.bool true,ek k,mkV agg cs].toArray)::sl)->wpList P ops Q rest a' w'):wpList P ops Q (⟨some d,.next x false,ty,pos,ed,none⟩::rest) a w:=by
 obtain ⟨hM,hE,H2⟩:=rgOp (Sel.st H hG.pf)
 refine xL wkP F rfl rfl hd rfl hx hM hr.ok H2 2 0 rfl rfl rfl (fun hall w' a' H' F'=>h0 (hr.done hE hall hm) w' a' (sS hM H') F') (fun q k cs v hq hn w' a' H' F'=>?_)
 obtain ⟨o,ho,hs,hx2⟩:=hr.step hE hq hn hm
 obtain ⟨hok,H3⟩:=St.esEl H' 1 rfl hq
 exact h1 q k cs v o hq ho hs hx2 hok w' a' ((sS hM (H3.perm (List.perm_middle (l₁:=[_,_,_])).symm)).perm (List.Perm.swap _ _ _)) F'
structure qS {σ:Type} (_:Nat) (_:List Nat) (_:Nat) (_:List (Nat×Nat)) (_:σ->List (Nat×Value)->List (Nat×Value)) (_:σ->List HP->List HP):Prop where
 ok:True
structure LHM2 {σ T0 T1:Type} (_:Nat) (_:List Nat) (_:Nat) (_:List (Nat×Nat)) (_:σ->T0->T1->List (Nat×Value)->List (Nat×Value)) (_:σ->T0->T1->List HP->List HP):Prop where
 ok:True
theorem xaM0 {cd:Code} {i:Nat} {is:List Nat} {ps:List (Nat×Nat)} {S:σ->List (Nat×Value)->List (Nat×Value)} {L:σ->List HP->List HP} (F:Fr N a sl) (H:St w0 w ls) (hm:dX m (fun l=>(bW f s0 l).bind K)=some R0) (h:qS (fid cd) is i ps S L) (hi:lk i sl=some (.pointer (some ⟨r,0,none⟩))) (hG:HasG ls r dk mp ek agg R ok m es raw c [] r1) (h1:pkS is sl=some s1) (hps:PtL ps sl)
  (h0:Fr N a (S s0 s1)) (hS:Sel r1 (L s0 l1))
  (hk:∀ s vis a w,Rng es f s0 vis s->Fr N a (S s s1)->St w0 w (HP.rg r mp ek agg R ok m es raw c vis::L s l1)->cd.wp P (Exit.then (fun a' w'=>∃ s' q,Rng es f s0 (vis++[q]) s'/\Fr N a' (S s' s1)/\St w0 w' (HP.rg r mp ek agg R ok m es raw c (vis++[q])::L s' l1)) Q) a w):(Code.loop cd).wp P Q a w :=
 tP es hm (fun s vis a w=>Fr N a (S s s1)/\St w0 w (HP.rg r mp ek agg R ok m es raw c vis::L s l1)) ⟨h0,Sel.st H (Sel.trans hG.pf (Sel.cons hS))⟩ fun s vis a w hr h=>hk s vis a w hr h.1 h.2
theorem xaM2 {T0 T1:Type} {x0:T0} {x1:T1} {cd:Code} {i:Nat} {is:List Nat} {ps:List (Nat×Nat)} {S:σ->T0->T1->List (Nat×Value)->List (Nat×Value)} {L:σ->T0->T1->List HP->List HP} (F:Fr N a sl) (H:St w0 w ls) (hm:dX m (fun l=>(bW f s0 l).bind K)=some R0) (h:LHM2 (fid cd) is i ps S L) (hi:lk i sl=some (.pointer (some ⟨r,0,none⟩))) (hG:HasG ls r dk mp ek agg R ok m es raw c [] r1) (h1:pkS is sl=some s1) (hps:PtL ps sl)
  (h0:Fr N a (S s0 x0 x1 s1)) (hS:Sel r1 (L s0 x0 x1 l1))
  (hk:∀ s vis a w x0 x1,Rng es f s0 vis s->Fr N a (S s x0 x1 s1)->St w0 w (HP.rg r mp ek agg R ok m es raw c vis::L s x0 x1 l1)->cd.wp P (Exit.then (fun a' w'=>∃ s' q,Rng es f s0 (vis++[q]) s'/\∃ x0 x1,Fr N a' (S s' x0 x1 s1)/\St w0 w' (HP.rg r mp ek agg R ok m es raw c (vis++[q])::L s' x0 x1 l1)) Q) a w):(Code.loop cd).wp P Q a w :=
 tP es hm (fun s vis a w=>∃ x0 x1,Fr N a (S s x0 x1 s1)/\St w0 w (HP.rg r mp ek agg R ok m es raw c vis::L s x0 x1 l1)) ⟨x0,x1,h0,Sel.st H (Sel.trans hG.pf (Sel.cons hS))⟩ fun s vis a w hr ⟨x0,x1,F,H⟩=>hk s vis a w x0 x1 hr F H
end
section
variable {α ι:Type} {R:Rp α} {xs:List α} {css:List (List Value)} {q:Int} {kd:IntKind} {m:α} {zv:Value} {ds:ι->List Value->List Value} {nd:ι->List HP->List HP} {r1:List HP} {j:Nat}
theorem vro (hx:ev sl x=some (.pointer (some ⟨b,0+q.toNat*n+j,none⟩))) (hp:p=some ⟨b,0,none⟩) (C:PlnC P t) (hS:HasP ls p R e cap css xs r1) (hc:css[q.toNat]?=some cs) (hn:R.n=n) (hl:cs.length=n) (hj:atL j cs=some v):QV P sl ls (.load t x) v:=⟨rfl,fun F H ho=>by
 subst hn
 rw [cU] at hj
 exact bS F C.pf ho hx ((Sel.st H hS.pf).oxRow 0 rfl hp hc hl _ _ hj)⟩
theorem vro0 (hx:ev sl x=some (.pointer (some ⟨b,0+q.toNat*n,none⟩))) (hp:p=some ⟨b,0,none⟩) (C:PlnC P t) (hS:HasP ls p R e cap css xs r1) (hc:css[q.toNat]?=some (v::cs)) (hn:R.n=n) (hl:cs.length+1=n):QV P sl ls (.load t x) v:=⟨rfl,fun F H ho=>by
 subst hn
 exact bS F C.pf ho hx (by simpa using (Sel.st H hS.pf).oxRow 0 rfl hp hc hl 0 v rfl)⟩
theorem vroa (hx:ev sl x=some (.pointer (some ⟨b,0+q.toNat*n,none⟩))) (hp:p=some ⟨b,0,none⟩) (C:AggC P t n zz) (hS:HasP ls p R e cap css xs r1) (hc:css[q.toNat]?=some cs) (hn:R.n=n) (hl:cs.length=n):QV P sl ls (.load t x) (.agg cs.toArray):=⟨rfl,fun F H ho=>by
 subst hn
 exact dJ F C.pf ho hx ((Sel.st H hS.pf).oxRow 0 rfl hp hc hl) hl⟩
theorem oxp (H:St w0 w ls) (hq:aD xs q=some m) (hS:HasQ ls xs R p e cap css r1) (O:OpenA R m ι ds nd):∃ b i,p=some ⟨b,0,none⟩/\css[q.toNat]?=some (ds i [])/\St w0 w (HP.ox R e p cap css xs::nd i r1):=by
 have H1:=Sel.st H hS.pf
 obtain ⟨b,hp⟩:=(H1.oxShut 0 rfl).owP 0 rfl (eR hq).2
 obtain ⟨c,hc,_,H2⟩:=H1.oxEl 0 rfl (eR hq).2
 obtain ⟨i,rfl,H3⟩:=(H2.perm (List.Perm.swap _ _ _)).o1 O
 exact ⟨b,i,hp,hc,H3⟩
theorem aiX (F:Fr N a sl) (H:St w0 w ls) (hq:aD xs q=some m) {k:Nat} (hx:ev sl x=some (.slice p k cap)) (hn:xs.length=k) (hy:ev sl y=some (.int kd q)) (C:ElmC P t e size bytes zv) (hd:Nat.blt d N.n=true)
  (hS:HasQ ls xs R p u cap css r1) (O:OpenA R m ι ds nd)
  (hk:∀ b i a',p=some ⟨b,0,none⟩->css[q.toNat]?=some (ds i [])->St w0 w (HP.ox R u p cap css xs::nd i r1)->Fr N a' ((d,.pointer (some ⟨b,0+q.toNat*size,none⟩))::sl)->wpList P ops Q rest a' w):wpList P ops Q (⟨some d,.indexAddr t x y,ty,pos,ed,none⟩::rest) a w:=by
 subst hn
 obtain ⟨b,i,hp,hc,H3⟩:=oxp H hq hS O
 exact bD wkP F rfl rfl hd rfl (dW F C.pf rfl hx hy hp hq) fun a' F'=>hk b i a' hp hc H3 F'
theorem aiO (F:Fr N a sl) (H:St w0 w ls) (hq:aD xs q=some m) {k:Nat} (hx:ev sl x=some (.slice p k cap)) (hn:xs.length=k) (hy:ev sl y=some (.int kd q)) (C:ElmC P t e size bytes zv) (hd:Nat.blt d N.n=true)
  (hS:HasO ls xs R p u cap r1) (O:OpenA R m ι ds nd)
  (hk:∀ b css i a',p=some ⟨b,0,none⟩->css[q.toNat]?=some (ds i [])->St w0 w (HP.ox R u p cap css xs::nd i r1)->Fr N a' ((d,.pointer (some ⟨b,0+q.toNat*size,none⟩))::sl)->wpList P ops Q rest a' w):wpList P ops Q (⟨some d,.indexAddr t x y,ty,pos,ed,none⟩::rest) a w:=by
 obtain ⟨css,H2⟩:=(Sel.st H hS.pf).oxOpen 0 rfl
 exact aiX F H2 hq hx hn hy C hd ⟨Sel.nil⟩ O fun b i a'=>hk b css i a'
theorem aSX1 {z1:Value} {zc:α} {r2:List HP} (F:Fr N a sl) (H:St w0 w ls) (hx:ev sl x=some (.pointer (some ⟨b,0+q.toNat*1,none⟩))) (hy:ev sl y=some v) (hp:p=some ⟨b,0,none⟩) (C:ZerC P t z1) (hS:HasW ls p R e cap xs r1) (hq:aD xs q=some m) (hR:R.n=1) (hv:v.cells=#[v]) (h1:v.oneCell'=true) (V:ReadX R [v] zc []) (hV:Has r1 (HP.rc R [v] zc) r2)
  (hk:xs.length=(xs.set q.toNat zc).length->∀ w',St w0 w' (HP.ow R e p cap (xs.set q.toNat zc)::r2)->wpList P ops Q rest a w'):wpList P ops Q (⟨none,.store t x y,ty,pos,ed,none⟩::rest) a w :=
 aKl wkP F rfl rfl C.pf rfl hR hx hy hv h1 (Sel.st H (Sel.trans hS.pf (Sel.cons hV.pf))) 0 rfl hp hq (fun g=>(g 1 _ rfl).choose_spec) fun w' H'=>hk (by simp) w' (H'.perm (List.Perm.swap _ _ _)).tail
theorem aSXf {γ:Type} {R':Rp γ} {z1:Value} {z:γ} {zc:α} {r2:List HP} {j:Nat} (F:Fr N a sl) (H:St w0 w ls) (hx:ev sl x=some (.pointer (some ⟨b,0+q.toNat*n+j,none⟩))) (hy:ev sl y=some v) (hp:p=some ⟨b,0,none⟩) (C:ZerC P t z1) (hS:HasW ls p R e cap xs r1) (hq:aD xs q=some m) (hR:R.n=n) (hj:Nat.blt j n=true) (hv:v.cells=#[v]) (h1:v.oneCell'=true) (_:PthC R j R') (V:ReadX R' [v] z []) (hV:Has r1 (HP.rc R' [v] z) r2) (T:SetC R j m R' z zc)
  (hk:xs.length=(xs.set q.toNat zc).length->∀ w',St w0 w' (HP.ow R e p cap (xs.set q.toNat zc)::r2)->wpList P ops Q rest a w'):wpList P ops Q (⟨none,.store t x y,ty,pos,ed,none⟩::rest) a w :=
 aOl wkP F rfl rfl C.pf rfl hR hj hx hy hv h1 (Sel.st H (Sel.trans hS.pf (Sel.cons hV.pf))) 0 rfl hp hq (fun g cs hc=>T.pf hc (g 1 _ rfl).choose_spec) fun w' H'=>hk (by simp) w' (H'.perm (List.Perm.swap _ _ _)).tail
theorem aSXA {zc:α} {r2:List HP} (F:Fr N a sl) (H:St w0 w ls) (hx:ev sl x=some (.pointer (some ⟨b,0+q.toNat*n,none⟩))) (hy:ev sl y=some (.agg cs.toArray)) (hp:p=some ⟨b,0,none⟩) (C:AggC P t n zz) (hS:HasW ls p R e cap xs r1) (hq:aD xs q=some m) (hR:R.n=n) (hn:cs.length=n) (hf:cs.all Value.oneCell'=true) (V:ReadX R cs zc []) (hV:Has r1 (HP.rc R cs zc) r2)
  (hk:xs.length=(xs.set q.toNat zc).length->∀ w',St w0 w' (HP.ow R e p cap (xs.set q.toNat zc)::r2)->wpList P ops Q rest a w'):wpList P ops Q (⟨none,.store t x y,ty,pos,ed,none⟩::rest) a w :=
 aDf wkP F rfl rfl C.pf rfl hR hx hy (Sel.st H (Sel.trans hS.pf (Sel.cons hV.pf))) 0 rfl hp hq (fun g=>(g 1 _ rfl).choose_spec) (fl hf) hn fun w' H'=>hk (by simp) w' (H'.perm (List.Perm.swap _ _ _)).tail
theorem tQ {G:Prop} (H:St w0 w ls) (hq:aD xs q=some m) (hS:HasQ ls xs R p e cap css r1) (O:OpenA R m ι ds nd) (hk:∀ b i,p=some ⟨b,0,none⟩->css[q.toNat]?=some (ds i [])->St w0 w (HP.ox R e p cap css xs::nd i r1)->G):G:=by
 obtain ⟨b,i,hp,hc,H3⟩:=oxp H hq hS O
 exact hk b i hp hc H3
theorem xH {G:Prop} (H:St w0 w ls) (hq:aD xs q=some m) (hS:HasO ls xs R p e cap r1) (O:OpenA R m ι ds nd) (hk:∀ b css i,p=some ⟨b,0,none⟩->css[q.toNat]?=some (ds i [])->St w0 w (HP.ox R e p cap css xs::nd i r1)->G):G:=by
 obtain ⟨css,H2⟩:=(Sel.st H hS.pf).oxOpen 0 rfl
 exact tQ H2 hq ⟨Sel.nil⟩ O fun b i=>hk b css i
end
section
variable {ks:List Nat} {l As r r':List HP} {j b u n cap:Nat} {cs:List Value} {p:Option Addr}
end
structure JH0 {σ:Type} (_ _:Nat) (_:List Nat) (_:List (Nat×Nat)) (_:List Nat) (_:σ->List (Nat×Value)->List (Nat×Value)) (_:σ->List HP->List HP):Prop where
 ok:True
structure JR0 {σ:Type} (_ _:Nat) (_:List Nat) (_:List (Nat×Nat)) (_:List Nat) (_:σ->List (Nat×Value)->List (Nat×Value)) (_:σ->List HP->List HP):Prop where
 ok:True
structure JH1 {σ T0:Type} (_ _:Nat) (_:List Nat) (_:List (Nat×Nat)) (_:List Nat) (_:σ->T0->List (Nat×Value)->List (Nat×Value)) (_:σ->T0->List HP->List HP):Prop where
 ok:True
structure JR1 {σ T0:Type} (_ _:Nat) (_:List Nat) (_:List (Nat×Nat)) (_:List Nat) (_:σ->T0->List (Nat×Value)->List (Nat×Value)) (_:σ->T0->List HP->List HP):Prop where
 ok:True
structure JH2 {σ T0 T1:Type} (_ _:Nat) (_:List Nat) (_:List (Nat×Nat)) (_:List Nat) (_:σ->T0->T1->List (Nat×Value)->List (Nat×Value)) (_:σ->T0->T1->List HP->List HP):Prop where
 ok:True
structure JR2 {σ T0 T1:Type} (_ _:Nat) (_:List Nat) (_:List (Nat×Nat)) (_:List Nat) (_:σ->T0->T1->List (Nat×Value)->List (Nat×Value)) (_:σ->T0->T1->List HP->List HP):Prop where
 ok:True
end
theorem sC {X:Prop} (h:X:=by
  repeat first
   | (with_reducible exact Sel.top)
   | ((with_reducible apply Sel.has);exact inferInstance)):X:=h
theorem sK {X:Prop} (h:X:=by
  repeat first
   | (with_reducible exact Sel.top)
   | ((with_reducible apply Sel.has);exact inferInstance)
   | ((with_reducible apply Sel.hb);exact inferInstance)
   | ((with_reducible apply Sel.hf);exact inferInstance)
   | ((with_reducible apply Sel.ho);exact inferInstance)
   | ((with_reducible apply Sel.hc);exact inferInstance)
   | ((with_reducible apply Sel.hn);exact inferInstance)
   | (with_reducible apply Sel.on)
   | (with_reducible apply Sel.sn)
   | (apply Sel.fo inferInstance)):X:=h
theorem sT {X:Prop} (h:X:=by
  repeat first
   | exact Sel.nil
   | (with_reducible apply Sel.tp)
   | ((with_reducible apply Sel.has);exact inferInstance)
   | ((with_reducible apply Sel.hb);exact inferInstance)
   | (with_reducible apply Sel.drop1)):X:=h
theorem sQ {X:Prop} (h:X:=by
  repeat first
   | exact Sel.nil
   | ((with_reducible apply Sel.has);exact inferInstance)):X:=h
theorem qB {X:Prop} (h:X:=by
  first
   | ((with_reducible apply vq);exact rfl)
   | ((with_reducible apply vf);exact rfl;exact inferInstance)
   | ((with_reducible apply vfi);exact rfl;exact inferInstance;exact rfl)
   | ((with_reducible apply vl);exact rfl;exact inferInstance;exact inferInstance;exact rfl)
   | ((with_reducible apply vlaW);exact rfl;exact inferInstance;exact inferInstance;exact inferInstance;exact rfl)
   | ((with_reducible apply vr);exact rfl;exact inferInstance;exact inferInstance;exact rfl)
   | ((with_reducible apply vr0);exact rfl;exact inferInstance;exact inferInstance)
   | ((with_reducible apply vla);exact rfl;exact inferInstance;exact inferInstance;exact rfl)
   | ((with_reducible apply vra0);exact rfl;exact inferInstance;exact inferInstance;exact rfl)
   | ((with_reducible apply vra);exact rfl;exact inferInstance;exact inferInstance;exact rfl)
   | ((with_reducible apply vn);exact rfl;exact inferInstance)
   | ((with_reducible apply vnt);exact rfl;exact inferInstance;exact inferInstance)
   | ((with_reducible apply vt);exact rfl;exact rfl;exact inferInstance;exact inferInstance;exact rfl)
   | ((with_reducible apply vd);exact rfl;exact inferInstance;exact inferInstance;exact rfl;kernel_rfl)
   | ((with_reducible apply vd0);exact rfl;exact inferInstance;exact inferInstance;exact rfl;kernel_rfl)
   | ((with_reducible apply vmf);exact rfl)
   | ((with_reducible apply vnb);exact rfl;exact rfl;exact inferInstance)
   | ((with_reducible apply veb);exact rfl;exact rfl;exact inferInstance)
   | ((with_reducible apply vc);exact rfl;exact inferInstance;exact inferInstance)
   | ((with_reducible apply vbs);exact rfl;exact inferInstance;exact inferInstance;exact inferInstance;exact inferInstance;exact rfl)
   | ((with_reducible apply vmin);exact rfl;exact rfl)
   | ((with_reducible apply vmin3);exact rfl;exact rfl;exact rfl)
   | ((with_reducible apply vmax);exact rfl;exact rfl)
   | ((with_reducible apply vpi);exact rfl;exact rfl;exact rfl)
   | ((with_reducible apply vix);exact rfl;exact rfl;(with_reducible assumption);exact rfl;(with_reducible assumption);exact inferInstance)
   | ((with_reducible apply vitA);exact rfl;exact rfl;exact inferInstance;(with_reducible assumption))
   | ((with_reducible apply vsr);exact rfl;exact rfl;exact rfl)
   | ((with_reducible apply vsl);exact rfl;exact rfl;exact rfl)
   | ((with_reducible apply ven);exact rfl;exact rfl;exact inferInstance;exact rfl)
   | ((with_reducible apply ves);exact rfl;exact rfl;exact inferInstance;exact rfl)
   | ((with_reducible apply vro);exact rfl;(with_reducible assumption);exact inferInstance;exact inferInstance;(with_reducible assumption);exact rfl;exact rfl;exact rfl)
   | ((with_reducible apply vro0);exact rfl;(with_reducible assumption);exact inferInstance;exact inferInstance;(with_reducible assumption);exact rfl;exact rfl)
   | ((with_reducible apply vroa);exact rfl;(with_reducible assumption);exact inferInstance;exact inferInstance;(with_reducible assumption);exact rfl;exact rfl)
   | ((with_reducible apply vsA);exact rfl;exact inferInstance;exact rfl;exact rfl;exact inferInstance;(with_reducible assumption))
   | ((with_reducible apply vsB);exact rfl;exact inferInstance;exact rfl;exact inferInstance;(with_reducible assumption))
   | ((with_reducible apply vsC);exact rfl;exact inferInstance;exact rfl;exact inferInstance;(with_reducible assumption))
   | ((with_reducible apply vent);exact rfl;exact inferInstance;(with_reducible assumption))):X:=h
theorem qX {X:Prop} (h:X:=by
  first
   | ((with_reducible apply vta ex);exact rfl;exact rfl;exact inferInstance;exact inferInstance)
   | ((with_reducible apply vit ex);exact rfl;exact rfl;exact inferInstance)
   | ((with_reducible apply vst1 ex);exact rfl;exact inferInstance;exact rfl;exact rfl)
   | ((with_reducible apply vst2 ex);exact rfl;exact inferInstance;exact rfl)
   | ((with_reducible apply vst3 ex);exact rfl;exact inferInstance;exact rfl)
   | ((with_reducible apply vsro ex);exact rfl;exact rfl)
   | ((with_reducible apply vslo ex);exact rfl;exact rfl)
   | ((with_reducible apply vqo ex);exact rfl;exact rfl)
   | ((with_reducible apply vre ex);exact rfl;exact rfl)):X:=h
set_option maxRecDepth 100000 in
theorem au {A X:Prop} (f:A) (h:A->X:=by
 intro fn
 repeat first
  | (have HH:=H.x0 inferInstance;clear H;obtain ⟨i,H⟩:=HH)
  | (have HH:=H.x1 inferInstance;clear H;obtain ⟨i,H⟩:=HH)
  | (have HH:=H.x2 inferInstance;clear H;obtain ⟨i,H⟩:=HH)
  | (have HH:=H.x3 inferInstance;clear H;obtain ⟨i,H⟩:=HH)
  | (have HH:=H.o0 inferInstance;clear H;obtain ⟨i,rfl,H⟩:=HH)
  | (have HH:=H.o1 inferInstance;clear H;obtain ⟨i,rfl,H⟩:=HH)
  | (have HH:=H.o2 inferInstance;clear H;obtain ⟨i,rfl,H⟩:=HH)
  | (have HH:=H.o3 inferInstance;clear H;obtain ⟨i,rfl,H⟩:=HH)
  | (have HH:=H.o4 inferInstance;clear H;obtain ⟨i,rfl,H⟩:=HH)
 refine dM fn rfl rfl rfl ?_
 intro a F
 repeat' first
    | (with_reducible apply nl)
    | (with_reducible apply lz)
    | (with_reducible apply sr)
    | (with_reducible apply sk)
    | (with_reducible apply sq)
    | (with_reducible apply wr)
    | (with_reducible apply tr)
    | (with_reducible apply br)
    | (with_reducible apply bn)
    | (with_reducible apply ct)
    | (with_reducible apply rl)
    | (with_reducible apply bl)
    | (with_reducible apply wp_exit)
    | (with_reducible apply pB)
    | (with_reducible apply sI)
    | ((with_reducible apply aP9);exact rfl)
    | ((with_reducible apply oaE hm);clear hm;intro hm)
    | ((with_reducible apply obuE hm);clear hm;intro c hU hm)
    | ((with_reducible apply osE hm);clear hm;intro hm)
    | ((with_reducible apply oiE hm);clear hm;intro hm)
    | ((with_reducible apply olE hm);exact rfl;clear hm;intro hm)
    | ((with_reducible apply orE hm);exact rfl;clear hm;intro hm)
    | ((with_reducible apply oelE hm);exact rfl;clear hm;intro hm)
    | ((with_reducible apply oerE hm);exact rfl;clear hm;intro hm)
    | ((with_reducible apply iteT hm);(with_reducible assumption);clear hm;intro hm)
    | ((with_reducible apply iteF hm);(with_reducible assumption);clear hm;intro hm)
    | ((with_reducible apply iteT hm);(with_reducible exact rfl);clear hm;intro hm)
    | ((with_reducible apply obiS hm);(with_reducible assumption);clear hm;intro hm)
    | ((with_reducible apply isL)
       first
       | ((with_reducible apply bb [0] F H);exact rfl;clear F;intro a F)
       | ((with_reducible apply aq F H)
          exact qB
          exact rfl
          clear F;intro a F)
       | ((with_reducible apply obE hm)
          clear hm
          intro x ex hm
          first
           | ((with_reducible apply aq F H)
              exact qX
              exact rfl
              clear F;intro a F)
           | ((first | (((with_reducible apply ac 0 F));exact rfl;exact inferInstance;intro c;(fail_if_success (fail_if_success (with_reducible apply ck (fun h=>c h) ex)));apply c (l:=HP.top::_) ex;apply Sel.st H;exact sC) | (((with_reducible apply ac 1 F));exact rfl;exact inferInstance;intro c;(fail_if_success (fail_if_success (with_reducible apply ck (fun h=>c h) ex)));apply c (l:=HP.top::_) ex;apply Sel.st H;exact sC) | (((with_reducible apply ac 2 F));exact rfl;exact inferInstance;intro c;(fail_if_success (fail_if_success (with_reducible apply ck (fun h=>c h) ex)));apply c (l:=HP.top::_) ex;apply Sel.st H;exact sC) | (((with_reducible apply acv 0 F));exact rfl;exact inferInstance;intro c;(fail_if_success (fail_if_success (with_reducible apply ck (fun h=>c h) ex)));apply c (l:=HP.top::_) ex;apply Sel.st H;exact sC) | (((with_reducible apply acv 1 F));exact rfl;exact inferInstance;intro c;(fail_if_success (fail_if_success (with_reducible apply ck (fun h=>c h) ex)));apply c (l:=HP.top::_) ex;apply Sel.st H;exact sC) | (((with_reducible apply ac 0 F));exact rfl;exact inferInstance;intro c;(fail_if_success (fail_if_success (with_reducible apply ck (fun h=>c h) ex)));apply c (l:=HP.top::_) ex;rotate_left;apply Sel.st H;exact sK;rotate_right;exact rfl) | (((with_reducible apply ac 1 F));exact rfl;exact inferInstance;intro c;(fail_if_success (fail_if_success (with_reducible apply ck (fun h=>c h) ex)));apply c (l:=HP.top::_) ex;rotate_left;apply Sel.st H;exact sK;rotate_right;exact rfl))
              clear F
              rintro v w a hR
              repeat first
               | obtain ⟨rfl,H⟩:=hR
               | obtain ⟨_,hR⟩:=hR
              first | replace H:=H.d0 | replace H:=H.d1 | replace H:=H.d2 | replace H:=H.d3 | replace H:=H.d4 | (obtain ⟨hl,HH⟩:=H;clear H;have H:=HH;clear HH;(first | replace H:=H.d0 | replace H:=H.d1);(try rw [<- hl]);(try rw [<- hl] at H);clear hl)
              repeat first
               | (have HH:=H.x0 inferInstance;clear H;obtain ⟨i,H⟩:=HH)
               | (have HH:=H.x1 inferInstance;clear H;obtain ⟨i,H⟩:=HH)
               | (have HH:=H.x2 inferInstance;clear H;obtain ⟨i,H⟩:=HH)
               | (have HH:=H.o0 inferInstance;clear H;obtain ⟨i,rfl,H⟩:=HH)
               | (have HH:=H.o1 inferInstance;clear H;obtain ⟨i,rfl,H⟩:=HH)
               | (have HH:=H.o2 inferInstance;clear H;obtain ⟨i,rfl,H⟩:=HH)
               | (have HH:=H.o3 inferInstance;clear H;obtain ⟨i,rfl,H⟩:=HH)
               | (have HH:=H.o4 inferInstance;clear H;obtain ⟨i,rfl,H⟩:=HH)
              intro F)
           | ((with_reducible apply aiF F H ex)
              exact rfl
              exact rfl
              (with_reducible assumption)
              exact inferInstance
              exact rfl
              exact inferInstance
              exact rfl
              exact inferInstance
              clear F H;intro i a H F)
           | ((with_reducible apply ai F H ex)
              exact rfl
              exact rfl
              exact inferInstance
              exact rfl
              exact inferInstance
              exact rfl
              exact inferInstance
              clear F H;intro b o i a hp H F)
           | ((with_reducible apply aiX F H ex)
              exact rfl
              (first | exact rfl | simp only [List.length_set])
              exact rfl
              exact inferInstance
              exact rfl
              exact inferInstance
              exact inferInstance
              clear F H;intro b i a hp hc H F)
           | ((with_reducible apply aiO F H ex)
              exact rfl
              (first | exact rfl | simp only [List.length_set])
              exact rfl
              exact inferInstance
              exact rfl
              exact inferInstance
              exact inferInstance
              clear F H;intro b css i a hp hc H F)
           | ((with_reducible apply aSX1 F H)
              exact rfl
              exact rfl
              (with_reducible assumption)
              exact inferInstance
              exact inferInstance
              exact ex
              exact rfl
              exact rfl
              exact rfl
              exact inferInstance
              exact inferInstance
              clear H;intro hl w H;(try rw [hl] at F);(try rw [hl] at H);clear hl)
           | ((with_reducible apply aSXA F H)
              exact rfl
              exact rfl
              (with_reducible assumption)
              exact inferInstance
              exact inferInstance
              exact ex
              exact rfl
              exact rfl
              exact rfl
              exact inferInstance
              exact inferInstance
              clear H;intro hl w H;(try rw [hl] at F);(try rw [hl] at H);clear hl)
           | ((with_reducible apply aSXf F H)
              exact rfl
              exact rfl
              (with_reducible assumption)
              exact inferInstance
              exact inferInstance
              exact ex
              exact rfl
              exact rfl
              exact rfl
              exact rfl
              exact inferInstance
              exact inferInstance
              exact inferInstance
              exact inferInstance
              clear H;intro hl w H;(try rw [hl] at F);(try rw [hl] at H);clear hl)
           | ((with_reducible apply aP F H ex)
              exact rfl
              exact rfl
              exact rfl
              exact inferInstance
              exact inferInstance
              exact inferInstance
              exact inferInstance
              exact rfl
              exact rfl
              exact rfl
              exact rfl
              clear F H;intro p c w a H F)
           | ((with_reducible apply aZu F H ex)
              exact inferInstance
              exact inferInstance
              exact rfl
              exact rfl
              clear F H;intro b w a H F)
           | ((with_reducible apply aW1 F H ex)
              exact rfl
              exact inferInstance
              exact rfl
              exact rfl
              exact rfl
              exact inferInstance
              exact rfl
              clear F H;intro p c a H F)
           | ((with_reducible apply aW2 F H ex)
              exact rfl
              exact inferInstance
              exact rfl
              exact rfl
              exact inferInstance
              exact rfl
              clear F H;intro p c a H F)
           | ((with_reducible apply aW3 F H ex)
              exact rfl
              exact inferInstance
              exact rfl
              exact rfl
              exact inferInstance
              exact rfl
              clear F H;intro p c a H F))
       | ((with_reducible apply agT F);exact rfl;exact rfl;exact rfl)
       | ((with_reducible apply agG);exact rfl;exact rfl)
       | ((with_reducible apply aA F H)
          exact inferInstance
          exact rfl
          clear F H;intro b w a H F)
       | ((with_reducible apply aA1 F H)
          exact inferInstance
          exact rfl
          clear F H;intro b w a H F)
       | ((with_reducible apply aB F H)
          exact rfl
          exact rfl
          clear F H;intro b w a H F)
       | ((with_reducible apply aB1 F H)
          exact rfl
          exact rfl
          exact rfl
          clear F H;intro b w a H F)
       | ((with_reducible apply aS F H)
          exact rfl
          exact rfl
          exact inferInstance
          exact inferInstance
          exact rfl
          exact rfl
          exact rfl
          clear H;intro w H)
       | ((with_reducible apply aSo F H)
          exact rfl
          exact rfl
          exact inferInstance
          exact inferInstance
          exact rfl
          exact rfl
          exact rfl
          clear H;intro w H)
       | ((with_reducible apply aSW F H)
          exact rfl
          exact rfl
          exact inferInstance
          exact inferInstance
          exact inferInstance
          exact rfl
          exact rfl
          clear H;intro w H)
       | ((with_reducible apply aS1 F H)
          exact rfl
          exact rfl
          exact inferInstance
          exact inferInstance
          exact rfl
          exact rfl
          exact rfl
          clear H;intro w H)
       | ((with_reducible apply aSX1 F H)
          exact rfl
          exact rfl
          (with_reducible assumption)
          exact inferInstance
          exact inferInstance
          (with_reducible assumption)
          exact rfl
          exact rfl
          exact rfl
          exact inferInstance
          exact inferInstance
          clear H;intro hl w H;(try rw [hl] at F);(try rw [hl] at H);clear hl)
       | ((with_reducible apply aSXA F H)
          exact rfl
          exact rfl
          (with_reducible assumption)
          exact inferInstance
          exact inferInstance
          (with_reducible assumption)
          exact rfl
          exact rfl
          exact rfl
          exact inferInstance
          exact inferInstance
          clear H;intro hl w H;(try rw [hl] at F);(try rw [hl] at H);clear hl)
       | ((with_reducible apply aSXf F H)
          exact rfl
          exact rfl
          (with_reducible assumption)
          exact inferInstance
          exact inferInstance
          (with_reducible assumption)
          exact rfl
          exact rfl
          exact rfl
          exact rfl
          exact inferInstance
          exact inferInstance
          exact inferInstance
          exact inferInstance
          clear H;intro hl w H;(try rw [hl] at F);(try rw [hl] at H);clear hl)
       | ((with_reducible apply aM2 F H)
          exact rfl
          exact rfl
          exact inferInstance
          exact inferInstance
          exact inferInstance
          exact trivial
          exact inferInstance
          exact rfl
          clear F H;intro i a H F)
       | ((with_reducible apply aMSa F H)
          exact rfl
          exact rfl
          exact rfl
          exact inferInstance
          exact inferInstance
          exact inferInstance
          exact trivial
          exact inferInstance
          exact inferInstance
          clear H;intro w H)
       | ((with_reducible apply aMSb F H)
          exact rfl
          exact rfl
          exact rfl
          exact inferInstance
          exact inferInstance
          exact inferInstance
          exact trivial
          exact inferInstance
          exact inferInstance
          clear H;intro w H)
       | ((with_reducible apply aMIa F H)
          exact rfl
          exact rfl
          exact rfl
          exact inferInstance
          exact inferInstance
          exact inferInstance
          exact trivial
          exact inferInstance
          exact inferInstance
          clear H;intro w H)
       | ((with_reducible apply aMIb F H)
          exact rfl
          exact rfl
          exact rfl
          exact inferInstance
          exact inferInstance
          exact inferInstance
          exact trivial
          exact inferInstance
          exact inferInstance
          clear H;intro w H)
       | ((with_reducible apply aMDn F H)
          exact rfl
          exact rfl
          exact inferInstance
          exact inferInstance
          exact inferInstance
          exact trivial
          clear H;intro w H)
       | ((with_reducible apply aMN F H)
          exact inferInstance
          exact rfl
          clear F H;intro b w a H F)
       | ((with_reducible apply aMD F H)
          exact rfl
          exact rfl
          exact inferInstance
          exact inferInstance
          exact inferInstance
          exact trivial
          exact rfl
          clear F H;intro w a H F)
       | ((with_reducible apply aM1 F H)
          exact rfl
          exact rfl
          exact inferInstance
          exact inferInstance
          exact inferInstance
          exact trivial
          exact inferInstance
          exact rfl
          clear F H;intro i a H F)
       | ((with_reducible apply aRM F H)
          exact rfl
          exact inferInstance
          exact inferInstance
          exact rfl
          clear F H;intro raw c es r w a H F)
       | ((with_reducible apply aNxM F H hr ex)
          exact rfl
          exact inferInstance
          exact rfl
          (clear F H;intro hm w a H F);rotate_left;(clear F H;intro q k cs v o hq hm hs hx hok w a H;revert hq;(repeat first | (have HH:=H.o0 inferInstance;clear H;obtain ⟨i,rfl,H⟩:=HH) | (have HH:=H.x0 inferInstance;clear H;obtain ⟨i,H⟩:=HH));intro hq F);rotate_right)
       | ((with_reducible apply aZ0 F H)
          exact inferInstance
          exact rfl
          clear F H;intro b w a H F)
       | ((with_reducible apply aZ1 F H)
          exact inferInstance
          exact inferInstance
          exact rfl
          exact rfl
          exact rfl
          exact rfl
          clear F H;intro b w a H F)
       | ((with_reducible apply aZ2 F H)
          exact inferInstance
          exact inferInstance
          exact rfl
          exact rfl
          exact rfl
          clear F H;intro b w a H F)
       | ((with_reducible apply aZb F H)
          exact inferInstance
          exact inferInstance
          exact rfl
          exact rfl
          exact rfl
          exact rfl
          exact rfl
          exact rfl
          clear F H;intro b w a H F)
       | ((with_reducible apply aCv F H)
          exact rfl
          exact inferInstance
          exact inferInstance
          exact inferInstance
          exact inferInstance
          exact rfl
          clear F H;intro b c w a H F)
       | ((with_reducible apply aCs F H)
          exact rfl
          exact inferInstance
          exact inferInstance
          exact inferInstance
          exact inferInstance
          exact rfl
          exact rfl
          exact rfl
          exact rfl
          clear F H;intro w a H F)
       | ((with_reducible apply aFz H hm)
          exact inferInstance
          clear H;intro H)
       | ((with_reducible apply aNil F H)
          exact rfl
          exact rfl
          exact inferInstance
          (intro e1 e2 e3;subst e1 e2 e3)
          rotate_left
          (intro ad e;subst e)))
    | ((with_reducible apply isQ)
       first
       | ((with_reducible apply obE hm)
          clear hm
          intro x ex hm
          first
           | ((with_reducible apply aqq F)
              exact qX
              exact rfl
              clear F;intro a F))
       | ((with_reducible apply qb [0] F);exact rfl;clear F;intro a F)
       | ((with_reducible apply aqq F)
          exact qB
          exact rfl
          clear F;intro a F)
       | ((with_reducible apply aqT F);exact rfl;exact rfl;exact rfl)
       | ((with_reducible apply agQ);exact rfl;exact rfl)
       | ((with_reducible apply obE hm);clear hm;intro x ex hm;(first | (((with_reducible apply aqc 0 F));exact rfl;exact inferInstance;intro c u hu;(fail_if_success (fail_if_success (with_reducible apply ck (fun h=>c h) ex)));apply c ex) | (((with_reducible apply aqc 1 F));exact rfl;exact inferInstance;intro c u hu;(fail_if_success (fail_if_success (with_reducible apply ck (fun h=>c h) ex)));apply c ex) | (((with_reducible apply aqc 2 F));exact rfl;exact inferInstance;intro c u hu;(fail_if_success (fail_if_success (with_reducible apply ck (fun h=>c h) ex)));apply c ex) | (((with_reducible apply qI 0 F));exact rfl;exact inferInstance;intro c u hu;(fail_if_success (fail_if_success (with_reducible apply ck (fun h=>c h) ex)));apply c ex) | (((with_reducible apply qI 1 F));exact rfl;exact inferInstance;intro c u hu;(fail_if_success (fail_if_success (with_reducible apply ck (fun h=>c h) ex)));apply c ex))
          apply Sel.st hu
          exact sQ
          clear F;intro a F)
       | ((first | (((with_reducible apply aqc 0 F));exact rfl;exact inferInstance;intro c u hu;apply c;(with_reducible assumption)) | (((with_reducible apply aqc 1 F));exact rfl;exact inferInstance;intro c u hu;apply c;(with_reducible assumption)) | (((with_reducible apply aqc 2 F));exact rfl;exact inferInstance;intro c u hu;apply c;(with_reducible assumption)) | (((with_reducible apply qI 0 F));exact rfl;exact inferInstance;intro c u hu;apply c;(with_reducible assumption)) | (((with_reducible apply qI 1 F));exact rfl;exact inferInstance;intro c u hu;apply c;(with_reducible assumption)))
          apply Sel.st hu
          exact sQ
          clear F;intro a F)
       | ((with_reducible apply pT);clear H;intro w H))
    | ((with_reducible apply isM)
       first
       | ((with_reducible apply obE hm)
          clear hm
          intro x ex hm
          first
           | ((with_reducible apply aq0 F)
              exact rfl
              (intro r;exact qX)
              exact rfl
              clear F;intro a F)
           | ((with_reducible apply aq1 F H)
              exact rfl
              exact qX
              exact rfl
              clear F;intro a F))
       | ((with_reducible apply mb [0] F H);exact rfl;clear F;intro a F)
       | ((with_reducible apply aq0 F)
          exact rfl
          (intro r;exact qB)
          exact rfl
          clear F;intro a F)
       | ((with_reducible apply aq1 F H)
          exact rfl
          exact qB
          exact rfl
          clear F;intro a F)
       | (with_reducible apply aSc)
       | (with_reducible apply aSc0)
       | ((with_reducible apply eE);exact rfl;exact rfl;exact rfl;exact rfl)
       | ((with_reducible apply uA);exact rfl;exact rfl;exact rfl;exact rfl;exact rfl;exact rfl)
       | ((with_reducible apply aq2);exact rfl)
       | ((with_reducible apply aq3);exact rfl)
       | (with_reducible apply bR)
       | ((with_reducible apply aq0g F)
          exact rfl
          exact rfl
          exact rfl
          exact rfl
          (intro r;exact qB)
          exact rfl
          clear F;intro a F)
       | ((with_reducible apply aq1g F H)
          exact rfl
          exact rfl
          exact rfl
          exact rfl
          exact qB
          exact rfl
          clear F;intro a F)
       | ((with_reducible apply aq2g F);exact rfl;exact rfl;exact rfl;exact rfl)
       | ((with_reducible apply aq3g F);exact rfl;exact rfl;exact rfl;exact rfl)
       | ((with_reducible apply agM);exact rfl;exact rfl;exact rfl))
    | ((with_reducible apply isC)
       first
       | ((with_reducible apply aC F hm);exact rfl;all_goals intro hg hm)
       | ((with_reducible apply aN F hm);exact rfl;all_goals intro hg hm)
       | ((with_reducible apply aV F hm);exact rfl;all_goals intro hg hm)
       | ((with_reducible apply aCT F);exact rfl;(with_reducible assumption))
       | ((with_reducible apply aCF F);exact rfl;(with_reducible assumption))
       | ((with_reducible apply aNT F);exact rfl;(with_reducible assumption))
       | ((with_reducible apply aNF F);exact rfl;(with_reducible assumption))
       | ((with_reducible apply aVT F);exact rfl;(with_reducible assumption))
       | ((with_reducible apply aVF F);exact rfl;(with_reducible assumption))
       | ((with_reducible apply aVG F);exact rfl;(with_reducible assumption))
       | ((with_reducible apply kI F);exact rfl)
       | ((with_reducible apply iZ F);exact rfl)
       | ((with_reducible apply aLp);(with_reducible apply obE hm);intro x ex ho;(with_reducible apply xa0 (l1:=HP.top::_) F H ex);(first | apply h0 | apply h1 | apply h2 | apply h3 | apply h4 | apply h5 | apply h6 | apply h7 | apply h8);(case h1=>exact rfl);(case hps=>(repeat first | (with_reducible exact PtL.ni) | ((with_reducible apply PtL.co);exact rfl)));(case h0=>exact F.sl rfl);(case hS=>exact sK)
          clear F H hm
          intro s a w o F H hm
          revert F
          repeat first
           | (have HH:=H.x0 inferInstance;clear H;obtain ⟨i,H⟩:=HH)
           | (have HH:=H.x1 inferInstance;clear H;obtain ⟨i,H⟩:=HH)
           | (have HH:=H.x2 inferInstance;clear H;obtain ⟨i,H⟩:=HH)
           | (have HH:=H.o0 inferInstance;clear H;obtain ⟨i,rfl,H⟩:=HH)
           | (have HH:=H.o1 inferInstance;clear H;obtain ⟨i,rfl,H⟩:=HH)
           | (have HH:=H.o2 inferInstance;clear H;obtain ⟨i,rfl,H⟩:=HH)
           | (have HH:=H.o3 inferInstance;clear H;obtain ⟨i,rfl,H⟩:=HH)
           | (have HH:=H.o4 inferInstance;clear H;obtain ⟨i,rfl,H⟩:=HH)
          intro F)
       | ((with_reducible apply aLp);(with_reducible apply lB hm);intro x ex ho;(with_reducible apply xa0 (l1:=HP.top::_) F H ex);(first | apply h0 | apply h1 | apply h2 | apply h3 | apply h4 | apply h5 | apply h6 | apply h7 | apply h8);(case h1=>exact rfl);(case hps=>(repeat first | (with_reducible exact PtL.ni) | ((with_reducible apply PtL.co);exact rfl)));(case h0=>exact F.sl rfl);(case hS=>exact sK)
          clear F H hm
          intro s a w o F H hm
          revert F
          repeat first
           | (have HH:=H.x0 inferInstance;clear H;obtain ⟨i,H⟩:=HH)
           | (have HH:=H.x1 inferInstance;clear H;obtain ⟨i,H⟩:=HH)
           | (have HH:=H.x2 inferInstance;clear H;obtain ⟨i,H⟩:=HH)
           | (have HH:=H.o0 inferInstance;clear H;obtain ⟨i,rfl,H⟩:=HH)
           | (have HH:=H.o1 inferInstance;clear H;obtain ⟨i,rfl,H⟩:=HH)
           | (have HH:=H.o2 inferInstance;clear H;obtain ⟨i,rfl,H⟩:=HH)
           | (have HH:=H.o3 inferInstance;clear H;obtain ⟨i,rfl,H⟩:=HH)
           | (have HH:=H.o4 inferInstance;clear H;obtain ⟨i,rfl,H⟩:=HH)
          intro F)
       | ((with_reducible apply aLp);(with_reducible apply obE hm);intro x ex ho;(with_reducible apply xa1 (l1:=HP.top::_) F H ex);(first | apply h0 | apply h1 | apply h2 | apply h3 | apply h4 | apply h5 | apply h6 | apply h7 | apply h8);(case h1=>exact rfl);(case hps=>(repeat first | (with_reducible exact PtL.ni) | ((with_reducible apply PtL.co);exact rfl)));(case h0=>exact F.sl rfl);(case hS=>exact sK)
          clear F H hm
          intro s a w o p F H hm
          revert F
          repeat first
           | (have HH:=H.x0 inferInstance;clear H;obtain ⟨i,H⟩:=HH)
           | (have HH:=H.x1 inferInstance;clear H;obtain ⟨i,H⟩:=HH)
           | (have HH:=H.x2 inferInstance;clear H;obtain ⟨i,H⟩:=HH)
           | (have HH:=H.o0 inferInstance;clear H;obtain ⟨i,rfl,H⟩:=HH)
           | (have HH:=H.o1 inferInstance;clear H;obtain ⟨i,rfl,H⟩:=HH)
           | (have HH:=H.o2 inferInstance;clear H;obtain ⟨i,rfl,H⟩:=HH)
           | (have HH:=H.o3 inferInstance;clear H;obtain ⟨i,rfl,H⟩:=HH)
           | (have HH:=H.o4 inferInstance;clear H;obtain ⟨i,rfl,H⟩:=HH)
          intro F)
       | ((with_reducible apply aLp);(with_reducible apply lB hm);intro x ex ho;(with_reducible apply xa1 (l1:=HP.top::_) F H ex);(first | apply h0 | apply h1 | apply h2 | apply h3 | apply h4 | apply h5 | apply h6 | apply h7 | apply h8);(case h1=>exact rfl);(case hps=>(repeat first | (with_reducible exact PtL.ni) | ((with_reducible apply PtL.co);exact rfl)));(case h0=>exact F.sl rfl);(case hS=>exact sK)
          clear F H hm
          intro s a w o p F H hm
          revert F
          repeat first
           | (have HH:=H.x0 inferInstance;clear H;obtain ⟨i,H⟩:=HH)
           | (have HH:=H.x1 inferInstance;clear H;obtain ⟨i,H⟩:=HH)
           | (have HH:=H.x2 inferInstance;clear H;obtain ⟨i,H⟩:=HH)
           | (have HH:=H.o0 inferInstance;clear H;obtain ⟨i,rfl,H⟩:=HH)
           | (have HH:=H.o1 inferInstance;clear H;obtain ⟨i,rfl,H⟩:=HH)
           | (have HH:=H.o2 inferInstance;clear H;obtain ⟨i,rfl,H⟩:=HH)
           | (have HH:=H.o3 inferInstance;clear H;obtain ⟨i,rfl,H⟩:=HH)
           | (have HH:=H.o4 inferInstance;clear H;obtain ⟨i,rfl,H⟩:=HH)
          intro F)
       | ((with_reducible apply aLp);(with_reducible apply obE hm);intro x ex ho;(with_reducible apply xa2 (l1:=HP.top::_) F H ex);(first | apply h0 | apply h1 | apply h2 | apply h3 | apply h4 | apply h5 | apply h6 | apply h7 | apply h8);(case h1=>exact rfl);(case hps=>(repeat first | (with_reducible exact PtL.ni) | ((with_reducible apply PtL.co);exact rfl)));(case h0=>exact F.sl rfl);(case hS=>exact sK)
          clear F H hm
          intro s a w o p c F H hm
          revert F
          repeat first
           | (have HH:=H.x0 inferInstance;clear H;obtain ⟨i,H⟩:=HH)
           | (have HH:=H.x1 inferInstance;clear H;obtain ⟨i,H⟩:=HH)
           | (have HH:=H.x2 inferInstance;clear H;obtain ⟨i,H⟩:=HH)
           | (have HH:=H.o0 inferInstance;clear H;obtain ⟨i,rfl,H⟩:=HH)
           | (have HH:=H.o1 inferInstance;clear H;obtain ⟨i,rfl,H⟩:=HH)
           | (have HH:=H.o2 inferInstance;clear H;obtain ⟨i,rfl,H⟩:=HH)
           | (have HH:=H.o3 inferInstance;clear H;obtain ⟨i,rfl,H⟩:=HH)
           | (have HH:=H.o4 inferInstance;clear H;obtain ⟨i,rfl,H⟩:=HH)
          intro F)
       | ((with_reducible apply aLp);(with_reducible apply lB hm);intro x ex ho;(with_reducible apply xa2 (l1:=HP.top::_) F H ex);(first | apply h0 | apply h1 | apply h2 | apply h3 | apply h4 | apply h5 | apply h6 | apply h7 | apply h8);(case h1=>exact rfl);(case hps=>(repeat first | (with_reducible exact PtL.ni) | ((with_reducible apply PtL.co);exact rfl)));(case h0=>exact F.sl rfl);(case hS=>exact sK)
          clear F H hm
          intro s a w o p c F H hm
          revert F
          repeat first
           | (have HH:=H.x0 inferInstance;clear H;obtain ⟨i,H⟩:=HH)
           | (have HH:=H.x1 inferInstance;clear H;obtain ⟨i,H⟩:=HH)
           | (have HH:=H.x2 inferInstance;clear H;obtain ⟨i,H⟩:=HH)
           | (have HH:=H.o0 inferInstance;clear H;obtain ⟨i,rfl,H⟩:=HH)
           | (have HH:=H.o1 inferInstance;clear H;obtain ⟨i,rfl,H⟩:=HH)
           | (have HH:=H.o2 inferInstance;clear H;obtain ⟨i,rfl,H⟩:=HH)
           | (have HH:=H.o3 inferInstance;clear H;obtain ⟨i,rfl,H⟩:=HH)
           | (have HH:=H.o4 inferInstance;clear H;obtain ⟨i,rfl,H⟩:=HH)
          intro F)
       | ((with_reducible apply aLp);(with_reducible apply obE hm);intro x ex ho;(with_reducible apply xa4 (l1:=HP.top::_) F H ex);(first | apply h0 | apply h1 | apply h2 | apply h3 | apply h4 | apply h5 | apply h6 | apply h7 | apply h8);(case h1=>exact rfl);(case hps=>(repeat first | (with_reducible exact PtL.ni) | ((with_reducible apply PtL.co);exact rfl)));(case h0=>exact F.sl rfl);(case hS=>exact sK)
          clear F H hm
          intro s a w o p c p2 c2 F H hm
          revert F
          repeat first
           | (have HH:=H.x0 inferInstance;clear H;obtain ⟨i,H⟩:=HH)
           | (have HH:=H.x1 inferInstance;clear H;obtain ⟨i,H⟩:=HH)
           | (have HH:=H.x2 inferInstance;clear H;obtain ⟨i,H⟩:=HH)
           | (have HH:=H.o0 inferInstance;clear H;obtain ⟨i,rfl,H⟩:=HH)
           | (have HH:=H.o1 inferInstance;clear H;obtain ⟨i,rfl,H⟩:=HH)
           | (have HH:=H.o2 inferInstance;clear H;obtain ⟨i,rfl,H⟩:=HH)
           | (have HH:=H.o3 inferInstance;clear H;obtain ⟨i,rfl,H⟩:=HH)
           | (have HH:=H.o4 inferInstance;clear H;obtain ⟨i,rfl,H⟩:=HH)
          intro F)
       | ((with_reducible apply aLp);(with_reducible apply lB hm);intro x ex ho;(with_reducible apply xa4 (l1:=HP.top::_) F H ex);(first | apply h0 | apply h1 | apply h2 | apply h3 | apply h4 | apply h5 | apply h6 | apply h7 | apply h8);(case h1=>exact rfl);(case hps=>(repeat first | (with_reducible exact PtL.ni) | ((with_reducible apply PtL.co);exact rfl)));(case h0=>exact F.sl rfl);(case hS=>exact sK)
          clear F H hm
          intro s a w o p c p2 c2 F H hm
          revert F
          repeat first
           | (have HH:=H.x0 inferInstance;clear H;obtain ⟨i,H⟩:=HH)
           | (have HH:=H.x1 inferInstance;clear H;obtain ⟨i,H⟩:=HH)
           | (have HH:=H.x2 inferInstance;clear H;obtain ⟨i,H⟩:=HH)
           | (have HH:=H.o0 inferInstance;clear H;obtain ⟨i,rfl,H⟩:=HH)
           | (have HH:=H.o1 inferInstance;clear H;obtain ⟨i,rfl,H⟩:=HH)
           | (have HH:=H.o2 inferInstance;clear H;obtain ⟨i,rfl,H⟩:=HH)
           | (have HH:=H.o3 inferInstance;clear H;obtain ⟨i,rfl,H⟩:=HH)
           | (have HH:=H.o4 inferInstance;clear H;obtain ⟨i,rfl,H⟩:=HH)
          intro F)
       | ((with_reducible apply aLp);(with_reducible apply obE hm);intro x ex ho;(with_reducible apply xaM0 (l1:=HP.top::_) F H ex);(first | apply h0 | apply h1 | apply h2 | apply h3 | apply h4 | apply h5 | apply h6 | apply h7 | apply h8);(case hi=>exact rfl);(case hG=>exact inferInstance);(case h1=>exact rfl);(case hps=>(repeat first | (with_reducible exact PtL.ni) | ((with_reducible apply PtL.co);exact rfl)));(case h0=>exact F.sl rfl);(case hS=>exact sK)
          clear F H hm
          intro s vis a w hr F H
          revert F
          repeat first
           | (have HH:=H.x0 inferInstance;clear H;obtain ⟨i,H⟩:=HH)
           | (have HH:=H.x1 inferInstance;clear H;obtain ⟨i,H⟩:=HH)
           | (have HH:=H.x2 inferInstance;clear H;obtain ⟨i,H⟩:=HH)
           | (have HH:=H.o0 inferInstance;clear H;obtain ⟨i,rfl,H⟩:=HH)
           | (have HH:=H.o1 inferInstance;clear H;obtain ⟨i,rfl,H⟩:=HH)
           | (have HH:=H.o2 inferInstance;clear H;obtain ⟨i,rfl,H⟩:=HH)
           | (have HH:=H.o3 inferInstance;clear H;obtain ⟨i,rfl,H⟩:=HH)
           | (have HH:=H.o4 inferInstance;clear H;obtain ⟨i,rfl,H⟩:=HH)
          intro F)
       | ((with_reducible apply aLp);(with_reducible apply lB hm);intro x ex ho;(with_reducible apply xaM0 (l1:=HP.top::_) F H ex);(first | apply h0 | apply h1 | apply h2 | apply h3 | apply h4 | apply h5 | apply h6 | apply h7 | apply h8);(case hi=>exact rfl);(case hG=>exact inferInstance);(case h1=>exact rfl);(case hps=>(repeat first | (with_reducible exact PtL.ni) | ((with_reducible apply PtL.co);exact rfl)));(case h0=>exact F.sl rfl);(case hS=>exact sK)
          clear F H hm
          intro s vis a w hr F H
          revert F
          repeat first
           | (have HH:=H.x0 inferInstance;clear H;obtain ⟨i,H⟩:=HH)
           | (have HH:=H.x1 inferInstance;clear H;obtain ⟨i,H⟩:=HH)
           | (have HH:=H.x2 inferInstance;clear H;obtain ⟨i,H⟩:=HH)
           | (have HH:=H.o0 inferInstance;clear H;obtain ⟨i,rfl,H⟩:=HH)
           | (have HH:=H.o1 inferInstance;clear H;obtain ⟨i,rfl,H⟩:=HH)
           | (have HH:=H.o2 inferInstance;clear H;obtain ⟨i,rfl,H⟩:=HH)
           | (have HH:=H.o3 inferInstance;clear H;obtain ⟨i,rfl,H⟩:=HH)
           | (have HH:=H.o4 inferInstance;clear H;obtain ⟨i,rfl,H⟩:=HH)
          intro F)
       | ((with_reducible apply aLp);(with_reducible apply obE hm);intro x ex ho;(with_reducible apply xaM2 (l1:=HP.top::_) F H ex);(first | apply h0 | apply h1 | apply h2 | apply h3 | apply h4 | apply h5 | apply h6 | apply h7 | apply h8);(case hi=>exact rfl);(case hG=>exact inferInstance);(case h1=>exact rfl);(case hps=>(repeat first | (with_reducible exact PtL.ni) | ((with_reducible apply PtL.co);exact rfl)));(case h0=>exact F.sl rfl);(case hS=>exact sK)
          clear F H hm
          intro s vis a w p c hr F H
          revert F
          repeat first
           | (have HH:=H.x0 inferInstance;clear H;obtain ⟨i,H⟩:=HH)
           | (have HH:=H.x1 inferInstance;clear H;obtain ⟨i,H⟩:=HH)
           | (have HH:=H.x2 inferInstance;clear H;obtain ⟨i,H⟩:=HH)
           | (have HH:=H.o0 inferInstance;clear H;obtain ⟨i,rfl,H⟩:=HH)
           | (have HH:=H.o1 inferInstance;clear H;obtain ⟨i,rfl,H⟩:=HH)
           | (have HH:=H.o2 inferInstance;clear H;obtain ⟨i,rfl,H⟩:=HH)
           | (have HH:=H.o3 inferInstance;clear H;obtain ⟨i,rfl,H⟩:=HH)
           | (have HH:=H.o4 inferInstance;clear H;obtain ⟨i,rfl,H⟩:=HH)
          intro F)
       | ((with_reducible apply aLp);(with_reducible apply lB hm);intro x ex ho;(with_reducible apply xaM2 (l1:=HP.top::_) F H ex);(first | apply h0 | apply h1 | apply h2 | apply h3 | apply h4 | apply h5 | apply h6 | apply h7 | apply h8);(case hi=>exact rfl);(case hG=>exact inferInstance);(case h1=>exact rfl);(case hps=>(repeat first | (with_reducible exact PtL.ni) | ((with_reducible apply PtL.co);exact rfl)));(case h0=>exact F.sl rfl);(case hS=>exact sK)
          clear F H hm
          intro s vis a w p c hr F H
          revert F
          repeat first
           | (have HH:=H.x0 inferInstance;clear H;obtain ⟨i,H⟩:=HH)
           | (have HH:=H.x1 inferInstance;clear H;obtain ⟨i,H⟩:=HH)
           | (have HH:=H.x2 inferInstance;clear H;obtain ⟨i,H⟩:=HH)
           | (have HH:=H.o0 inferInstance;clear H;obtain ⟨i,rfl,H⟩:=HH)
           | (have HH:=H.o1 inferInstance;clear H;obtain ⟨i,rfl,H⟩:=HH)
           | (have HH:=H.o2 inferInstance;clear H;obtain ⟨i,rfl,H⟩:=HH)
           | (have HH:=H.o3 inferInstance;clear H;obtain ⟨i,rfl,H⟩:=HH)
           | (have HH:=H.o4 inferInstance;clear H;obtain ⟨i,rfl,H⟩:=HH)
          intro F)
       | ((with_reducible apply aRi);exact rfl;kernel_rfl;kernel_rfl)
       | ((with_reducible apply aRg);(with_reducible apply fC hm);clear hm;intro x ex hm;apply xG H ex
          exact inferInstance
          (with_reducible assumption)
          exact inferInstance
          exact inferInstance
          clear H;intro i H)
       | ((with_reducible apply aRg);(with_reducible apply fC hm);clear hm;intro x ex hm;apply vI H ex
          exact inferInstance
          exact inferInstance
          exact inferInstance
          clear H;intro b o i hp H)
       | ((with_reducible apply aRg);(with_reducible apply obE hm);intro y ey hm2;(with_reducible apply fC hm2);clear hm2 hm;intro x ex hm;apply xG H ex
          exact inferInstance
          (with_reducible assumption)
          exact inferInstance
          exact inferInstance
          clear H;intro i H)
       | ((with_reducible apply aRg);(with_reducible apply obE hm);intro y ey hm2;(with_reducible apply fC hm2);clear hm2 hm;intro x ex hm;apply vI H ex
          exact inferInstance
          exact inferInstance
          exact inferInstance
          clear H;intro b o i hp H)
       | ((with_reducible apply aRg);(with_reducible apply obsE hm);clear hm;intro x ex hm;apply aFj H ex;exact inferInstance;exact inferInstance;clear H;intro H)
       | ((with_reducible apply aRg);(with_reducible apply obE hm);intro y ey hm2;(with_reducible apply obsE hm2);clear hm2 hm;intro x ex hm;apply aFj H ex;exact inferInstance;exact inferInstance;clear H;intro H)
       | ((with_reducible apply aRg);(with_reducible apply fC hm);clear hm;intro x ex hm;apply tQ H ex;exact inferInstance;exact inferInstance;clear H;intro b i hp hc H)
       | ((with_reducible apply aRg);(with_reducible apply obE hm);intro y ey hm2;(with_reducible apply fC hm2);clear hm2 hm;intro x ex hm;apply tQ H ex;exact inferInstance;exact inferInstance;clear H;intro b i hp hc H)
       | ((with_reducible apply aRg);(with_reducible apply fC hm);clear hm;intro x ex hm;apply xH H ex;exact inferInstance;exact inferInstance;clear H;intro b css i hp hc H)
       | ((with_reducible apply aRg);(with_reducible apply obE hm);intro y ey hm2;(with_reducible apply fC hm2);clear hm2 hm;intro x ex hm;apply xH H ex;exact inferInstance;exact inferInstance;clear H;intro b css i hp hc H)
       | ((with_reducible apply aRs);exact rfl;(with_reducible apply splE hm);all_goals clear hm;all_goals intro hg hm)
       | ((with_reducible apply amx0 H);(first | apply h0 | apply h1 | apply h2 | apply h3 | apply h4 | apply h5 | apply h6 | apply h7 | apply h8)
          exact inferInstance
          kernel_rfl
          kernel_rfl
          clear H;intro w H)
       | ((with_reducible apply amx1 F H);(first | apply h0 | apply h1 | apply h2 | apply h3 | apply h4 | apply h5 | apply h6 | apply h7 | apply h8);exact rfl
          exact inferInstance
          exact inferInstance
          kernel_rfl
          kernel_rfl
          clear H;intro w H)
       | ((with_reducible apply amx2 F H);(first | apply h0 | apply h1 | apply h2 | apply h3 | apply h4 | apply h5 | apply h6 | apply h7 | apply h8);exact rfl;exact rfl
          exact inferInstance
          exact inferInstance
          exact inferInstance
          kernel_rfl
          kernel_rfl
          clear H;intro w H)
       | ((with_reducible apply qr H);kernel_rfl;kernel_rfl))
    | ((with_reducible apply psI);exact rfl;try (first | ((with_reducible apply fC hm);clear hm;intro x ex hm;apply xG H ex;exact inferInstance;(with_reducible assumption);exact inferInstance;exact inferInstance;clear H;intro i H) | ((with_reducible apply fC hm);clear hm;intro x ex hm;apply vI H ex;exact inferInstance;exact inferInstance;exact inferInstance;clear H;intro b o i hp H) | ((with_reducible apply fC hm);clear hm;intro x ex hm;apply tQ H ex;exact inferInstance;exact inferInstance;clear H;intro b i hp hc H) | ((with_reducible apply fC hm);clear hm;intro x ex hm;apply xH H ex;exact inferInstance;exact inferInstance;clear H;intro b css i hp hc H)))
    | ((with_reducible apply psC);exact rfl;try ((with_reducible apply obE hm);intro y ey hm2;(fail_if_success (with_reducible have:=tJ ey));clear hm;have hm:=hm2;clear hm2))
    | ((with_reducible apply psS);exact rfl;(try ((with_reducible apply splE hm);all_goals clear hm;all_goals intro hg hm)))
    | ((with_reducible apply psN);exact rfl;(with_reducible apply qr H);kernel_rfl;kernel_rfl)
    | ((with_reducible apply gsT F);exact rfl;(with_reducible assumption);clear F;intro F)
    | ((with_reducible apply gsF F);exact rfl;(with_reducible assumption);clear F;intro F)
    | ((with_reducible apply gnT F);exact rfl;(with_reducible assumption);clear F;intro F)
    | ((with_reducible apply gnF F);exact rfl;(with_reducible assumption);clear F;intro F)
    | ((with_reducible apply gvT F);exact rfl;(with_reducible assumption);clear F;intro F)
    | ((with_reducible apply gvF F);exact rfl;(with_reducible assumption);clear F;intro F)
    | ((with_reducible apply gsP F hm);exact rfl;all_goals clear F;all_goals intro hg hm F)
    | ((with_reducible apply gsN F hm);exact rfl;all_goals clear F;all_goals intro hg hm F)
    | ((with_reducible apply gsV F hm);exact rfl;all_goals clear F;all_goals intro hg hm F)
    | ((first | ((with_reducible apply eF F);exact rfl;exact rfl) | ((with_reducible apply aOo F);exact rfl;exact rfl;exact rfl) | ((with_reducible apply aIi F);exact rfl;exact rfl;exact rfl;exact rfl) | ((with_reducible apply aK4 F);exact rfl) | ((with_reducible apply aK6 F);exact rfl) | ((with_reducible apply sN F);exact rfl;focus (first | (apply art;exact rfl) | (apply arc H;exact rfl;exact inferInstance;exact inferInstance;exact rfl) | (apply lU H;exact rfl;exact inferInstance;exact inferInstance;exact inferInstance;exact rfl))) | ((with_reducible apply cG F);exact rfl;(focus (first | (apply art;exact rfl) | (apply arc H;exact rfl;exact inferInstance;exact inferInstance;exact rfl) | (apply lU H;exact rfl;exact inferInstance;exact inferInstance;exact inferInstance;exact rfl)));focus (first | (apply art;exact rfl) | (apply arc H;exact rfl;exact inferInstance;exact inferInstance;exact rfl) | (apply lU H;exact rfl;exact inferInstance;exact inferInstance;exact inferInstance;exact rfl))) | ((with_reducible apply jU F);exact rfl;(focus (first | (apply art;exact rfl) | (apply arc H;exact rfl;exact inferInstance;exact inferInstance;exact rfl) | (apply lU H;exact rfl;exact inferInstance;exact inferInstance;exact inferInstance;exact rfl)));(focus (first | (apply art;exact rfl) | (apply arc H;exact rfl;exact inferInstance;exact inferInstance;exact rfl) | (apply lU H;exact rfl;exact inferInstance;exact inferInstance;exact inferInstance;exact rfl)));focus (first | (apply art;exact rfl) | (apply arc H;exact rfl;exact inferInstance;exact inferInstance;exact rfl) | (apply lU H;exact rfl;exact inferInstance;exact inferInstance;exact inferInstance;exact rfl))));cases hm;
       (first | refine ⟨_,rfl,rfl,?_⟩ | refine ⟨_,rfl,_,rfl,?_⟩ | refine ⟨_,rfl,_,_,rfl,?_⟩ | refine ⟨_,rfl,_,_,_,rfl,?_⟩| refine ⟨_,rfl,_,_,_,_,rfl,?_⟩);
       apply Sel.st H
       exact sT)
    | (cases hm;refine ⟨_,rfl,?_⟩;(repeat apply Exists.intro);apply And.intro;exact F.sl rfl
       apply Sel.st H
       exact sT)
    | (cases hm;refine ⟨_,rfl,fun e=>?_⟩;cases e;have hm:=ho;clear ho)
    | (cases hm;refine ⟨_,_,hs _ rfl,?_⟩;(repeat apply Exists.intro);apply And.intro;exact F.sl rfl
       apply Sel.st H
       exact sT)
    | ((with_reducible apply aqC (l1:=HP.top::_) H)
       exact sK)
    | (cases hm;have hm:=hx _ rfl;clear hx hs)
    | (cases hm;have hm:=hz;clear hz)
    | (cases hm;have hm:=ho;clear ho)):X:=h f
end Go.Tri
