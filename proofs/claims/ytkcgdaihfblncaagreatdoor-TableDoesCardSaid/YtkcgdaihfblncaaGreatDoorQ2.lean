/- Texts A3. -/
import Derived.Test.YtkcgdaihfblncaaGreatDoorQ1
import Derived.Laws.OwnMore
set_option linter.unusedSimpArgs false
set_option linter.unusedVariables false
/- Data: what values read as,slices as lists,and models with faults. -/
namespace Go.Tri
open Go.RowKit
theorem ob {α β:Type} {o:Option α} {f:α->Option β} {r:β} (h:o.bind f=some r):∃ a,o=some a/\f a=some r:=by
 cases o with
 | none=>cases h
 | some a=>exact ⟨a,rfl,h⟩
theorem ifT {p:Prop} [Decidable p] {α:Type} {a b r:α} (h:p) (hm:(if p then a else b)=r):a=r:=by grind
theorem ifF {p:Prop} [Decidable p] {α:Type} {a b r:α} (h:¬ p) (hm:(if p then a else b)=r):b=r:=by grind
theorem nT {b:Bool} (h:b=false):¬ b=true:=by grind
def dH {σ ρ:Type} (f:σ->Option (σ ⊕ ρ)):Nat->σ->Option ρ
 | 0,_=>none
 | n+1,s=>(f s).bind fun o=>match o with | .inl s'=>dH f n s' | .inr r=>some r
theorem aAi {σ ρ:Type} {f:σ->Option (σ ⊕ ρ)}:∀ {n:Nat} {s:σ} {r:ρ},dH f n s=some r->∀ m,n<=m->dH f m s=some r
 | 0,_,_,h,_,_=>by cases h
 | n+1,s,r,h,m,hm=>by
  cases m with
  | zero=>omega
  | succ m =>
   simp only [dH] at h ⊢
   obtain ⟨o,ho,h⟩:=ob h
   rw [ho]
   cases o with
   | inl s'=>exact aAi (n:=n) h m (by omega)
   | inr r'=>exact h
open Classical in
noncomputable def aH {σ ρ:Type} (f:σ->Option (σ ⊕ ρ)) (s:σ):Option ρ :=
 (dH f 4096 s).or (if h:∃ n r,dH f n s=some r then dH f (Classical.choose h) s else none)
theorem vW {σ ρ:Type} {f:σ->Option (σ ⊕ ρ)} {n:Nat} {s:σ} {r:ρ} (h:dH f n s=some r):aH f s=some r:=by
 have hx:∃ n r,dH f n s=some r:=⟨n,r,h⟩
 have key:∀ m r',dH f m s=some r'->r'=r:=fun m r' hr'=>by grind [aAi]
 unfold aH
 rw [dif_pos hx]
 obtain ⟨r',hr'⟩:=Classical.choose_spec hx
 rw [hr',key _ _ hr']
 cases h4:dH f 4096 s with
 | none=>rfl
 | some r4=>rw [key _ _ h4];rfl
theorem sX {σ ρ:Type} {f:σ->Option (σ ⊕ ρ)} {s:σ} {r:ρ} (h:aH f s=some r):∃ n,dH f n s=some r:=by
 unfold aH at h
 cases h4:dH f 4096 s with
 | some r4=>rw [h4] at h;cases h;exact ⟨_,h4⟩
 | none =>
  split at h<;>grind
theorem dN {σ ρ:Type} (f:σ->Option (σ ⊕ ρ)) (s:σ):aH f s=(f s).bind fun o=>match o with | .inl s'=>aH f s' | .inr r=>some r:=by
 apply Option.ext
 intro r
 constructor
 ·intro h
  obtain ⟨n,hn⟩:=sX h
  cases n with
  | zero=>cases hn
  | succ n =>
   simp only [dH] at hn
   obtain ⟨o,ho,hn⟩:=ob hn
   rw [ho]
   cases o with
   | inl s'=>exact vW hn
   | inr r'=>exact hn
 ·intro h
  obtain ⟨o,ho,h⟩:=ob h
  cases o with
  | inl s' =>
   obtain ⟨n,hn⟩:=sX h
   exact vW (n:=n+1) (by simp only [dH,ho];exact hn)
  | inr r'=>exact vW (n:=1) (by simp only [dH,ho];exact h)
theorem jC {P:Program} {Q:Exit->Act->World->Prop} {a:Act} {w:World} {σ ρ:Type} {c:Code} (f:σ->Option (σ ⊕ ρ)) (I:σ->Act->World->Prop) {s0:σ} {r:ρ} (hr:aH f s0=some r) (h0:I s0 a w)
  (round:∀ s a w o,I s a w->f s=some o->c.wp P (Exit.then (fun a' w'=>∃ s',o=.inl s'/\I s' a' w') (fun e a' w'=>∃ r',o=.inr r'/\(r'=r->Q e a' w'))) a w):(Code.loop c).wp P Q a w:=by
 refine aBe (fun (g:σ×Nat) a w=>I g.1 a w/\dH f g.2 g.1=some r) (fun g=>g.2) (s0,Classical.choose (sX hr)) ⟨h0,Classical.choose_spec (sX hr)⟩ ?_
 rintro ⟨s,n⟩ a w ⟨hI,hn⟩
 cases n with
 | zero=>cases hn
 | succ n =>
  simp only [dH] at hn
  obtain ⟨o,ho,hn⟩:=ob hn
  refine wp_mono (round s a w o hI ho) fun e a' w' h=>?_
  cases e with
  | normal =>
   obtain ⟨s',rfl,hI'⟩:=h
   exact ⟨(s',n),⟨hI',hn⟩,Nat.lt_succ_self n⟩
  | _ =>
   obtain ⟨r',rfl,h⟩:=h
   exact h (Option.some.inj hn)
structure Rp (α:Type) where
 n:Nat
 rd:Base->List Value->α->Prop
 mono:∀ {B B':Base} {cs:List Value} {x:α},rd B cs x->B.le B'->rd B' cs x
 len:∀ {B:Base} {cs:List Value} {x:α},rd B cs x->cs.length=n
 flat:∀ {B:Base} {cs:List Value} {x:α},rd B cs x->Flat cs
def Rp.enc {α:Type} (n:Nat) (e:α->List Value) (hl:∀ x,(e x).length=n) (hf:∀ x,Flat (e x)):Rp α :=
 ⟨n,fun _ cs x=>cs=e x,fun h _=>h,fun h=>by rw [h];exact hl _,fun h=>by rw [h];exact hf _⟩
def rByte:Rp UInt8:=Rp.enc 1 (fun c=>[.int .u8 c.toNat]) (fun _=>rfl) (fun _ v hv=>by simp at hv;subst hv;rfl)
def dC (k:IntKind):Rp Int:=Rp.enc 1 (fun n=>[.int k n]) (fun _=>rfl) (fun _ v hv=>by simp at hv;subst hv;rfl)
def iW:Rp Bool:=Rp.enc 1 (fun n=>[.bool n]) (fun _=>rfl) (fun _ v hv=>by simp at hv;subst hv;rfl)
def rStr:Rp (List UInt8):=Rp.enc 1 (fun l=>[.string (txb l)]) (fun _=>rfl) (fun _ v hv=>by simp at hv;subst hv;rfl)
def aH4 (n:Nat):Rp (List UInt8):=⟨n,fun _ cs l=>cs=aQ l/\l.length=n,fun h _=>h,fun h=>by rw [h.1,aR];exact h.2,fun h=>by rw [h.1];exact wT _⟩
section
variable {α:Type}
def RdL (R:Rp α) (B:Base):List (List Value)->List α->Prop
 | [],[]=>True
 | c::cs,x::xs=>R.rd B c x/\RdL R B cs xs
 | _,_=>False
theorem RdL.mono {R:Rp α} {B B':Base} (hl:B.le B'):∀ {css:List (List Value)} {xs:List α},RdL R B css xs->RdL R B' css xs
 | [],[],_=>trivial
 | _::_,_::_,h=>⟨R.mono h.1 hl,RdL.mono hl h.2⟩
 | [],_::_,h=>h.elim
 | _::_,[],h=>h.elim
theorem RdL.len {R:Rp α} {B:Base}:∀ {css:List (List Value)} {xs:List α},RdL R B css xs->css.length=xs.length
 | [],[],_=>rfl
 | _::_,_::_,h=>by simp [RdL.len h.2]
 | [],_::_,h=>h.elim
 | _::_,[],h=>h.elim
theorem RdL.flen {R:Rp α} {B:Base}:∀ {css:List (List Value)} {xs:List α},RdL R B css xs->css.flatten.length=xs.length*R.n
 | [],[],_=>by simp
 | _::_,x::xs,h=>by simp only [List.flatten_cons,List.length_append,R.len h.1,RdL.flen h.2,List.length_cons,Nat.succ_mul];omega
 | [],_::_,h=>h.elim
 | _::_,[],h=>h.elim
theorem RdL.flat {R:Rp α} {B:Base}:∀ {css:List (List Value)} {xs:List α},RdL R B css xs->Flat css.flatten
 | [],[],_=>by intro v hv;grind
 | _::_,_::_,h=>by
  intro v hv
  simp only [List.flatten_cons,List.mem_append] at hv
  rcases hv with hv | hv
  ·exact R.flat h.1 v hv
  ·exact RdL.flat h.2 v hv
 | [],_::_,h=>h.elim
 | _::_,[],h=>h.elim
theorem RdL.append {R:Rp α} {B:Base}:∀ {css ds:List (List Value)} {xs ys:List α},RdL R B css xs->RdL R B ds ys->RdL R B (css++ds) (xs++ys)
 | [],_,[],_,_,k=>k
 | _::_,_,_::_,_,h,k=>⟨h.1,RdL.append h.2 k⟩
 | [],_,_::_,_,h,_=>h.elim
 | _::_,_,[],_,h,_=>h.elim
theorem RdL.at {R:Rp α} {B:Base}:∀ {css:List (List Value)} {xs:List α},RdL R B css xs->∀ {k:Nat} {x:α},xs[k]?=some x->∃ c,css[k]?=some c/\R.rd B c x
 | [],[],_,k,x,h=>by grind
 | c::_,y::_,h,0,x,hx=>by simp at hx;subst hx;exact ⟨c,rfl,h.1⟩
 | _::_,_::_,h,k+1,x,hx=>RdL.at h.2 (by grind)
 | [],_::_,h,_,_,_=>h.elim
 | _::_,[],h,_,_,_=>h.elim
theorem RdL.drop {R:Rp α} {B:Base}:∀ {css:List (List Value)} {xs:List α} (k:Nat),RdL R B css xs->RdL R B (css.drop k) (xs.drop k)
 | _,_,0,h=>h
 | [],[],_+1,_=>trivial
 | _::_,_::_,k+1,h=>RdL.drop k h.2
 | [],_::_,_+1,h=>h.elim
 | _::_,[],_+1,h=>h.elim
theorem RdL.take {R:Rp α} {B:Base}:∀ {css:List (List Value)} {xs:List α} (k:Nat),RdL R B css xs->RdL R B (css.take k) (xs.take k)
 | _,_,0,h=>trivial
 | [],[],_+1,_=>trivial
 | _::_,_::_,k+1,h=>⟨h.1,RdL.take k h.2⟩
 | [],_::_,_+1,h=>h.elim
 | _::_,[],_+1,h=>h.elim
theorem RdL.set {R:Rp α} {B:Base} {c:List Value} {x:α} (hc:R.rd B c x):∀ {css:List (List Value)} {xs:List α} (k:Nat),RdL R B css xs->RdL R B (css.set k c) (xs.set k x)
 | [],[],_,_=>trivial
 | _::_,_::_,0,h=>⟨hc,h.2⟩
 | _::_,_::_,k+1,h=>⟨h.1,RdL.set hc k h.2⟩
 | [],_::_,_,h=>h.elim
 | _::_,[],_,h=>h.elim
theorem nL {R:Rp α} {B:Base}:∀ {css:List (List Value)} {xs:List α} (k:Nat),RdL R B css xs->(css.drop k).flatten=css.flatten.drop (k*R.n)
 | _,_,0,h=>by simp
 | [],[],_+1,_=>by simp
 | c::cs,_::_,k+1,h=>by
  have hl:=R.len h.1
  simp only [List.drop_succ_cons,List.flatten_cons]
  rw [nL k h.2,Nat.succ_mul,Nat.add_comm,<- List.drop_drop,List.drop_left' hl]
 | [],_::_,_+1,h=>h.elim
 | _::_,[],_+1,h=>h.elim
theorem pK {R:Rp α} {B:Base}:∀ {css:List (List Value)} {xs:List α} (k:Nat),RdL R B css xs->(css.take k).flatten=css.flatten.take (k*R.n)
 | _,_,0,h=>by simp
 | [],[],_+1,_=>by simp
 | c::cs,_::_,k+1,h=>by
  have hl:=R.len h.1
  simp only [List.take_succ_cons,List.flatten_cons]
  rw [pK k h.2,Nat.succ_mul,List.take_append,hl,List.take_of_length_le (l:=c) (by omega),Nat.add_sub_cancel]
 | [],_::_,_+1,h=>h.elim
 | _::_,[],_+1,h=>h.elim
theorem wA {R:Rp α} {B:Base} {css:List (List Value)} {xs:List α} (h:RdL R B css xs) {k:Nat} {c:List Value} (hc:css[k]?=some c) (hn:c.length=R.n):(css.flatten.drop (k*R.n)).take R.n=c:=by
 rw [<- nL k h,List.drop_eq_getElem?_toList_append]
 grind
def Pers (A:HP):Prop:=∀ {B:Base} {w w':World} {S S':Nat->Prop},A.pr B w S->A.pr B w' S'
def HP.rc (R:Rp α) (cs:List Value) (x:α):HP:=HP.pe (fun B=>R.rd B cs x) (fun h hl=>R.mono h hl)
def HP.row (b off:Nat) (cs:List Value):HP :=
 ⟨fun B _ _=>∀ w,Sub B w->Row w b off cs,fun h _=>h,fun h hl w hw=>h w (hw.mono hl),some (b,off,cs),fun {_ _ _} e {_ _ _} hs h=>(by cases e;exact h _ hs),true,fun _ {_ _ _ _ _} h=>h⟩
def HP.sl (R:Rp α) (p:Option Addr) (cap:Nat) (xs:List α):HP :=
 HP.pe (fun B=>∃ css,RdL R B css xs/\∀ w,Sub B w->Sl w (.slice p xs.length cap) xs.length css.flatten)
  (fun ⟨css,h1,h2⟩ hl=>⟨css,h1.mono hl,fun w hw=>h2 w (hw.mono hl)⟩)
def HP.ow (R:Rp α) (e:TypeId) (p:Option Addr) (cap:Nat) (xs:List α):HP :=
 HP.of (fun B w S=>∃ css,RdL R B css xs/\(HP.own e R.n (.slice p xs.length cap) xs.length css.flatten).pr B w S)
  (fun ⟨css,h1,h2⟩ hS=>⟨css,h1,HP.loc _ h2 hS⟩)
  (fun ⟨css,h1,h2⟩ hl=>⟨css,h1.mono hl,HP.mono _ h2 hl⟩)
end
section
variable {α:Type} {R:Rp α} {w0 w:World} {l:List HP} {p:Option Addr} {cap:Nat} {xs:List α}
theorem St.cp (H:St w0 w l) (i:Nat) {A:HP} (hi:l[i]?=some A) (hA:Pers A):St w0 w (A::l) :=
 H.more fun B _ g=>hA (g i A hi).choose_spec
theorem St.mv (H:St w0 w l) (i:Nat) {A:HP} (hi:l[i]?=some A):St w0 w (A::l.eraseIdx i):=by
 obtain ⟨hv,B,f,hs,h1,h2,h3⟩:=H
 have hil:i<l.length:=(List.getElem?_eq_some_iff.1 hi).1
 let g:Nat->Nat:=fun k=>match k with | 0=>i | k+1=>if k<i then k else k+1
 have hlen:(l.eraseIdx i).length=l.length-1:=List.length_eraseIdx_of_lt hil
 have glt:∀ k,k<(A::l.eraseIdx i).length->g k<l.length:=by
  intro k hk
  simp only [List.length_cons,hlen] at hk
  cases k with
  | zero=>exact hil
  | succ k=>simp only [g];split<;>omega
 refine ⟨hv,B,fun k=>f (g k),hs,?_,?_,?_⟩
 ·intro k C hk
  refine h1 _ C ?_
  cases k with
  | zero=>simp at hk;subst hk;exact hi
  | succ k =>
   simp only [List.getElem?_cons_succ,List.getElem?_eraseIdx] at hk
   simp only [g]
   split at hk
   ·rename_i e;rw [if_pos e];exact hk
   ·rename_i e;rw [if_neg e];exact hk
 ·intro a b c ha hb hfa hfb
  have:=h2 _ _ c (glt a ha) (glt b hb) hfa hfb
  cases a with
  | zero =>
   cases b with
   | zero=>rfl
   | succ b=>simp only [g] at this;split at this<;>omega
  | succ a =>
   cases b with
   | zero=>simp only [g] at this;split at this<;>omega
   | succ b =>
    simp only [g] at this
    split at this<;>split at this<;>omega
 ·intro a b ha hf
  exact h3 _ b (glt a ha) hf
theorem St.dp (H:St w0 w l) (i:Nat) {A:HP} (hi:l[i]?=some A):St w0 w (l.eraseIdx i):=(H.mv i hi).tail
theorem Sl.rowAt {v:Value} {n:Nat} {cs:List Value} (h:Sl w v n cs) {c cap:Nat} (hv:v=.slice p n cap) (hn:0<n):∃ b off,p=some ⟨b,off,none⟩/\Row w b off cs:=by
 rcases h with ⟨rfl,rfl,_⟩ | ⟨a,cap,rfl,rfl,_⟩ | ⟨b,off,cap,rfl,_,hr⟩<;>grind
theorem St.slP (H:St w0 w l) (i:Nat) (hi:l[i]?=some (HP.sl R p cap xs)) {k:Nat} {x:α} (hx:xs[k]?=some x):∃ b off,p=some ⟨b,off,none⟩:=by
 obtain ⟨B,S,hs,⟨css,h1,h2⟩,_⟩:=H.get i hi
 have hk:=(List.getElem?_eq_some_iff.1 hx).1
 obtain ⟨b,off,hp,_⟩:=(h2 w hs).rowAt (c:=0) rfl (by omega)
 grind
theorem St.sE (H:St w0 w l) (i:Nat) (hi:l[i]?=some (HP.sl R p cap xs)) {b off:Nat} (hp:p=some ⟨b,off,none⟩) {k:Nat} {x:α} (hx:xs[k]?=some x):∃ cs,cs.length=R.n/\St w0 w (HP.row b (off+k*R.n) cs::HP.rc R cs x::l):=by
 obtain ⟨hv,B,f,hs,h1,h2,h3⟩:=H
 obtain ⟨css,c1,c2⟩:=h1 i _ hi
 obtain ⟨c,hc,hr⟩:=c1.at hx
 have hn:=R.len hr
 have hk:=(List.getElem?_eq_some_iff.1 hx).1
 have hrow:∀ w',Sub B w'->Row w' b (off+k*R.n) c:=by
  intro w' hw'
  obtain ⟨b',off',hp',hr'⟩:=(c2 w' hw').rowAt (c:=0) rfl (by omega)
  rw [hp] at hp';cases hp'
  have:=hr'.sub (k*R.n) R.n
  rw [wA c1 hc hn] at this;exact this
 refine ⟨c,hn,hv,B,fun i=>match i with | 0=>fun _=>False | 1=>fun _=>False | i+2=>f i,hs,?_,?_,?_⟩
 ·intro j C hj
  match j with
  | 0=>simp at hj;subst hj;exact hrow
  | 1=>simp at hj;subst hj;exact hr
  | j+2=>exact h1 j C (by simpa using hj)
 ·intro i j b hi hj hfi hfj
  match i,j with
  | 0,_=>exact hfi.elim
  | 1,_=>exact hfi.elim
  | _,0=>exact hfj.elim
  | _,1=>exact hfj.elim
  | i+2,j+2=>have:=h2 i j b (by simpa using hi) (by simpa using hj) hfi hfj;omega
 ·intro i b hi hf
  match i with
  | 0=>exact hf.elim
  | 1=>exact hf.elim
  | i+2=>exact h3 i b (by simpa using hi) hf
theorem St.rowAt (H:St w0 w l) (i:Nat) {b off:Nat} {cs:List Value} (hi:l[i]?=some (HP.row b off cs)):Row w b off cs:=by
 obtain ⟨B,S,hs,h1,_⟩:=H.get i hi;exact h1 w hs
theorem St.slCap (H:St w0 w l) (i:Nat) (hi:l[i]?=some (HP.sl R p cap xs)):xs.length<=cap:=by
 obtain ⟨B,S,hs,⟨css,h1,h2⟩,_⟩:=H.get i hi
 rcases h2 w hs with ⟨h,hn,_⟩ | ⟨a,c,h,hn,_⟩ | ⟨b,off,c,h,hc,_⟩<;>grind
theorem St.oN (H:St w0 w l) (R:Rp α) (e:TypeId):St w0 w (HP.ow R e none 0 []::l) :=
 H.more fun B _ _=>⟨[],trivial,World.ownsRow_nil w 0 e R.n,fun b hb=>by grind [Value.ownBlock]⟩
theorem St.frz (H:St w0 w l) (i:Nat) {e:TypeId} (hi:l[i]?=some (HP.ow R e p cap xs)):St w0 w (HP.sl R p cap xs::l.eraseIdx i) :=
 (H.mv i hi).freezeH fun {B B'} S ⟨css,h1,h2⟩ hle hw=>⟨css,h1.mono hle,fun w' hw'=>rQ (HP.loc _ h2 (fun b hb=>hw w' hw' b hb)).1⟩
theorem St.owForm (H:St w0 w l) (i:Nat) {e:TypeId} (hi:l[i]?=some (HP.ow R e p cap xs)):xs.length<=cap:=by
 obtain ⟨B,S,hs,⟨css,h1,⟨hl,⟨h,h'⟩ | ⟨g,cap',cur,h,_,_,hc,_⟩⟩,_⟩,_⟩:=H.get i hi<;>grind
end
def HP.rdl {α:Type} (R:Rp α) (css:List (List Value)) (xs:List α):HP:=HP.pe (fun B=>RdL R B css xs) (fun h hl=>h.mono hl)
def HP.slc (v:Value) (n:Nat) (cs:List Value):HP:=HP.pe (fun B=>∀ w,Sub B w->Sl w v n cs)
  (fun h hl w hw=>h w (hw.mono hl))
def StB (w0:World) (B:Base) (w:World) (l:List HP):Prop :=
 (w.os=w0.os/\w.tape=w0.tape/\w.output=w0.output/\w0.heap.size<=w.heap.size)/\Sub B w/\∃ f:Nat->Nat->Prop,(∀ (i:Nat) (A:HP),l[i]?=some A->A.pr B w (f i))/\(∀ i j b,i<l.length->j<l.length->f i b->f j b->i=j)/\(∀ i b,i<l.length->f i b->b<w.heap.size/\B b=none/\w0.heap.size<=b)
theorem St.out {w0 w:World} {l:List HP} (H:St w0 w l):∃ B,StB w0 B w l:=by obtain ⟨hv,B,f,hs,h1,h2,h3⟩:=H;exact ⟨B,hv,hs,f,h1,h2,h3⟩
theorem StB.st {w0 w:World} {B:Base} {l:List HP} (H:StB w0 B w l):St w0 w l:=by
 obtain ⟨hv,hs,f,h1,h2,h3⟩:=H;exact ⟨hv,B,f,hs,h1,h2,h3⟩
theorem StB.at {w0 w:World} {B:Base} {l:List HP} (H:StB w0 B w l) {i:Nat} {A:HP} (hi:l[i]?=some A):∃ S,A.pr B w S:=by
 obtain ⟨_,_,f,h1,_,_⟩:=H;exact ⟨_,h1 i A hi⟩
theorem StB.more {w0 w:World} {B:Base} {l:List HP} (H:StB w0 B w l) {A:HP} (hA:A.pr B w (fun _=>False)):StB w0 B w (A::l):=by
 obtain ⟨hv,hs,f,h1,h2,h3⟩:=H
 refine ⟨hv,hs,fun i=>match i with | 0=>fun _=>False | i+1=>f i,?_,?_,?_⟩
 ·grind
 ·intro i j b hi hj hfi hfj
  cases i with
  | zero=>exact hfi.elim
  | succ i =>
   cases j with
   | zero=>exact hfj.elim
   | succ j=>have:=h2 i j b (by grind) (by grind) hfi hfj;omega
 ·intro i b hi hf
  cases i with
  | zero=>exact hf.elim
  | succ i=>exact h3 i b (by grind) hf
theorem StB.set {w0 w:World} {B:Base} {l:List HP} (H:StB w0 B w l) (i:Nat) {A C:HP} (hi:l[i]?=some A) (hC:∀ S,A.pr B w S->C.pr B w S):StB w0 B w (l.set i C):=by
 obtain ⟨hv,hs,f,h1,h2,h3⟩:=H
 refine ⟨hv,hs,f,fun j E hj=>?_,by grind,by grind⟩
 grind
section
variable {α:Type} {R:Rp α} {w0 w:World} {l:List HP} {p q:Option Addr} {cap c2:Nat} {xs ys:List α} {e:TypeId}
theorem St.owOpen (H:St w0 w l) (i:Nat) (hi:l[i]?=some (HP.ow R e p cap xs)):∃ css,css.flatten.length=xs.length*R.n/\St w0 w (HP.rdl R css xs::l.set i (HP.own e R.n (.slice p xs.length cap) xs.length css.flatten)):=by
 obtain ⟨hv,B,f,hs,h1,h2,h3⟩:=H
 obtain ⟨css,c1,c2⟩:=h1 i _ hi
 refine ⟨css,c1.flen,StB.st (B:=B) (StB.more ⟨hv,hs,f,fun j E hj=>?_,by grind,by grind⟩ c1)⟩
 grind
theorem St.slOpen (H:St w0 w l) (i:Nat) (hi:l[i]?=some (HP.sl R p cap xs)):∃ css,css.flatten.length=xs.length*R.n/\Flat css.flatten/\St w0 w (HP.rdl R css xs::HP.slc (.slice p xs.length cap) xs.length css.flatten::l):=by
 obtain ⟨B,H⟩:=H.out
 obtain ⟨S,css,c1,c2⟩:=H.at hi
 exact ⟨css,c1.flen,c1.flat,((H.more (A:=HP.slc _ _ _) c2).more (A:=HP.rdl R css xs) c1).st⟩
def room (n m:Nat):Prop:=n+m<=274877906944
instance (n m:Nat):Decidable (room n m):=by unfold room;infer_instance
class Cap (α:Type) where
 cap:Nat
 le:274877906944<=cap
 lt:cap<=140737488355328
instance (priority:=low) capAny {α:Type}:Cap α:=⟨274877906944,Nat.le_refl _,by decide⟩
instance capByte:Cap UInt8:=⟨140737488355328,by decide,Nat.le_refl _⟩
def aL {α:Type} [Cap α] (xs ys:List α):Option (List α):=if xs.length+ys.length<=Cap.cap α then some (xs++ys) else none
theorem tJ [Cap α] {xs ys zs:List α} (h:aL xs ys=some zs):xs.length+ys.length<=Cap.cap α/\zs=xs++ys:=by grind [aL]
variable {P:Program} {t:TypeId} {bytes:Nat} {z:Value} {ops:Array Oper} {rest:List Oper} {o:Oper} {a:Act} {W:List Oper->Act->World->Prop} {N:Fs} {sl:List (Nat×Value)} {d:Nat}
theorem aP6 [Cap α] (H:St w0 w l) (i j:Nat) (hi:l[i]?=some (HP.ow R e p cap xs)) (hj:l[j]?=some (HP.sl R q c2 ys)) (hE:ElemT P t e R.n bytes z) (hb:Cap.cap α*bytes<=140737488355328) {zs:List α} (hz:aL xs ys=some zs) (ty:TypeId) :
  ∃ p' c' w',(Builtin.append_ #[t,t] ty #[.slice p xs.length cap,.slice q ys.length c2]).run P w=.ok (.slice p' zs.length c') w'/\St w0 w' (l.set i (HP.ow R e p' c' zs)):=by
 obtain ⟨hr,rfl⟩:=tJ hz
 have hil:i<l.length:=(List.getElem?_eq_some_iff.1 hi).1
 obtain ⟨ds,d1,d2,H1⟩:=H.slOpen j hj
 obtain ⟨css,c1,H2⟩:=H1.owOpen (i+2) (by simpa using hi)
 simp only [List.set_cons_succ] at H2
 have hset:∀ X:HP,(l.set i X)[i]?=some X:=fun X=>by simp [List.getElem?_set,hil]
 have hsrc:Sl w (.slice q ys.length c2) ys.length ds.flatten:=by
  obtain ⟨B,S,hs,h,_⟩:=H2.get 2 (A:=HP.slc (.slice q ys.length c2) ys.length ds.flatten) rfl;exact h w hs
 have hmul:(xs.length+ys.length)*bytes<=140737488355328:=Nat.le_trans (Nat.mul_le_mul_right _ hr) hb
 have hcl:=Cap.lt (α:=α)
 obtain ⟨v',w',hrun,H3⟩:=aAs (P:=P) (t:=t) (z:=z) H2 (i+3) (hset _) hE hsrc d1 d2 (by unfold maxLen;omega) (by omega) ty
 simp only [List.set_cons_succ,List.set_set] at H3
 obtain ⟨p',c',rfl,_,_⟩:=H3.ownForm (i+3) (hset _)
 refine ⟨p',c',w',by rw [hrun,List.length_append],?_⟩
 obtain ⟨B,H4⟩:=H3.out
 obtain ⟨_,r1⟩:=H4.at (i:=0) (A:=HP.rdl R css xs) rfl
 obtain ⟨_,r2⟩:=H4.at (i:=1) (A:=HP.rdl R ds ys) rfl
 have r3:RdL R B (css++ds) (xs++ys):=RdL.append r1 r2
 have H5:=(H4.set (i+3) (C:=HP.ow R e p' c' (xs++ys)) (hset _) fun S h=>⟨css++ds,r3,by rw [List.flatten_append,List.length_append];exact h⟩).st
 simp only [List.set_cons_succ,List.set_set] at H5
 exact H5.tail.tail.tail
theorem cE [Cap α] (k:bN P ops W) (F:Fr N a sl) (hg:o.guard=none) (hd:o.dst=some d) (hN:Nat.blt d N.n=true) {s x:Operand} (ho:o.op=.call { callee:=.builtin .append,args:=#[s,x],argTypes:=#[t,t] })
  (hs:ev sl s=some (.slice p xs.length cap)) (hx:ev sl x=some (.slice q ys.length c2)) (hE:ElemT P t e R.n bytes z) (hb:Nat.ble (Cap.cap α*bytes) 140737488355328=true) {zs:List α} (hz:aL xs ys=some zs)
  (H:St w0 w l) (i j:Nat) (hi:l[i]?=some (HP.ow R e p cap xs)) (hj:l[j]?=some (HP.sl R q c2 ys))
  (hk:∀ p' c' w' a',St w0 w' (l.set i (HP.ow R e p' c' zs))->Fr N a' ((d,.slice p' zs.length c')::sl)->W rest a' w'):W (o::rest) a w:=by
 obtain ⟨p',c',w',hr,hS⟩:=aP6 H i j hi hj hE (Nat.le_of_ble_eq_true hb) hz o.type
 refine bD (w':=w') k F hg hd hN (by rw [ho];rfl) ?_ (fun a' F'=>hk p' c' w' a' hS F')
 unfold execOp
 simp [ho,resolve,invoke,builtin,F.eval hs,F.eval hx,hr]
end
def aD {α:Type} (xs:List α) (i:Int):Option α:=if 0<=i then xs[i.toNat]? else none
theorem eR {α:Type} {xs:List α} {i:Int} {x:α} (h:aD xs i=some x):0<=i/\xs[i.toNat]?=some x:=by grind [aD]
def aY {α:Type} (xs:List α) (i j:Int):Option (List α):=if 0<=i/\i<=j/\j<=xs.length then some ((xs.take j.toNat).drop i.toNat) else none
theorem gD {α:Type} {xs ys:List α} {i j:Int} (h:aY xs i j=some ys):(0<=i/\i<=j/\j<=xs.length)/\ys=(xs.take j.toNat).drop i.toNat/\ys.length=j.toNat-i.toNat:=by grind [aY]
def mkO {α:Type} (n:Int) (z:α):Option (List α):=if 0<=n/\n<=274877906944 then some (List.replicate n.toNat z) else none
structure ArrT (P:Program) (t e:TypeId) (n size:Nat):Prop where
 ht:P.underlying t=some (.array n e)
 hi:(P.info? e).map (fun i=>i.size)=some size
theorem ArrT.run_size {P:Program} {t e:TypeId} {n size:Nat} (h:ArrT P t e n size) (w:World):(sizeOf e).run P w=.ok size w:=by
 have:=h.hi
 cases hi:P.info? e with
 | none=>rw [hi] at this;cases this
 | some d =>
  rw [hi] at this
  simp at this
  simp [sizeOf,typeInfo,hi,this]
def shp (p:Option Addr) (cap i size:Nat):Option Addr:=if cap=i then p else p.map (·.add (i*size))
section
variable {α:Type} {R:Rp α} {P:Program} {o:Oper} {a:Act} {w0 w:World} {N:Fs} {sl:List (Nat×Value)} {x y:Operand} {t e:TypeId} {l:List HP} {p:Option Addr} {cap:Nat} {xs:List α} {size bytes:Nat} {z0:Value} {k k':IntKind}
theorem dW (F:Fr N a sl) (hE:ElemT P t e size bytes z0) (ho:o.op=.indexAddr t x y) {b off:Nat} {i:Int} {u:α} (hx:ev sl x=some (.slice p xs.length cap)) (hy:ev sl y=some (.int k i)) (hp:p=some ⟨b,off,none⟩) (h:aD xs i=some u) :
  (execOp a.eval o).run P w=.ok (.value (.pointer (some ⟨b,off+i.toNat*size,none⟩))) w:=by
 subst hp
 obtain ⟨h0,h1⟩:=eR h
 have:(Instr.indexAt t (.slice (some ⟨b,off,none⟩) xs.length cap) (.int k i)).run P w=.ok (.pointer (some ⟨b,off+i.toNat*size,none⟩)) w:=by
  unfold Instr.indexAt
  simp [asIntOf,Go.run_underlying hE.ht,hE.run_size,dQ]
  grind
 unfold execOp
 simp [ho,F.eval hx,F.eval hy,this]
theorem oI (F:Fr N a sl) {n:Nat} (hA:ArrT P t e n size) (ho:o.op=.indexAddr t x y) {b off:Nat} {i:Int} {u:α} (hx:ev sl x=some (.pointer (some ⟨b,off,none⟩))) (hy:ev sl y=some (.int k i)) (h:aD xs i=some u) (hn:xs.length=n) :
  (execOp a.eval o).run P w=.ok (.value (.pointer (some ⟨b,off+i.toNat*size,none⟩))) w:=by
 obtain ⟨h0,h1⟩:=eR h
 have h2:=(List.getElem?_eq_some_iff.1 h1).1
 have:(Instr.indexAt t (.pointer (some ⟨b,off,none⟩)) (.int k i)).run P w=.ok (.pointer (some ⟨b,off+i.toNat*size,none⟩)) w:=by
  unfold Instr.indexAt
  simp [asIntOf,Go.run_underlying hA.ht,Instr.sureAddr]
  rw [if_pos (by omega)]
  simp [Sem.run_bind,hA.run_size,dQ]
 unfold execOp
 simp [ho,F.eval hx,F.eval hy,this]
theorem kF {i:Int} {n:Nat} {c:BoundsCode} (h0:0<=i) (h:i<=n):(Instr.sliceBound (.int k i) n c).run P w=.ok i.toNat w:=by
 unfold Instr.sliceBound;simp [asIntOf,h0,h]
theorem uY {lo hi:Option Value} {i j:Nat} (hE:ElemT P t e size bytes z0) {n:Nat} (hb:(Instr.sliceBounds true n cap lo hi none).run P w=.ok (i,j,cap) w) :
  (Instr.sliceAt t (.slice p n cap) lo hi none).run P w=.ok (.slice (shp p cap i size) (j-i) (cap-i)) w:=by
 unfold Instr.sliceAt
 rw [Sem.run_bind,Go.run_underlying hE.ht]
 simp only [Result.andThen_ok]
 unfold Instr.slice
 rw [Sem.run_bind,Go.run_underlying hE.ht]
 simp only [Result.andThen_ok]
 rw [Sem.run_bind,hb]
 simp only [Result.andThen_ok]
 rw [Sem.run_bind,hE.run_size]
 simp [shp]
theorem yU (F:Fr N a sl) (hE:ElemT P t e size bytes z0) {lo hi:Operand} (ho:o.op=.slice t x (some lo) (some hi) none) {i j:Int} {zs:List α} (hx:ev sl x=some (.slice p xs.length cap)) (hl:ev sl lo=some (.int k i)) (hh:ev sl hi=some (.int k' j)) (hz:aY xs i j=some zs) (hc:xs.length<=cap) :
  (execOp a.eval o).run P w=.ok (.value (.slice (shp p cap i.toNat size) zs.length (cap-i.toNat))) w:=by
 obtain ⟨h1,_,h2⟩:=gD hz
 have hb:(Instr.sliceBounds true xs.length cap (some (.int k i)) (some (.int k' j)) none).run P w=.ok (i.toNat,j.toNat,cap) w:=by
  unfold Instr.sliceBounds
  simp [kF (show 0<=j by omega) (show j<=cap by omega),kF (show 0<=i by omega) (show i<=((j.toNat:Nat):Int) by omega)]
 unfold execOp
 rw [h2]
 simp [ho,F.eval hx,F.eval hl,F.eval hh,uY (p:=p) hE hb]
theorem iS (F:Fr N a sl) (hE:ElemT P t e size bytes z0) {lo:Operand} (ho:o.op=.slice t x (some lo) none none) {i:Int} {zs:List α} (hx:ev sl x=some (.slice p xs.length cap)) (hl:ev sl lo=some (.int k i)) (hz:aY xs i xs.length=some zs) (hc:xs.length<=cap) :
  (execOp a.eval o).run P w=.ok (.value (.slice (shp p cap i.toNat size) zs.length (cap-i.toNat))) w:=by
 obtain ⟨h1,_,h2⟩:=gD hz
 have hb:(Instr.sliceBounds true xs.length cap (some (.int k i)) none none).run P w=.ok (i.toNat,xs.length,cap) w:=by
  simp_all [Instr.sliceBounds,kF]
 unfold execOp
 rw [h2]
 simp [ho,F.eval hx,F.eval hl,uY (p:=p) hE hb]
theorem nI (F:Fr N a sl) (hE:ElemT P t e size bytes z0) {hi:Operand} (ho:o.op=.slice t x none (some hi) none) {j:Int} {zs:List α} (hx:ev sl x=some (.slice p xs.length cap)) (hh:ev sl hi=some (.int k j)) (hz:aY xs 0 j=some zs) (hc:xs.length<=cap) :
  (execOp a.eval o).run P w=.ok (.value (.slice (shp p cap 0 size) zs.length (cap-0))) w:=by
 obtain ⟨h1,_,h2⟩:=gD hz
 have hb:(Instr.sliceBounds true xs.length cap none (some (.int k j)) none).run P w=.ok (0,j.toNat,cap) w:=by
  unfold Instr.sliceBounds
  simp [kF (show 0<=j by omega) (show j<=cap by omega)]
 unfold execOp
 rw [h2]
 simp [ho,F.eval hx,F.eval hh,uY (p:=p) hE hb]
theorem Sl.sub {v:Value} {cs:List Value} {n i j:Nat} (h:Sl w (.slice p n cap) n cs) (hij:i<=j) (hj:j<=n) (hl:cs.length=n*size):Sl w (.slice (shp p cap i size) (j-i) (cap-i)) (j-i) ((cs.take (j*size)).drop (i*size)):=by
 rcases h with ⟨h,hn,hc⟩ | ⟨ad,c,h,hn,hc⟩ | ⟨b,off,c,h,hc,hr⟩
 ·cases h
  have:j-i=0:=by omega
  rw [this]
  refine .inl ⟨?_,rfl,by rw [hc];simp⟩
  unfold shp;simp
 ·cases h
  have:j-i=0:=by omega
  rw [this]
  refine .inr (.inl ?_)
  unfold shp
  split
  ·exact ⟨ad,_,rfl,rfl,by rw [hc];simp⟩
  ·exact ⟨_,_,rfl,rfl,by rw [hc];simp⟩
 ·cases h
  by_cases e0:j-i=0
  ·rw [e0]
   refine .inr (.inl ?_)
   have ed:(cs.take (j*size)).drop (i*size)=[]:=by
    have:j=i:=by omega
    subst this
    apply List.eq_nil_of_length_eq_zero;simp
   unfold shp
   split
   ·exact ⟨_,_,rfl,rfl,ed⟩
   ·exact ⟨_,_,rfl,rfl,ed⟩
  ·refine .inr (.inr ⟨b,off+i*size,cap-i,?_,by omega,?_⟩)
   ·unfold shp;rw [if_neg (by omega)];simp [dQ]
   ·have:=hr.sub (i*size) (j*size-i*size)
    rw [List.drop_take];exact this
theorem St.sU (H:St w0 w l) (n:Nat) (hn:l[n]?=some (HP.sl R p cap xs)) {i j:Int} {zs:List α} (hz:aY xs i j=some zs):St w0 w (HP.sl R (shp p cap i.toNat R.n) (cap-i.toNat) zs::l):=by
 obtain ⟨B,H⟩:=H.out
 obtain ⟨S,css,c1,c2⟩:=H.at hn
 obtain ⟨h1,rfl,h2⟩:=gD hz
 refine (H.more (A:=HP.sl R _ _ _) ⟨(css.take j.toNat).drop i.toNat,(c1.take _).drop _,fun w hw=>?_⟩).st
 rw [nL _ (c1.take _),pK _ c1,h2]
 exact (c2 w hw).sub (v:=.nilFunc) (by omega) (by omega) c1.flen
end
def xP (k:IntKind) (x y:Int):Int:=k.wrap (((BitVec.ofInt k.bits x &&& BitVec.ofInt k.bits y).toNat:Nat):Int)
def orI (k:IntKind) (x y:Int):Int:=k.wrap (((BitVec.ofInt k.bits x ||| BitVec.ofInt k.bits y).toNat:Nat):Int)
def rG (k:IntKind) (x y:Int):Int:=k.wrap (((BitVec.ofInt k.bits x ^^^ BitVec.ofInt k.bits y).toNat:Nat):Int)
def yW (k:IntKind) (x:Int):Int:=rG k (if k.signed then -1 else k.max) x
def oO (k:IntKind) (x n:Int):Int:=k.wrap (x*2 ^ min n.toNat k.bits)
def cL (k:IntKind) (x n:Int):Int:=x.fdiv (2 ^ min n.toNat k.bits)
def qW (k:IntKind) (x n:Int):Option Int:=if 0<=n then some (oO k x n) else none
def eG (k:IntKind) (x n:Int):Option Int:=if 0<=n then some (cL k x n) else none
def kN (k:IntKind) (x y:Int):Option Int:=if y=0 then none else some (k.wrap (x.tdiv y))
def mA (x y:Int):Option Int:=if y=0 then none else some (x.tmod y)
section
variable {P:Program} {o:Oper} {a:Act} {w:World} {N:Fs} {l:List (Nat×Value)} {x y:Operand} {t t':TypeId} {k k':IntKind} {m n r:Int}
theorem i_add (F:Fr N a l) (ho:o.op=.binOp .add t x y t') (hx:ev l x=some (.int k m)) (hy:ev l y=some (.int k n)):(execOp a.eval o).run P w=.ok (.value (.int k (k.wrap (m+n)))) w:=by grind [tO]
theorem i_sub (F:Fr N a l) (ho:o.op=.binOp .sub t x y t') (hx:ev l x=some (.int k m)) (hy:ev l y=some (.int k n)):(execOp a.eval o).run P w=.ok (.value (.int k (k.wrap (m-n)))) w:=by grind [y_sub]
theorem i_mul (F:Fr N a l) (ho:o.op=.binOp .mul t x y t') (hx:ev l x=some (.int k m)) (hy:ev l y=some (.int k n)):(execOp a.eval o).run P w=.ok (.value (.int k (k.wrap (m*n)))) w:=by grind [y_mul]
theorem i_and (F:Fr N a l) (ho:o.op=.binOp .and t x y t') (hx:ev l x=some (.int k m)) (hy:ev l y=some (.int k n)):(execOp a.eval o).run P w=.ok (.value (.int k (xP k m n))) w:=by
 unfold execOp;simp [ho,F.eval hx,F.eval hy,eqGuard,binOp,Op.intBits,xP]
theorem i_or (F:Fr N a l) (ho:o.op=.binOp .or t x y t') (hx:ev l x=some (.int k m)) (hy:ev l y=some (.int k n)):(execOp a.eval o).run P w=.ok (.value (.int k (orI k m n))) w:=by
 unfold execOp;simp [ho,F.eval hx,F.eval hy,eqGuard,binOp,Op.intBits,orI]
theorem i_xor (F:Fr N a l) (ho:o.op=.binOp .xor t x y t') (hx:ev l x=some (.int k m)) (hy:ev l y=some (.int k n)):(execOp a.eval o).run P w=.ok (.value (.int k (rG k m n))) w:=by
 unfold execOp;simp [ho,F.eval hx,F.eval hy,eqGuard,binOp,Op.intBits,rG]
theorem i_not (F:Fr N a l) (ho:o.op=.unOp .xor t x) (hx:ev l x=some (.int k m)):(execOp a.eval o).run P w=.ok (.value (.int k (yW k m))) w:=by
 have h1:(Op.unary .xor (.int k m)).run P w=.ok (.int k (yW k m)) w:=rfl
 unfold execOp;simp [ho,F.eval hx,h1]
theorem i_neg (F:Fr N a l) (ho:o.op=.unOp .neg t x) (hx:ev l x=some (.int k m)):(execOp a.eval o).run P w=.ok (.value (.int k (k.wrap (0-m)))) w:=by
 have h1:(Op.unary .neg (.int k m)).run P w=.ok (.int k (k.wrap (0-m))) w:=rfl
 unfold execOp;simp [ho,F.eval hx,h1]
theorem aBc (F:Fr N a l) (ho:o.op=.binOp .shl t x y t') (hx:ev l x=some (.int k m)) (hy:ev l y=some (.int k' n)) (hn:0<=n):(execOp a.eval o).run P w=.ok (.value (.int k (oO k m n))) w:=by
 unfold execOp
 have h0:¬ n<0:=by omega
 simp [ho,F.eval hx,F.eval hy,eqGuard,binOp,Op.shift,h0,oO]
theorem aD6 (F:Fr N a l) (ho:o.op=.binOp .shr t x y t') (hx:ev l x=some (.int k m)) (hy:ev l y=some (.int k' n)) (hn:0<=n):(execOp a.eval o).run P w=.ok (.value (.int k (cL k m n))) w:=by
 unfold execOp
 have h0:¬ n<0:=by omega
 simp [ho,F.eval hx,F.eval hy,eqGuard,binOp,Op.shift,h0,cL]
theorem aJi (h:qW k m n=some r):0<=n/\r=oO k m n:=by grind [qW]
theorem aKg (h:eG k m n=some r):0<=n/\r=cL k m n:=by grind [eG]
theorem aIc (F:Fr N a l) (ho:o.op=.binOp .shl t x y t') (hx:ev l x=some (.int k m)) (hy:ev l y=some (.int k' n)) (h:qW k m n=some r):(execOp a.eval o).run P w=.ok (.value (.int k r)) w:=by
 obtain ⟨h0,rfl⟩:=aJi h;exact aBc F ho hx hy h0
theorem aJe (F:Fr N a l) (ho:o.op=.binOp .shr t x y t') (hx:ev l x=some (.int k m)) (hy:ev l y=some (.int k' n)) (h:eG k m n=some r):(execOp a.eval o).run P w=.ok (.value (.int k r)) w:=by
 obtain ⟨h0,rfl⟩:=aKg h;exact aD6 F ho hx hy h0
theorem aHf (F:Fr N a l) (ho:o.op=.binOp .quo t x y t') (hx:ev l x=some (.int k m)) (hy:ev l y=some (.int k n)) (h:kN k m n=some r):(execOp a.eval o).run P w=.ok (.value (.int k r)) w:=by
 unfold kN at h
 split at h
 ·grind
 ·rename_i h0;cases h
  unfold execOp
  simp [ho,F.eval hx,F.eval hy,eqGuard,binOp,Op.intDiv,h0]
theorem aHb (F:Fr N a l) (ho:o.op=.binOp .rem t x y t') (hx:ev l x=some (.int k m)) (hy:ev l y=some (.int k n)) (h:mA m n=some r):(execOp a.eval o).run P w=.ok (.value (.int k r)) w:=by
 unfold mA at h
 split at h
 ·grind
 ·rename_i h0;cases h
  unfold execOp
  simp [ho,F.eval hx,F.eval hy,eqGuard,binOp,Op.intDiv,h0]
theorem aKd {k₀:IntKind} (F:Fr N a l) {d:TypeDesc} (hs:P.underlying t=some d) (hd:P.underlying t'=some (.int k)) (ho:o.op=.convert t t' x) (hx:ev l x=some (.int k₀ m)) (hr:k.wrap m=r):(execOp a.eval o).run P w=.ok (.value (.int k r)) w:=by
 unfold execOp
 simp only [ho,F.eval hx]
 have:(convert t t' (.int k₀ m)).run P w=.ok (.int k r) w:=by
  unfold convert
  simp_all [Go.Tri.run_underlying,Conv.intToInt]
 simp_all
theorem aDm (F:Fr N a l) (ht:P.underlying t=some (.int k)) (ht':P.underlying t'=some (.int k')) (ho:o.op=.convert t t' x) (hx:ev l x=some (.int k m)):(execOp a.eval o).run P w=.ok (.value (.int k' (k'.wrap m))) w:=by grind [aKd]
end
def aDz (k:IntKind) (xs:List Int):List Value:=xs.map (Value.int k)
theorem bA (k:IntKind) (xs:List Int):(aDz k xs).length=xs.length:=by simp [aDz]
def u8 (n:Int):UInt8:=UInt8.ofNat n.toNat
def u8O (n:Int):Option UInt8:=if 0<=n/\n<256 then some (u8 n) else none
theorem cP {n:Int} {c:UInt8} (h:u8O n=some c):((c.toNat:Nat):Int)=n:=by
 unfold u8O at h;split at h
 ·rename_i h0;cases h;unfold u8;simp;omega
 grind
def rSl {α:Type} (R:Rp α):Rp (List α):=⟨1,fun B cs xs=>∃ p cap,cs=[.slice p xs.length cap]/\(HP.sl R p cap xs).pr B default (fun _=>False),fun ⟨p,cap,h,k⟩ hl=>⟨p,cap,h,HP.mono _ k hl⟩,fun ⟨p,cap,h,k⟩=>by rw [h];rfl,fun ⟨p,cap,h,k⟩=>by rw [h];intro v hv;simp at hv;subst hv;rfl⟩
def bP {α β:Type} (R:Rp α) (Q:Rp β):Rp (α×β):=⟨R.n+Q.n,fun B cs x=>∃ c d,cs=c++d/\R.rd B c x.1/\Q.rd B d x.2,fun ⟨c,d,h,h1,h2⟩ hl=>⟨c,d,h,R.mono h1 hl,Q.mono h2 hl⟩,fun ⟨c,d,h,h1,h2⟩=>by rw [h,List.length_append,R.len h1,Q.len h2],fun ⟨c,d,h,h1,h2⟩=>by
 rw [h];intro v hv
 rcases List.mem_append.1 hv with hv | hv
 ·exact R.flat h1 v hv
 ·exact Q.flat h2 v hv⟩
section
variable {α β:Type} {R:Rp α} {Q:Rp β} {w0 w:World} {l:List HP}
theorem St.rcPair (H:St w0 w l) (i:Nat) {cs:List Value} {x:α×β} (hi:l[i]?=some (HP.rc (bP R Q) cs x)):∃ c d,cs=c++d/\St w0 w (HP.rc R c x.1::HP.rc Q d x.2::l):=by
 obtain ⟨B,H⟩:=H.out
 obtain ⟨S,c,d,h,h1,h2⟩:=H.at hi
 exact ⟨c,d,h,((H.more (A:=HP.rc Q d x.2) h2).more (A:=HP.rc R c x.1) h1).st⟩
theorem St.rcSl (H:St w0 w l) (i:Nat) {cs:List Value} {x:List α} (hi:l[i]?=some (HP.rc (rSl R) cs x)):∃ p cap,cs=[.slice p x.length cap]/\St w0 w (HP.sl R p cap x::l):=by
 obtain ⟨B,H⟩:=H.out
 obtain ⟨S,p,cap,h,h1⟩:=H.at hi
 exact ⟨p,cap,h,(H.more (A:=HP.sl R p cap x) h1).st⟩
theorem St.rcI (H:St w0 w l) (i:Nat) {k:IntKind} {cs:List Value} {x:Int} (hi:l[i]?=some (HP.rc (dC k) cs x)):cs=[.int k x]:=by
 obtain ⟨_,S,_,h,_⟩:=H.get i hi;exact h
theorem St.rcB (H:St w0 w l) (i:Nat) {cs:List Value} {x:UInt8} (hi:l[i]?=some (HP.rc rByte cs x)):cs=[.int .u8 x.toNat]:=by
 obtain ⟨_,S,_,h,_⟩:=H.get i hi;exact h
theorem St.rB (H:St w0 w l) (i:Nat) {cs:List Value} {x:Bool} (hi:l[i]?=some (HP.rc iW cs x)):cs=[.bool x]:=by
 obtain ⟨_,S,_,h,_⟩:=H.get i hi;exact h
theorem St.rS (H:St w0 w l) (i:Nat) {cs:List Value} {x:List UInt8} (hi:l[i]?=some (HP.rc rStr cs x)):cs=[.string (txb x)]:=by
 obtain ⟨_,S,_,h,_⟩:=H.get i hi;exact h
theorem St.blkOw (H:St w0 w l) (i:Nat) {b:Nat} {cs:List Value} {e:TypeId} (hi:l[i]?=some (HP.blk b cs e)) {xs:List α} (hx:∀ {B:Base},(∀ (j:Nat) (C:HP),l[j]?=some C->∃ S,C.pr B w S)->∃ css,css.flatten=cs/\RdL R B css xs) (hm:xs.length<=1000000) :
  St w0 w (l.set i (HP.ow R e (some ⟨b,0,none⟩) xs.length xs)):=by
 obtain ⟨B,H⟩:=H.out
 obtain ⟨css,hc,hr⟩:=hx (B:=B) fun j C hj=>H.at hj
 refine (H.set i (C:=HP.ow R e (some ⟨b,0,none⟩) xs.length xs) hi fun S h=>⟨css,hr,⟨hr.flen,.inr ⟨b,xs.length,cs.toArray,rfl,Nat.zero_le _,h.1,Nat.le_refl _,by unfold maxLen;omega,?_,?_⟩⟩,fun g hg=>by simp [Value.ownBlock] at hg;subst hg;exact h.2⟩).st
 ·rw [<- hc];simp [hr.flen]
 ·show List.take _ cs=_;rw [<- hc,<- hr.flen,List.take_length]
theorem St.bO {b:Nat} {cs:List Value} {e:TypeId} {x:α} (H:St w0 w (HP.blk b cs e::l)) (hx:∀ {B:Base},(∀ (j:Nat) (C:HP),(HP.blk b cs e::l)[j]?=some C->∃ S,C.pr B w S)->R.rd B cs x) :
  St w0 w (HP.ow R e (some ⟨b,0,none⟩) ([x]).length ([x])::l) :=
 St.blkOw (R:=R) (xs:=[x]) H 0 rfl (fun gg=>⟨[cs],by simp,hx gg,trivial⟩) (by simp)
end
theorem vV {α β γ:Type} {f:α->Option γ} {g:β->Option γ} {x:α} {r:γ} (h:Sum.elim f g (.inl x)=some r):f x=some r:=h
theorem cC {α β γ:Type} {f:α->Option γ} {g:β->Option γ} {x:β} {r:γ} (h:Sum.elim f g (.inr x)=some r):g x=some r:=h
theorem fQ {P:Program} {x:Code} {Q:Exit->Act->World->Prop} {a:Act} {w:World} (M:Act->World->Prop) (hx:x.wp P (Exit.then M Q) a w) (hy:∀ a w,M a w->Q .normal a w):x.wp P Q a w :=
 wp_mono hx fun e a w h=>by cases e<;>first | exact hy a w h | exact h
section
variable {w0 w:World} {ls:List HP} {b off:Nat} {A X C cs:List Value} {n:Nat} {v:Value}
theorem eM (h:Row w b off cs) {j:Nat} (hj:cs[j]?=some v):w.cell? ⟨b,off+j,none⟩=some v:=h j v hj
theorem iL (h:Row w b off (A++(X++C))) (hA:A.length=n):Row w b (off+n) X:=by have:=h.right.left;grind
theorem lW (h:Row w b off (A++X)) (hA:A.length=n):Row w b (off+n) X:=by have:=h.right;grind
variable {P:Program} {t:TypeId} {ops:Array Oper} {rest:List Oper} {o:Oper} {a:Act} {W:List Oper->Act->World->Prop} {N:Fs} {l:List (Nat×Value)} {d:Nat} {x y:Operand}
theorem aPu {m:Nat} {zz:List Value} (k:bN P ops W) (F:Fr N a l) (hg:o.guard=none) (hd:o.dst=none) (hA:AggT P t m zz) (ho:o.op=.store t x y) {b q:Nat} (hx:ev l x=some (.pointer (some ⟨b,q,none⟩))) {old cs:List Value} {u:TypeId} (hy:ev l y=some (.agg cs.toArray))
  (H:St w0 w ls) (i:Nat) (hi:ls[i]?=some (HP.blk b old u)) (he:old=A++(X++C)) (hq:A.length=q) (hX:X.length=m) (hn:cs.length=m) (hf:Flat cs)
  (hk:∀ w',St w0 w' (ls.set i (HP.blk b (A++(cs++C)) u))->W rest a w'):W (o::rest) a w:=by
 subst he
 have e:(A++(X++C)).take q++cs++(A++(X++C)).drop (q+m)=A++(cs++C):=by grind [List.drop_left]
 refine fF k F hg hd (by rw [ho];rfl) (wZ F hA ho hx hy (H.blk i hi) hn (by grind) hf) ?_
 rw [e]
 exact hk _ (H.setBlk i hi _)
end
section
variable {P:Program} {fn:Func} {Q:Ending->World->Prop} {a:Act} {w0 w:World} {N:Nat} {l:List (Nat×Value)} {ls:List HP}
end
section
variable {α:Type} {R:Rp α} {w0 w:World} {l:List HP} {p:Option Addr} {cap:Nat} {xs:List α} {e:TypeId}
theorem St.owP (H:St w0 w l) (i:Nat) (hi:l[i]?=some (HP.ow R e p cap xs)) {k:Nat} {x:α} (hx:xs[k]?=some x):∃ b,p=some ⟨b,0,none⟩:=by
 obtain ⟨B,S,hs,⟨css,h1,⟨hl,⟨h,h'⟩ | ⟨g,cap',cur,h,_⟩⟩,_⟩,_⟩:=H.get i hi<;>grind
end
theorem St.keep {w0 w:World} {l:List HP} (n m:Nat) (H:St w0 w l):St w0 w (l.take n++l.drop (n+m)):=by
 obtain ⟨hv,B,f,hs,h1,h2,h3⟩:=H
 let g:Nat->Nat:=fun k=>if k<min n l.length then k else k-min n l.length+(n+m)
 have key:∀ k A,(l.take n++l.drop (n+m))[k]?=some A->l[g k]?=some A:=by
  grind
 have glt:∀ k,k<(l.take n++l.drop (n+m)).length->g k<l.length:=by
  grind
 refine ⟨hv,B,fun k=>f (g k),hs,fun k A hk=>h1 _ A (key k A hk),?_,fun i b hi hf=>h3 _ b (glt i hi) hf⟩
 grind
section
variable {α:Type} {R:Rp α} {P:Program} {w0 w:World} {ls:List HP} {t e:TypeId} {ops:Array Oper} {rest:List Oper} {o:Oper} {a:Act} {W:List Oper->Act->World->Prop} {N:Fs} {l:List (Nat×Value)} {d:Nat} {x y:Operand} {v:Value}
theorem jI (k:bN P ops W) (F:Fr N a l) (hg:o.guard=none) (hd:o.dst=some d) (hN:Nat.blt d N.n=true) {bytes:Nat} {z0:Value} (hE:ElemT P t e R.n bytes z0) (ho:o.op=.buildSlice t 0 #[]) (H:St w0 w ls)
  (hk:∀ b w' a',St w0 w' (HP.ow R e (some ⟨b,0,none⟩) 0 []::ls)->Fr N a' ((d,.slice (some ⟨b,0,none⟩) 0 0)::l)->W rest a' w'):W (o::rest) a w :=
 bD k F hg hd hN (by rw [ho];rfl) (aD3 F hE ho) fun a' F'=>hk _ _ a' ((H.ownNew e R.n).conv fun S h=>⟨[],trivial,h⟩) F'
theorem gK (B:Base):∀ xs:List UInt8,RdL rByte B (xs.map fun c=>[Value.int .u8 c.toNat]) xs
 | []=>trivial
 | _::xs=>⟨rfl,gK B xs⟩
theorem qL (xs:List UInt8):(xs.map fun c=>[Value.int .u8 c.toNat]).flatten=aQ xs:=by
 induction xs with
 | nil=>rfl
 | cons c xs ih=>simp only [List.map_cons,List.flatten_cons,ih];rfl
theorem gA {B:Base} {css:List (List Value)}:∀ {xs:List UInt8},RdL rByte B css xs->css.flatten=aQ xs:=by
 induction css with
 | nil=>intro xs h;cases xs with | nil=>rfl | cons _ _=>exact h.elim
 | cons c css ih =>
  intro xs h
  cases xs with
  | nil=>exact h.elim
  | cons x xs =>
   have h1:c=[.int .u8 x.toNat]:=h.1
   rw [List.flatten_cons,ih h.2,h1];rfl
def putAt {α:Type} (xs:List α) (d:Nat) (src:List α):List α:=xs.take d++src++xs.drop (d+src.length)
theorem qU (xs:List α) (d:Nat) (src:List α) (h:d+src.length<=xs.length):(putAt xs d src).length=xs.length:=by grind [putAt]
theorem aNx {b off n i size:Nat} (h:n≠i):shp (some ⟨b,off,none⟩) n i size=some ⟨b,off+i*size,none⟩:=by grind [shp,dQ]
theorem aIq {t' ty:TypeId} {bytes:Nat} {z:Value} (hE:ElemT P t e 1 bytes z) {b d dn dc m:Nat} {old cs:List Value} {u:TypeId} (hb:Blk w b old u) {p2:Option Addr} {c2:Nat} (hs:Sl w (.slice p2 m c2) m cs) (hm:cs.length=m) (hd:d+dn<=old.length) (hf:Flat cs) :
  (Builtin.copy_ #[t,t'] ty #[.slice (some ⟨b,d,none⟩) dn dc,.slice p2 m c2]).run P w=.ok (.int .i64 ((min m dn:Nat):Int)) (w.setRow b (old.take d++cs.take dn++old.drop (d+(cs.take dn).length)).toArray):=by
 have hlen:(cs.take dn).length=min m dn:=by rw [List.length_take,hm,Nat.min_comm]
 have hfl:Flat (cs.take dn):=fun v hv=>hf v (List.mem_of_mem_take hv)
 have hst:(storeCells ⟨b,d,none⟩ (cs.take dn)).run P w=.ok () (w.setRow b (old.take d++cs.take dn++old.drop (d+(cs.take dn).length)).toArray):=by
  have e1:=run_storeCells_at (P:=P) b d u (cs.take dn) 0 old.toArray w hb (by simp only [List.size_toArray,hlen];omega) hfl
  simpa using e1
 have hfc:(Builtin.firstCells 1 (Nat.min m dn) (.slice p2 m c2)).run P w=.ok (cs.take dn).toArray w:=by
  rcases hs with ⟨h,h0,hc⟩ | ⟨ad,c,h,h0,hc⟩ | ⟨g,off,c,h,hc,hr⟩
  ·cases h;subst hc;simp [Builtin.firstCells]
  ·cases h
   subst hc
   have:=run_firstCells_some (P:=P) (w:=w) 1 0 ad 0 c2 [] rfl (by simp)
   simpa using this
  ·cases h
   refine run_firstCells_some (P:=P) (w:=w) 1 _ ⟨g,off,none⟩ m c2 (cs.take dn) (by rw [hlen];simp) ?_
   intro j v hj
   rw [dQ]
   refine hr j v ?_
   rw [List.getElem?_take] at hj
   split at hj
   ·exact hj
   ·cases hj
 unfold Builtin.copy_
 simp [Go.run_underlying hE.ht,Builtin.lenOf,hE.run_size,hfc,hst,goInt]
end
section
variable {P:Program} {ops:Array Oper} {rest:List Oper} {o:Oper} {a:Act} {w:World} {W:List Oper->Act->World->Prop} {N:Fs} {l:List (Nat×Value)} {d:Nat} {C:World->Prop} {Q:Act->Prop}
theorem aJd {bb:Bool} {g s:Nat} {og:Oper} (F:Fr N a l) (hgd:o.guard=some (g,bb)) (hog:ops[g]?=some og) (hog2:og.dst=some s) (hv:lk s l=some undef):Region.wanted o (yielded ops a.tmps)=false:=by
 have h1:=F.get s _ hv
 simp [Region.wanted,hgd,yielded,hog,hog2,h1,undef]
variable {t t' e:TypeId} {x y:Operand}
theorem aH2 {op:BinOp} (h:P.underlying t=some (.slice e)) (w:World) (x y:Operand) (hop:op=.eql\/op=.neq):(do eqGuard op t x y (.slice none 0 0) (.slice none 0 0);binOp op t (.slice none 0 0) (.slice none 0 0)).run P w=.ok (.bool (op==.eql)) w:=by
 have h1:∀ d:Nat,(Op.equalIn (d+1) t (.slice none 0 0) (.slice none 0 0)).run P w=.ok true w:=fun d=>by
  unfold Op.equalIn;rw [Sem.run_bind,Go.Tri.run_underlying h];rfl
 have h2:=h1 9999
 rcases hop with rfl | rfl
 ·have h3:(eqGuard .eql t x y (.slice none 0 0) (.slice none 0 0)).run P w=.ok () w:=rfl
  rw [Sem.run_bind,h3]
  simp only [Result.andThen_ok,binOp,Op.equal,Op.maxDepth]
  rw [Sem.run_bind,h2];rfl
 ·have h3:(eqGuard .neq t x y (.slice none 0 0) (.slice none 0 0)).run P w=.ok () w:=rfl
  rw [Sem.run_bind,h3]
  simp only [Result.andThen_ok,binOp,Op.equal,Op.maxDepth]
  rw [Sem.run_bind,h2];rfl
theorem aOm {op:BinOp} (h:P.underlying t=some (.slice e)) (w:World) (x y:Operand) (ad:Addr) (n c:Nat) (hop:op=.eql\/op=.neq):(do eqGuard op t x y (.slice (some ad) n c) (.slice none 0 0);binOp op t (.slice (some ad) n c) (.slice none 0 0)).run P w=.ok (.bool (op==.neq)) w:=by
 have h1:∀ d:Nat,(Op.equalIn (d+1) t (.slice (some ad) n c) (.slice none 0 0)).run P w=.ok false w:=fun d=>by
  unfold Op.equalIn;rw [Sem.run_bind,Go.Tri.run_underlying h];rfl
 have h2:=h1 9999
 rcases hop with rfl | rfl
 ·have h3:(eqGuard .eql t x y (.slice (some ad) n c) (.slice none 0 0)).run P w=.ok () w:=rfl
  rw [Sem.run_bind,h3]
  simp only [Result.andThen_ok,binOp,Op.equal,Op.maxDepth]
  rw [Sem.run_bind,h2];rfl
 ·have h3:(eqGuard .neq t x y (.slice (some ad) n c) (.slice none 0 0)).run P w=.ok () w:=rfl
  rw [Sem.run_bind,h3]
  simp only [Result.andThen_ok,binOp,Op.equal,Op.maxDepth]
  rw [Sem.run_bind,h2];rfl
theorem aDp {op:BinOp} (F:Fr N a l) (ho:o.op=.binOp op t x y t') (h:P.underlying t=some (.slice e)) (hx:ev l x=some (.slice none 0 0)) (hy:ev l y=some (.slice none 0 0)) (hop:op=.eql\/op=.neq):(execOp a.eval o).run P w=.ok (.value (.bool (op==.eql))) w:=by grind [aCg,aH2]
theorem aE1 {op:BinOp} (F:Fr N a l) (ho:o.op=.binOp op t x y t') (h:P.underlying t=some (.slice e)) {ad:Addr} {n c:Nat} (hx:ev l x=some (.slice (some ad) n c)) (hy:ev l y=some (.slice none 0 0)) (hop:op=.eql\/op=.neq):(execOp a.eval o).run P w=.ok (.value (.bool (op==.neq))) w:=by grind [aCg,aOm]
structure KeyA (P:Program) (t:TypeId) (n:Nat):Prop where
 key:P.keyTypeAt 3 t=true
 grd:P.eqGuardType P.depth t=false
 ex:∃ e,P.underlying t=some (.array n e)/\P.underlying e=some (.int .u8)/\P.cellsOf e=1
 sz:P.cellsOf t=n
 form:∀ l:List UInt8,l.length=n->(Value.agg (aQ l).toArray).formed P t=true
theorem KeyA.run {n:Nat} (h:KeyA P t n) {u v:List UInt8} (hu:u.length=n) (hv:v.length=n) (w:World) (x y:Operand) :
  (do eqGuard .eql t x y (.agg (aQ u).toArray) (.agg (aQ v).toArray);binOp .eql t (.agg (aQ u).toArray) (.agg (aQ v).toArray)).run P w=.ok (.bool (decide (u=v))) w /\
  (do eqGuard .neq t x y (.agg (aQ u).toArray) (.agg (aQ v).toArray);binOp .neq t (.agg (aQ u).toArray) (.agg (aQ v).toArray)).run P w=.ok (.bool (!decide (u=v))) w:=by
 obtain ⟨e,h1,h2,h3⟩:=h.ex
 exact aJ6 (m:=3) (by simp) h.key (h.form u hu) (h.form v hv) (aC6 h1 h2 h3 h.sz 1 u hu) (aC6 h1 h2 h3 h.sz 1 v hv) h.grd w x y (decide (u=v)) (by
  rw [decide_eq_true_eq]
  exact ⟨fun hh=>by grind,fun hh=>zN _ _ hh⟩)
theorem yL (F:Fr N a l) {k:IntKind} {m n r:Int} {ts:Array TypeId} (ho:o.op=.call { callee:=.builtin .max,args:=#[x,y],argTypes:=ts }) (hx:ev l x=some (.int k m)) (hy:ev l y=some (.int k n)) (hr:max m n=r):(execOp a.eval o).run P w=.ok (.value (.int k r)) w:=by
 have e:(if n > m then n else m)=r:=by grind
 unfold execOp;simp [ho,resolve,invoke,builtin,F.eval hx,F.eval hy,Builtin.max_,Builtin.max2];exact e
theorem zJ (F:Fr N a l) {k:IntKind} {m n r:Int} {ts:Array TypeId} (ho:o.op=.call { callee:=.builtin .min,args:=#[x,y],argTypes:=ts }) (hx:ev l x=some (.int k m)) (hy:ev l y=some (.int k n)) (hr:min m n=r):(execOp a.eval o).run P w=.ok (.value (.int k r)) w:=by
 have e:(if n<m then n else m)=r:=by grind
 unfold execOp;simp [ho,resolve,invoke,builtin,F.eval hx,F.eval hy,Builtin.min_,Builtin.min2];exact e
theorem aAe (F:Fr N a l) {f:FuncId} {g:Operand} {xs:List Operand} {ts:Array TypeId} (ho:o.op=.call { callee:=.value g,args:=xs.toArray,argTypes:=ts }) (hg:ev l g=some (.func (.func f) #[] #[])) {vs:List Value} (hv:evs l xs=some vs)
  (he:∀ args w,(callFunc f args).run P w=.ok (.enter f args) w):(execOp a.eval o).run P w=.ok (.enter f vs.toArray) w:=by
 have:=F.evals hv
 unfold execOp
 simp [ho,resolve,F.eval hg,Deferred.ofValue,invoke,he,this]
theorem KeyA.make {n e:Nat} (h1:P.keyTypeAt 3 t=true) (h2:P.eqGuardType P.depth t=false) (h3:P.underlying t=some (.array n e)) (h4:P.underlying e=some (.int .u8)) (h5:P.cellsOf e=1) (h6:P.cellsOf t=n) (hc:(P.info? t).map (·.size)=some n):KeyA P t n :=
 ⟨h1,h2,⟨e,h3,h4,h5⟩,h6,fun l hl=>by grind [Value.formed,aR]⟩
end
section
variable {α:Type} {R:Rp α} {w0 w:World} {l:List HP} {p:Option Addr} {cap:Nat} {xs:List α} {e:TypeId}
theorem St.slNone (H:St w0 w l) (i:Nat) (hi:l[i]?=some (HP.sl R none cap xs)):xs=[]/\cap=0:=by
 obtain ⟨B,S,hs,⟨css,h1,h2⟩,_⟩:=H.get i hi
 rcases h2 w hs with ⟨h,hn,_⟩ | ⟨a,c,h,hn,_⟩ | ⟨b,off,c,h,hc,_⟩<;>grind
def HP.ox (R:Rp α) (e:TypeId) (p:Option Addr) (cap:Nat) (css:List (List Value)) (xs:List α):HP :=
 HP.of (fun B w S=>RdL R B css xs/\(HP.own e R.n (.slice p xs.length cap) xs.length css.flatten).pr B w S)
  (fun ⟨h1,h2⟩ hS=>⟨h1,HP.loc _ h2 hS⟩)
  (fun ⟨h1,h2⟩ hl=>⟨h1.mono hl,HP.mono _ h2 hl⟩)
theorem St.oxOpen (H:St w0 w l) (i:Nat) (hi:l[i]?=some (HP.ow R e p cap xs)):∃ css,St w0 w (l.set i (HP.ox R e p cap css xs)):=by
 obtain ⟨hv,B,f,hs,h1,h2,h3⟩:=H
 obtain ⟨css,c1,c2⟩:=h1 i _ hi
 have hil:i<l.length:=(List.getElem?_eq_some_iff.1 hi).1
 refine ⟨css,StB.st (B:=B) ⟨hv,hs,f,fun j E hj=>?_,by simpa using h2,by simpa using h3⟩⟩
 rw [List.getElem?_set] at hj
 by_cases ee:i=j
 ·subst ee;rw [if_pos rfl,if_pos hil] at hj;cases hj;exact ⟨c1,c2⟩
 grind
theorem St.oxShut (H:St w0 w l) (i:Nat) {css:List (List Value)} (hi:l[i]?=some (HP.ox R e p cap css xs)):St w0 w (l.set i (HP.ow R e p cap xs)) :=
 H.convAt i hi fun S h=>⟨css,h.1,h.2⟩
theorem St.oxEl (H:St w0 w l) (i:Nat) {css:List (List Value)} (hi:l[i]?=some (HP.ox R e p cap css xs)) {k:Nat} {x:α} (hx:xs[k]?=some x):∃ c,css[k]?=some c/\c.length=R.n/\St w0 w (HP.rc R c x::l):=by
 obtain ⟨B,H⟩:=H.out
 obtain ⟨S,c1,c2⟩:=H.at hi
 obtain ⟨c,hc,hr⟩:=c1.at hx
 exact ⟨c,hc,R.len hr,(H.more (A:=HP.rc R c x) hr).st⟩
theorem St.oxRow (H:St w0 w l) (i:Nat) {css:List (List Value)} (hi:l[i]?=some (HP.ox R e p cap css xs)) {b:Nat} (hp:p=some ⟨b,0,none⟩) {k:Nat} {c:List Value} (hc:css[k]?=some c) (hn:c.length=R.n):Row w b (0+k*R.n) c:=by
 obtain ⟨B,S,hs,⟨h1,h2⟩,_⟩:=H.get i hi
 have hk:=(List.getElem?_eq_some_iff.1 hc).1
 rw [h1.len] at hk
 obtain ⟨b',off',hp',hr'⟩:=(rQ h2.1).rowAt (c:=0) rfl (by omega)
 rw [hp] at hp';cases hp'
 have:=hr'.sub (k*R.n) R.n
 rw [wA h1 hc hn] at this
 exact this
variable {P:Program} {t:TypeId} {ops:Array Oper} {rest:List Oper} {o:Oper} {a:Act} {W:List Oper->Act->World->Prop} {N:Fs} {sl:List (Nat×Value)} {d:Nat} {x y:Operand}
theorem s_mkO (k:bN P ops W) (F:Fr N a sl) (hg:o.guard=none) (hd:o.dst=some d) (hN:Nat.blt d N.n=true) {bytes:Nat} {z0:Value} (hE:ElemT P t e 1 bytes z0) (hR:R.n=1) (hb:Nat.ble bytes 512=true) (hz1:z0.cells=#[z0]) (ho:o.op=.makeSlice t x y) {q q':IntKind} {n:Int} (hx:ev sl x=some (.int q n)) (hy:ev sl y=some (.int q' n)) {z:α} (hz:∀ B,R.rd B [z0] z) {zs:List α} (hm:mkO n z=some zs) (H:St w0 w l)
  (hk:∀ b w' a',St w0 w' (HP.ow R e (some ⟨b,0,none⟩) zs.length zs::l)->Fr N a' ((d,.slice (some ⟨b,0,none⟩) zs.length zs.length)::sl)->W rest a' w'):W (o::rest) a w:=by
 unfold mkO at hm
 split at hm
 ·rename_i hn
  cases hm
  have hb':=Nat.le_of_ble_eq_true hb
  obtain ⟨j,hj,hz0,hs1,hs2⟩:=info_parts hE.hi
  have hmul:j.bytes*n.toNat<=512*274877906944:=by rw [hs2];exact Nat.mul_le_mul hb' (by omega)
  obtain ⟨w',hr,how,hgr⟩:=run_make_full (P:=P) w w.heap.size t e j z0 1 hE.ht hj hz0 hs1 q q' n.toNat (by omega) (by unfold maxLen;omega) (Nat.le_refl _)
  have hc:(madeCells z0.cells (n.toNat*1)).toList=(List.replicate n.toNat [z0]).flatten:=by
   rw [hz1]
   apply List.ext_getElem
   ·simp [madeCells]
   ·intro i h1 h2;simp [madeCells,Nat.mod_one]
  have hrd:∀ (B:Base) (m:Nat),RdL R B (List.replicate m [z0]) (List.replicate m z):=by
   intro B m
   induction m with
   | zero=>trivial
   | succ m ih=>exact ⟨hz B,ih⟩
  have hnn:((n.toNat:Nat):Int)=n:=by omega
  rw [hnn] at hr
  have hS:St w0 w' (HP.ow R e (some ⟨w.heap.size,0,none⟩) n.toNat (List.replicate n.toNat z)::l):=by
   have H1:=H.oN R e
   have H2:=H1.upd (w':=w') 0 rfl (A':=HP.ow R e (some ⟨w.heap.size,0,none⟩) n.toNat (List.replicate n.toNat z)) (fun {B} S hA hS=>⟨fun b=>b=w.heap.size,⟨_,hrd B _,by
    rw [List.length_replicate,hR]
    refine ⟨?_,fun b hb=>by simp [Value.ownBlock] at hb;exact hb.symm⟩
    rw [<- hc]
    obtain ⟨h1,h2⟩:=how
    refine ⟨h1,?_⟩
    rcases h2 with h | ⟨g,cp,cur,hv,hbb,hrest⟩
    ·cases h.1
    ·exact .inr ⟨g,cp,cur,hv,Nat.zero_le _,hrest⟩⟩,fun b hb=>.inr (by omega),fun b hb=>by subst hb;exact (how.lt _ rfl).2,fun b hb _=>hgr.block b hb (by simp)⟩) hgr.os hgr.tape hgr.output hgr.size
   exact H2
  refine bD (v:=.slice (some ⟨w.heap.size,0,none⟩) n.toNat n.toNat) (w':=w') k F hg hd hN (by rw [ho];rfl) ?_ fun a' F'=>hk _ w' a' (by rw [List.length_replicate];exact hS) (by rw [List.length_replicate];exact F')
  unfold execOp
  simp [ho,F.eval hx,F.eval hy,hr]
 ·cases hm
end
section
variable {α:Type} {R:Rp α} {w0 w:World} {ls:List HP} {p:Option Addr} {cap:Nat} {xs:List α} {e:TypeId} {P:Program} {t:TypeId} {ops:Array Oper} {rest:List Oper} {o:Oper} {a:Act} {W:List Oper->Act->World->Prop} {N:Fs} {l:List (Nat×Value)} {x y:Operand}
theorem yR {B:Base} {c:List Value}:∀ {css:List (List Value)} {xs:List α} (k:Nat),RdL R B css xs->c.length=R.n->k<css.length->(css.set k c).flatten=css.flatten.take (k*R.n)++c++css.flatten.drop (k*R.n+R.n)
 | [],[],_,_,_,hk=>by simp at hk
 | d::ds,_::_,0,h,hc,_=>by
  have hl:=R.len h.1
  grind
 | d::ds,_::_,k+1,h,hc,hk=>by
  have hl:=R.len h.1
  have ih:=yR k h.2 hc (by simpa using hk)
  have e1:(k+1)*R.n=R.n+k*R.n:=by grind
  grind [List.drop_drop]
 | [],_::_,_,h,_,_=>h.elim
 | _::_,[],_,h,_,_=>h.elim
theorem StB.chg {w':World} {B:Base} {A A':HP} {g:Nat} (H:StB w0 B w ls) (i:Nat) (hi:ls[i]?=some A) (hg:∀ S,A.pr B w S->S g) (hc:Chg g w w') (hA:∀ S,A.pr B w S->A'.pr B w' S):StB w0 B w' (ls.set i A'):=by
 obtain ⟨hv,hs,f,h1,h2,h3⟩:=H
 have hil:i<ls.length:=(List.getElem?_eq_some_iff.1 hi).1
 have hgi:=hg _ (h1 i A hi)
 refine ⟨⟨hc.os.trans hv.1,hc.tape.trans hv.2.1,hc.output.trans hv.2.2.1,by rw [hc.size];exact hv.2.2.2⟩,?_,f,?_,by simpa using h2,fun j b hj hf=>?_⟩
 ·intro k o hk
  rw [hc.oth k (fun e=>by subst e;rw [(h3 i _ hil hgi).2.1] at hk;cases hk)];exact hs k o hk
 ·intro j C hj
  rw [List.getElem?_set] at hj
  by_cases e:i=j
  ·subst e;rw [if_pos rfl,if_pos hil] at hj;cases hj;exact hA _ (h1 i A hi)
  ·rw [if_neg e] at hj
   have hjl:=(List.getElem?_eq_some_iff.1 hj).1
   exact C.loc (h1 j C hj) fun b hb=>hc.oth b fun e2=>e (by subst e2;exact h2 i j _ hil hjl hgi hb)
 ·rw [List.length_set] at hj
  rw [hc.size];exact h3 j b hj hf
theorem St.owPut (H:St w0 w ls) (i:Nat) (hi:ls[i]?=some (HP.ow R e p cap xs)) {b:Nat} (hp:p=some ⟨b,0,none⟩) {k:Nat} (hk:k<xs.length) {c:List Value} {z:α} (hz:∀ {B:Base},(∀ (j:Nat) (C:HP),ls[j]?=some C->∃ S,C.pr B w S)->R.rd B c z) :
  ∃ cur:List Value,Blk w b cur e/\k*R.n+R.n<=cur.length/\St w0 (w.setRow b (cur.take (k*R.n)++c++cur.drop (k*R.n+R.n)).toArray) (ls.set i (HP.ow R e p cap (xs.set k z))):=by
 obtain ⟨B,H⟩:=H.out
 have hzB:=hz (B:=B) fun j C hj=>H.at hj
 have hcn:=R.len hzB
 obtain ⟨S0,css0,c0,⟨hl0,⟨h,h'⟩ | ⟨g,cap',cur,h,hb0,hg,hnc,hm,hsz,ht⟩⟩,hS⟩:=H.at hi
 ·omega
 ·cases h
  cases hp
  have hb:Blk w b cur.toList e:=by unfold Blk;simpa using hg
  have hmul:(k+1)*R.n<=xs.length*R.n:=Nat.mul_le_mul_right _ hk
  have hmul2:xs.length*R.n<=cap*R.n:=Nat.mul_le_mul_right _ hnc
  have hkk:(k+1)*R.n=k*R.n+R.n:=Nat.succ_mul k R.n
  have hsz':cur.toList.length=cap*R.n:=by simpa using hsz
  refine ⟨cur.toList,hb,by omega,(H.chg (A':=HP.ow R e (some ⟨b,0,none⟩) cap (xs.set k z)) i hi (g:=b) (fun S hA=>by obtain ⟨_,_,_,h⟩:=hA;exact h b rfl) (Chg.setRow w b _) (fun S hA=>?_)).st⟩
  have hSb:S b:=by obtain ⟨_,_,_,h⟩:=hA;exact h b rfl
  have hcl:css0.length=xs.length:=c0.len
  refine ⟨css0.set k c,RdL.set hzB k c0,⟨?_,.inr ⟨b,cap,_,by rw [List.length_set],Nat.zero_le _,hb.set_same _,by rw [List.length_set];exact hnc,hm,?_,?_⟩⟩,fun b' hb'=>by simp [Value.ownBlock] at hb';subst hb';exact hSb⟩
  ·rw [yR k c0 hcn (by omega)]
   simp only [List.length_append,List.length_take,List.length_drop,hl0,hcn,List.length_set];omega
  ·simp only [List.size_toArray,List.length_append,List.length_take,List.length_drop,hsz',hcn];omega
  ·rw [yR k c0 hcn (by omega),List.length_set]
   have e1:(cur.toList.take (k*R.n)++c).length=k*R.n+R.n:=by simp only [List.length_append,List.length_take,hsz',hcn];omega
   rw [List.take_append,e1,List.take_of_length_le (by omega),<- ht,List.take_take,Nat.min_eq_left (by omega),List.drop_take]
theorem aKl (kw:bN P ops W) (F:Fr N a l) (hg:o.guard=none) (hd:o.dst=none) {z1:Value} (hz:Zero1 P t z1) (ho:o.op=.store t x y) (hR:R.n=1) {b:Nat} {q:Int} (hx:ev l x=some (.pointer (some ⟨b,0+q.toNat*1,none⟩))) {v:Value} (hy:ev l y=some v) (hv:v.cells=#[v]) (h1:v.oneCell'=true)
  (H:St w0 w ls) (i:Nat) (hi:ls[i]?=some (HP.ow R e p cap xs)) (hp:p=some ⟨b,0,none⟩) {u:α} (hq:aD xs q=some u) {zz:α} (hrd:∀ {B:Base},(∀ (j:Nat) (C:HP),ls[j]?=some C->∃ S,C.pr B w S)->R.rd B [v] zz)
  (hk:∀ w',St w0 w' (ls.set i (HP.ow R e p cap (xs.set q.toNat zz)))->W rest a w'):W (o::rest) a w:=by
 obtain ⟨_,h2⟩:=eR hq
 have hlt:=(List.getElem?_eq_some_iff.1 h2).1
 obtain ⟨cur,hb,hl,hS⟩:=H.owPut i hi hp hlt hrd
 rw [hR] at hl hS
 have hcl:0+q.toNat*1<cur.length:=by omega
 have e1:cur.take (q.toNat*1)++[v]++cur.drop (q.toNat*1+1)=cur.set (0+q.toNat*1) v:=by
  rw [Nat.zero_add];exact aE8 cur _ v (by omega)
 rw [e1] at hS
 exact fF kw F hg hd (by rw [ho];rfl) (yE F hz ho hx hy hv h1 hb hcl) (hk _ hS)
theorem aDf (kw:bN P ops W) (F:Fr N a l) (hg:o.guard=none) (hd:o.dst=none) {n:Nat} {zl:List Value} (hA:AggT P t n zl) (ho:o.op=.store t x y) (hR:R.n=n) {b:Nat} {q:Int} (hx:ev l x=some (.pointer (some ⟨b,0+q.toNat*n,none⟩))) {cs:List Value} (hy:ev l y=some (.agg cs.toArray))
  (H:St w0 w ls) (i:Nat) (hi:ls[i]?=some (HP.ow R e p cap xs)) (hp:p=some ⟨b,0,none⟩) {u:α} (hq:aD xs q=some u) {zz:α} (hrd:∀ {B:Base},(∀ (j:Nat) (C:HP),ls[j]?=some C->∃ S,C.pr B w S)->R.rd B cs zz) (hf:Flat cs) (hn:cs.length=n)
  (hk:∀ w',St w0 w' (ls.set i (HP.ow R e p cap (xs.set q.toNat zz)))->W rest a w'):W (o::rest) a w:=by
 obtain ⟨_,h2⟩:=eR hq
 have hlt:=(List.getElem?_eq_some_iff.1 h2).1
 obtain ⟨cur,hb,hl,hS⟩:=H.owPut i hi hp hlt hrd
 rw [hR] at hl hS
 rw [Nat.zero_add] at hx
 exact fF kw F hg hd (by rw [ho];rfl) (wZ F hA ho hx hy hb hn hl hf) (hk _ hS)
end
end Go.Tri
