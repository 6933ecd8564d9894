/- Texts A2. -/
import Derived.Test.YtkcgdaihfblncaaGreatDoorQ0
import Derived.RangeFuncLeaves
import Derived.RangeFuncRecord
import Derived.RangeFuncSeq
import Derived.TacticsIn
import Derived.Laws.Tables
import Derived.Lib.Bytealg
import Derived.ChangeKeysEq
set_option linter.unusedSimpArgs false
set_option linter.unusedVariables false
/- The engine: known slots of a frame,owned pieces of memory,and control. -/
namespace Go.Tri
open Go.RowKit
def lk (k:Nat):List (Nat×Value)->Option Value
 | []=>none
 | (j,v)::r=>match Nat.beq j k with | true=>some v | false=>lk k r
def ev (l:List (Nat×Value)):Operand->Option Value
 | .tmp k=>lk k l
 | .const v=>some v
 | .global g=>some (.pointer (some ⟨g,0,none⟩))
 | .func f=>some (.func (.func f) #[] #[])
def evs (l:List (Nat×Value)):List Operand->Option (List Value)
 | []=>some []
 | x::r=>match ev l x,evs l r with | some v,some vs=>some (v::vs) | _,_=>none
structure Fs where
 n:Nat
 ds:List Deferred
structure Fr (N:Fs) (a:Act) (l:List (Nat×Value)):Prop where
 size:a.tmps.size=N.n
 defers:a.defers=N.ds
 get:∀ k v,lk k l=some v->a.tmps[k]?=some v
theorem Fr.eval {N:Fs} {a:Act} {l:List (Nat×Value)} (F:Fr N a l) {x:Operand} {v:Value} (h:ev l x=some v):a.eval x=v:=by
 cases x with
 | tmp k=>have:=F.get k v h;simp [Act.eval,this]
 | const u=>simpa [ev,Act.eval] using h
 | global g=>simpa [ev,Act.eval] using h
 | func f=>simpa [ev,Act.eval] using h
theorem Fr.evals {N:Fs} {a:Act} {l:List (Nat×Value)} (F:Fr N a l):∀ {xs:List Operand} {vs:List Value},evs l xs=some vs->xs.map a.eval=vs
 | [],vs,h=>by grind [evs]
 | x::r,vs,h=>by
  simp only [evs] at h
  split at h
  ·rename_i v us h1 h2
   cases h
   rw [List.map_cons,F.eval h1,F.evals h2]
  grind
theorem Fr.put {N:Fs} {a:Act} {l:List (Nat×Value)} (F:Fr N a l) {d:Nat} (hd:Nat.blt d N.n=true) (v:Value):Fr N (a.put (some d) v) ((d,v)::l):=by
 have hd':d<N.n:=by simpa [Nat.blt_eq] using hd
 refine ⟨by simp [Act.put,F.size],F.defers,fun k u h=>?_⟩
 simp only [lk] at h
 simp only [Act.put,Array.getElem?_setIfInBounds]
 split at h
 ·rename_i e
  have e':d=k:=Nat.eq_of_beq_eq_true e
  cases h
  rw [if_pos e',if_pos (by rw [F.size];exact hd')]
 ·rename_i e
  have e':d≠k:=fun e2=>by subst e2;rw [Nat.beq_refl] at e;cases e
  rw [if_neg e'];exact F.get k u h
def yF (l:List (Nat×Value)):List (Nat×Value)->Prop
 | []=>True
 | (k,v)::r=>lk k l=some v/\yF l r
theorem Fr.cut {N:Fs} {a:Act} {l:List (Nat×Value)} (F:Fr N a l) (l':List (Nat×Value)) (h:yF l l'):Fr N a l':=by
 refine ⟨F.size,F.defers,fun k v hk=>F.get k v ?_⟩
 induction l' with
 | nil=>cases hk
 | cons p r ih =>
  simp only [lk] at hk
  split at hk
  ·rename_i e
   cases hk
   rw [<- Nat.eq_of_beq_eq_true e];exact h.1
  ·exact ih h.2 hk
theorem Fr.mk' {N:Nat} {args:List Value} (l:List (Nat×Value)) (hl:∀ k v,lk k l=some v->args[k]?=some v) (hN:args.length<=N) :
  Fr ⟨N,[]⟩ { tmps:=args.toArray++Array.replicate (N-args.toArray.size) undef,defers:=[] } l:=by
 refine ⟨by grind,rfl,fun k v h=>?_⟩
 grind
abbrev Base:=Nat->Option Obj
def Base.le (B B':Base):Prop:=∀ b o,B b=some o->B' b=some o
def Sub (B:Base) (w:World):Prop:=∀ b o,B b=some o->w.heap[b]?=some o
theorem Sub.mono {B B':Base} {w:World} (h:Sub B' w) (hl:B.le B'):Sub B w:=fun b o hb=>h b o (hl b o hb)
structure HP where
 pr:Base->World->(Nat->Prop)->Prop
 loc:∀ {B:Base} {w w':World} {S:Nat->Prop},pr B w S->(∀ b,S b->w'.heap[b]?=w.heap[b]?)->pr B w' S
 mono:∀ {B B':Base} {w:World} {S:Nat->Prop},pr B w S->B.le B'->pr B' w S
 tag:Option (Nat×Nat×List Value)
 tok:∀ {b o:Nat} {cs:List Value},tag=some (b,o,cs)->∀ {B:Base} {w:World} {S:Nat->Prop},Sub B w->pr B w S->Row w b o cs
 ps:Bool
 pok:ps=true->∀ {B:Base} {w w':World} {S S':Nat->Prop},pr B w S->pr B w' S'
@[reducible] def HP.of (pr:Base->World->(Nat->Prop)->Prop) (loc:∀ {B:Base} {w w':World} {S:Nat->Prop},pr B w S->(∀ b,S b->w'.heap[b]?=w.heap[b]?)->pr B w' S) (mono:∀ {B B':Base} {w:World} {S:Nat->Prop},pr B w S->B.le B'->pr B' w S):HP :=
 ⟨pr,loc,mono,none,(fun h=>by cases h),false,(fun h=>by cases h)⟩
@[reducible] def HP.pe (q:Base->Prop) (mono:∀ {B B':Base},q B->B.le B'->q B'):HP :=
 ⟨fun B _ _=>q B,fun h _=>h,fun h hl=>mono h hl,none,(fun h=>by cases h),true,fun _ {_ _ _ _ _} h=>h⟩
structure St (w0 w:World) (l:List HP):Prop where
 env:w.os=w0.os/\w.tape=w0.tape/\w.output=w0.output/\w0.heap.size<=w.heap.size
 own:∃ (B:Base) (f:Nat->Nat->Prop),Sub B w/\(∀ (i:Nat) (A:HP),l[i]?=some A->A.pr B w (f i))/\(∀ i j b,i<l.length->j<l.length->f i b->f j b->i=j)/\(∀ i b,i<l.length->f i b->b<w.heap.size/\B b=none/\w0.heap.size<=b)
theorem Sub.lt {B:Base} {w:World} (h:Sub B w) {b:Nat} {o:Obj} (hb:B b=some o):b<w.heap.size:=(Array.getElem?_eq_some_iff.1 (h b o hb)).1
theorem St.pickT {w0 w:World} {l l' t:List HP} (is:List Nat) (h:St w0 w (l++t)) (hn:is.Nodup) (he:is.map (fun i=>l[i]?)=l'.map some):St w0 w (l'++t):=by
 obtain ⟨hv,B,f,hs,h1,h2,h3⟩:=h
 have hlen:is.length=l'.length:=by have:=congrArg List.length he;simpa using this
 have hat:∀ (k:Nat) (A:HP),l'[k]?=some A->∃ i:Nat,is[k]?=some i/\l[i]?=some A:=by
  intro k A hk
  have h4:(is.map (fun i=>l[i]?))[k]?=some (some A):=by rw [he];simp [hk]
  simp only [List.getElem?_map,Option.map_eq_some_iff] at h4
  obtain ⟨i,hi,hA⟩:=h4
  exact ⟨i,hi,hA⟩
 let g:Nat->Nat:=fun k=>if k<l'.length then is.getD k 0 else k-l'.length+l.length
 have gl:∀ k,k<l'.length->∃ i,is[k]?=some i/\g k=i/\i<l.length:=by
  intro k hk
  obtain ⟨i,hi,hA⟩:=hat k _ (List.getElem?_eq_getElem hk)
  refine ⟨i,hi,?_,(List.getElem?_eq_some_iff.1 hA).1⟩
  simp only [g,if_pos hk,List.getD_eq_getElem?_getD,hi,Option.getD_some]
 have gr:∀ k,¬ k<l'.length->g k=k-l'.length+l.length:=fun k hk=>by simp only [g,if_neg hk]
 have glt:∀ k,k<(l'++t).length->g k<(l++t).length:=by
  intro k hk
  rw [List.length_append] at hk ⊢
  by_cases e:k<l'.length
  ·obtain ⟨i,_,e1,hi⟩:=gl k e;omega
  ·rw [gr k e];omega
 refine ⟨hv,B,fun k=>f (g k),hs,?_,?_,?_⟩
 ·intro k A hk
  refine h1 (g k) A ?_
  rw [List.getElem?_append] at hk ⊢
  by_cases e:k<l'.length
  ·rw [if_pos e] at hk
   obtain ⟨i,hi,hA⟩:=hat k A hk
   obtain ⟨i',hi',e1,hl⟩:=gl k e
   obtain rfl:i=i':=by rw [hi] at hi';exact Option.some.inj hi'
   rw [e1,if_pos hl];exact hA
  ·rw [if_neg e] at hk
   rw [gr k e,if_neg (by omega),show k-l'.length+l.length-l.length=k-l'.length by omega];exact hk
 ·intro i j b hi hj hfi hfj
  have:=h2 _ _ b (glt i hi) (glt j hj) hfi hfj
  by_cases e:i<l'.length
  ·obtain ⟨a,ha,e1,hl⟩:=gl i e
   by_cases e':j<l'.length
   ·obtain ⟨c,hc,e2,hl2⟩:=gl j e'
    have hac:a=c:=by omega
    obtain ⟨p1,q1⟩:=List.getElem?_eq_some_iff.1 ha
    obtain ⟨p2,q2⟩:=List.getElem?_eq_some_iff.1 hc
    exact (List.getElem_inj (h₀:=p1) (h₁:=p2) hn).1 (by rw [q1,q2,hac])
   ·rw [e1,gr j e'] at this;omega
  ·by_cases e':j<l'.length
   ·obtain ⟨c,hc,e2,hl2⟩:=gl j e'
    rw [e2,gr i e] at this;omega
   ·rw [gr i e,gr j e'] at this;omega
 ·intro i b hi hf
  exact h3 _ b (glt i hi) hf
theorem St.pick {w0 w:World} {l l':List HP} (is:List Nat) (h:St w0 w l) (hn:is.Nodup) (he:is.map (fun i=>l[i]?)=l'.map some):St w0 w l':=by
 have:=St.pickT (t:=[]) is (by simpa using h) hn he
 grind
theorem St.upd {w0 w w':World} {l:List HP} (h:St w0 w l) (i:Nat) {A A':HP} (hi:l[i]?=some A)
  (hA:∀ {B:Base} S,A.pr B w S->(∀ b,S b->b<w.heap.size/\B b=none)->∃ S',A'.pr B w' S'/\(∀ b,S' b->S b\/w.heap.size<=b)/\(∀ b,S' b->b<w'.heap.size)/\(∀ b,b<w.heap.size->¬ S b->w'.heap[b]?=w.heap[b]?))
  (hos:w'.os=w.os) (ht:w'.tape=w.tape) (ho:w'.output=w.output) (hs:w.heap.size<=w'.heap.size):St w0 w' (l.set i A'):=by
 obtain ⟨hv,B,f,hb,h1,h2,h3⟩:=h
 have hil:i<l.length:=(List.getElem?_eq_some_iff.1 hi).1
 obtain ⟨S',hB,hsub,hlt,hoth⟩:=hA (f i) (h1 i A hi) (fun b hb=>⟨(h3 i b hil hb).1,(h3 i b hil hb).2.1⟩)
 have hfree:∀ b,S' b->B b=none:=by
  intro b hb'
  rcases hsub b hb' with h | h
  ·exact (h3 i b hil h).2.1
  ·cases e:B b with
   | none=>rfl
   | some o=>have:=hb.lt e;omega
 refine ⟨⟨hos.trans hv.1,ht.trans hv.2.1,ho.trans hv.2.2.1,Nat.le_trans hv.2.2.2 hs⟩,B,fun j=>if j=i then S' else f j,?_,?_,?_,?_⟩
 ·intro k o hk
  rw [hoth k (hb.lt hk) (fun hf=>by have:=(h3 i k hil hf).2.1;rw [hk] at this;cases this)];exact hb k o hk
 ·intro j C hj
  by_cases e:j=i
  ·subst e
   rw [List.getElem?_set,if_pos rfl,if_pos hil] at hj
   cases hj
   simpa using hB
  ·rw [List.getElem?_set,if_neg (Ne.symm e)] at hj
   simp only [if_neg e]
   have hjl:j<l.length:=(List.getElem?_eq_some_iff.1 hj).1
   refine C.loc (h1 j C hj) fun b hfb=>?_
   refine hoth b (h3 j b hjl hfb).1 fun hf=>e (h2 j i b hjl hil hfb hf)
 ·intro j k b hj hk hfj hfk
  simp only [List.length_set] at hj hk
  by_cases e1:j=i
  ·by_cases e2:k=i
   ·omega
   ·simp only [e1,if_pos,if_neg e2] at hfj hfk
    rcases hsub b hfj with h | h
    ·exact absurd (h2 i k b hil hk h hfk) (fun e=>e2 e.symm)
    ·have:=h3 k b hk hfk;omega
  ·by_cases e2:k=i
   ·simp only [e2,if_pos,if_neg e1] at hfj hfk
    rcases hsub b hfk with h | h
    ·exact absurd (h2 i j b hil hj h hfj) (fun e=>e1 e.symm)
    ·have:=h3 j b hj hfj;omega
   ·simp only [if_neg e1,if_neg e2] at hfj hfk
    exact h2 j k b hj hk hfj hfk
 ·intro j b hj hf
  simp only [List.length_set] at hj
  by_cases e:j=i
  ·simp only [e,if_pos] at hf
   refine ⟨hlt b hf,hfree b hf,?_⟩
   rcases hsub b hf with h | h
   ·exact (h3 i b hil h).2.2
   ·exact Nat.le_trans hv.2.2.2 h
  ·simp only [if_neg e] at hf
   have:=h3 j b hj hf
   exact ⟨by omega,this.2⟩
theorem St.get {w0 w:World} {l:List HP} (h:St w0 w l) (i:Nat) {A:HP} (hi:l[i]?=some A):∃ B S,Sub B w/\A.pr B w S/\∀ b,S b->b<w.heap.size:=by
 obtain ⟨hv,B,f,hs,h1,h2,h3⟩:=h
 grind
theorem St.drew {w0 w:World} {l:List HP} (h:St w0 w l):St w0 w.drew l:=by
 obtain ⟨hv,B,f,hs,h1,h2,h3⟩:=h
 exact ⟨hv,B,f,hs,fun i A hi=>A.loc (h1 i A hi) fun _ _=>rfl,h2,h3⟩
theorem St.more {w0 w:World} {l:List HP} (h:St w0 w l) {A:HP} (hA:∀ B,Sub B w->(∀ (i:Nat) (C:HP),l[i]?=some C->∃ S,C.pr B w S)->A.pr B w (fun _=>False)):St w0 w (A::l):=by
 obtain ⟨hv,B,f,hs,h1,h2,h3⟩:=h
 refine ⟨hv,B,fun i=>match i with | 0=>fun _=>False | i+1=>f i,hs,?_,?_,?_⟩
 ·grind
 ·intro i j b hi hj hfi hfj
  cases i with
  | zero=>exact hfi.elim
  | succ i =>
   cases j with
   | zero=>exact hfj.elim
   | succ j=>have:=h2 i j b (by grind) (by grind) hfi hfj;omega
 ·intro i b hi hf
  cases i with
  | zero=>exact hf.elim
  | succ i=>exact h3 i b (by grind) hf
theorem St.convAt {w0 w:World} {l:List HP} (h:St w0 w l) (i:Nat) {A C:HP} (hi:l[i]?=some A) (hC:∀ {B:Base} S,A.pr B w S->C.pr B w S):St w0 w (l.set i C):=by
 obtain ⟨hv,B,f,hs,h1,h2,h3⟩:=h
 refine ⟨hv,B,f,hs,fun j D hj=>?_,fun i j b hi hj=>h2 i j b (by grind) (by grind),fun i b hi=>h3 i b (by simpa using hi)⟩
 grind
theorem St.freezeH {w0 w:World} {l:List HP} {A:HP} (h:St w0 w (A::l)) {C:HP} (hC:∀ {B B':Base} (S:Nat->Prop),A.pr B w S->B.le B'->(∀ w',Sub B' w'->∀ b,S b->w'.heap[b]?=w.heap[b]?)->C.pr B' w (fun _=>False)):St w0 w (C::l):=by
 classical
 obtain ⟨hv,B,f,hs,h1,h2,h3⟩:=h
 let B':Base:=fun b=>if f 0 b then w.heap[b]? else B b
 have hle:B.le B':=by
  intro b o hb
  have:¬ f 0 b:=fun hf=>by have:=(h3 0 b (by simp) hf).2.1;rw [hb] at this;cases this
  show (if f 0 b then _ else _)=_
  rw [if_neg this];exact hb
 have hsub:Sub B' w:=by
  intro b o hb
  have hb':(if f 0 b then w.heap[b]? else B b)=some o:=hb
  split at hb'
  ·exact hb'
  ·exact hs b o hb'
 refine ⟨hv,B',fun i=>match i with | 0=>fun _=>False | i+1=>f (i+1),hsub,?_,?_,?_⟩
 ·intro i D hi
  cases i with
  | zero =>
   simp at hi;subst hi
   refine hC (f 0) (h1 0 A rfl) hle fun w' hw' b hf=>?_
   have hlt:=(h3 0 b (by simp) hf).1
   have:B' b=some w.heap[b]:=by
    show (if f 0 b then _ else _)=_
    rw [if_pos hf];exact Array.getElem?_eq_getElem hlt
   rw [hw' b _ this];exact (Array.getElem?_eq_getElem hlt).symm
  | succ i=>exact D.mono (h1 (i+1) D (by simpa using hi)) hle
 ·intro i j b hi hj hfi hfj
  cases i with
  | zero=>exact hfi.elim
  | succ i =>
   cases j with
   | zero=>exact hfj.elim
   | succ j=>exact h2 (i+1) (j+1) b hi hj hfi hfj
 ·intro i b hi hf
  cases i with
  | zero=>exact hf.elim
  | succ i =>
   have h4:=h3 (i+1) b hi hf
   refine ⟨h4.1,?_,h4.2.2⟩
   show (if f 0 b then _ else _)=_
   rw [if_neg (fun h0=>by have:=h2 0 (i+1) b (by simp) hi h0 hf;omega)]
   exact h4.2.1
theorem St.join {w0 w:World} {l:List HP} {A C D:HP} (h:St w0 w (A::C::l)) (hD:∀ {B:Base} S T,A.pr B w S->C.pr B w T->(∀ b,S b->T b->False)->D.pr B w (fun b=>S b\/T b)):St w0 w (D::l):=by
 obtain ⟨hv,B,f,hs,h1,h2,h3⟩:=h
 refine ⟨hv,B,fun i=>match i with | 0=>fun b=>f 0 b\/f 1 b | i+1=>f (i+2),hs,?_,?_,?_⟩
 ·intro i E hi
  cases i with
  | zero =>
   simp at hi;subst hi
   exact hD _ _ (h1 0 A rfl) (h1 1 C rfl) fun b a1 a2=>by have:=h2 0 1 b (by simp) (by simp) a1 a2;omega
  | succ i=>exact h1 (i+2) E (by simpa using hi)
 ·intro i j b hi hj hfi hfj
  simp only [List.length_cons] at hi hj
  cases i with
  | zero =>
   cases j with
   | zero=>rfl
   | succ j =>
    rcases hfi with a | a
    ·have:=h2 0 (j+2) b (by simp) (by simp;omega) a hfj;omega
    ·have:=h2 1 (j+2) b (by simp) (by simp;omega) a hfj;omega
  | succ i =>
   cases j with
   | zero =>
    rcases hfj with a | a
    ·have:=h2 0 (i+2) b (by simp) (by simp;omega) a hfi;omega
    ·have:=h2 1 (i+2) b (by simp) (by simp;omega) a hfi;omega
   | succ j=>have:=h2 (i+2) (j+2) b (by simp;omega) (by simp;omega) hfi hfj;omega
 ·intro i b hi hf
  simp only [List.length_cons] at hi
  cases i with
  | zero =>
   rcases hf with a | a
   ·exact h3 0 b (by simp) a
   ·exact h3 1 b (by simp) a
  | succ i=>exact h3 (i+2) b (by simp;omega) hf
theorem St.conv {w0 w:World} {l:List HP} {A C:HP} (h:St w0 w (A::l)) (hC:∀ {B:Base} S,A.pr B w S->C.pr B w S):St w0 w (C::l):=h.convAt 0 rfl hC
def HP.blk (b:Nat) (cs:List Value) (t:TypeId):HP :=
 ⟨fun _ w S=>Blk w b cs t/\S b,fun h hS=>⟨by unfold Blk;rw [hS _ h.2];exact h.1,h.2⟩,fun h _=>h,some (b,0,cs),fun {_ _ _} e {_ _ _} _ h=>(by cases e;exact h.1.row),false,(fun h=>by cases h)⟩
def HP.own (e:TypeId) (size:Nat) (v:Value) (n:Nat) (xs:List Value):HP :=
 HP.of (fun _ w S=>w.ownsRow 0 e size v n xs/\∀ b,v.ownBlock=some b->S b)
  (fun {_ w w' S} h hS=>by
  refine ⟨?_,h.2⟩
  obtain ⟨⟨hl,h1 | ⟨g,cap,cur,rfl,hb,hg,hr⟩⟩,h2⟩:=h
  ·exact ⟨hl,.inl h1⟩
  ·exact ⟨hl,.inr ⟨g,cap,cur,rfl,hb,by rw [hS g (h2 g rfl)];exact hg,hr⟩⟩)
  (fun h _=>h)
def HP.map (b:Nat) (kv:List (Value×Value)):HP:=HP.of (fun _ w S=>MapB w b kv/\S b)
  (fun h hS=>by
 obtain ⟨⟨es,c,h1,h2⟩,h3⟩:=h
 exact ⟨⟨es,c,by rw [hS _ h3];exact h1,h2⟩,h3⟩)
  (fun h _=>h)
def HP.fact (p:Prop):HP:=HP.pe (fun _=>p) (fun h _=>h)
theorem St.blk {w0 w:World} {l:List HP} (h:St w0 w l) (i:Nat) {b:Nat} {cs:List Value} {t:TypeId} (hi:l[i]?=some (HP.blk b cs t)):Blk w b cs t:=by
 obtain ⟨_,S,_,h1,_⟩:=h.get i hi;exact h1.1
theorem St.owns {w0 w:World} {l:List HP} (h:St w0 w l) (i:Nat) {e:TypeId} {size:Nat} {v:Value} {n:Nat} {xs:List Value} (hi:l[i]?=some (HP.own e size v n xs)):w.ownsRow 0 e size v n xs:=by
 obtain ⟨_,S,_,h1,_⟩:=h.get i hi;exact h1.1
theorem St.sl {w0 w:World} {l:List HP} (h:St w0 w l) (i:Nat) {e:TypeId} {size:Nat} {v:Value} {n:Nat} {xs:List Value} (hi:l[i]?=some (HP.own e size v n xs)):Sl w v n xs:=rQ (h.owns i hi)
theorem St.factP {w0 w:World} {l:List HP} (h:St w0 w l) (i:Nat) {p:Prop} (hi:l[i]?=some (HP.fact p)):p:=by
 obtain ⟨_,S,_,h1,_⟩:=h.get i hi;exact h1
theorem St.add {w0 w:World} {l:List HP} (h:St w0 w l) (o:Obj) (A:HP) (hA:∀ {B:Base} (S:Nat->Prop),S w.heap.size->A.pr B (w.alloc o) S):St w0 (w.alloc o) (A::l):=by
 obtain ⟨hv,B,f,hs,h1,h2,h3⟩:=h
 refine ⟨⟨hv.1,hv.2.1,hv.2.2.1,by have:=hv.2.2.2;simp;omega⟩,B,fun i=>match i with | 0=>fun b=>b=w.heap.size | i+1=>f i,?_,?_,?_,?_⟩
 ·intro b o' hb;rw [gZ w o b (hs.lt hb)];exact hs b o' hb
 ·intro i C hi
  cases i with
  | zero=>simp at hi;subst hi;exact hA _ rfl
  | succ i =>
   have hi':l[i]?=some C:=by simpa using hi
   exact C.loc (h1 i C hi') fun b hf=>gZ w o b (h3 i b (List.getElem?_eq_some_iff.1 hi').1 hf).1
 ·intro i j b hi hj hfi hfj
  simp only [List.length_cons] at hi hj
  cases i with
  | zero =>
   cases j with
   | zero=>rfl
   | succ j=>have e:b=w.heap.size:=hfi;have:=(h3 j b (by omega) hfj).1;omega
  | succ i =>
   cases j with
   | zero=>have e:b=w.heap.size:=hfj;have:=(h3 i b (by omega) hfi).1;omega
   | succ j=>have:=h2 i j b (by omega) (by omega) hfi hfj;omega
 ·intro i b hi hf
  simp only [List.length_cons] at hi
  cases i with
  | zero =>
   have e:b=w.heap.size:=hf
   subst e
   refine ⟨by simp,?_,hv.2.2.2⟩
   cases e:B w.heap.size with
   | none=>rfl
   | some o=>have:=hs.lt e;omega
  | succ i=>have:=h3 i b (by omega) hf;exact ⟨by simp;omega,this.2⟩
theorem St.alloc {w0 w:World} {l:List HP} (h:St w0 w l) (cs:List Value) (t:TypeId):St w0 (w.alloc (.cells cs.toArray t)) (HP.blk w.heap.size cs t::l) :=
 h.add _ _ fun S hS=>⟨Blk.new w cs t,hS⟩
theorem St.tail {w0 w:World} {l:List HP} {A:HP} (h:St w0 w (A::l)):St w0 w l:=St.pickT (l:=[A]) (l':=[]) [] h (by simp) rfl
theorem St.other {w0 w:World} {l:List HP} (h:St w0 w l) (o:Obj):St w0 (w.alloc o) l :=
 (h.add o (HP.fact True) fun _ _=>trivial).tail
theorem St.chg {w0 w w':World} {l:List HP} (h:St w0 w l) (i:Nat) {A A':HP} {g:Nat} (hi:l[i]?=some A) (hg:∀ {B:Base} S,A.pr B w S->S g) (hc:Chg g w w') (hB:∀ {B:Base} S,A.pr B w S->A'.pr B w' S):St w0 w' (l.set i A') :=
 h.upd i hi (fun S hA hS=>⟨S,hB S hA,fun b hb=>.inl hb,fun b hb=>by rw [hc.size];grind,fun b _ hn=>hc.oth b fun e=>hn (e▸hg S hA)⟩) hc.os hc.tape hc.output (by rw [hc.size];simp)
theorem St.setBlk {w0 w:World} {l:List HP} (h:St w0 w l) (i:Nat) {b:Nat} {cs:List Value} {t:TypeId} (hi:l[i]?=some (HP.blk b cs t)) (cs':List Value):St w0 (w.setRow b cs'.toArray) (l.set i (HP.blk b cs' t)) :=
 h.chg i hi (fun S hA=>hA.2) (Chg.setRow w b _) fun S hA=>⟨hA.1.set_same cs',hA.2⟩
theorem St.start (w:World):St w w []:=⟨⟨rfl,rfl,rfl,Nat.le_refl _⟩,fun b=>w.heap[b]?,fun _ _=>False,fun b o h=>h,by simp,by simp,by simp⟩
section
variable {P:Program} {Q:Exit->Act->World->Prop} {K:Act->World->Prop} {a:Act} {w:World}
theorem cJ (h:K a w):Exit.then K Q .normal a w:=h
theorem pB {i:Nat} (h:Q (.exit i) a w):Exit.then K Q (.exit i) a w:=h
theorem pE (h:Q .ret a w):Exit.then K Q .ret a w:=h
theorem yD {i:Nat} (h:Q .normal a w):Exit.inBlock i Q .normal a w:=h
theorem sF {i:Nat} (h:Q .ret a w):Exit.inBlock i Q .ret a w:=h
theorem sI {i:Nat} (h:Q .normal a w):Exit.inBlock i Q (.exit i) a w:=by show (if i=i then _ else _);grind
theorem aP9 {i j:Nat} (hn:Nat.beq j i=false) (h:Q (.exit j) a w):Exit.inBlock i Q (.exit j) a w:=by
 show (if j=i then _ else _);rw [if_neg (fun e=>by simp_all)];exact h
theorem wJ {N:Fs} {l:List (Nat×Value)} (F:Fr N a l) {c:Operand} {x y:Code} {t:Bool} (hc:ev l c=some (.bool t)) (ht:t=true->x.wp P Q a w) (hf:t=false->y.wp P Q a w):(Code.cond c x y).wp P Q a w :=
 wp_cond_split (F.eval hc) ht hf
theorem aHg {N:Fs} {l:List (Nat×Value)} (F:Fr N a l) {c:Operand} {x y:Code} {p:Prop} [Decidable p] (hc:ev l c=some (.bool (decide p))) (ht:p->x.wp P Q a w) (hf:¬ p->y.wp P Q a w):(Code.cond c x y).wp P Q a w :=
 wp_cond_split (F.eval hc) (fun h=>ht (of_decide_eq_true h)) (fun h=>hf (of_decide_eq_false h))
theorem aO7 {N:Fs} {l:List (Nat×Value)} (F:Fr N a l) {c:Operand} {x y:Code} {p:Prop} [Decidable p] (hc:ev l c=some (.bool (!decide p))) (ht:¬ p->x.wp P Q a w) (hf:p->y.wp P Q a w):(Code.cond c x y).wp P Q a w :=
 wp_cond_split (F.eval hc) (fun h=>ht (by grind)) (fun h=>hf (by grind))
theorem kI {N:Fs} {l:List (Nat×Value)} (F:Fr N a l) {c:Operand} {x y:Code} (hc:ev l c=some (.bool true)) (h:x.wp P Q a w):(Code.cond c x y).wp P Q a w:=wp_cond_true (F.eval hc) h
theorem iZ {N:Fs} {l:List (Nat×Value)} (F:Fr N a l) {c:Operand} {x y:Code} (hc:ev l c=some (.bool false)) (h:y.wp P Q a w):(Code.cond c x y).wp P Q a w:=wp_cond_false (F.eval hc) h
theorem exists_least {p:Nat->Prop} (h:∃ n,p n):∃ n,p n/\∀ m,p m->n<=m:=by
 obtain ⟨n,hn⟩:=h
 induction n using Nat.strongRecOn with
 | _ n ih =>
  grind
theorem aBe {G:Type} {c:Code} (I:G->Act->World->Prop) (μ:G->Nat) (g0:G) (h0:I g0 a w)
  (round:∀ g a w,I g a w->c.wp P (Exit.then (fun a' w'=>∃ g',I g' a' w'/\μ g'<μ g) Q) a w):(Code.loop c).wp P Q a w:=by
 classical
 let q:Act->World->Nat->Prop:=fun a w n=>∃ g,I g a w/\μ g=n
 have hex:∀ a w,(∃ g,I g a w)->∃ n,q a w n:=fun a w ⟨g,hg⟩=>⟨μ g,g,hg,rfl⟩
 let m:Act->World->Nat:=fun a w=>if h:∃ g,I g a w then Classical.choose (exists_least (hex a w h)) else 0
 have hm:∀ a w (h:∃ g,I g a w),(∃ g,I g a w/\μ g=m a w)/\∀ g,I g a w->m a w<=μ g:=by
  intro a w h
  grind
 refine wp_loop (fun a w=>∃ g,I g a w) m ⟨g0,h0⟩ fun a w h=>?_
 obtain ⟨g,hg,e⟩:=(hm a w h).1
 refine wp_mono (round g a w hg) fun e' a' w' hq=>?_
 grind
end
def jP:Nat->List Value->List (Nat×Value)
 | _,[]=>[]
 | s,x::r=>(s,x)::jP (s+1) r
theorem sZ:∀ (args:List Value) (s k:Nat) (v:Value),lk k (jP s args)=some v->s<=k/\args[k-s]?=some v
 | [],s,k,v,h=>by cases h
 | x::r,s,k,v,h=>by
  simp only [jP,lk] at h
  split at h
  ·simp_all
  ·obtain ⟨h1,h2⟩:=sZ r (s+1) k v h
   grind
theorem dM {P:Program} {f:FuncId} {fn:Func} {c:Code} {args:List Value} {w:World} {R:Ending->World->Prop} {N:Nat}
  (hf:P.funcs[f]?=some fn) (hb:fn.body=some c) (hN:fn.ntmps=N) (hle:Nat.ble args.length N=true)
  (h:∀ a,Fr ⟨N,[]⟩ a (jP 0 args)->c.wp P (bodyPost P fn R) a w):Calls P f args.toArray w R:=by
 subst hN
 exact calls_of_wp hf hb (h _ (Fr.mk' _ (fun k v hk=>by have:=(sZ args 0 k v hk).2;grind) (Nat.le_of_ble_eq_true hle)))
section
variable {P:Program} {fn:Func} {R:Ending->World->Prop} {a:Act} {w:World} {N:Nat} {l:List (Nat×Value)}
theorem eF (F:Fr ⟨N,[]⟩ a l) {t:Tmp} (hr:fn.results=#[.tmp t]) {v:Value} (hv:lk t l=some v) (h:R (.returned v) w):bodyPost P fn R .ret a w:=by
 refine bodyPost_ret (v:=v) ?_ F.defers h
 have:=F.get t v hv
 simp [results,hr,this]
theorem aOo (F:Fr ⟨N,[]⟩ a l) {t u:Tmp} (hr:fn.results=#[.tmp t,.tmp u]) {v x:Value} (hv:lk t l=some v) (hx:lk u l=some x) (h:R (.returned (.tuple #[v,x])) w):bodyPost P fn R .ret a w:=by
 refine bodyPost_ret (v:=.tuple #[v,x]) ?_ F.defers h
 have h1:=F.get t v hv
 have h2:=F.get u x hx
 simp [results,hr,h1,h2]
theorem aIi (F:Fr ⟨N,[]⟩ a l) {t u s:Tmp} (hr:fn.results=#[.tmp t,.tmp u,.tmp s]) {v x y:Value} (hv:lk t l=some v) (hx:lk u l=some x) (hy:lk s l=some y) (h:R (.returned (.tuple #[v,x,y])) w):bodyPost P fn R .ret a w:=by
 refine bodyPost_ret (v:=.tuple #[v,x,y]) ?_ F.defers h
 have h1:=F.get t v hv
 have h2:=F.get u x hx
 have h3:=F.get s y hy
 simp [results,hr,h1,h2,h3]
theorem aK6 (F:Fr ⟨N,[]⟩ a l) (hr:fn.results=#[]) (h:R (.returned (.tuple #[])) w):bodyPost P fn R .normal a w :=
 bodyPost_end (v:=.tuple #[]) (by simp [results,hr]) F.defers h
theorem aK4 (F:Fr ⟨N,[]⟩ a l) (hr:fn.results=#[]) (h:R (.returned (.tuple #[])) w):bodyPost P fn R .ret a w :=
 bodyPost_ret (v:=.tuple #[]) (by simp [results,hr]) F.defers h
end
def FN (ro:Option Nat):Fence:={ fn:=fun _=>True,depth:=none,alive:=false,round:=ro }
def dD:Op->Bool
 | .defer _=>false
 | _=>true
theorem qT {o:Op} (h:dD o=true):∀ c,o≠.defer c:=fun c e=>by rw [e] at h;cases h
structure bN (P:Program) (ops:Array Oper) (W:List Oper->Act->World->Prop):Prop where
 val:∀ {o:Oper} {rest:List Oper} {a:Act} {w w':World} {v:Value},Region.wanted o (yielded ops a.tmps)=true->dD o.op=true->(execOp a.eval o).run P w=.ok (.value v) w'->W rest (a.put o.dst v) w'->W (o::rest) a w
 skip:∀ {o:Oper} {rest:List Oper} {a:Act} {w w':World},Region.wanted o (yielded ops a.tmps)=true->dD o.op=true->(execOp a.eval o).run P w=.ok .skip w'->W rest (a.put o.dst undef) w'->W (o::rest) a w
 call:∀ {o:Oper} {rest:List Oper} {a:Act} {w:World} {f:FuncId} {vs:Array Value} {R:Value->World->Prop},Region.wanted o (yielded ops a.tmps)=true->dD o.op=true->(execOp a.eval o).run P w=.ok (.enter f vs) w ->
  Calls P f vs w (fun e w'=>∃ v,e=.returned v/\R v w')->(∀ v w',R v w'->W rest (a.put o.dst v) w')->W (o::rest) a w
 off:∀ {o:Oper} {rest:List Oper} {a:Act} {w:World},Region.wanted o (yielded ops a.tmps)=false->W rest (a.put o.dst undef) w->W (o::rest) a w
theorem wkP {P:Program} {ops:Array Oper} {Q:Exit->Act->World->Prop}:bN P ops (wpList P ops Q) where
 val hw _ hr hk:=by unfold wpList;grind [Oper.wp,Oper.upon_value]
 skip hw _ hr hk:=by unfold wpList;grind [Oper.wp,Oper.upon_skip]
 call hw _ hr hc hk:=by
  unfold wpList;rw [if_pos hw];refine .inl ?_;unfold Oper.wp;rw [hr,Oper.upon_enter]
  exact hc.mono fun e w' ⟨v,he,hR⟩=>by grind
 off hw hk:=by unfold wpList;grind
theorem aD8 {P:Program} {f:FuncId} {vs:Array Value} {w:World} {R:Ending->World->Prop} (ro:Option Nat) (h:Calls P f vs w R):CallsIn (FN ro) 0 P f vs w R :=
 ⟨trivial,fun cs _=>(callsIn_wide (n:=0).2 h).2 cs (room_wide _)⟩
theorem wkI {P:Program} {ro:Option Nat} {ops:Array Oper} {Q:Exit->Act->World->Prop}:bN P ops (wpListIn (FN ro) 0 P ops Q) where
 val hw hd hr hk:=by
  unfold wpListIn;rw [if_pos hw];refine ⟨fun _ _=>trivial,?_⟩
  rw [Oper.semAt_eq _ _ _ (qT hd),hr,Oper.uponIn_value];exact hk
 skip hw hd hr hk:=by
  unfold wpListIn;rw [if_pos hw];refine ⟨fun _ _=>trivial,?_⟩
  rw [Oper.semAt_eq _ _ _ (qT hd),hr,Oper.uponIn_skip];exact hk
 call hw hd hr hc hk:=by
  unfold wpListIn;rw [if_pos hw];refine ⟨fun _ _=>trivial,?_⟩
  rw [Oper.semAt_eq _ _ _ (qT hd),hr,Oper.uponIn_enter]
  refine ⟨(fun h=>by cases h),aD8 _ (hc.mono fun e w' ⟨v,he,hR⟩=>by subst he;exact hk v w' hR)⟩
 off hw hk:=by unfold wpListIn;rw [if_neg (by rw [hw];simp)];exact ⟨fun _ _=>trivial,hk⟩
theorem cX {ops:Array Oper} {o:Oper} {a:Act} (hg:o.guard=none):Region.wanted o (yielded ops a.tmps)=true:=by grind [Region.wanted]
section
variable {P:Program} {ops:Array Oper} {rest:List Oper} {o:Oper} {a:Act} {w w':World} {W:List Oper->Act->World->Prop} {N:Fs} {l:List (Nat×Value)} {d:Nat} {v:Value}
theorem bD (k:bN P ops W) (F:Fr N a l) (hg:o.guard=none) (hd:o.dst=some d) (hN:Nat.blt d N.n=true) (hnd:dD o.op=true) (hr:(execOp a.eval o).run P w=.ok (.value v) w')
  (hk:∀ a',Fr N a' ((d,v)::l)->W rest a' w'):W (o::rest) a w :=
 k.val (cX hg) hnd hr (by rw [hd];exact hk _ (F.put hN v))
theorem aMq (k:bN P ops W) (F:Fr N a l) (hg:o.guard=none) (hd:o.dst=none) (hnd:dD o.op=true) (hr:(execOp a.eval o).run P w=.ok (.value v) w')
  (hk:W rest a w'):W (o::rest) a w :=
 k.val (cX hg) hnd hr (by rw [hd];exact hk)
theorem fF (k:bN P ops W) (F:Fr N a l) (hg:o.guard=none) (hd:o.dst=none) (hnd:dD o.op=true) (hr:(execOp a.eval o).run P w=.ok .skip w')
  (hk:W rest a w'):W (o::rest) a w :=
 k.skip (cX hg) hnd hr (by rw [hd];exact hk)
theorem rM (k:bN P ops W) (F:Fr N a l) (hg:o.guard=none) (hd:o.dst=some d) (hN:Nat.blt d N.n=true) (hnd:dD o.op=true) {f:FuncId} {vs:Array Value} (hr:(execOp a.eval o).run P w=.ok (.enter f vs) w)
  {R:Value->World->Prop} (hc:Calls P f vs w fun e w'=>∃ v,e=.returned v/\R v w')
  (hk:∀ v w' a',R v w'->Fr N a' ((d,v)::l)->W rest a' w'):W (o::rest) a w :=
 k.call (cX hg) hnd hr hc fun v w' hR=>by rw [hd];exact hk v w' _ hR (F.put hN v)
theorem aHr (k:bN P ops W) (F:Fr N a l) (hg:o.guard=none) (hd:o.dst=some d) (hN:Nat.blt d N.n=true) (hnd:dD o.op=true) {f:FuncId} {vs:Array Value} (hr:(execOp a.eval o).run P w=.ok (.enter f vs) w)
  {R:World->Prop} (hc:Calls P f vs w fun e w'=>e=.returned v/\R w') (hk:∀ w' a',R w'->Fr N a' ((d,v)::l)->W rest a' w'):W (o::rest) a w:=by
 refine rM (R:=fun u w'=>u=v/\R w') k F hg hd hN hnd hr (hc.mono fun e w' h=>⟨v,h.1,rfl,h.2⟩) ?_
 grind
theorem jF {bb:Bool} {g s:Nat} {og:Oper} (F:Fr N a l) (hgd:o.guard=some (g,bb)) (hog:ops[g]?=some og) (hog2:og.dst=some s) (hv:lk s l=some (.bool bb)):Region.wanted o (yielded ops a.tmps)=true:=by
 have h1:=F.get s _ hv
 simp [Region.wanted,hgd,yielded,hog,hog2,h1]
theorem aEe {bb cc:Bool} {g s:Nat} {og:Oper} (F:Fr N a l) (hgd:o.guard=some (g,bb)) (hog:ops[g]?=some og) (hog2:og.dst=some s) (hv:lk s l=some (.bool cc)) (hne:(cc==bb)=false):Region.wanted o (yielded ops a.tmps)=false:=by
 have h1:=F.get s _ hv
 have:cc≠bb:=by grind
 simp [Region.wanted,hgd,yielded,hog,hog2,h1,this]
end
theorem Fr.bool {N:Fs} {a:Act} {l:List (Nat×Value)} (F:Fr N a l) {k:Nat} {v u:Value} (hv:lk k l=some v) (he:v=u):Fr N a ((k,u)::l):=by
 subst he
 refine ⟨F.size,F.defers,fun j u h=>?_⟩
 simp only [lk] at h
 split at h
 ·rename_i e
  cases h
  rw [<- Nat.eq_of_beq_eq_true e];exact F.get k _ hv
 ·exact F.get j u h
section
variable {P:Program} {ops:Array Oper} {rest:List Oper} {o:Oper} {a:Act} {w:World} {Q:Exit->Act->World->Prop} {N:Fs} {l:List (Nat×Value)}
theorem nE {s:Nat} {bb:Bool} {g:Nat} {og:Oper} (F:Fr N a l) (hgd:o.guard=some (g,bb)) (hog:ops[g]?=some og) (hog2:og.dst=some s) (hv:lk s l=some (.bool bb)) (h:wpList P ops Q ({ o with guard:=none }::rest) a w):wpList P ops Q (o::rest) a w:=by
 unfold wpList at h ⊢
 rw [if_pos (jF F hgd hog hog2 hv)]
 exact h
end
section
variable {P:Program} {ops:Array Oper} {rest:List Oper} {o:Oper} {a:Act} {Q:Act->Prop} {C:World->Prop} {N:Fs} {l:List (Nat×Value)} {d:Nat} {v:Value}
theorem aF9 (F:Fr N a l) (hg:o.guard=none) (hd:o.dst=some d) (hN:Nat.blt d N.n=true) (hr:∀ w,C w->(execOp a.eval o).run P w=.ok (.value v) w)
  (hk:∀ a',Fr N a' ((d,v)::l)->wpQuiet P ops C Q rest a'):wpQuiet P ops C Q (o::rest) a:=by
 unfold wpQuiet
 rw [if_pos (by grind [Region.wanted])]
 refine ⟨v,fun w hw=>?_,by rw [hd];exact hk _ (F.put hN v)⟩
 unfold Oper.quietAt
 rw [hr w hw]
 exact ⟨rfl,rfl⟩
theorem aEh (F:Fr N a l) (hg:o.guard=none) (hd:o.dst=some d) (hN:Nat.blt d N.n=true) {f:FuncId} {vs:Array Value} (hr:∀ w,C w->(execOp a.eval o).run P w=.ok (.enter f vs) w)
  (hc:∀ w,C w->Calls P f vs w fun e w'=>e=.returned v/\C w')
  (hk:∀ a',Fr N a' ((d,v)::l)->wpQuiet P ops C Q rest a'):wpQuiet P ops C Q (o::rest) a:=by
 unfold wpQuiet
 rw [if_pos (by grind [Region.wanted])]
 refine ⟨v,fun w hw=>?_,by rw [hd];exact hk _ (F.put hN v)⟩
 unfold Oper.quietAt
 rw [hr w hw]
 exact ⟨rfl,hc w hw⟩
theorem qg_on {k:Nat} {bb:Bool} {g:Nat} {og:Oper} (F:Fr N a l) (hgd:o.guard=some (g,bb)) (hog:ops[g]?=some og) (hog2:og.dst=some k) (hv:lk k l=some (.bool bb)) (h:wpQuiet P ops C Q ({ o with guard:=none }::rest) a):wpQuiet P ops C Q (o::rest) a:=by
 have h1:=F.get k _ hv
 have hw:Region.wanted o (yielded ops a.tmps)=true:=by simp [Region.wanted,hgd,yielded,hog,hog2,h1]
 unfold wpQuiet at h ⊢
 rw [if_pos hw]
 exact h
theorem pT (h:Q a):wpQuiet P ops C Q [] a:=h
theorem aOz {id:Nat} {Q:Exit->Act->World->Prop} {w:World} {l:List Oper} (C:World->Prop) (hm:P.follows .mixedOrders=true) (hB:Region.lexB .any l.toArray=true) (hC:C w.drew)
  (h:wpQuiet P l.toArray C (fun a'=>∀ w',C w'->Q .normal a' w') l a):(Code.region id l.toArray true).wp P Q a w :=
 wp_region_quiet (C:=C) hm hB hC (by grind)
theorem dI {id:Nat} {Q:Exit->Act->World->Prop} {w:World} {l:List Oper} (h:wpList P l.toArray Q l a w):(Code.region id l.toArray false).wp P Q a w:=wp_region_lit h
end
section
variable {P:Program} {ro:Option Nat} {Q:Exit->Act->World->Prop} {K:Act->World->Prop} {a:Act} {w:World} {N:Fs} {l:List (Nat×Value)}
theorem aPw (F:Fr N a l) {c:Operand} {x y:Code} {p:Prop} [Decidable p] (hc:ev l c=some (.bool (decide p))) (ht:p->x.wpIn (FN ro) 0 P Q a w) (hf:¬ p->y.wpIn (FN ro) 0 P Q a w):(Code.cond c x y).wpIn (FN ro) 0 P Q a w :=
 wpIn_cond_split (F.eval hc) (fun h=>ht (of_decide_eq_true h)) (fun h=>hf (of_decide_eq_false h))
theorem aKi (F:Fr N a l) {c:Operand} {x y:Code} (hc:ev l c=some (.bool true)) (h:x.wpIn (FN ro) 0 P Q a w):(Code.cond c x y).wpIn (FN ro) 0 P Q a w:=wpIn_cond_true (F.eval hc) h
theorem aQk (F:Fr N a l) {c:Operand} {x y:Code} (hc:ev l c=some (.bool false)) (h:y.wpIn (FN ro) 0 P Q a w):(Code.cond c x y).wpIn (FN ro) 0 P Q a w:=wpIn_cond_false (F.eval hc) h
theorem aNt {G:Type} {c:Code} (I:G->Act->World->Prop) (μ:G->Nat) (g0:G) (h0:I g0 a w)
  (round:∀ g a w,I g a w->c.wpIn (FN ro) 0 P (Exit.then (fun a' w'=>∃ g',I g' a' w'/\μ g'<μ g) Q) a w):(Code.loop c).wpIn (FN ro) 0 P Q a w:=by
 classical
 let q:Act->World->Nat->Prop:=fun a w n=>∃ g,I g a w/\μ g=n
 have hex:∀ a w,(∃ g,I g a w)->∃ n,q a w n:=fun a w ⟨g,hg⟩=>⟨μ g,g,hg,rfl⟩
 let m:Act->World->Nat:=fun a w=>if h:∃ g,I g a w then Classical.choose (exists_least (hex a w h)) else 0
 have hm:∀ a w (h:∃ g,I g a w),(∃ g,I g a w/\μ g=m a w)/\∀ g,I g a w->m a w<=μ g:=by
  intro a w h
  have hs:=Classical.choose_spec (exists_least (hex a w h))
  have e:m a w=Classical.choose (exists_least (hex a w h)):=dif_pos h
  rw [e]
  exact ⟨hs.1,fun g hg=>hs.2 _ ⟨g,hg,rfl⟩⟩
 refine wpIn_loop (fun a w=>∃ g,I g a w) m ⟨g0,h0⟩ fun a w h=>?_
 obtain ⟨g,hg,e⟩:=(hm a w h).1
 refine Go.wpIn_mono (round g a w hg) fun e' a' w' hq=>?_
 cases e' with
 | normal =>
  obtain ⟨g',hg',hlt⟩:=hq
  exact ⟨⟨g',hg'⟩,by have:=(hm a' w' ⟨g',hg'⟩).2 g' hg';omega⟩
 | _=>exact hq
theorem lL {id:Nat} {l:List Oper} (h:wpListIn (FN ro) 0 P l.toArray Q l a w):(Code.region id l.toArray false).wpIn (FN ro) 0 P Q a w:=wpIn_region_lit h
end
theorem aMc {P:Program} {f:FuncId} {fn:Func} {c:Code} {args:List Value} {w:World} {R:Ending->World->Prop} {N:Nat}
  (hf:P.funcs[f]?=some fn) (hb:fn.body=some c) (hN:fn.ntmps=N) (hle:Nat.ble args.length N=true)
  (h:∀ a,Fr ⟨N,[]⟩ a (jP 0 args)->c.wpIn (FN none) 0 P (bodyPostM (FN none) 0 P fn R) a w):Calls P f args.toArray w R:=by
 subst hN
 exact callsIn_wide.1 (callsIn_of_wp_marks (F:=FN none) (n:=0) hf hb trivial (h _ (Fr.mk' _ (fun k v hk=>by have:=(sZ args 0 k v hk).2;grind) (Nat.le_of_ble_eq_true hle))))
section
variable {P:Program} {fn:Func} {R:Ending->World->Prop} {a:Act} {w:World} {N:Nat} {l:List (Nat×Value)}
theorem aFr {v:Value} (F:Fr ⟨N,[]⟩ a l) (hr:(results fn a.tmps).run P w=.ok v w) (h:R (.returned v) w):LeavesInM (FN none) 0 P fn a.tmps R a.defers .returning w:=by
 rw [F.defers];exact ⟨v,hr,h⟩
theorem aAo (hr:fn.results=#[]):(results fn a.tmps).run P w=.ok (.tuple #[]) w:=by simp [results,hr]
theorem aJa (F:Fr ⟨N,[]⟩ a l) (hr:fn.results=#[]) (h:R (.returned (.tuple #[])) w):bodyPostM (FN none) 0 P fn R .ret a w:=aFr F (aAo hr) h
theorem aPy (F:Fr ⟨N,[]⟩ a l) (hr:fn.results=#[]) (h:R (.returned (.tuple #[])) w):bodyPostM (FN none) 0 P fn R .normal a w:=aFr F (aAo hr) h
end
section
variable {P:Program} {o:Oper} {a:Act} {w:World} {N:Fs} {l:List (Nat×Value)} {x y z:Operand} {t t':TypeId} {v:Value}
theorem dB (F:Fr N a l) (ho:o.op=.move x) (hx:ev l x=some v):(execOp a.eval o).run P w=.ok (.value v) w:=by
 unfold execOp;simp [ho,F.eval hx]
theorem dV (F:Fr N a l) (ho:o.op=.assign x) (hx:ev l x=some v):(execOp a.eval o).run P w=.ok (.value v) w:=by
 unfold execOp;simp [ho,F.eval hx]
theorem aKv (F:Fr N a l) (ho:o.op=.pick x y z) (hx:ev l x=some (.bool true)) (hy:ev l y=some v):(execOp a.eval o).run P w=.ok (.value v) w:=by
 unfold execOp;simp [ho,F.eval hx,F.eval hy,asBool]
theorem aHt (F:Fr N a l) (ho:o.op=.pick x y z) (hx:ev l x=some (.bool false)) (hz:ev l z=some v):(execOp a.eval o).run P w=.ok (.value v) w:=by
 unfold execOp;simp [ho,F.eval hx,F.eval hz,asBool]
theorem tN (F:Fr N a l) (ho:o.op=.pick x y z) {b:Bool} (hx:ev l x=some (.bool b)) (hy:ev l y=some (.bool true)) (hz:ev l z=some (.bool false)):(execOp a.eval o).run P w=.ok (.value (.bool b)) w:=by
 unfold execOp;cases b<;>simp [ho,F.eval hx,F.eval hy,F.eval hz,asBool]
theorem aF5 (F:Fr N a l) (ho:o.op=.unOp .not t x) {b:Bool} (hx:ev l x=some (.bool b)):(execOp a.eval o).run P w=.ok (.value (.bool (!b))) w:=by
 unfold execOp;simp [ho,F.eval hx,Op.unary]
section
variable {k:IntKind} {m n r:Int}
theorem uT (F:Fr N a l) (ho:o.op=.binOp .lss t x y t') (hx:ev l x=some (.int k m)) (hy:ev l y=some (.int k n)):(execOp a.eval o).run P w=.ok (.value (.bool (decide (m<n)))) w:=by
 unfold execOp;simp [ho,F.eval hx,F.eval hy,eqGuard,binOp,Op.intCmp]
theorem y_leq (F:Fr N a l) (ho:o.op=.binOp .leq t x y t') (hx:ev l x=some (.int k m)) (hy:ev l y=some (.int k n)):(execOp a.eval o).run P w=.ok (.value (.bool (decide (m<=n)))) w:=by
 unfold execOp;simp [ho,F.eval hx,F.eval hy,eqGuard,binOp,Op.intCmp]
theorem y_gtr (F:Fr N a l) (ho:o.op=.binOp .gtr t x y t') (hx:ev l x=some (.int k m)) (hy:ev l y=some (.int k n)):(execOp a.eval o).run P w=.ok (.value (.bool (decide (n<m)))) w:=by
 unfold execOp;simp [ho,F.eval hx,F.eval hy,eqGuard,binOp,Op.intCmp]
theorem y_geq (F:Fr N a l) (ho:o.op=.binOp .geq t x y t') (hx:ev l x=some (.int k m)) (hy:ev l y=some (.int k n)):(execOp a.eval o).run P w=.ok (.value (.bool (decide (n<=m)))) w:=by
 unfold execOp;simp [ho,F.eval hx,F.eval hy,eqGuard,binOp,Op.intCmp]
theorem aAv (F:Fr N a l) (ho:o.op=.binOp .eql t x y t') (hx:ev l x=some (.int k m)) (hy:ev l y=some (.int k n)):(execOp a.eval o).run P w=.ok (.value (.bool (decide (m=n)))) w:=by
 have:(m==n)=decide (m=n):=by rfl
 unfold execOp;simp [ho,F.eval hx,F.eval hy,eqGuard,binOp,Op.intCmp,this]
theorem y_neq (F:Fr N a l) (ho:o.op=.binOp .neq t x y t') (hx:ev l x=some (.int k m)) (hy:ev l y=some (.int k n)):(execOp a.eval o).run P w=.ok (.value (.bool (!decide (m=n)))) w:=by
 have:(m != n)=!decide (m=n):=by rfl
 unfold execOp;simp [ho,F.eval hx,F.eval hy,eqGuard,binOp,Op.intCmp,this]
theorem tO (F:Fr N a l) (ho:o.op=.binOp .add t x y t') (hx:ev l x=some (.int k m)) (hy:ev l y=some (.int k n)) (hr:k.wrap (m+n)=r):(execOp a.eval o).run P w=.ok (.value (.int k r)) w:=by
 unfold execOp;simp [ho,F.eval hx,F.eval hy,eqGuard,binOp,Op.intArith,hr]
theorem y_sub (F:Fr N a l) (ho:o.op=.binOp .sub t x y t') (hx:ev l x=some (.int k m)) (hy:ev l y=some (.int k n)) (hr:k.wrap (m-n)=r):(execOp a.eval o).run P w=.ok (.value (.int k r)) w:=by
 unfold execOp;simp [ho,F.eval hx,F.eval hy,eqGuard,binOp,Op.intArith,hr]
theorem y_mul (F:Fr N a l) (ho:o.op=.binOp .mul t x y t') (hx:ev l x=some (.int k m)) (hy:ev l y=some (.int k n)) (hr:k.wrap (m*n)=r):(execOp a.eval o).run P w=.ok (.value (.int k r)) w:=by
 unfold execOp;simp [ho,F.eval hx,F.eval hy,eqGuard,binOp,Op.intArith,hr]
end
theorem aCg {op:BinOp} (F:Fr N a l) (ho:o.op=.binOp op t x y t') {u1 u2:Value} (hx:ev l x=some u1) (hy:ev l y=some u2)
  (hr:(do eqGuard op t x y u1 u2;binOp op t u1 u2).run P w=.ok v w):(execOp a.eval o).run P w=.ok (.value v) w:=by
 unfold execOp
 simp only [ho,F.eval hx,F.eval hy]
 rw [Sem.run_bind,hr];rfl
theorem tC (F:Fr N a l) (ho:o.op=.call { callee:=.builtin .len,args:=#[x],argTypes:=#[t] }) {e:TypeId} (ht:P.underlying t=some (.slice e)) {p:Option Addr} {n c:Nat} (hx:ev l x=some (.slice p n c)):(execOp a.eval o).run P w=.ok (.value (.int .i64 n)) w:=by
 unfold execOp;simp [ho,resolve,invoke,builtin,F.eval hx,Builtin.len_,Go.run_underlying ht,goInt]
theorem aL2 (F:Fr N a l) (ho:o.op=.call { callee:=.builtin .len,args:=#[x],argTypes:=#[t] }) (ht:P.underlying t=some .string) {s:ByteArray} (hx:ev l x=some (.string s)):(execOp a.eval o).run P w=.ok (.value (.int .i64 s.size)) w:=by
 unfold execOp;simp [ho,resolve,invoke,builtin,F.eval hx,Builtin.len_,Go.run_underlying ht,goInt]
theorem aLx (F:Fr N a l) {i:Nat} (ho:o.op=.extract x i) {vs:List Value} (hx:ev l x=some (.tuple vs.toArray)) (hv:vs[i]?=some v):(execOp a.eval o).run P w=.ok (.value v) w:=by
 unfold execOp;simp [ho,F.eval hx,Instr.extract,hv]
def aM (P:Program) (t:TypeId) (f off:Nat):Prop :=
 (match P.underlying t with | some (.struct fs)=>fs[f]?.map fun g=>(g.offset,(P.info? g.type).map fun i=>decide (0<i.size)) | _=>none)=some (off,some true)
theorem pA (F:Fr N a l) {f off:Nat} (hF:aM P t f off) (ho:o.op=.fieldAddr t x f) {b k:Nat} (hx:ev l x=some (.pointer (some ⟨b,k,none⟩))) :
  (execOp a.eval o).run P w=.ok (.value (.pointer (some ⟨b,k+off,none⟩))) w:=by
 unfold aM at hF
 split at hF
 ·rename_i fs hu
  cases hg:fs[f]? with
  | none=>simp [hg] at hF
  | some g =>
   simp only [hg,Option.map_some,Option.some.injEq,Prod.mk.injEq] at hF
   obtain ⟨h1,h2⟩:=hF
   cases hi:P.info? g.type with
   | none=>simp [hi] at h2
   | some i =>
    simp [hi] at h2
    have hz:(Go.sizeOf g.type).run P w=.ok i.size w:=by
     unfold sizeOf;rw [Sem.run_bind,run_typeInfo hi];rfl
    have hne:i.size≠0:=by omega
    unfold execOp
    simp [ho,F.eval hx,Instr.fieldAt,Instr.sureAddr,Go.run_underlying hu,hg,fieldPlace,hz,hne,dQ,h1]
 ·cases hF
def Plain (P:Program) (t:TypeId):Prop:=(P.underlying t).map (fun d=>match d with | .struct _ | .array _ _=>true | _=>false)=some false
theorem Plain.run_isAgg (h:Plain P t) (w:World):(isAgg t).run P w=.ok false w:=by
 unfold Plain at h
 cases hu:P.underlying t with
 | none=>simp [hu] at h
 | some d =>
  rw [hu] at h
  unfold isAgg
  rw [Sem.run_bind,run_underlying hu]
  cases d<;>first | rfl | (simp at h)
theorem bS (F:Fr N a l) (hP:Plain P t) (ho:o.op=.load t x) {b off:Nat} (hx:ev l x=some (.pointer (some ⟨b,off,none⟩))) (hc:w.cell? ⟨b,off,none⟩=some v):(execOp a.eval o).run P w=.ok (.value v) w:=by
 unfold execOp
 simp [ho,F.eval hx,Instr.loadAt,Instr.sureAddr,loadVar,hP.run_isAgg,hc]
theorem dJ {n:Nat} {zz:List Value} (F:Fr N a l) (hA:AggT P t n zz) (ho:o.op=.load t x) {b off:Nat} (hx:ev l x=some (.pointer (some ⟨b,off,none⟩))) {cs:List Value} (hr:Row w b off cs) (hn:cs.length=n):(execOp a.eval o).run P w=.ok (.value (.agg cs.toArray)) w:=by
 unfold execOp
 simp only [ho,F.eval hx,Instr.loadAt,Instr.sureAddr,Sem.run_bind,Sem.run_pure,Result.andThen_ok,hA.run_load hr hn]
theorem yY (F:Fr N a l) (ho:o.op=.box t x) {cs:List Value} (hx:ev l x=some (.agg cs.toArray)):(execOp a.eval o).run P w=.ok (.value (.pointer (some ⟨w.heap.size,0,none⟩))) (w.alloc (.cells cs.toArray t)):=by
 unfold execOp
 simp [ho,F.eval hx,Instr.box,newVar,newRow,Value.cells]
theorem aLf (F:Fr N a l) (ho:o.op=.box t x) (hx:ev l x=some v) (hv:v.cells=#[v]):(execOp a.eval o).run P w=.ok (.value (.pointer (some ⟨w.heap.size,0,none⟩))) (w.alloc (.cells [v].toArray t)):=by
 unfold execOp
 simp [ho,F.eval hx,Instr.box,newVar,newRow,hv]
theorem aJv {n:Nat} {zz:List Value} (F:Fr N a l) (hA:AggT P t n zz) (ho:o.op=.alloc t):(execOp a.eval o).run P w=.ok (.value (.pointer (some ⟨w.heap.size,0,none⟩))) (w.alloc (.cells zz.toArray t)):=by
 unfold execOp
 simp only [ho,Instr.alloc,Sem.run_bind,hA.run_zero,newVar,newRow,newObj]
 rfl
def Zero1 (P:Program) (t:TypeId) (z:Value):Prop:=(P.info? t).map (fun i=>(i.zero,i.size))=some (some z,1)/\z.cells=#[z]
theorem Zero1.run (h:Zero1 P t v) (w:World):(zeroValue t).run P w=.ok v w:=by
 have:=h.1
 cases hu:P.info? t with
 | none=>simp [hu] at this
 | some d =>
  unfold zeroValue
  simp_all [run_typeInfo]
theorem Zero1.run_size (h:Zero1 P t v) (w:World):(sizeOf t).run P w=.ok 1 w:=by
 have:=h.1
 cases hu:P.info? t with
 | none=>simp [hu] at this
 | some d =>
  unfold sizeOf
  simp_all [run_typeInfo]
theorem aMy (F:Fr N a l) (hz:Zero1 P t v) (ho:o.op=.alloc t):(execOp a.eval o).run P w=.ok (.value (.pointer (some ⟨w.heap.size,0,none⟩))) (w.alloc (.cells [v].toArray t)):=by
 unfold execOp
 simp only [ho,Instr.alloc,Sem.run_bind,hz.run,Result.andThen_ok,newVar,hz.2]
 rfl
theorem wZ {n:Nat} {zz:List Value} (F:Fr N a l) (hA:AggT P t n zz) (ho:o.op=.store t x y) {b off:Nat} (hx:ev l x=some (.pointer (some ⟨b,off,none⟩))) {old cs:List Value} {u:TypeId} (hy:ev l y=some (.agg cs.toArray)) (hb:Blk w b old u) (hn:cs.length=n) (hl:off+n<=old.length) (hf:Flat cs) :
  (execOp a.eval o).run P w=.ok .skip (w.setRow b (old.take off++cs++old.drop (off+n)).toArray):=by
 unfold execOp
 simp only [ho,F.eval hx,F.eval hy,Instr.storeAt,Instr.sureAddr,Sem.run_bind,Sem.run_pure,Result.andThen_ok,hA.run_store hb hn hl hf]
theorem aMs {n:Nat} {zz:List Value} (F:Fr N a l) (hA:AggT P t n zz) (ho:o.op=.store t x y) {b:Nat} (hx:ev l x=some (.pointer (some ⟨b,0,none⟩))) {old cs:List Value} {u:TypeId} (hy:ev l y=some (.agg cs.toArray)) (hb:Blk w b old u) (hn:cs.length=n) (hl:old.length=n) (hf:Flat cs) :
  (execOp a.eval o).run P w=.ok .skip (w.setRow b cs.toArray):=by
 unfold execOp
 simp only [ho,F.eval hx,F.eval hy,Instr.storeAt,Instr.sureAddr,Sem.run_bind,Sem.run_pure,Result.andThen_ok,hA.run_store0 hb hn hl hf]
theorem aE8 {α:Type} (old:List α) (off:Nat) (v:α) (h:off<old.length):old.take off++[v]++old.drop (off+1)=old.set off v:=by grind [List.set_eq_take_append_cons_drop]
theorem yE (F:Fr N a l) {z1:Value} (hz:Zero1 P t z1) (ho:o.op=.store t x y) {b off:Nat} (hx:ev l x=some (.pointer (some ⟨b,off,none⟩))) {old:List Value} {u:TypeId} (hy:ev l y=some v) (hv:v.cells=#[v]) (h1:v.oneCell'=true) (hb:Blk w b old u) (hl:off<old.length) :
  (execOp a.eval o).run P w=.ok .skip (w.setRow b (old.set off v).toArray):=by
 have e:=run_storeCells_at (P:=P) b off u [v] 0 old.toArray w hb (by simp;omega) (by grind)
 simp only [Nat.add_zero,List.length_singleton,aE8 old off v hl] at e
 unfold execOp
 simp only [ho,F.eval hx,F.eval hy,Instr.storeAt,Instr.sureAddr,Sem.run_bind,storeVar,hz.run_size,hv]
 simp_all
theorem nA (F:Fr N a l) {f:FuncId} {xs:List Operand} {ts:Array TypeId} (ho:o.op=.call { callee:=.value (.func f),args:=xs.toArray,argTypes:=ts }) {vs:List Value} (hv:evs l xs=some vs)
  (he:∀ args w,(callFunc f args).run P w=.ok (.enter f args) w):(execOp a.eval o).run P w=.ok (.enter f vs.toArray) w:=by
 have:=F.evals hv
 unfold execOp
 simp [ho,resolve,Act.eval,Deferred.ofValue,invoke,he,this]
theorem aD3 (F:Fr N a l) {e:TypeId} {size bytes:Nat} {z0:Value} (hE:ElemT P t e size bytes z0) (ho:o.op=.buildSlice t 0 #[]):(execOp a.eval o).run P w=.ok (.value (.slice (some ⟨w.heap.size,0,none⟩) 0 0)) (w.alloc (.cells [].toArray e)):=by
 obtain ⟨j,hj,_,hs,_⟩:=info_parts hE.hi
 have hz:(Go.sizeOf e).run P w=.ok size w:=by unfold sizeOf;rw [Sem.run_bind,run_typeInfo hj,<- hs];rfl
 unfold execOp
 simp [ho,Instr.buildSlice,Go.run_underlying hE.ht,hz,Instr.fill,newRow]
 grind
theorem aKm {n bytes:Nat} {zz:List Value} {e:TypeId} (h:AggT P e n zz) (hE:ElemT P t e n bytes (.agg zz.toArray)) {cs:List Value} (hn:cs.length=n) (h24:n<=16777216) :
  (Instr.buildSlice t 1 #[(0,.agg cs.toArray)]).run P w=.ok (.slice (some ⟨w.heap.size,0,none⟩) 1 1) (w.alloc (.cells cs.toArray e)):=by
 have hpos:=hE.hs
 unfold Instr.buildSlice
 rw [Sem.run_bind,run_underlying hE.ht]
 simp only [Result.andThen_ok]
 rw [Sem.run_bind,h.run_size]
 simp only [Result.andThen_ok,Nat.one_mul]
 rw [if_neg (by omega)]
 rw [if_neg (by omega)]
 rw [Sem.run_bind,h.run_zero]
 simp only [Result.andThen_ok]
 rw [Sem.run_bind]
 simp only [Result.andThen_ok,Sem.run_pure,Value.cells]
 rw [aMx n _ cs hn (by simp)]
 rfl
theorem aH6 (F:Fr N a l) {n bytes:Nat} {zz:List Value} {e:TypeId} (h:AggT P e n zz) (hE:ElemT P t e n bytes (.agg zz.toArray)) (ho:o.op=.buildSlice t 1 #[(0,y)]) {cs:List Value} (hy:ev l y=some (.agg cs.toArray)) (hn:cs.length=n) (h24:n<=16777216) :
  (execOp a.eval o).run P w=.ok (.value (.slice (some ⟨w.heap.size,0,none⟩) 1 1)) (w.alloc (.cells cs.toArray e)):=by
 unfold execOp
 simp only [ho]
 have hm:(#[(0,y)].map fun (p:Nat×Operand)=>(p.1,a.eval p.2))=#[(0,Value.agg cs.toArray)]:=by simp [F.eval hy]
 simp only [hm,Sem.run_bind,aKm h hE hn h24]
 rfl
end
theorem set_same {α:Type} {l:List α} {i:Nat} {x:α} (h:l[i]?=some x):l.set i x=l:=by
 apply List.ext_getElem?
 grind
section
variable {P:Program} {w0 w:World} {ls:List HP} {t e:TypeId} {size bytes:Nat} {z:Value}
theorem aAs (H:St w0 w ls) (i:Nat) {v:Value} {n:Nat} {xs:List Value} (hi:ls[i]?=some (HP.own e size v n xs)) (hE:ElemT P t e size bytes z) {u:Value} {m:Nat} {news:List Value}
  (hsrc:Sl w u m news) (hl:news.length=m*size) (h1:Flat news) (h63:n+m<=maxLen) (hbytes:(n+m)*bytes<=140737488355328) (ty:TypeId) :
  ∃ v' w',(Builtin.append_ #[t,t] ty #[v,u]).run P w=.ok v' w'/\St w0 w' (ls.set i (HP.own e size v' (n+m) (xs++news))):=by
 obtain ⟨j,hj,hz0,hz1,hz2⟩:=info_parts hE.hi
 have ho:=H.owns i hi
 -- the source nil,or an address
 rcases (show (u=.slice none 0 0/\m=0/\news=[])\/∃ ad c,u=.slice (some ad) m c/\∀ k x,news[k]?=some x->w.cell? (ad.add k)=some x by
  rcases hsrc with h | ⟨ad,cap,rfl,h0,hn⟩ | ⟨b,off,cap,rfl,_,hr⟩
  ·exact .inl h
  ·subst h0;subst hn;exact .inr ⟨ad,cap,rfl,fun k x hk=>by simp at hk⟩
  ·exact .inr ⟨⟨b,off,none⟩,cap,rfl,fun k x hk=>by rw [dQ];exact hr k x hk⟩) with ⟨rfl,rfl,rfl⟩ | ⟨ad,c,rfl,hnews⟩
 ·refine ⟨v,w,?_,?_⟩
  ·exact run_append_owned_none (P:=P) (w:=w) 0 t ty e j size hE.ht hj v n xs ho
  ·rw [Nat.add_zero,List.append_nil,set_same hi];exact H
 ·obtain ⟨hlx,⟨rfl,rfl⟩ | ⟨g,cap,cur,rfl,_,hg,hnc,hcm,hcs,htake⟩⟩:=ho
  ·-- nil: what comes is new
   have hx:xs=[]:=List.eq_nil_of_length_eq_zero (by simpa using hlx)
   subst hx
   obtain ⟨v',w',hr,h2,h3,_⟩:=run_append_own (P:=P) w w.heap.size t ty e j z size bytes hE.ht hj hz0 hz1 hz2 hE.hz hE.hs (.slice none 0 0) 0 [] (World.ownsRow_nil w _ e size) ad m c news hl hnews h1 h63 hbytes (Nat.le_refl _)
   refine ⟨v',w',hr,H.upd i hi (fun S hA hS=>⟨fun b=>v'.ownBlock=some b,⟨⟨h2.1,?_⟩,fun b hb=>hb⟩,?_,?_,?_⟩) h3.os h3.tape h3.output h3.size⟩
   ·rcases h2.2 with h | ⟨g,cap,cur,hv,hb,hr⟩
    ·exact .inl h
    ·exact .inr ⟨g,cap,cur,hv,Nat.zero_le _,hr⟩
   ·intro b hb;exact .inr (h2.lt b hb).1
   ·intro b hb;exact (h2.lt b hb).2
   ·intro b hb _;exact h3.block b hb (by simp [Value.ownBlock])
  ·by_cases hroom:n+m<=cap
   ·have hfit:n*j.size+news.length<=cur.size:=by rw [hl,hcs,hz1,<- Nat.add_mul];exact Nat.mul_le_mul_right _ hroom
    have hr:=run_append_room (P:=P) w t ty e j hE.ht hj g n cap cur hg ad m c news (by rw [hz1];exact hl) hnews h1 hroom hfit
    refine ⟨_,_,hr,H.chg i hi (fun S hA=>hA.2 g rfl) (Chg.setRow w g _) fun S hA=>⟨⟨?_,.inr ⟨g,cap,_,rfl,Nat.zero_le _,setRow_heap w g cur _ e _ hg,hroom,hcm,?_,?_⟩⟩,hA.2⟩⟩
    ·rw [List.length_append,hlx,hl,Nat.add_mul]
    ·simp only [List.size_toArray,List.length_append,List.length_take,List.length_drop,Array.length_toList]
     rw [hz1] at hfit ⊢
     rw [hcs] at hfit ⊢
     have hns:n*size<=cap*size:=Nat.mul_le_mul_right _ hnc
     omega
    ·rw [hz1,htake]
     have:(n+m)*size=(xs++news).length:=by rw [List.length_append,hlx,hl,Nat.add_mul]
     rw [this];exact List.take_left
   ·have holds:∀ k x,xs[k]?=some x->w.cell? ((⟨g,0,none⟩:Addr).add k)=some x:=(H.owns i hi).cells (g:=g) rfl
    have hr:=run_append_grow (P:=P) w t ty e j z hE.ht hj hz0 ⟨g,0,none⟩ n cap xs (by rw [hz1];exact hlx) holds ad m c news (by rw [hz1];exact hl) hnews (by omega) (by simp only [maxLen] at h63;omega) (growslice_fits (by omega) (by rw [hz2];exact hbytes))
    have hge:=grownCap_ge w (n+m) cap e
    have hcm:=grownCap_le_maxLen w (n+m) cap e h63
    refine ⟨_,_,hr,H.upd i hi (fun S hA hS=>⟨fun b=>b=w.heap.size,⟨⟨?_,.inr ⟨w.heap.size,_,_,rfl,Nat.zero_le _,heap_alloc_new w.drew _,hge,hcm,?_,?_⟩⟩,fun b hb=>by simp [Value.ownBlock] at hb;exact hb.symm⟩,fun b hb=>.inr (by omega),fun b hb=>by simp;omega,fun b hb _=>gZ w.drew _ b hb⟩) rfl rfl rfl (by simp)⟩
    ·rw [List.length_append,hlx,hl,Nat.add_mul]
    ·simp only [Array.size_append,List.size_toArray,size_zeroCells,hE.hz,hlx,hl,<- Nat.add_mul]
     congr 1
     omega
    ·simp only [Array.toList_append,List.append_assoc]
     have:(n+m)*size=(xs++news).length:=by rw [List.length_append,hlx,hl,Nat.add_mul]
     rw [<- List.append_assoc,this]
     exact List.take_left
variable {ops:Array Oper} {rest:List Oper} {o:Oper} {a:Act} {W:List Oper->Act->World->Prop} {N:Fs} {l:List (Nat×Value)} {d:Nat}
end
theorem St.ownNew {w0 w:World} {ls:List HP} (H:St w0 w ls) (e:TypeId) (size:Nat):St w0 (w.alloc (.cells [].toArray e)) (HP.own e size (.slice (some ⟨w.heap.size,0,none⟩) 0 0) 0 []::ls) :=
 H.add _ _ fun S hS=>⟨⟨by simp,.inr ⟨_,0,#[],rfl,Nat.zero_le _,iR w _,Nat.le_refl _,by simp,by simp,by simp⟩⟩,fun b hb=>by grind [Value.ownBlock]⟩
section
variable {P:Program} {w0 w:World} {ls:List HP} {t:TypeId} {ops:Array Oper} {rest:List Oper} {o:Oper} {a:Act} {W:List Oper->Act->World->Prop} {N:Fs} {l:List (Nat×Value)} {d:Nat} {x y:Operand} {v:Value}
theorem gB (k:bN P ops W) (F:Fr N a l) (hg:o.guard=none) (hd:o.dst=some d) (hN:Nat.blt d N.n=true) (ho:o.op=.box t x) {cs:List Value} (hx:ev l x=some (.agg cs.toArray)) (H:St w0 w ls)
  (hk:∀ b w' a',St w0 w' (HP.blk b cs t::ls)->Fr N a' ((d,.pointer (some ⟨b,0,none⟩))::l)->W rest a' w'):W (o::rest) a w :=
 bD k F hg hd hN (by rw [ho];rfl) (yY F ho hx) fun a' F'=>hk _ _ a' (H.alloc cs t) F'
theorem uN (k:bN P ops W) (F:Fr N a l) (hg:o.guard=none) (hd:o.dst=some d) (hN:Nat.blt d N.n=true) (ho:o.op=.box t x) (hx:ev l x=some v) (hv:v.cells=#[v]) (H:St w0 w ls)
  (hk:∀ b w' a',St w0 w' (HP.blk b [v] t::ls)->Fr N a' ((d,.pointer (some ⟨b,0,none⟩))::l)->W rest a' w'):W (o::rest) a w :=
 bD k F hg hd hN (by rw [ho];rfl) (aLf F ho hx hv) fun a' F'=>hk _ _ a' (H.alloc [v] t) F'
theorem bE {n:Nat} {zz:List Value} (k:bN P ops W) (F:Fr N a l) (hg:o.guard=none) (hd:o.dst=some d) (hN:Nat.blt d N.n=true) (hA:AggT P t n zz) (ho:o.op=.alloc t) (H:St w0 w ls)
  (hk:∀ b w' a',St w0 w' (HP.blk b zz t::ls)->Fr N a' ((d,.pointer (some ⟨b,0,none⟩))::l)->W rest a' w'):W (o::rest) a w :=
 bD k F hg hd hN (by rw [ho];rfl) (aJv F hA ho) fun a' F'=>hk _ _ a' (H.alloc zz t) F'
theorem sR (k:bN P ops W) (F:Fr N a l) (hg:o.guard=none) (hd:o.dst=some d) (hN:Nat.blt d N.n=true) (hz:Zero1 P t v) (ho:o.op=.alloc t) (H:St w0 w ls)
  (hk:∀ b w' a',St w0 w' (HP.blk b [v] t::ls)->Fr N a' ((d,.pointer (some ⟨b,0,none⟩))::l)->W rest a' w'):W (o::rest) a w :=
 bD k F hg hd hN (by rw [ho];rfl) (aMy F hz ho) fun a' F'=>hk _ _ a' (H.alloc [v] t) F'
theorem aJ {n:Nat} {zz:List Value} (k:bN P ops W) (F:Fr N a l) (hg:o.guard=none) (hd:o.dst=none) (hA:AggT P t n zz) (ho:o.op=.store t x y) {b:Nat} (hx:ev l x=some (.pointer (some ⟨b,0,none⟩))) {old cs:List Value} {u:TypeId} (hy:ev l y=some (.agg cs.toArray))
  (H:St w0 w ls) (i:Nat) (hi:ls[i]?=some (HP.blk b old u)) (hn:cs.length=n) (hl:old.length=n) (hf:Flat cs)
  (hk:∀ w',St w0 w' (ls.set i (HP.blk b cs u))->W rest a w'):W (o::rest) a w :=
 fF k F hg hd (by rw [ho];rfl) (aMs F hA ho hx hy (H.blk i hi) hn hl hf) (hk _ (H.setBlk i hi cs))
theorem aQd {z1:Value} (k:bN P ops W) (F:Fr N a l) (hg:o.guard=none) (hd:o.dst=none) (hz:Zero1 P t z1) (ho:o.op=.store t x y) {b off:Nat} (hx:ev l x=some (.pointer (some ⟨b,off,none⟩))) {old:List Value} {u:TypeId} (hy:ev l y=some v) (hv:v.cells=#[v]) (h1:v.oneCell'=true)
  (H:St w0 w ls) (i:Nat) (hi:ls[i]?=some (HP.blk b old u)) (hl:off<old.length)
  (hk:∀ w',St w0 w' (ls.set i (HP.blk b (old.set off v) u))->W rest a w'):W (o::rest) a w :=
 fF k F hg hd (by rw [ho];rfl) (yE F hz ho hx hy hv h1 (H.blk i hi) hl) (hk _ (H.setBlk i hi _))
theorem gQ (k:bN P ops W) (F:Fr N a l) (hg:o.guard=none) (hd:o.dst=some d) (hN:Nat.blt d N.n=true) {n bytes:Nat} {zz:List Value} {e:TypeId} (h:AggT P e n zz) (hE:ElemT P t e n bytes (.agg zz.toArray)) (ho:o.op=.buildSlice t 1 #[(0,y)]) {cs:List Value} (hy:ev l y=some (.agg cs.toArray)) (hn:cs.length=n) (h24:n<=16777216) (H:St w0 w ls)
  (hk:∀ b w' a',St w0 w' (HP.blk b cs e::ls)->Fr N a' ((d,.slice (some ⟨b,0,none⟩) 1 1)::l)->W rest a' w'):W (o::rest) a w :=
 bD k F hg hd hN (by rw [ho];rfl) (aH6 F h hE ho hy hn h24) fun a' F'=>hk _ _ a' (H.alloc cs e) F'
theorem aPj {e:TypeId} {size bytes:Nat} {z0:Value} (hE:ElemT P t e 1 bytes z0) (hz:Zero1 P e z0) (vs:List Value) (h1:∀ u∈vs,u.cells=#[u]) (h24:vs.length<=16777216) :
  (Instr.buildSlice t vs.length (vs.zipIdx.map fun p=>(p.2,p.1)).toArray).run P w=.ok (.slice (some ⟨w.heap.size,0,none⟩) vs.length vs.length) (w.alloc (.cells vs.toArray e)):=by
 have key:∀ (rest done:List Value) (cells:Array Value),(∀ u∈rest,u.cells=#[u])->cells.toList.take done.length=done->cells.size=done.length+rest.length ->
   Instr.fill (fun i=>some (i*1,1)) cells ((rest.zipIdx done.length).map fun p=>(p.2,p.1))=some (done++rest).toArray:=by
  intro rest
  induction rest with
  | nil =>
   intro done cells _ h2 h3
   simp only [List.zipIdx_nil,List.map_nil,Instr.fill,List.append_nil]
   rw [List.take_of_length_le (by simp at h3 ⊢;omega)] at h2
   rw [<- h2]
  | cons u rest ih =>
   intro done cells hu h2 h3
   have hc:=hu u (List.mem_cons_self ..)
   simp only [List.zipIdx_cons,List.map_cons,Instr.fill,hc,Nat.mul_one]
   simp only [List.length_cons] at h3
   rw [if_neg (by simp;omega)]
   have h4:=ih (done++[u]) (cells.setIfInBounds done.length u) (fun x hx=>hu x (List.mem_cons_of_mem _ hx)) (by
    rw [List.length_append,List.length_singleton,Array.toList_setIfInBounds,List.take_add_one,List.take_set_of_le (Nat.le_refl _),h2]
    congr 1
    rw [List.getElem?_set_self (by simp;omega)];rfl) (by simp;omega)
   rw [List.length_append,List.length_singleton,List.append_assoc] at h4
   simpa using h4
 unfold Instr.buildSlice
 rw [Sem.run_bind,Go.Tri.run_underlying hE.ht]
 simp only [Result.andThen_ok]
 rw [Sem.run_bind,hz.run_size]
 simp only [Result.andThen_ok,Nat.mul_one]
 rw [if_neg (by omega)]
 by_cases h0:vs.length=0
 ·have:vs=[]:=List.eq_nil_of_length_eq_zero h0
  subst this
  simp [Instr.fill,newRow,newObj,Sem.run]
  have:Array.map (fun x:Nat=>(default:Value)) (Array.range 0)=#[]:=by simp
  rw [this]
 ·rw [if_neg h0,Sem.run_bind,hz.run]
  simp only [Result.andThen_ok,Sem.run_pure,pure_bind]
  have:=key vs [] ((Array.range vs.length).map (z0.cells[· % z0.cells.size]!)) h1 (by simp) (by simp)
  simp only [List.length_nil,List.nil_append,Nat.mul_one] at this
  rw [this]
  rfl
theorem dU (k:bN P ops W) (F:Fr N a l) (hg:o.guard=none) (hd:o.dst=some d) (hN:Nat.blt d N.n=true) {bytes:Nat} {z0:Value} {e:TypeId} (hE:ElemT P t e 1 bytes z0) (hz:Zero1 P e z0) {n:Nat} {parts:List (Nat×Operand)} (ho:o.op=.buildSlice t n parts.toArray) {vs:List Value} (hy:evs l (parts.map (·.2))=some vs) (hp:parts.map (·.1)=List.range n) (hn:vs.length=n) (h1:∀ u∈vs,u.cells=#[u]) (h24:n<=16777216) (H:St w0 w ls)
  (hk:∀ b w' a',St w0 w' (HP.blk b vs e::ls)->Fr N a' ((d,.slice (some ⟨b,0,none⟩) n n)::l)->W rest a' w'):W (o::rest) a w:=by
 have hm:(parts.toArray.map fun (p:Nat×Operand)=>(p.1,a.eval p.2))=(vs.zipIdx.map fun p=>(p.2,p.1)).toArray:=by
  have e1:=F.evals hy
  apply Array.ext_getElem?
  intro i
  simp only [List.map_toArray,List.getElem?_toArray,List.getElem?_map,List.getElem?_zipIdx]
  have a1:(parts[i]?).map (·.1)=(List.range n)[i]?:=by rw [<- hp,List.getElem?_map]
  grind
 have hrun:=aPj (P:=P) (w:=w) (size:=1) hE hz vs h1 (by omega)
 rw [hn] at hrun
 refine bD k F hg hd hN (by rw [ho];rfl) (v:=.slice (some ⟨w.heap.size,0,none⟩) n n) (w':=w.alloc (.cells vs.toArray e)) ?_ fun a' F'=>hk _ _ a' (H.alloc vs e) F'
 unfold execOp
 simp only [ho]
 rw [hm,Sem.run_bind,hrun]
 rfl
end
theorem St.ownForm {w0 w:World} {ls:List HP} (H:St w0 w ls) (i:Nat) {e:TypeId} {size:Nat} {v:Value} {n:Nat} {xs:List Value} (hi:ls[i]?=some (HP.own e size v n xs)) :
  ∃ p cap,v=.slice p n cap/\n<=cap/\(0<n->∃ g,p=some ⟨g,0,none⟩):=by
 obtain ⟨hl,⟨rfl,rfl⟩ | ⟨g,cap,cur,rfl,_,_,hc,_⟩⟩:=H.owns i hi<;>grind
theorem Sl.form {w:World} {v:Value} {n:Nat} {cs:List Value} (h:Sl w v n cs):∃ p cap,v=.slice p n cap/\(0<n->∃ b off,p=some ⟨b,off,none⟩/\Row w b off cs):=by
 rcases h with ⟨rfl,rfl,_⟩ | ⟨ad,cap,rfl,rfl,_⟩ | ⟨b,off,cap,rfl,_,hr⟩<;>grind
theorem wrap_i64 {x r:Int} (h:x=r) (h1:-9223372036854775808<=r) (h2:r<=9223372036854775807):IntKind.i64.wrap x=r:=by grind [IntWalk.i64_in]
theorem wrap_u64 {x r:Int} (h:x=r) (h1:0<=r) (h2:r<=18446744073709551615):IntKind.u64.wrap x=r:=by grind [IntKind.wrap,IntKind.signed,IntKind.bits]
def fH (w:World) (b:Nat) (kv:List (Value×Value)):Prop :=
 ∃ es c,w.heap[b]?=some (.map es c)/\es.toList.map (fun e=>(e.key,e.val))=kv/\(es.toList.map (·.born)).Nodup/\∀ e∈es.toList,e.born<c
def HP.mp (b:Nat) (kv:List (Value×Value)):HP:=HP.of (fun _ w S=>fH w b kv/\S b)
  (fun h hS=>by
 obtain ⟨⟨es,c,h1,h2⟩,h3⟩:=h
 exact ⟨⟨es,c,by rw [hS _ h3];exact h1,h2⟩,h3⟩)
  (fun h _=>h)
def HP.obj (b:Nat) (o:Obj):HP:=HP.of (fun _ w S=>w.heap[b]?=some o/\S b)
  (fun h hS=>⟨by rw [hS _ h.2];exact h.1,h.2⟩)
  (fun h _=>h)
theorem kJ (w:World) (b:Nat) (o:Obj):Chg b w (w.putObj b o):=by
 refine ⟨rfl,rfl,rfl,by simp,fun k hk=>?_⟩
 show (w.heap.setIfInBounds b o)[k]?=_
 grind
theorem St.objAt {w0 w:World} {l:List HP} (h:St w0 w l) (i:Nat) {b:Nat} {o:Obj} (hi:l[i]?=some (HP.obj b o)):w.heap[b]?=some o:=by
 obtain ⟨_,S,_,h1,_⟩:=h.get i hi;exact h1.1
theorem St.putObj {w0 w:World} {l:List HP} (h:St w0 w l) (i:Nat) {b:Nat} {o:Obj} (hi:l[i]?=some (HP.obj b o)) (o':Obj):St w0 (w.putObj b o') (l.set i (HP.obj b o')) :=
 h.chg i hi (fun S hA=>hA.2) (kJ w b o') fun S hA=>⟨by
  show (w.heap.setIfInBounds b o')[b]?=_
  rw [Array.getElem?_setIfInBounds,if_pos rfl,if_pos (Array.getElem?_eq_some_iff.1 hA.1).1],hA.2⟩
theorem St.newObj {w0 w:World} {l:List HP} (h:St w0 w l) (o:Obj):St w0 (w.alloc o) (HP.obj w.heap.size o::l) :=
 h.add _ _ fun S hS=>⟨iR w o,hS⟩
theorem St.mp {w0 w:World} {l:List HP} (h:St w0 w l) (i:Nat) {b:Nat} {kv:List (Value×Value)} (hi:l[i]?=some (HP.mp b kv)):fH w b kv:=by
 obtain ⟨_,S,_,h1,_⟩:=h.get i hi;exact h1.1
def mkv {κ:Type} (ek:κ->Value) (l:List (κ×Value)):List (Value×Value):=l.map fun p=>(ek p.1,p.2)
def cI {κ:Type} [DecidableEq κ] (k:κ):List (κ×Value)->Nat->Option (Nat×Value)
 | [],_=>none
 | (k',v)::r,i=>if k'=k then some (i,v) else cI k r (i+1)
theorem vB {κ:Type} [DecidableEq κ] (k:κ):∀ (l:List (κ×Value)) (i:Nat),(cI k l i).map (·.2)=aZ k l
 | [],_=>rfl
 | (k',v)::r,i=>by
  unfold cI aZ
  by_cases h:k'=k
  ·grind
  ·simp [h,vB k r (i+1)]
theorem aBg {κ:Type} [DecidableEq κ] (k:κ):∀ (l:List (κ×Value)) (i j:Nat) (v:Value),cI k l i=some (j,v)->i<=j/\(l[j-i]?).map (·.1)=some k/\∀ x,l.modify (j-i) (fun _=>(k,x))=bV k x l
 | [],_,_,_,h=>by cases h
 | (k',u)::r,i,j,v,h=>by
  unfold cI at h
  by_cases hk:k'=k
  ·grind [bV]
  ·rw [if_neg hk] at h
   obtain ⟨h1,h2,h3⟩:=aBg k r (i+1) j v h
   grind [bV]
theorem aLa {κ:Type} [DecidableEq κ] (k:κ) (l:List (κ×Value)) (i:Nat) (h:cI k l i=none):aZ k l=none:=by grind [vB]
structure dS (P:Program) (K:TypeId) {κ:Type} [DecidableEq κ] (ek:κ->Value) (ok:κ->Prop):Prop where
 check:∀ e k w,ok k->(Instr.checkKey e 10000 K (ek k)).run P w=.ok () w
 find:∀ k (es:List MapEntry) (l:List (κ×Value)) w,ok k->(∀ p∈l,ok p.1)->es.map (fun e=>(e.key,e.val))=mkv ek l->(Instr.findKey K (ek k) es).run P w=.ok (cI k l 0) w
 stays:∀ k w,ok k->(Instr.keyThatStays (ek k) (ek k)).run P w=.ok (ek k) w
section
variable {P:Program} {T K E:TypeId} {κ:Type} [DecidableEq κ] {ek:κ->Value} {ok:κ->Prop} {w:World} {b:Nat} {l:List (κ×Value)}
theorem vU (hT:P.underlying T=some (.map K E)) (hK:dS P K ek ok) (h:fH w b (mkv ek l)) (hok:∀ p∈l,ok p.1) (k:κ) (hk:ok k) (v:Value) :
  ∃ w',(Instr.mapUpdate T (.map (some b)) (ek k) v).run P w=.ok () w'/\fH w' b (mkv ek (bV k v l))/\Chg b w w':=by
 obtain ⟨es,c,hb,he,hnd,hlt⟩:=h
 have hbl:b<w.heap.size:=(Array.getElem?_eq_some_iff.1 hb).1
 have hf:=hK.find k es.toList l w hk hok he
 have hpre:∀ X,(Instr.mapUpdate T (.map (some b)) (ek k) v).run P w=X↔((do match cI k l 0 with
   | some (i,_)=>do
    let key<-Instr.keyThatStays (((es[i]?).map (·.key)).getD (ek k)) (ek k)
    setObj b (.map (es.modify i fun e=>{ e with key,val:=v }) c)
   | none=>setObj b (.map (es.push { key:=ek k,val:=v,born:=c }) (c+1)):Sem Unit)).run P w=X:=by
  intro X
  unfold Instr.mapUpdate
  rw [Sem.run_bind,run_underlying hT]
  simp only [Result.andThen_ok]
  rw [Sem.run_bind,kE w b es c hb]
  simp only [Result.andThen_ok]
  rw [Sem.run_bind,hK.check false k w hk]
  simp only [Result.andThen_ok]
  rw [Sem.run_bind,hf]
  simp only [Result.andThen_ok]
  rcases cI k l 0 with _ | ⟨i,u⟩<;>exact Iff.rfl
 cases hg:cI k l 0 with
 | none =>
  refine ⟨w.putObj b (.map (es.push { key:=ek k,val:=v,born:=c }) (c+1)),?_,⟨_,_,World.putObj_heap_same hbl,?_,?_,?_⟩,kJ _ _ _⟩
  ·rw [hpre,hg];exact qD w b es c _ hb
  ·rw [aBa k v l (aLa k l 0 hg)];simp [he,mkv]
  ·simp only [Array.toList_push,List.map_append,List.map_cons,List.map_nil]
   refine List.nodup_append.2 ⟨hnd,by simp,fun x hx y hy=>?_⟩
   simp at hy;subst hy
   obtain ⟨e,he',rfl⟩:=List.mem_map.1 hx
   have:=hlt e he';omega
  ·intro e he'
   simp only [Array.toList_push,List.mem_append,List.mem_singleton] at he'
   rcases he' with h | rfl
   ·have:=hlt e h;omega
   ·simp
 | some p =>
  obtain ⟨j,u⟩:=p
  obtain ⟨_,h2,h3⟩:=aBg k l 0 j u hg
  rw [Nat.sub_zero] at h2 h3
  have hkey:((es[j]?).map (·.key)).getD (ek k)=ek k:=by
   have:(es.toList.map (fun e=>(e.key,e.val)))[j]?=(mkv ek l)[j]?:=by rw [he]
   simp only [mkv,List.getElem?_map] at this
   cases hl:l[j]? with
   | none=>simp [hl] at h2
   | some q =>
    simp [hl] at h2
    rw [hl] at this
    cases hes:es[j]? with
    | none=>rw [Array.getElem?_toList,hes] at this;simp at this
    | some e =>
     rw [Array.getElem?_toList,hes] at this
     simp at this
     simp [this.1,h2]
  refine ⟨w.putObj b (.map (es.modify j fun e=>{ e with key:=ek k,val:=v }) c),?_,⟨_,_,World.putObj_heap_same hbl,?_,?_,?_⟩,kJ _ _ _⟩
  ·rw [hpre,hg]
   simp only [hkey]
   rw [Sem.run_bind,hK.stays k w hk]
   simp only [Result.andThen_ok]
   exact qD w b es c _ hb
  ·rw [<- h3 v]
   apply List.ext_getElem?
   intro i
   have hi:(es.toList.map (fun e=>(e.key,e.val)))[i]?=(mkv ek l)[i]?:=by rw [he]
   simp only [mkv,List.getElem?_map] at hi
   simp only [mkv,List.getElem?_map,List.getElem?_modify,Array.toList_modify]
   by_cases hij:j=i
   ·subst hij
    simp only [if_true]
    cases hes:es.toList[j]? with
    | none =>
     rw [hes] at hi
     cases hl:l[j]? with
     | none=>rfl
     | some q=>rw [hl] at hi;cases hi
    | some e =>
     rw [hes] at hi
     cases hl:l[j]? with
     | none=>rw [hl] at hi;simp at hi
     | some q=>simp
   ·simp only [if_neg hij]
    cases h1:es.toList[i]? with
    | none=>rw [h1] at hi;simpa using hi
    | some e=>rw [h1] at hi;simpa using hi
  ·have:(es.modify j fun e=>{ e with key:=ek k,val:=v }).toList.map (·.born)=es.toList.map (·.born):=by
    apply List.ext_getElem?
    intro i
    simp only [List.getElem?_map,List.getElem?_modify,Array.toList_modify]
    by_cases hij:j=i
    ·simp only [if_pos hij];cases es.toList[i]?<;>simp
    ·simp only [if_neg hij];cases es.toList[i]?<;>simp
   rw [this];exact hnd
  ·intro e he'
   simp only [Array.toList_modify] at he'
   obtain ⟨i,hi,rfl⟩:=List.getElem_of_mem he'
   simp only [List.length_modify] at hi
   rw [List.getElem_modify]
   have:=hlt _ (List.getElem_mem hi)
   split<;>simpa using this
theorem aOx {z:Value} (hT:P.underlying T=some (.map K E)) (hK:dS P K ek ok) (hz:∀ w,(zeroValue E).run P w=.ok z w) (h:fH w b (mkv ek l)) (hok:∀ p∈l,ok p.1) (k:κ) (hk:ok k) (comma:Bool) :
  (Instr.lookup T (.map (some b)) (ek k) comma).run P w=.ok (if comma then .tuple #[(aZ k l).getD z,.bool (aZ k l).isSome] else (aZ k l).getD z) w:=by
 obtain ⟨es,c,hb,he,hnd,hlt⟩:=h
 have hf:=hK.find k es.toList l w hk hok he
 unfold Instr.lookup
 rw [Sem.run_bind,run_underlying hT]
 simp only [Result.andThen_ok]
 rw [Sem.run_bind,kE w b es c hb]
 simp only [Result.andThen_ok,pure_bind]
 rw [Sem.run_bind,hK.check _ k w hk]
 simp only [Result.andThen_ok]
 rw [Sem.run_bind,hf]
 simp only [Result.andThen_ok]
 have hg:=vB k l 0
 cases hfi:cI k l 0 with
 | none =>
  rw [hfi] at hg
  simp only [Option.map_none] at hg
  simp only
  rw [Sem.run_bind,hz]
  simp only [Result.andThen_ok,pure_bind,Sem.run_pure,<- hg]
  rfl
 | some p =>
  rw [hfi] at hg
  simp only [Option.map_some] at hg
  simp only [pure_bind,Sem.run_pure,<- hg]
  rfl
end
section
variable {P:Program} {T K E:TypeId} {κ:Type} [DecidableEq κ] {ek:κ->Value} {ok:κ->Prop} {w0 w:World} {b:Nat} {l:List (κ×Value)} {ls:List HP} {ops:Array Oper} {rest:List Oper} {o:Oper} {a:Act} {W:List Oper->Act->World->Prop} {N:Fs} {sl:List (Nat×Value)} {d:Nat} {x y z:Operand}
theorem aH3 (k:bN P ops W) (F:Fr N a sl) (hg:o.guard=none) (hd:o.dst=some d) (hN:Nat.blt d N.n=true) (ho:o.op=.makeMap T none) (H:St w0 w ls)
  (hk:∀ b w' a',St w0 w' (HP.mp b []::ls)->Fr N a' ((d,.map (some b))::sl)->W rest a' w'):W (o::rest) a w:=by
 refine bD k F hg hd hN (by rw [ho];rfl) (v:=.map (some w.heap.size)) (w':=w.alloc (.map #[] 0)) ?_ fun a' F'=>hk _ _ a' (H.add _ _ fun S hS=>⟨⟨#[],0,iR w _,rfl,by simp,by simp⟩,hS⟩) F'
 unfold execOp
 simp [ho,Instr.makeMap]
theorem St.ahead (H:St w0 w ls) (n:Nat):St w0 { w with drawn:=w.drawn+n } ls:=by
 obtain ⟨hv,B,f,hs,h1,h2,h3⟩:=H
 exact ⟨hv,B,f,hs,fun i A hi=>A.loc (h1 i A hi) fun _ _=>rfl,h2,h3⟩
theorem run_choose (q:Question):∃ n,(choose q).run P w=.ok (if q.forced then 0 else q.cut (w.tape w.drawn q)) { w with drawn:=w.drawn+n }:=by
 by_cases h:q.forced=true
 ·exact ⟨0,by simp_all⟩
 ·exact ⟨1,by simp_all⟩
theorem aIz (r:Nat) {es:Array MapEntry} {c:Nat} {seen:Array Nat} (H:St w0 w ls) (hm:w.heap[b]?=some (.map es c)) (j:Nat) (hj:ls[j]?=some (HP.obj r (.mapIter (some b) c seen c))) (hlt:∀ e∈es.toList,e.born<c) (ty:TypeId) :
  ((∀ e∈es.toList,seen.contains e.born=true)/\∃ w',(Instr.next (.pointer (some ⟨r,0,none⟩)) false ty).run P w=.ok (.tuple #[.bool false]) w'/\St w0 w' ls) \/
  (∃ e∈es.toList,seen.contains e.born=false/\∃ w',(Instr.next (.pointer (some ⟨r,0,none⟩)) false ty).run P w=.ok (.tuple #[.bool true,e.key,e.val]) w'/\St w0 w' (ls.set j (HP.obj r (.mapIter (some b) c (seen.push e.born) c)))):=by
 have hr:=H.objAt j hj
 have g1:(getObj r).run P w=.ok (.mapIter (some b) c seen c) w:=by unfold getObj Sem.run;rw [hr];rfl
 have g2:=kE (P:=P) w b es c hm
 have hguard:(!seen.isEmpty&&!es.isEmpty&&es.all (·.born ≥ c))=false:=by
  cases he:es.isEmpty with
  | true=>simp
  | false =>
   have hpos:0<es.size:=by
    rcases Nat.eq_zero_or_pos es.size with h | h
    ·simp [Array.isEmpty,h] at he
    ·exact h
   have:es.all (·.born ≥ c)=false:=by
    rw [Array.all_eq_false]
    exact ⟨0,hpos,by have:=hlt es[0] (by simp);simp;omega⟩
   simp [this]
 obtain ⟨left,hleft⟩:∃ left,left=es.filter fun e=>!seen.contains e.born:=⟨_,rfl⟩
 have hold:left.filter (·.born<c)=left:=by
  rw [Array.filter_eq_self]
  intro e he
  have:e∈es:=by rw [hleft] at he;exact (Array.mem_filter.1 he).1
  simpa using hlt e (by simpa using this)
 have hnew:left.filter (·.born ≥ c)=#[]:=by
  rw [Array.filter_eq_empty_iff]
  intro e he
  have:e∈es:=by rw [hleft] at he;exact (Array.mem_filter.1 he).1
  have:=hlt e (by simpa using this)
  simp;omega
 have hrun:∀ (cand:Array (Option MapEntry)),cand=((if left.isEmpty then #[none] else #[])++left.map some)->(Instr.next (.pointer (some ⟨r,0,none⟩)) false ty).run P w =
   (do match cand[<- choose (.mapNext cand.size)]? with
     | some (some e)=>do
      setObj r (.mapIter (some b) c (seen.push e.born) c)
      pure (.tuple #[.bool true,e.key,e.val])
     | some none=>pure (.tuple #[.bool false])
     | none => stuck "Next: no such candidate" : Sem Value).run P w := by
  intro cand hc
  unfold Instr.next
  simp only
  rw [Sem.run_bind,g1]
  simp only [Result.andThen_ok]
  rw [Sem.run_bind,g2]
  simp only [Result.andThen_ok,hguard,Bool.false_eq_true,if_false]
  simp only [<- hleft,hold,hnew,Array.append_empty,<- hc]
  rfl
 by_cases hem:left.isEmpty=true
 ·refine .inl ⟨fun e he=>?_,?_⟩
  ·cases hcn:seen.contains e.born with
   | true=>rfl
   | false =>
    have:e∈left:=by rw [hleft];exact Array.mem_filter.2 ⟨by simpa using he,by rw [hcn];rfl⟩
    rw [Array.isEmpty_iff] at hem
    rw [hem] at this;simp at this
  ·have hle:left=#[]:=by simpa using hem
   refine ⟨w,?_,H⟩
   rw [hrun #[none] (by rw [if_pos hem,hle];simp)]
   rw [Sem.run_bind]
   have:(choose (.mapNext (#[none]:Array (Option MapEntry)).size)).run P w=.ok 0 w:=by unfold choose Sem.run;simp [Question.forced,Sem.run]
   rw [this]
   rfl
 ·have hne:left.isEmpty=false:=by simpa using hem
  obtain ⟨k,hk⟩:=run_choose (P:=P) (w:=w) (.mapNext (left.map some).size)
  obtain ⟨n,hn⟩:∃ n,n=(if (Question.mapNext (left.map some).size).forced then 0 else (Question.mapNext (left.map some).size).cut (w.tape w.drawn (.mapNext (left.map some).size))):=⟨_,rfl⟩
  have hpos:0<left.size:=by
   rcases Nat.eq_zero_or_pos left.size with h | h
   ·simp [Array.isEmpty,h] at hne
   ·exact h
  have hnl:n<left.size:=by
   rw [hn]
   split
   ·exact hpos
   ·simp only [Question.cut,Array.size_map];exact Nat.mod_lt _ hpos
  rw [<- hn] at hk
  have hin:left[n]∈left:=Array.getElem_mem hnl
  have hin2:left[n]∈es/\(!seen.contains left[n].born)=true:=by
   have h:=hin
   generalize left[n]=e at h
   rw [hleft] at h
   exact Array.mem_filter.1 h
  refine .inr ⟨left[n],by simpa using hin2.1,by simpa using hin2.2,?_⟩
  have H2:=(H.ahead k).putObj j hj (.mapIter (some b) c (seen.push left[n].born) c)
  refine ⟨_,?_,H2⟩
  rw [hrun (left.map some) (by rw [if_neg (by rw [hne];simp)];simp),Sem.run_bind,hk]
  simp only [Result.andThen_ok]
  have hget:(left.map some)[n]?=some (some left[n]):=by simp [hnl]
  rw [hget]
  simp only
  rw [Sem.run_bind]
  have hs:(setObj r (.mapIter (some b) c (seen.push left[n].born) c)).run P { w with drawn:=w.drawn+k }=.ok () (({ w with drawn:=w.drawn+k }:World).putObj r (.mapIter (some b) c (seen.push left[n].born) c)):=by
   unfold setObj Sem.run
   have:({ w with drawn:=w.drawn+k }:World).heap[r]?=some (.mapIter (some b) c seen c):=hr
   simp only [this]
   rfl
  rw [hs]
  rfl
theorem aPg (r:Nat) {es:Array MapEntry} {c:Nat} {seen:Array Nat} (H:St w0 w ls) (i j:Nat) (hi:ls[i]?=some (HP.obj b (.map es c))) (hj:ls[j]?=some (HP.obj r (.mapIter (some b) c seen c))) (hlt:∀ e∈es.toList,e.born<c) (ty:TypeId) :
  ((∀ e∈es.toList,seen.contains e.born=true)/\∃ w',(Instr.next (.pointer (some ⟨r,0,none⟩)) false ty).run P w=.ok (.tuple #[.bool false]) w'/\St w0 w' ls) \/
  (∃ e∈es.toList,seen.contains e.born=false/\∃ w',(Instr.next (.pointer (some ⟨r,0,none⟩)) false ty).run P w=.ok (.tuple #[.bool true,e.key,e.val]) w'/\St w0 w' (ls.set j (HP.obj r (.mapIter (some b) c (seen.push e.born) c)))) :=
 aIz r H (H.objAt i hi) j hj hlt ty
theorem aJm (kw:bN P ops W) (F:Fr N a sl) (hg:o.guard=none) (hd:o.dst=some d) (hN:Nat.blt d N.n=true) (ho:o.op=.next x false) {r:Nat} (hx:ev sl x=some (.pointer (some ⟨r,0,none⟩))) {es:Array MapEntry} {c:Nat} {seen:Array Nat} (H:St w0 w ls) (i j:Nat) (hi:ls[i]?=some (HP.obj b (.map es c))) (hj:ls[j]?=some (HP.obj r (.mapIter (some b) c seen c))) (hlt:∀ e∈es.toList,e.born<c)
  (h0:(∀ e∈es.toList,seen.contains e.born=true)->∀ w' a',St w0 w' ls->Fr N a' ((d,.tuple [.bool false].toArray)::sl)->W rest a' w')
  (h1:∀ e∈es.toList,seen.contains e.born=false->∀ w' a',St w0 w' (ls.set j (HP.obj r (.mapIter (some b) c (seen.push e.born) c)))->Fr N a' ((d,.tuple [.bool true,e.key,e.val].toArray)::sl)->W rest a' w'):W (o::rest) a w:=by
 rcases aPg (P:=P) r H i j hi hj hlt o.type with ⟨hs,w',hr,H'⟩ | ⟨e,he,hs,w',hr,H'⟩
 ·refine bD kw F hg hd hN (by rw [ho];rfl) (w':=w') ?_ fun a' F'=>h0 hs w' a' H' F'
  unfold execOp
  simp only [ho,F.eval hx,Sem.run_bind,hr,Result.andThen_ok,Sem.run_pure]
 ·refine bD kw F hg hd hN (by rw [ho];rfl) (w':=w') ?_ fun a' F'=>h1 e he hs w' a' H' F'
  unfold execOp
  simp only [ho,F.eval hx,Sem.run_bind,hr,Result.andThen_ok,Sem.run_pure]
theorem aLq (F:Fr N a sl) (ho:o.op=.entry x) {r:Nat} (hx:ev sl x=some (.pointer (some ⟨r,0,none⟩))) {es:Array MapEntry} {c:Nat} {seen:Array Nat} {e:MapEntry} (H:St w0 w ls) (hm:w.heap[b]?=some (.map es c)) (j:Nat) (hj:ls[j]?=some (HP.obj r (.mapIter (some b) c (seen.push e.born) c))) (he:e∈es.toList) (hnd:(es.toList.map (·.born)).Nodup) :
  (execOp a.eval o).run P w=.ok (.value (.tuple [e.key,e.val].toArray)) w:=by
 have hr:=H.objAt j hj
 have g1:(getObj r).run P w=.ok (.mapIter (some b) c (seen.push e.born) c) w:=by unfold getObj Sem.run;rw [hr];rfl
 have g2:=kE (P:=P) w b es c hm
 have hf:es.find? (fun x=>x.born==e.born)=some e:=by
  rw [<- Array.find?_toList]
  obtain ⟨k,hk,rfl⟩:=List.getElem_of_mem he
  rw [List.find?_eq_some_iff_getElem]
  refine ⟨by simp,k,hk,rfl,fun q hq=>?_⟩
  have:=List.pairwise_iff_getElem.1 hnd q k (by simp;simp at hk;omega) (by simpa using hk) hq
  simpa using this
 unfold execOp
 simp only [ho,F.eval hx]
 unfold Instr.entry
 simp only
 rw [Sem.run_bind,Sem.run_bind,g1]
 simp only [Result.andThen_ok,Array.back?_push]
 rw [Sem.run_bind,g2]
 simp only [Result.andThen_ok,bne_self_eq_false,Bool.false_eq_true,if_false,hf]
 rfl
theorem aKp (F:Fr N a sl) (ho:o.op=.entry x) {r:Nat} (hx:ev sl x=some (.pointer (some ⟨r,0,none⟩))) {es:Array MapEntry} {c:Nat} {seen:Array Nat} {e:MapEntry} (H:St w0 w ls) (i j:Nat) (hi:ls[i]?=some (HP.obj b (.map es c))) (hj:ls[j]?=some (HP.obj r (.mapIter (some b) c (seen.push e.born) c))) (he:e∈es.toList) (hnd:(es.toList.map (·.born)).Nodup) :
  (execOp a.eval o).run P w=.ok (.value (.tuple [e.key,e.val].toArray)) w :=
 aLq F ho hx H (H.objAt i hi) j hj he hnd
theorem aE9 (F:Fr N a sl) {f:FuncId} {xs:List Operand} (ho:o.op=.makeFunc (.func f) #[] xs.toArray) {vs:List Value} (hv:evs sl xs=some vs):(execOp a.eval o).run P w=.ok (.value (.func (.func f) #[] vs.toArray)) w:=by
 have:=F.evals hv
 unfold execOp
 simp_all [Instr.makeFunc]
end
def OwnF (l:List HP) (B:Base) (w:World) (S:Nat->Prop):Prop :=
 ∃ f:Nat->Nat->Prop,(∀ (i:Nat) (A:HP),l[i]?=some A->A.pr B w (f i))/\(∀ i j b,i<l.length->j<l.length->f i b->f j b->i=j)/\(∀ i b,i<l.length->f i b->S b)
def OwnR:List HP->Base->World->(Nat->Prop)->Prop
 | [],_,_,_=>True
 | A::l,B,w,S=>∃ S1 S2:Nat->Prop,A.pr B w S1/\OwnR l B w S2/\(∀ b,S1 b->S2 b->False)/\(∀ b,S1 b->S b)/\(∀ b,S2 b->S b)
theorem OwnR.of:∀ {l:List HP} {B:Base} {w:World} {S:Nat->Prop},OwnF l B w S->OwnR l B w S
 | [],_,_,_,_=>trivial
 | A::l,B,w,S,⟨f,h1,h2,h3⟩=>by
  refine ⟨f 0,fun b=>∃ i,i<l.length/\f (i+1) b,h1 0 A rfl,OwnR.of ⟨fun i=>f (i+1),fun i C hi=>h1 (i+1) C (by grind),fun i j b hi hj hfi hfj=>?_,fun i b hi hf=>⟨i,hi,hf⟩⟩,?_,fun b hb=>h3 0 b (by simp) hb,?_⟩<;>grind
theorem OwnR.to:∀ {l:List HP} {B:Base} {w:World} {S:Nat->Prop},OwnR l B w S->OwnF l B w S
 | [],_,_,_,_=>⟨fun _ _=>False,by simp,by simp,by simp⟩
 | A::l,B,w,S,⟨S1,S2,hA,hl,hd,hs1,hs2⟩=>by
  obtain ⟨f,h1,h2,h3⟩:=OwnR.to hl
  refine ⟨fun i=>match i with | 0=>S1 | i+1=>f i,?_,?_,?_⟩
  ·grind
  ·intro i j b hi hj hfi hfj
   simp only [List.length_cons] at hi hj
   cases i with
   | zero =>
    cases j with
    | zero=>rfl
    | succ j=>exact (hd b hfi (h3 j b (by omega) hfj)).elim
   | succ i =>
    cases j with
    | zero=>exact (hd b hfj (h3 i b (by omega) hfi)).elim
    | succ j=>have:=h2 i j b (by omega) (by omega) hfi hfj;omega
  ·intro i b hi hf
   simp only [List.length_cons] at hi
   cases i with
   | zero=>exact hs1 b hf
   | succ i=>exact hs2 b (h3 i b (by omega) hf)
theorem OwnR.perm {l l':List HP} (hp:l.Perm l'):∀ {B:Base} {w:World} {S:Nat->Prop},OwnR l B w S->OwnR l' B w S:=by
 induction hp with
 | nil=>intro B w S h;exact h
 | cons A _ ih=>rintro B w S ⟨S1,S2,hA,hl,hd,h1,h2⟩;exact ⟨S1,S2,hA,ih hl,hd,h1,h2⟩
 | swap A C l =>
  rintro B w S ⟨S1,S2,hA,⟨S3,S4,hB,hl,hd2,h3,h4⟩,hd,h1,h2⟩
  refine ⟨S3,fun b=>S1 b\/S4 b,hB,⟨S1,S4,hA,hl,fun b x y=>hd b x (h4 b y),fun b x=>.inl x,fun b x=>.inr x⟩,?_,fun b x=>h2 b (h3 b x),?_⟩<;>grind
 | trans _ _ ih1 ih2=>intro B w S h;exact ih2 (ih1 h)
theorem St.perm {w0 w:World} {l l':List HP} (h:St w0 w l) (hp:l.Perm l'):St w0 w l':=by
 obtain ⟨hv,B,f,hs,h1,h2,h3⟩:=h
 obtain ⟨g,k1,k2,k3⟩:=OwnR.to (OwnR.perm hp (OwnR.of ⟨f,h1,h2,h3⟩:OwnR l B w (fun b=>b<w.heap.size/\B b=none/\w0.heap.size<=b)))
 exact ⟨hv,B,g,hs,k1,k2,k3⟩
theorem iC {A B C:List HP}:(A++(B++C)).Perm (B++(A++C)):=by
 rw [<- List.append_assoc,<- List.append_assoc];exact (List.perm_append_comm).append_right C
theorem rW {α:Type} (A B:List α) (x y:α):(A++x::B).set A.length y=A++y::B:=by simp
theorem get_at {α:Type} (A B:List α) (x:α):(A++x::B)[A.length]?=some x:=by simp
def Rn {G α:Type} (next:G->α->G->Prop):G->List α->G->Prop
 | g,[],g'=>g=g'
 | g,x::xs,g'=>∃ g1,next g x g1/\Rn next g1 xs g'
theorem Rn.snoc {G α:Type} {next:G->α->G->Prop}:∀ {xs:List α} {g g1 g2:G} {x:α},Rn next g xs g1->next g1 x g2->Rn next g (xs++[x]) g2
 | [],g,g1,g2,x,h,k=>by cases h;exact ⟨g2,k,rfl⟩
 | y::xs,g,g1,g2,x,⟨g3,h1,h2⟩,k=>⟨g3,h1,h2.snoc k⟩
def YieldI (P:Program) (L:Nat) (args:List Value) (W:World) (R:Ending->World->Prop):Prop :=
 ∃ fn tmps assign body,(Instr.yield L args.toArray).run P W=.ok (.round L fn tmps assign body) W/\RoundIn (FN none) 0 P L fn tmps assign body W R
def xN (P:Program) (gf:FuncId) (lb:List Value) {α:Type} (enc:α->List Value) (own:List HP) (Adm:List α->α->Prop) (S:List α->Prop):Prop :=
 ∀ (L:Nat) (w0:World) (G E:Type) (J:G->List HP) (K:E->List HP) (next:G->α->G->Prop) (stop:G->α->E->Prop) (g0:G),
  (∀ xs g x W fr,Adm xs x->Rn next g0 xs g->St w0 W (J g++fr)->YieldI P L (enc x) W fun e W' =>
   (∃ g',e=.returned (.bool true)/\next g x g'/\St w0 W' (J g'++fr))\/(∃ k,e=.returned (.bool false)/\stop g x k/\St w0 W' (K k++fr))) ->
  ∀ W fr,St w0 W (J g0++(own++fr))->CallsIn (FN none) 0 P gf (Value.func (.yield L) #[] #[]::lb).toArray W fun e W'=>∃ v,e=.returned v /\
   ((∃ xs g,S xs/\Rn next g0 xs g/\St w0 W' (J g++(own++fr)))\/(∃ xs g x k,Adm xs x/\Rn next g0 xs g/\stop g x k/\St w0 W' (K k++(own++fr))))
def nN:List Nat->List Value->List (Nat×Value)->List (Nat×Value)
 | p::ps,v::vs,l=>nN ps vs ((p,v)::l)
 | _,_,l=>l
theorem Fr.bind {N:Fs}:∀ {ps:List Nat} {vs:List Value} {a:Act} {l:List (Nat×Value)},Fr N a l->ps.all (Nat.blt · N.n)=true->Fr N { a with tmps:=(ps.zip vs).foldl (fun t p=>t.setIfInBounds p.1 p.2) a.tmps } (nN ps vs l)
 | [],vs,a,l,F,_=>by assumption
 | p::ps,[],a,l,F,_=>by assumption
 | p::ps,v::vs,a,l,F,h=>by
  simp only [List.all_cons,Bool.and_eq_true] at h
  have:=Fr.bind (vs:=vs) (F.put h.1 v) h.2
  assumption
def aLr {G E α:Type} (w0:World) (J:G->List HP) (K:E->List HP) (jmp:E->Code) (next:G->α->G->Prop) (stop:G->α->E->Prop) (g:G) (x:α) (fr:List HP):Exit->Act->World->Prop
 | .normal,_,w=>∃ g',next g x g'/\St w0 w (J g'++fr)
 | .ret,_,w=>∃ k,stop g x k/\jmp k=.ret/\St w0 w (K k++fr)
 | .exit i,_,w=>∃ k,stop g x k/\jmp k=.exit i/\St w0 w (K k++fr)
 | _,_,_=>False
def mark (D:Nat):Deferred:={ target:=.collected D,args:=#[] }
theorem aOp {P:Program} {N:Nat} {ds:List Deferred} {a:Act} {l:List (Nat×Value)} {w0 w:World} {g:Operand} {ps:List Nat} {assign body:Code} {Q:Exit->Act->World->Prop} {gf:FuncId} {lb:List Value} {G E α Mid:Type} {enc:α->List Value} {own fr:List HP} {Adm:List α->α->Prop} {S:List α->Prop}
  (F:Fr ⟨N,ds⟩ a l) (hg:ev l g=some (.func (.func gf) #[] lb.toArray)) (eg:∀ args w,(callFunc gf args).run P w=.ok (.enter gf args) w) (hS:xN P gf lb enc own Adm S)
  (J:G->List HP) (K:E->List HP) (jmp:E->Code) (next:G->α->G->Prop) (stop:G->α->E->Prop) (g0:G) (H:St w0 w (J g0++(own++fr))) (hps:∀ x,(enc x).length=ps.length) (hpN:ps.all (Nat.blt · N)=true)
  (ml:G->α->Mid->List (Nat×Value)) (mi:G->α->Mid->List HP)
  (hassign:∀ L xs g x a1 W fr,Adm xs x->Rn next g0 xs g->Fr ⟨N,[]⟩ a1 (nN ps (enc x) l)->St w0 W (J g++fr) ->
   assign.wpIn (FN (some L)) 0 P (Exit.then (fun a2 w2=>∃ m,Fr ⟨N,[]⟩ a2 (ml g x m)/\St w0 w2 (mi g x m++fr)) (fun _ _ _=>False)) a1 W)
  (hbody:∀ L xs g x m a1 W fr,Adm xs x->Rn next g0 xs g->Fr ⟨N,[]⟩ a1 (ml g x m)->St w0 W (mi g x m++fr)->body.wpIn (FN (some L)) 0 P (aLr w0 J K jmp next stop g x fr) a1 W)
  (hdone:∀ D xs g a1 W,S xs->Rn next g0 xs g->Fr ⟨N,mark D::ds⟩ a1 l->St w0 W (HP.obj D (.deferred (some []))::(J g++(own++fr)))->Q .normal a1 W)
  (hstop:∀ D xs g x k a1 W,Adm xs x->Rn next g0 xs g->stop g x k->Fr ⟨N,mark D::ds⟩ a1 l->St w0 W (HP.obj D (.deferred (some []))::(K k++(own++fr)))->(jmp k).wpIn (FN none) 0 P Q a1 W) :
  (Code.rangeFunc g ps.toArray assign body).wpIn (FN none) 0 P Q a w:=by
 refine wpIn_rangeFunc fun fn hfn=>?_
 obtain ⟨rec,hrec⟩:∃ rec:LoopState->Option Code->Loop,rec=fun st pe=>{ state:=st,pending:=pe,fn,tmps:=a.tmps,params:=ps.toArray,assign,body,defers:=w.heap.size }:=⟨_,rfl⟩
 obtain ⟨D,hD⟩:∃ D,D=w.heap.size:=⟨_,rfl⟩
 obtain ⟨L,hL⟩:∃ L,L=w.heap.size+1:=⟨_,rfl⟩
 obtain ⟨W1,hW1⟩:∃ W1,(w.alloc (.deferred (some []))).alloc (.loop (rec .ready none))=W1:=⟨_,rfl⟩
 have H1:St w0 W1 (HP.obj L (.loop (rec .ready none))::HP.obj D (.deferred (some []))::(J g0++(own++fr))):=by
  have:=(H.newObj (.deferred (some []))).newObj (.loop (rec .ready none))
  rw [World.size_alloc,<- hL,<- hD,hW1] at this;exact this
 refine ⟨L,[mark D],W1,{ target:=.fn (.func gf) lb.toArray,args:=#[.func (.yield L) #[] #[]] },W1,gf,(Value.func (.yield L) #[] #[]::lb).toArray,W1,?_,?_,fun _ _=>trivial,?_,(fun h=>by cases h),?_⟩
 ·rw [hL,<- hW1,hrec,hD];exact run_enterLoop_outer _ _ _ _ _
 ·simp only [resolve,F.eval hg,Deferred.ofValue]
  simp [Act.eval]
 ·simp [invoke,eg]
 ·let J':G->List HP:=fun g=>HP.obj L (.loop (rec .ready none))::HP.obj D (.deferred (some []))::J g
  let K':E->List HP:=fun k=>HP.obj L (.loop (rec .done (some (jmp k))))::HP.obj D (.deferred (some []))::K k
  have hq:=hS L w0 G E J' K' next stop g0 (fun xs g x W fr1 hadm hrn HW=>?_) W1 fr H1
  ·refine CallsIn.mono hq fun e W' h=>?_
   obtain ⟨v,rfl,h⟩:=h
   rcases h with ⟨xs,g,hs,hrn,HW⟩ | ⟨xs,g,x,k,hadm,hrn,hst,HW⟩
   ·have hr:=HW.objAt 0 rfl
    have H2:=HW.putObj 0 rfl (.loop { rec .ready none with state:=.exhausted })
    refine ⟨none,W'.putObj L (.loop { rec .ready none with state:=.exhausted }),?_,?_⟩
    ·rw [run_endLoop hr (by rw [hrec];simp)]
     simp [hrec]
    ·exact hdone D xs g _ _ hs hrn ⟨F.size,by simp [F.defers],F.get⟩ (St.tail H2)
   ·have hr:=HW.objAt 0 rfl
    have H2:=HW.putObj 0 rfl (.loop { rec .done (some (jmp k)) with state:=.exhausted })
    refine ⟨some (jmp k),W'.putObj L (.loop { rec .done (some (jmp k)) with state:=.exhausted }),?_,?_⟩
    ·rw [run_endLoop hr (by rw [hrec];simp)]
     simp [hrec]
    ·exact hstop D xs g x k _ _ hadm hrn hst ⟨F.size,by simp [F.defers],F.get⟩ (St.tail H2)
  ·have hr:=HW.objAt 0 rfl
   refine ⟨fn,(ps.zip (enc x)).foldl (fun t p=>t.setIfInBounds p.1 p.2) a.tmps,assign,body,?_,roundIn_of_wpIn trivial ?_⟩
   ·rw [run_yield hr (by rw [hrec];simp [hps x])]
    simp [hrec]
   ·have F1:Fr ⟨N,[]⟩ { tmps:=(ps.zip (enc x)).foldl (fun t p=>t.setIfInBounds p.1 p.2) a.tmps,defers:=[] } (nN ps (enc x) l):=by
     have:=Fr.bind (N:=⟨N,ds⟩) (vs:=enc x) F hpN
     exact ⟨this.size,rfl,this.get⟩
    have HA:St w0 W (J g++([HP.obj L (.loop (rec .ready none)),HP.obj D (.deferred (some []))]++fr1)) :=
     St.perm (l:=[HP.obj L (.loop (rec .ready none)),HP.obj D (.deferred (some []))]++(J g++fr1)) HW iC
    refine Go.wpIn_mono (hassign L xs g x _ W _ hadm hrn F1 HA) fun e a2 w2 he=>?_
    cases e with
    | normal =>
     obtain ⟨m,F2,H2⟩:=he
     have hr2:=H2.objAt (mi g x m).length (get_at _ _ _)
     refine ⟨_,run_beginRound hr2 (by rw [hrec]),?_⟩
     have H3:=H2.putObj (mi g x m).length (get_at _ _ _) (.loop { rec .ready none with state:=.busy })
     rw [List.cons_append,rW] at H3
     refine Go.wpIn_mono (hbody L xs g x m a2 _ _ hadm hrn F2 H3) fun e a3 w3 he=>?_
     cases e with
     | normal =>
      obtain ⟨g',hn,H4⟩:=he
      have hr4:=H4.objAt (J g').length (get_at _ _ _)
      have H5:=H4.putObj (J g').length (get_at _ _ _) (.loop (rec .ready none))
      rw [rW] at H5
      refine ⟨.bool true,_,run_endRound none hr4,.inl ⟨g',rfl,hn,?_⟩⟩
      have H6:=St.perm (l':=[HP.obj L (.loop (rec .ready none)),HP.obj D (.deferred (some []))]++(J g'++fr1)) H5 (iC (A:=J g') (B:=[HP.obj L (.loop (rec .ready none)),HP.obj D (.deferred (some []))]) (C:=fr1))
      simpa [hrec,J'] using H6
     | ret =>
      obtain ⟨k,hk,hj,H4⟩:=he
      have hr4:=H4.objAt (K k).length (get_at _ _ _)
      have H5:=H4.putObj (K k).length (get_at _ _ _) (.loop (rec .done (some (jmp k))))
      rw [rW] at H5
      refine ⟨.bool false,_,run_endRound (some .ret) hr4,.inr ⟨k,rfl,hk,?_⟩⟩
      have H6:=St.perm (l':=[HP.obj L (.loop (rec .done (some (jmp k)))),HP.obj D (.deferred (some []))]++(K k++fr1)) H5 (iC (A:=K k) (B:=[HP.obj L (.loop (rec .done (some (jmp k)))),HP.obj D (.deferred (some []))]) (C:=fr1))
      simpa [hrec,hj,K'] using H6
     | exit i =>
      obtain ⟨k,hk,hj,H4⟩:=he
      have hr4:=H4.objAt (K k).length (get_at _ _ _)
      have H5:=H4.putObj (K k).length (get_at _ _ _) (.loop (rec .done (some (jmp k))))
      rw [rW] at H5
      refine ⟨.bool false,_,run_endRound (some (.exit i)) hr4,.inr ⟨k,rfl,hk,?_⟩⟩
      have H6:=St.perm (l':=[HP.obj L (.loop (rec .done (some (jmp k)))),HP.obj D (.deferred (some []))]++(K k++fr1)) H5 (iC (A:=K k) (B:=[HP.obj L (.loop (rec .done (some (jmp k)))),HP.obj D (.deferred (some []))]) (C:=fr1))
      simpa [hrec,hj,K'] using H6
     | goto t=>exact he.elim
     | panic c=>exact he.elim
     | outgrown=>exact he.elim
    | exit i=>exact he.elim
    | goto t=>exact he.elim
    | ret=>exact he.elim
    | panic c=>exact he.elim
    | outgrown=>exact he.elim
theorem aH5 {P:Program} {ops:Array Oper} {rest:List Oper} {o:Oper} {a:Act} {w:World} {Q:Exit->Act->World->Prop} {N:Fs} {l:List (Nat×Value)} {d:Nat} (F:Fr N a l) (hg:o.guard=none) (hd:o.dst=some d) (hN:Nat.blt d N.n=true)
  {f:Operand} {xs:List Operand} {ts:Array TypeId} (ho:o.op=.call { callee:=.value f,args:=xs.toArray,argTypes:=ts }) {L:Nat} (hf:ev l f=some (.func (.yield L) #[] #[])) {vs:List Value} (hv:evs l xs=some vs)
  {R:Bool->World->Prop} (hy:YieldI P L vs w fun e w'=>∃ b,e=.returned (.bool b)/\R b w') (hk:∀ b w' a',R b w'->Fr N a' ((d,.bool b)::l)->wpListIn (FN none) 0 P ops Q rest a' w'):wpListIn (FN none) 0 P ops Q (o::rest) a w:=by
 obtain ⟨fn,tmps,assign,body,hr,hR⟩:=hy
 have hrun:(execOp a.eval o).run P w=.ok (.round L fn tmps assign body) w:=by
  have:=F.evals hv
  unfold execOp
  simp [ho,resolve,F.eval hf,Deferred.ofValue,invoke,this,hr]
 unfold wpListIn
 rw [if_pos (cX hg)]
 refine ⟨fun _ _=>trivial,?_⟩
 rw [Oper.semAt_eq _ _ _ (fun c e=>by rw [ho] at e;cases e),hrun,Oper.uponIn_round]
 refine ⟨(fun h=>by cases h),RoundIn.mono hR fun e w' ⟨b,he,hb⟩=>?_⟩
 subst he
 rw [hd]
 exact hk b w' _ hb (F.put hN _)
section
variable {P:Program} {fn:Func} {R:Ending->World->Prop} {a:Act} {w0 w:World} {N D:Nat} {l:List (Nat×Value)} {ls:List HP}
end
theorem aIu {P:Program} {f:FuncId} {fn:Func} {c:Code} {args:List Value} {w:World} {R:Ending->World->Prop} {N:Nat}
  (hf:P.funcs[f]?=some fn) (hb:fn.body=some c) (hN:fn.ntmps=N) (hle:Nat.ble args.length N=true)
  (h:∀ a,Fr ⟨N,[]⟩ a (jP 0 args)->c.wpIn (FN none) 0 P (bodyPostM (FN none) 0 P fn R) a w):CallsIn (FN none) 0 P f args.toArray w R:=by
 subst hN
 exact callsIn_of_wp_marks (F:=FN none) (n:=0) hf hb trivial (h _ (Fr.mk' _ (fun k v hk=>by have:=(sZ args 0 k v hk).2;grind) (Nat.le_of_ble_eq_true hle)))
theorem YieldI.mono {P:Program} {L:Nat} {args:List Value} {W:World} {R R':Ending->World->Prop} (h:YieldI P L args W R) (hr:∀ e w,R e w->R' e w):YieldI P L args W R':=by
 obtain ⟨fn,tmps,assign,body,h1,h2⟩:=h
 exact ⟨fn,tmps,assign,body,h1,RoundIn.mono h2 hr⟩
section
variable {P:Program} {md:Region.Mode} {ops:Array Oper} {hv hl:Nat->Bool} {C:World->Prop} {K:Act->World->Prop}
def Yat (P:Program) (ops:Array Oper) (o:Oper) (v:Value) (a:Act) (w:World):Prop :=
 (Region.wanted o (yielded ops a.tmps)=true/\(execOp a.eval o).run P w=.ok (.value v) w)\/(Region.wanted o (yielded ops a.tmps)=false/\v=undef)
def fS (P:Program) (md:Region.Mode) (ops:Array Oper) (hv hl:Nat->Bool) (C:World->Prop) (K:Act->World->Prop):Nat->Array Bool->Act->World->Prop
  | 0,listed,a,w=>Region.ready md ops listed=[]/\K a w
  | f+1,listed,a,w=>(Region.ready md ops listed=[]->K a w)/\∀ i∈Region.ready md ops listed,∃ o,ops[i]?=some o /\
      ((hv i=true/\((Region.wanted o (yielded ops a.tmps)=true/\o.wp P a w (fun a' w'=>(hl i=true\/C w')/\fS P md ops hv hl C K f (listed.setIfInBounds i true) a' w') (fun _ _ _=>False)) \/
          (Region.wanted o (yielded ops a.tmps)=false/\fS P md ops hv hl C K f (listed.setIfInBounds i true) (a.put o.dst undef) w))) \/
       (hv i=false/\∃ v,Yat P ops o v a w/\fS P md ops hv hl C K f (listed.setIfInBounds i true) (a.put o.dst v) w))
theorem iG {o:Oper} {a:Act} {w:World} {J J':Act->World->Prop} {Q:Exit->Act->World->Prop} (h:o.wp P a w J (fun _ _ _=>False)) (hj:∀ a w,J a w->J' a w):o.wp P a w J' Q:=by
 unfold Oper.wp at *
 generalize (execOp a.eval o).run P w=r at *
 cases r with
 | ok n w' =>
  cases n<;>simp only [Oper.upon] at h ⊢
  case value v=>exact hj _ _ h
  case skip=>exact hj _ _ h
  case defer d=>exact hj _ _ h
  case enter f args =>
   refine Calls.mono h fun e w'' he=>?_
   cases e with
   | returned u=>exact hj _ _ he
   | panicked c=>exact he.elim
   | outgrown=>obtain ⟨_,_,h⟩:=he;exact h.elim
  case row row args=>exact Rows.mono h fun u w'' he=>hj _ _ he
 | halt x w' =>
  cases x<;>simp only [Oper.upon] at h ⊢
theorem mC {Q:Exit->Act->World->Prop} (hQ:∀ a w,K a w->Q .normal a w):∀ (f:Nat) (listed:Array Bool) (a:Act) (w:World),fS P md ops hv hl C K f listed a w->wpAny P md ops Q f listed a w
 | 0,_,_,_,h=>⟨h.1,hQ _ _ h.2⟩
 | f+1,listed,a,w,h=>by
  refine ⟨fun h0=>hQ _ _ (h.1 h0),fun i hi=>?_⟩
  obtain ⟨o,ho,hh⟩:=h.2 i hi
  unfold wpOp
  simp only [ho]
  rcases hh with ⟨_,⟨hw,hp⟩ | ⟨hw,hp⟩⟩ | ⟨_,v,⟨hw,hr⟩ | ⟨hw,rfl⟩,hp⟩
  ·rw [if_pos hw];exact .inl (iG hp fun a' w' hk=>mC hQ f _ a' w' hk.2)
  ·rw [if_neg (by rw [hw];simp)];exact mC hQ f _ _ _ hp
  ·rw [if_pos hw];refine .inl ?_;unfold Oper.wp;rw [hr];exact mC hQ f _ _ _ hp
  ·rw [if_neg (by rw [hw];simp)];exact mC hQ f _ _ _ hp
theorem Yat.same {o:Oper} {v:Value} {a a':Act} {w:World} (hy:Yat P ops o v a w) (he:execOp a'.eval o=execOp a.eval o) (hw:Region.wanted o (yielded ops a'.tmps)=Region.wanted o (yielded ops a.tmps)):Yat P ops o v a' w:=by grind [Yat]
theorem aOe {D:Nat->Bool} {i:Nat} {oi:Oper} {v:Value} (hi:ops[i]?=some oi) (hsel:∀ (j:Nat) (o:Oper) cs b,ops[j]?=some o->o.op≠.select cs b) (hnh:hv i=false) :
  ∀ (f:Nat) (listed:Array Bool) (a:Act) (w:World),
   (∀ j oj,ops[j]?=some oj->j≠i->listed.getD j true=false->(∀ e∈oj.after,Region.binds md e=true->e.on≠i)->oi.apart ops oj=true) ->
   (∀ j,D j=true->listed.getD j true=false/\∃ oj,ops[j]?=some oj/\∃ e∈oj.after,Region.binds md e=true/\(e.on=i\/D e.on=true)) ->
   (∀ j,j≠i->listed.getD j true=false->hl j=true->D j=true) ->
   i∈Region.ready md ops listed->C w ->
   ((∀ u,C u->Yat P ops oi v a u)\/(Yat P ops oi v a w/\∀ j,j≠i->listed.getD j true=false->hv j=true->D j=true)) ->
   fS P md ops hv hl C K f (listed.setIfInBounds i true) (a.put oi.dst v) w->fS P md ops hv hl C K (f+1) listed a w:=by
 intro f
 induction f with
 | zero =>
  intro listed a w _ hD hlast hr hC hy H
  refine ⟨fun h=>(by rw [h] at hr;cases hr),fun j hj=>?_⟩
  by_cases hji:j=i
  ·subst hji
   exact ⟨oi,hi,.inr ⟨hnh,v,hy.elim (fun h=>h w hC) (fun h=>h.1),H⟩⟩
  ·have:=ready_mono hj hji
   rw [H.1] at this
   cases this
 | succ f ih =>
  intro listed a w hfree hD hlast hr hC hy H
  refine ⟨fun h=>(by rw [h] at hr;cases hr),fun j hj=>?_⟩
  by_cases hji:j=i
  ·subst hji
   exact ⟨oi,hi,.inr ⟨hnh,v,hy.elim (fun h=>h w hC) (fun h=>h.1),H⟩⟩
  ·obtain ⟨oj,hoj,h1⟩:=H.2 j (ready_mono hj hji)
   obtain ⟨hjun,oj',hoj',hall⟩:=mem_ready.1 hj
   obtain rfl:oj=oj':=by rw [hoj] at hoj';exact Option.some.inj hoj'
   have hnot:∀ e∈oj.after,Region.binds md e=true->e.on≠i:=fun e he hb heq=>by
    have h1:=hall e he hb
    have h0:=(mem_ready.1 hr).1
    rw [heq] at h1
    rcases Nat.lt_or_ge i listed.size with h' | h'
    ·simp [h'] at h0 h1;rw [h0] at h1;cases h1
    ·simp [Array.getElem?_eq_none h'] at h1
   have hap:=hfree j oj hoj hji hjun hnot
   obtain ⟨p1,p2,p3⟩:=Oper.apart_spec hap
   have hsi:=fun cs b=>hsel i oi cs b hi
   have hsj:=fun cs b=>hsel j oj cs b hoj
   have hfree':∀ k ok,ops[k]?=some ok->k≠i->(listed.setIfInBounds j true).getD k true=false ->
     (∀ e∈ok.after,Region.binds md e=true->e.on≠i)->oi.apart ops ok=true:=fun k ok hk hki hun hno=>by
    refine hfree k ok hk hki ?_ hno
    by_cases hjk:j=k
    ·subst hjk;exact hjun
    ·rw [getD_set_ne true hjk] at hun;exact hun
   have hiun:listed.getD i true=false:=(mem_ready.1 hr).1
   have hnD:D j=false:=by
    cases e:D j with
    | false=>rfl
    | true =>
     obtain ⟨_,oj2,ho2,e2,he2,hb2,hor⟩:=hD j e
     obtain rfl:oj=oj2:=by rw [hoj] at ho2;exact Option.some.inj ho2
     have h5:=hall e2 he2 hb2
     have h6:listed.getD e2.on true=false:=by
      rcases hor with h | h
      ·rw [h];exact hiun
      ·exact (hD _ h).1
     rcases Nat.lt_or_ge e2.on listed.size with h' | h'
     ·simp [h'] at h5 h6;rw [h6] at h5;cases h5
     ·simp [Array.getElem?_eq_none h'] at h5
   have hnl:hl j=false:=by
    cases e:hl j with
    | false=>rfl
    | true=>rw [hlast j hji hjun e] at hnD;cases hnD
   have hunl:∀ k,(listed.setIfInBounds j true).getD k true=false->listed.getD k true=false:=fun k hun=>by
    by_cases hjk:j=k
    ·subst hjk;exact hjun
    ·rw [getD_set_ne true hjk] at hun;exact hun
   have hD':∀ k,D k=true->(listed.setIfInBounds j true).getD k true=false/\∃ ok,ops[k]?=some ok/\∃ e∈ok.after,Region.binds md e=true/\(e.on=i\/D e.on=true):=fun k hk=>by
    refine ⟨?_,(hD k hk).2⟩
    rw [getD_set_ne true (fun e=>by rw [e,hk] at hnD;cases hnD)];exact (hD k hk).1
   have hlast':∀ k,k≠i->(listed.setIfInBounds j true).getD k true=false->hl k=true->D k=true:=fun k hki hun hlk=>hlast k hki (hunl k hun) hlk
   have hheavy':(∀ j,j≠i->listed.getD j true=false->hv j=true->D j=true)->∀ k,k≠i->(listed.setIfInBounds j true).getD k true=false->hv k=true->D k=true:=fun hh k hki hun hvk=>hh k hki (hunl k hun) hvk
   have nol:∀ {X:Prop},(hl j=true\/X)->X:=fun h=>h.elim (fun h=>by rw [hnl] at h;cases h) id
   have keep:∀ (u:Value) (w':World),Yat P ops oi v a w'->Yat P ops oi v (a.put oj.dst u) w':=fun u w' hy =>
    hy.same (execOp_put oi hsi a oj.dst u p3) (wanted_put oi a oj.dst u p3)
   have step:∀ (u:Value) (w':World),C w'->((∀ u,C u->Yat P ops oi v a u)\/(w'=w/\hv j=false))->fS P md ops hv hl C K f ((listed.setIfInBounds i true).setIfInBounds j true) ((a.put oi.dst v).put oj.dst u) w' ->
     fS P md ops hv hl C K (f+1) (listed.setIfInBounds j true) (a.put oj.dst u) w':=by
    intro u w' hC' hcase hS
    refine ih _ _ _ hfree' hD' hlast' (ready_mono hr (Ne.symm hji)) hC' ?_ ?_
    ·rcases hcase with h | ⟨rfl,_⟩
     ·exact .inl fun x hx=>keep u x (h x hx)
     ·rcases hy with h | ⟨h,hh⟩
      ·exact .inl fun x hx=>keep u x (h x hx)
      ·exact .inr ⟨keep u _ h,hheavy' hh⟩
    ·rw [Array.setIfInBounds_comm _ _ hji,<- Act.put_comm a v u p2];exact hS
   refine ⟨oj,hoj,?_⟩
   rcases h1 with ⟨hh,⟨hw,hp⟩ | ⟨hw,hp⟩⟩ | ⟨hh,u,hyj,hp⟩
   ·-- one that turns the world
    have hst:∀ u,C u->Yat P ops oi v a u:=by
     rcases hy with h | ⟨_,h⟩
     ·exact h
     ·have:=h j hji hjun hh;rw [hnD] at this;cases this
    rw [wanted_put oj a oi.dst v p1] at hw
    refine .inl ⟨hh,.inl ⟨hw,?_⟩⟩
    unfold Oper.wp at *
    rw [execOp_put oj hsj a oi.dst v p1] at hp
    generalize (execOp a.eval oj).run P w=r at *
    cases r with
    | ok n w' =>
     cases n<;>simp only [Oper.upon] at hp ⊢
     case value u=>exact ⟨hp.1,step u w' (nol hp.1) (.inl hst) hp.2⟩
     case skip=>exact ⟨hp.1,step undef w' (nol hp.1) (.inl hst) hp.2⟩
     case defer d =>
      refine ⟨hp.1,?_⟩
      have hS:=hp.2
      have e1:({ a.put oi.dst v with defers:=d::(a.put oi.dst v).defers }:Act)=({ a with defers:=d::a.defers }:Act).put oi.dst v:=Act.put_defers a oi.dst v d
      rw [e1,Act.put_comm _ v undef p2,Array.setIfInBounds_comm _ _ (Ne.symm hji)] at hS
      refine ih _ _ _ hfree' hD' hlast' (ready_mono hr (Ne.symm hji)) (nol hp.1) (.inl fun x hx=>?_) hS
      exact (hst x hx).same (by rw [execOp_put oi hsi _ oj.dst undef p3];rfl) (by rw [wanted_put oi _ oj.dst undef p3])
     case enter fn args =>
      refine Calls.mono hp fun e w'' he=>?_
      cases e with
      | returned u=>exact ⟨he.1,step u w'' (nol he.1) (.inl hst) he.2⟩
      | panicked c=>exact he
      | outgrown=>exact he
     case row row args=>exact Rows.mono hp fun u w'' he=>⟨he.1,step u w'' (nol he.1) (.inl hst) he.2⟩
    | halt x w' =>
     cases x<;>simp only [Oper.upon] at hp ⊢
   ·rw [wanted_put oj a oi.dst v p1] at hw
    have hst:∀ u,C u->Yat P ops oi v a u:=by
     rcases hy with h | ⟨_,h⟩
     ·exact h
     ·have:=h j hji hjun hh;rw [hnD] at this;cases this
    exact .inl ⟨hh,.inr ⟨hw,step undef w hC (.inl hst) hp⟩⟩
   ·exact .inr ⟨hh,u,hyj.same (execOp_put oj hsj a oi.dst v p1).symm (wanted_put oj a oi.dst v p1).symm,step u w hC (.inr ⟨rfl,hh⟩) hp⟩
inductive Sc where
 | done
 | step (k i:Nat) (r:Sc)
 | fork (i:Nat) (x:Sc) (j:Nat) (y:Sc)
 | fork3 (i:Nat) (x:Sc) (j:Nat) (y:Sc) (k:Nat) (z:Sc)
def Sc.len:Sc->Nat
 | .done=>0
 | .step _ _ r=>r.len+1
 | .fork _ x _ _=>x.len+1
 | .fork3 _ x _ _ _ _=>x.len+1
def Sc.isDone:Sc->Bool
 | .done=>true
 | _=>false
def aW (P:Program) (ops:Array Oper) (C:World->Prop) (K:Act->World->Prop):Sc->Act->World->Prop
 | .done,a,w=>K a w
 | .fork i x j y,a,w=>(∃ o,ops[i]?=some o/\o.guard=none/\o.wp P a w (fun a' w'=>C w'/\aW P ops C K x a' w') (fun _ _ _=>False))/\(∃ o,ops[j]?=some o/\o.guard=none/\o.wp P a w (fun a' w'=>C w'/\aW P ops C K y a' w') (fun _ _ _=>False))
 | .fork3 i x j y k z,a,w=>(∃ o,ops[i]?=some o/\o.guard=none/\o.wp P a w (fun a' w'=>C w'/\aW P ops C K x a' w') (fun _ _ _=>False))/\(∃ o,ops[j]?=some o/\o.guard=none/\o.wp P a w (fun a' w'=>C w'/\aW P ops C K y a' w') (fun _ _ _=>False))/\(∃ o,ops[k]?=some o/\o.guard=none/\o.wp P a w (fun a' w'=>C w'/\aW P ops C K z a' w') (fun _ _ _=>False))
 | .step k i r,a,w=>∃ o,ops[i]?=some o /\
   (Region.wanted o (yielded ops a.tmps)=true->match k with
    | 0=>∃ v,(∀ u,C u->(execOp a.eval o).run P u=.ok (.value v) u)/\aW P ops C K r (a.put o.dst v) w
    | 1=>∃ v,(execOp a.eval o).run P w=.ok (.value v) w/\aW P ops C K r (a.put o.dst v) w
    | 2=>o.wp P a w (fun a' w'=>C w'/\aW P ops C K r a' w') (fun _ _ _=>False)
    | _=>o.wp P a w (fun a' w'=>aW P ops C K r a' w') (fun _ _ _=>False)) /\
   (Region.wanted o (yielded ops a.tmps)=false->aW P ops C K r (a.put o.dst undef) w)
def blocked (md:Region.Mode) (ops:Array Oper) (listed:Array Bool) (i:Nat):Array Bool :=
 (List.range ops.size).foldl (fun D j=>D.push (!listed.getD j true&&(match ops[j]? with | some oj=>oj.after.any (fun e=>Region.binds md e&&(e.on==i || D.getD e.on false)) | none=>false))) #[]
def xQ (md:Region.Mode) (ops:Array Oper) (listed:Array Bool) (i:Nat) (D:Nat->Bool) (n:Nat):Bool :=
 (List.range n).all fun j=>!D j || (!listed.getD j true&&(match ops[j]? with | some oj=>oj.after.any (fun e=>Region.binds md e&&(e.on==i || D e.on)) | none=>false))
def waits (ops:Array Oper) (hv:Nat->Bool) (listed:Array Bool) (i:Nat) (D:Nat->Bool):Bool :=
 (List.range listed.size).all fun j=>j==i || listed.getD j true || !hv j || D j
def nO (md:Region.Mode) (ops:Array Oper) (hv:Nat->Bool) (listed:Array Bool) (i:Nat):Bool :=
 let D:=blocked md ops listed i
 xQ md ops listed i (fun j=>D.getD j false) D.size&&waits ops hv listed i (fun j=>D.getD j false)
theorem aIv {listed:Array Bool} {i:Nat} {A:Array Bool} (h:xQ md ops listed i (fun j=>A.getD j false) A.size=true):∀ j,A.getD j false=true->listed.getD j true=false/\∃ oj,ops[j]?=some oj/\∃ e∈oj.after,Region.binds md e=true/\(e.on=i\/A.getD e.on false=true):=by grind [xQ]
theorem aG2 {listed:Array Bool} {i:Nat} {D:Nat->Bool} (h:waits ops hv listed i D=true):∀ j,j≠i->listed.getD j true=false->hv j=true->D j=true:=by grind [waits]
def dL (md:Region.Mode) (ops:Array Oper) (hv hl:Nat->Bool):Sc->Array Bool->Bool
 | .done,listed=>(Region.ready md ops listed).isEmpty
 | .fork i x j y,listed=>hv i&&hv j&&(Region.ready md ops listed==[i,j])&&(x.len==y.len)&&dL md ops hv hl x (listed.setIfInBounds i true)&&dL md ops hv hl y (listed.setIfInBounds j true)
 | .fork3 i x j y k z,listed=>hv i&&hv j&&hv k&&(Region.ready md ops listed==[i,j,k])&&(x.len==y.len)&&(x.len==z.len)&&dL md ops hv hl x (listed.setIfInBounds i true)&&dL md ops hv hl y (listed.setIfInBounds j true)&&dL md ops hv hl z (listed.setIfInBounds k true)
 | .step k i r,listed=>(match k with
   | 0=>!hv i&&(Region.ready md ops listed).contains i&&Region.free md ops listed i&&nO md ops hl listed i
   | 1=>!hv i&&(Region.ready md ops listed).contains i&&Region.free md ops listed i&&nO md ops hv listed i&&nO md ops hl listed i
   | 2=>hv i&&Region.ready md ops listed==[i]
   | _=>hv i&&hl i&&r.isDone&&Region.ready md ops listed==[i])&&dL md ops hv hl r (listed.setIfInBounds i true)
theorem fE (hsel:Region.noSelect ops=true):∀ (s:Sc) (listed:Array Bool) (a:Act) (w:World),dL md ops hv hl s listed=true->(s=.done\/C w)->aW P ops C K s a w->fS P md ops hv hl C K s.len listed a w
 | .done,listed,a,w,hB,_,h=>⟨by simpa [dL] using hB,h⟩
 | .fork i x j y,listed,a,w,hB,hC0,h=>by
  simp only [dL,Bool.and_eq_true,beq_iff_eq] at hB
  obtain ⟨⟨⟨⟨⟨b1,b2⟩,b3⟩,b4⟩,b5⟩,b6⟩:=hB
  obtain ⟨⟨oi,hi,gi,pi⟩,⟨oj,hj,gj,pj⟩⟩:=h
  refine ⟨(fun h0=>by rw [b3] at h0;cases h0),fun q hq=>?_⟩
  rw [b3] at hq
  rcases List.mem_cons.1 hq with rfl | hq
  ·exact ⟨oi,hi,.inl ⟨b1,.inl ⟨cX gi,iG pi fun a' w' hh=>⟨.inr hh.1,fE hsel x _ _ _ b5 (.inr hh.1) hh.2⟩⟩⟩⟩
  ·obtain rfl:q=j:=by simpa using hq
   exact ⟨oj,hj,.inl ⟨b2,.inl ⟨cX gj,iG pj fun a' w' hh=>⟨.inr hh.1,by have:=fE hsel y _ _ _ b6 (.inr hh.1) hh.2;rw [<- b4] at this;exact this⟩⟩⟩⟩
 | .fork3 i x j y k z,listed,a,w,hB,hC0,h=>by
  simp only [dL,Bool.and_eq_true,beq_iff_eq] at hB
  obtain ⟨⟨⟨⟨⟨⟨⟨⟨b1,b2⟩,b0⟩,b3⟩,b4⟩,b7⟩,b5⟩,b6⟩,b8⟩:=hB
  obtain ⟨⟨oi,hi,gi,pi⟩,⟨oj,hj,gj,pj⟩,⟨ok,hk,gk,pk⟩⟩:=h
  refine ⟨(fun h0=>by rw [b3] at h0;cases h0),fun q hq=>?_⟩
  rw [b3] at hq
  rcases List.mem_cons.1 hq with rfl | hq
  ·exact ⟨oi,hi,.inl ⟨b1,.inl ⟨cX gi,iG pi fun a' w' hh=>⟨.inr hh.1,fE hsel x _ _ _ b5 (.inr hh.1) hh.2⟩⟩⟩⟩
  ·rcases List.mem_cons.1 hq with rfl | hq
   ·exact ⟨oj,hj,.inl ⟨b2,.inl ⟨cX gj,iG pj fun a' w' hh=>⟨.inr hh.1,by have:=fE hsel y _ _ _ b6 (.inr hh.1) hh.2;rw [<- b4] at this;exact this⟩⟩⟩⟩
   ·obtain rfl:q=k:=by simpa using hq
    exact ⟨ok,hk,.inl ⟨b0,.inl ⟨cX gk,iG pk fun a' w' hh=>⟨.inr hh.1,by have:=fE hsel z _ _ _ b8 (.inr hh.1) hh.2;rw [<- b7] at this;exact this⟩⟩⟩⟩
 | .step k i r,listed,a,w,hB,hC0,h=>by
  have hC:C w:=hC0.elim (fun h=>by cases h) id
  obtain ⟨o,ho,hon,hoff⟩:=h
  simp only [dL,Bool.and_eq_true] at hB
  obtain ⟨hk,hr⟩:=hB
  have quiet:∀ v,hv i=false->(Region.ready md ops listed).contains i=true->Region.free md ops listed i=true->nO md ops hl listed i=true->((∀ u,C u->Yat P ops o v a u)\/(Yat P ops o v a w/\nO md ops hv listed i=true))->aW P ops C K r (a.put o.dst v) w->fS P md ops hv hl C K (r.len+1) listed a w:=by
   intro v h1 h2 h3 h4 hy hm
   refine aOe ho (Region.noSelect_spec hsel) h1 r.len listed a w (D:=fun j=>(blocked md ops listed i).getD j false) (Region.free_spec ho h3) (aIv (Bool.and_eq_true _ _▸h4).1) (aG2 (Bool.and_eq_true _ _▸h4).2) (by simpa using h2) hC ?_ (fE hsel r _ _ _ hr (.inr hC) hm)
   rcases hy with h | ⟨h,hh⟩
   ·exact .inl h
   ·exact .inr ⟨h,aG2 (Bool.and_eq_true _ _▸hh).2⟩
  cases hw:Region.wanted o (yielded ops a.tmps) with
  | true =>
   have hon':=hon hw
   match k,hk,hon' with
   | 0,hk,⟨v,hv1,hm⟩ =>
    simp only [Bool.and_eq_true,Bool.not_eq_true'] at hk
    exact quiet v hk.1.1.1 hk.1.1.2 hk.1.2 hk.2 (.inl fun u hu=>.inl ⟨hw,hv1 u hu⟩) hm
   | 1,hk,⟨v,hv1,hm⟩ =>
    simp only [Bool.and_eq_true,Bool.not_eq_true'] at hk
    exact quiet v hk.1.1.1.1 hk.1.1.1.2 hk.1.1.2 hk.2 (.inr ⟨.inl ⟨hw,hv1⟩,hk.1.2⟩) hm
   | 2,hk,hon' =>
    simp only [Bool.and_eq_true,beq_iff_eq] at hk
    refine ⟨(fun h0=>by rw [hk.2] at h0;cases h0),fun j hj=>?_⟩
    rw [hk.2] at hj
    simp at hj;subst hj
    exact ⟨o,ho,.inl ⟨hk.1,.inl ⟨hw,iG hon' fun a' w' hh=>⟨.inr hh.1,fE hsel r _ _ _ hr (.inr hh.1) hh.2⟩⟩⟩⟩
   | k+3,hk,hon' =>
    simp only [Bool.and_eq_true,beq_iff_eq] at hk
    obtain ⟨⟨⟨q1,q2⟩,q3⟩,q4⟩:=hk
    have hr0:r=.done:=by cases r<;>first | rfl | (simp [Sc.isDone] at q3)
    refine ⟨(fun h0=>by rw [q4] at h0;cases h0),fun j hj=>?_⟩
    rw [q4] at hj
    simp at hj;subst hj
    exact ⟨o,ho,.inl ⟨q1,.inl ⟨hw,iG hon' fun a' w' hh=>⟨.inl q2,fE hsel r _ _ _ hr (.inl hr0) hh⟩⟩⟩⟩
  | false =>
   have hm:=hoff hw
   match k,hk with
   | 0,hk =>
    simp only [Bool.and_eq_true,Bool.not_eq_true'] at hk
    exact quiet undef hk.1.1.1 hk.1.1.2 hk.1.2 hk.2 (.inl fun u hu=>.inr ⟨hw,rfl⟩) hm
   | 1,hk =>
    simp only [Bool.and_eq_true,Bool.not_eq_true'] at hk
    exact quiet undef hk.1.1.1.1 hk.1.1.1.2 hk.1.1.2 hk.2 (.inr ⟨.inr ⟨hw,rfl⟩,hk.1.2⟩) hm
   | 2,hk =>
    simp only [Bool.and_eq_true,beq_iff_eq] at hk
    refine ⟨(fun h0=>by rw [hk.2] at h0;cases h0),fun j hj=>?_⟩
    rw [hk.2] at hj
    simp at hj;subst hj
    exact ⟨o,ho,.inl ⟨hk.1,.inr ⟨hw,fE hsel r _ _ _ hr (.inr hC) hm⟩⟩⟩
   | k+3,hk =>
    simp only [Bool.and_eq_true,beq_iff_eq] at hk
    obtain ⟨⟨⟨q1,q2⟩,q3⟩,q4⟩:=hk
    refine ⟨(fun h0=>by rw [q4] at h0;cases h0),fun j hj=>?_⟩
    rw [q4] at hj
    simp at hj;subst hj
    exact ⟨o,ho,.inl ⟨q1,.inr ⟨hw,fE hsel r _ _ _ hr (.inr hC) hm⟩⟩⟩
theorem iK {id:Nat} {Q:Exit->Act->World->Prop} {a:Act} {w:World} {l:List Oper} (hs hz:List Nat) (s:Sc) (C:World->Prop) (hm:P.follows .mixedOrders=true)
  (hB:(Region.noSelect l.toArray&&dL .any l.toArray (fun i=>hs.contains i) (fun i=>hz.contains i) s (Array.replicate l.toArray.size false)&&(s.len==l.toArray.size))=true) (hC:C w.drew)
  (h:aW P l.toArray C (Q .normal) s a w.drew):(Code.region id l.toArray true).wp P Q a w:=by
 simp only [Bool.and_eq_true] at hB
 obtain ⟨⟨h1,h2⟩,h3⟩:=hB
 refine wp_region_any hm ?_
 have:=mC (Q:=Q) (fun a w h=>h) _ _ _ _ (fE h1 s _ a w.drew h2 (.inr hC) h)
 simp_all
end
section
variable {P:Program} {ops:Array Oper} {C:World->Prop} {K:Act->World->Prop} {N:Fs} {a:Act} {l:List (Nat×Value)} {w:World} {i d:Nat} {o:Oper} {r:Sc} {v:Value}
theorem bH (F:Fr N a l) (hi:ops[i]?=some o) (hg:o.guard=none) (hd:o.dst=some d) (hN:Nat.blt d N.n=true) (hr:∀ u,C u->(execOp a.eval o).run P u=.ok (.value v) u)
  (hk:∀ a',Fr N a' ((d,v)::l)->aW P ops C K r a' w):aW P ops C K (.step 0 i r) a w :=
 ⟨o,hi,fun _=>⟨v,hr,by rw [hd];exact hk _ (F.put hN v)⟩,fun h=>by grind [cX]⟩
theorem aMu (F:Fr N a l) (hi:ops[i]?=some o) (hg:o.guard=none) (hd:o.dst=some d) (hN:Nat.blt d N.n=true) (hr:(execOp a.eval o).run P w=.ok (.value v) w)
  (hk:∀ a',Fr N a' ((d,v)::l)->aW P ops C K r a' w):aW P ops C K (.step 1 i r) a w :=
 ⟨o,hi,fun _=>⟨v,hr,by rw [hd];exact hk _ (F.put hN v)⟩,fun h=>by grind [cX]⟩
theorem aE (hi:ops[i]?=some o) (hg:o.guard=none) (h:wpList P ops (Exit.then (fun a' w'=>C w'/\aW P ops C K r a' w') (fun _ _ _=>False)) [o] a w):aW P ops C K (.step 2 i r) a w:=by
 refine ⟨o,hi,fun hw=>?_,fun hw=>by grind [cX]⟩
 unfold wpList at h
 rw [if_pos hw] at h
 rcases h with h | ⟨_,_,_,h⟩
 ·assumption
 ·exact h.elim
theorem dF (hi:ops[i]?=some o) (hg:o.guard=none) (h:wpList P ops (Exit.then (fun a' w'=>aW P ops C K r a' w') (fun _ _ _=>False)) [o] a w):aW P ops C K (.step 3 i r) a w:=by
 refine ⟨o,hi,fun hw=>?_,fun hw=>by grind [cX]⟩
 unfold wpList at h
 rw [if_pos hw] at h
 rcases h with h | ⟨_,_,_,h⟩
 ·assumption
 ·exact h.elim
theorem eE {x y:Sc} {j:Nat} {p:Oper} (hi:ops[i]?=some o) (hg:o.guard=none) (hj:ops[j]?=some p) (hg2:p.guard=none) (h:aW P ops C K (.step 2 i x) a w) (h2:aW P ops C K (.step 2 j y) a w):aW P ops C K (.fork i x j y) a w:=by
 obtain ⟨o1,e1,f1,_⟩:=h
 obtain ⟨o2,e2,f2,_⟩:=h2
 obtain rfl:o=o1:=by grind
 obtain rfl:p=o2:=by grind
 exact ⟨⟨o,hi,hg,f1 (cX hg)⟩,⟨p,hj,hg2,f2 (cX hg2)⟩⟩
theorem uA {x y z:Sc} {j k:Nat} {p q:Oper} (hi:ops[i]?=some o) (hg:o.guard=none) (hj:ops[j]?=some p) (hg2:p.guard=none) (hk:ops[k]?=some q) (hg3:q.guard=none) (h:aW P ops C K (.step 2 i x) a w) (h2:aW P ops C K (.step 2 j y) a w) (h3:aW P ops C K (.step 2 k z) a w):aW P ops C K (.fork3 i x j y k z) a w:=by
 obtain ⟨o1,e1,f1,_⟩:=h
 obtain ⟨o2,e2,f2,_⟩:=h2
 obtain ⟨o3,e3,f3,_⟩:=h3
 obtain rfl:o=o1:=by rw [hi] at e1;exact Option.some.inj e1
 obtain rfl:p=o2:=by rw [hj] at e2;exact Option.some.inj e2
 obtain rfl:q=o3:=by rw [hk] at e3;exact Option.some.inj e3
 exact ⟨⟨o,hi,hg,f1 (cX hg)⟩,⟨p,hj,hg2,f2 (cX hg2)⟩,⟨q,hk,hg3,f3 (cX hg3)⟩⟩
theorem m_on {k s:Nat} {bb:Bool} {g:Nat} {og:Oper} (F:Fr N a l) (hi:ops[i]?=some o) (hgd:o.guard=some (g,bb)) (hog:ops[g]?=some og) (hog2:og.dst=some s) (hv:lk s l=some (.bool bb)) (hd:o.dst=some d) (hN:Nat.blt d N.n=true)
  (hr:∀ u,C u->(execOp a.eval o).run P u=.ok (.value v) u) (hk:∀ a',Fr N a' ((d,v)::l)->aW P ops C K r a' w):aW P ops C K (.step 0 i r) a w :=
 ⟨o,hi,fun _=>⟨v,hr,by rw [hd];exact hk _ (F.put hN v)⟩,fun h=>by grind [jF]⟩
theorem m_on1 {k s:Nat} {bb:Bool} {g:Nat} {og:Oper} (F:Fr N a l) (hi:ops[i]?=some o) (hgd:o.guard=some (g,bb)) (hog:ops[g]?=some og) (hog2:og.dst=some s) (hv:lk s l=some (.bool bb)) (hd:o.dst=some d) (hN:Nat.blt d N.n=true)
  (hr:(execOp a.eval o).run P w=.ok (.value v) w) (hk:∀ a',Fr N a' ((d,v)::l)->aW P ops C K r a' w):aW P ops C K (.step 1 i r) a w :=
 ⟨o,hi,fun _=>⟨v,hr,by rw [hd];exact hk _ (F.put hN v)⟩,fun h=>by grind [jF]⟩
theorem bR (h:K a w):aW P ops C K .done a w:=h
end
def evp (l:List (Nat×Value)):List (Nat×Operand)->Option (List (Nat×Value))
 | []=>some []
 | x::r=>match ev l x.2,evp l r with | some v,some vs=>some ((x.1,v)::vs) | _,_=>none
theorem Fr.evalp {N:Fs} {a:Act} {l:List (Nat×Value)} (F:Fr N a l):∀ {xs:List (Nat×Operand)} {vs:List (Nat×Value)},evp l xs=some vs->xs.map (fun p=>(p.1,a.eval p.2))=vs
 | [],vs,h=>by grind [evp]
 | x::r,vs,h=>by
  simp only [evp] at h
  split at h
  ·rename_i v us h1 h2
   cases h
   rw [List.map_cons,F.eval h1,F.evalp h2]
  grind
theorem bU {P:Program} {o:Oper} {a:Act} {w:World} {N:Fs} {l:List (Nat×Value)} {t:TypeId} (F:Fr N a l) {parts:List (Nat×Operand)} (ho:o.op=.build t parts.toArray) {vs:List (Nat×Value)} (hv:evp l parts=some vs) {cs:List Value} (hb:P.built t vs=some cs.toArray):(execOp a.eval o).run P w=.ok (.value (.agg cs.toArray)) w:=by
 have h1:=F.evalp hv
 have h2:(parts.toArray.map fun (p:Nat×Operand)=>(p.1,a.eval p.2))=vs.toArray:=by grind
 unfold execOp
 simp only [ho]
 rw [h2,Sem.run_bind,run_build w t vs.toArray cs.toArray hb]
 rfl
theorem aN7 {P:Program} {o:Oper} {a:Act} {w:World} {N:Fs} {l:List (Nat×Value)} {x:Operand} {ad:Addr} (F:Fr N a l) (ho:o.op=.nilCheck x) (hx:ev l x=some (.pointer (some ad))):(execOp a.eval o).run P w=.ok (.value (.pointer (some ad))) w:=by
 unfold execOp
 simp [ho,F.eval hx]
def txb (l:List UInt8):ByteArray:=⟨l.toArray⟩
theorem aPz (s:ByteArray):txb s.data.toList=s:=by rfl
theorem jH (l:List UInt8):(txb l).size=l.length:=by rfl
theorem iO (l:List UInt8):(txb l).data.toList=l:=by rfl
theorem mD (l:List UInt8):(txb l).toList=l:=by simp [txb]
theorem aMz {l m:List UInt8} (h:txb l=txb m):l=m:=by grind [iO]
theorem aKj (l m:List UInt8):txb l++txb m=txb (l++m):=by rfl
theorem aQj (l:List UInt8) (i j:Nat):(txb l).extract i j=txb ((l.take j).drop i):=by
 apply ByteArray.ext
 simp [txb,List.drop_take]
section
variable {P:Program} {o:Oper} {a:Act} {w:World} {N:Fs} {sl:List (Nat×Value)} {x y:Operand} {t t':TypeId} {l m:List UInt8}
theorem aMn (F:Fr N a sl) (ho:o.op=.call { callee:=.builtin .len,args:=#[x],argTypes:=#[t] }) (ht:P.underlying t=some .string) (hx:ev sl x=some (.string (txb l))):(execOp a.eval o).run P w=.ok (.value (.int .i64 (l.length:Nat))) w:=by grind [jH,aL2]
theorem aMj (F:Fr N a sl) {k:IntKind} {i:Nat} {c:UInt8} (ho:o.op=.index t x y) (ht:P.underlying t=some .string) (hx:ev sl x=some (.string (txb l))) (hy:ev sl y=some (.int k (i:Int))) (hc:l[i]?=some c):(execOp a.eval o).run P w=.ok (.value (.int .u8 ((c.toNat:Nat):Int))) w:=by
 have h1:(txb l)[i]?=some c:=by
  obtain ⟨h,rfl⟩:=List.getElem?_eq_some_iff.1 hc
  rw [getElem?_pos (txb l) i (by exact h)]
  rfl
 unfold execOp
 simp [ho,F.eval hx,F.eval hy,Instr.index,asIntOf,Go.run_underlying ht,h1]
theorem aPc (F:Fr N a sl) (ho:o.op=.binOp .add t x y t') (hx:ev sl x=some (.string (txb l))) (hy:ev sl y=some (.string (txb m))) (h:l.length+m.length<=9223372036854775807):(execOp a.eval o).run P w=.ok (.value (.string (txb (l++m)))) w:=by
 have h1:¬ (((txb l).size+(txb m).size:Nat):Int) > IntKind.i64.max:=by grind [jH,IntKind.max,IntKind.bits]
 have h2:(Op.stringOp .add (txb l) (txb m)).run P w=.ok (.string (txb (l++m))) w:=by
  simp_all [Op.stringOp,aKj]
 unfold execOp
 simp [ho,F.eval hx,F.eval hy,eqGuard,binOp,h2]
theorem rA (F:Fr N a sl) (ho:o.op=.binOp .eql t x y t') (hx:ev sl x=some (.string (txb l))) (hy:ev sl y=some (.string (txb m))):(execOp a.eval o).run P w=.ok (.value (.bool (decide (l=m)))) w:=by
 have h1:(l==m)=decide (l=m):=by grind
 unfold execOp
 simp [ho,F.eval hx,F.eval hy,eqGuard,binOp,Op.stringOp,mD,h1]
theorem y_neT (F:Fr N a sl) (ho:o.op=.binOp .neq t x y t') (hx:ev sl x=some (.string (txb l))) (hy:ev sl y=some (.string (txb m))):(execOp a.eval o).run P w=.ok (.value (.bool (!decide (l=m)))) w:=by
 have h1:(l==m)=decide (l=m):=by grind
 unfold execOp
 simp [ho,F.eval hx,F.eval hy,eqGuard,binOp,Op.stringOp,mD,h1]
theorem xK (ht:P.underlying t=some .string) {lo hi:Option Value} {i j:Nat} (h:(Instr.sliceBounds false l.length l.length lo hi none).run P w=.ok (i,j,l.length) w) :
  (Instr.sliceAt t (.string (txb l)) lo hi none).run P w=.ok (.string (txb ((l.take j).drop i))) w:=by simp_all [Instr.sliceAt,Go.run_underlying,Instr.slice,jH,aQj]
theorem uK {k:IntKind} {i n:Nat} {c:BoundsCode} (h:i<=n):(Instr.sliceBound (.int k (i:Int)) n c).run P w=.ok i w:=by
 unfold Instr.sliceBound
 simp [asIntOf,h]
theorem aP2 (F:Fr N a sl) {lo hi:Operand} {k k':IntKind} {i j:Nat} (ho:o.op=.slice t x (some lo) (some hi) none) (ht:P.underlying t=some .string) (hx:ev sl x=some (.string (txb l))) (hl:ev sl lo=some (.int k (i:Int))) (hh:ev sl hi=some (.int k' (j:Int))) (hij:i<=j) (hj:j<=l.length) :
  (execOp a.eval o).run P w=.ok (.value (.string (txb ((l.take j).drop i)))) w:=by
 have hb:(Instr.sliceBounds false l.length l.length (some (.int k (i:Int))) (some (.int k' (j:Int))) none).run P w=.ok (i,j,l.length) w:=by
  simp_all [Instr.sliceBounds,uK]
 unfold execOp
 simp [ho,F.eval hx,F.eval hl,F.eval hh,xK ht hb]
theorem aH9 (F:Fr N a sl) {lo:Operand} {k:IntKind} {i:Nat} (ho:o.op=.slice t x (some lo) none none) (ht:P.underlying t=some .string) (hx:ev sl x=some (.string (txb l))) (hl:ev sl lo=some (.int k (i:Int))) (hi:i<=l.length) :
  (execOp a.eval o).run P w=.ok (.value (.string (txb (l.drop i)))) w:=by
 have hb:(Instr.sliceBounds false l.length l.length (some (.int k (i:Int))) none none).run P w=.ok (i,l.length,l.length) w:=by
  simp_all [Instr.sliceBounds,uK]
 unfold execOp
 simp [ho,F.eval hx,F.eval hl,xK ht hb]
theorem aNq (F:Fr N a sl) {hi:Operand} {k:IntKind} {j:Nat} (ho:o.op=.slice t x none (some hi) none) (ht:P.underlying t=some .string) (hx:ev sl x=some (.string (txb l))) (hh:ev sl hi=some (.int k (j:Int))) (hj:j<=l.length) :
  (execOp a.eval o).run P w=.ok (.value (.string (txb (l.take j)))) w:=by
 have hb:(Instr.sliceBounds false l.length l.length none (some (.int k (j:Int))) none).run P w=.ok (0,j,l.length) w:=by
  simp_all [Instr.sliceBounds,uK]
 unfold execOp
 simp [ho,F.eval hx,F.eval hh,xK ht hb]
theorem ElemT.run_size {e:TypeId} {size bytes:Nat} {z0:Value} (hE:ElemT P t e size bytes z0) (w:World):(sizeOf e).run P w=.ok size w:=by
 have h:=hE.hi
 cases hi:P.info? e with
 | none=>rw [hi] at h;cases h
 | some d =>
  rw [hi] at h
  simp at h
  simp [sizeOf,typeInfo,hi,h]
end
section
variable {P:Program} {o:Oper} {a:Act} {w:World} {N:Fs} {sl:List (Nat×Value)} {x y:Operand} {t t':TypeId}
theorem aI1 (F:Fr N a sl) {p q:Bool} (ho:o.op=.binOp .eql t x y t') (ht:P.underlying t=some .bool) (hx:ev sl x=some (.bool p)) (hy:ev sl y=some (.bool q)):(execOp a.eval o).run P w=.ok (.value (.bool (decide (p=q)))) w:=by
 unfold execOp
 have h1:(Op.equal t (.bool p) (.bool q)).run P w=.ok (p==q) w:=run_equalIn_bool w _ t p q ht
 cases p<;>cases q<;>simp [ho,F.eval hx,F.eval hy,eqGuard,binOp,h1]
theorem aP3 (F:Fr N a sl) {p q:Bool} (ho:o.op=.binOp .neq t x y t') (ht:P.underlying t=some .bool) (hx:ev sl x=some (.bool p)) (hy:ev sl y=some (.bool q)):(execOp a.eval o).run P w=.ok (.value (.bool (!decide (p=q)))) w:=by
 unfold execOp
 have h1:(Op.equal t (.bool p) (.bool q)).run P w=.ok (p==q) w:=run_equalIn_bool w _ t p q ht
 cases p<;>cases q<;>simp [ho,F.eval hx,F.eval hy,eqGuard,binOp,h1]
end
end Go.Tri
