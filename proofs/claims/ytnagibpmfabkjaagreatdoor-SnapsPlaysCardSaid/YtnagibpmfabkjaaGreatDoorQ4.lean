/- Texts N, S, K, Cv, Str, Op, Seal, Srt, Ins. -/
import Derived.Test.YtnagibpmfabkjaaGreatDoorQ3
import Derived.Shelf.SlSortCmp.WholeK
import Derived.ArgAppend
import Derived.Lib.SplitLaws
import Derived.Lib.Join
import Derived.Below
import Derived.Test.YtnagibpmfabkjaaGreatDoorQ0
import Derived.Shelf.SlicesE.DeleteFunc
import Derived.Sort.EncStr
import Derived.Shelf.SlSortCmp.NoneTotal
set_option linter.unusedSimpArgs false
set_option linter.unusedVariables false
namespace Go.Tri
open Go.RowKit
abbrev En (P:Program) (f:FuncId):Prop:=∀ args w,(callFunc f args).run P w=.ok (.enter f args) w
theorem fl {cs:List Value} (h:cs.all Value.oneCell'=true):Flat cs:=fun v hv=>List.all_eq_true.1 h v hv
def pkS:List Nat→List (Nat×Value)→Option (List (Nat×Value))
 | [],_=>some []
 | k::r,l=>match lk k l with
  | some v=>match pkS r l with
   | some r'=>some ((k,v)::r')
   | none=>none
  | none=>none
def opV (n:Nat) (o:Oper):Option Nat:=match o.guard with
 | some _=>none
 | none=>match o.dst with
  | none=>none
  | some d=>match Nat.blt d n with
   | true=>match notDefer o.op with
    | true=>some d
    | false=>none
   | false=>none
theorem opV_ok {n d:Nat} {o:Oper} (h:opV n o=some d):o.guard=none∧o.dst=some d∧Nat.blt d n=true∧notDefer o.op=true:=by
 unfold opV at h
 split at h
 ·cases h
 ·rename_i hg
  split at h
  ·cases h
  ·rename_i d' hd
   split at h
   ·rename_i hb
    split at h
    ·rename_i hn;cases h;exact ⟨hg,hd,hb,hn⟩
    ·cases h
   ·cases h
section
variable {P:Program} {ops:Array Oper} {Q:Exit→Act→World→Prop} {a:Act} {w w0 w':World} {N:Fs} {sl sl' s1:List (Nat×Value)} {ls l1:List HP} {o:Oper} {rest l l':List Oper} {d:Nat} {v:Value}
theorem sv (F:Fr N a sl) (h:opV N.n o=some d) (hr:(execOp a.eval o).run P w=.ok (.value v) w') (hk:∀ a',Fr N a' ((d,v)::sl)→wpList P ops Q rest a' w'):wpList P ops Q (o::rest) a w :=
 s_val wkP F (opV_ok h).1 (opV_ok h).2.1 (opV_ok h).2.2.1 (opV_ok h).2.2.2 hr hk
theorem qv {C:World→Prop} {Q:Act→Prop} (F:Fr N a sl) (h:opV N.n o=some d) (hr:∀ w,C w→(execOp a.eval o).run P w=.ok (.value v) w) (hk:∀ a',Fr N a' ((d,v)::sl)→wpQuiet P ops C Q rest a'):wpQuiet P ops C Q (o::rest) a :=
 q_val F (opV_ok h).1 (opV_ok h).2.1 (opV_ok h).2.2.1 hr hk
theorem bb {ops:List Oper} (hs:List Nat) (F:Fr N a sl) (H:St w0 w ls) (h:qrun P N.n ops ls hs sl l=some (sl',l',[])) (k:∀ a',Fr N a' sl'→wpList P ops.toArray Q l' a' w):wpList P ops.toArray Q l a w:=bk hs F H h trivial k
theorem qb {ops:List Oper} {Q:Act→Prop} (hs:List Nat) (F:Fr N a sl) (h:qrun P N.n ops ls hs sl l=some (sl',l',[])) (k:∀ a',Fr N a' sl'→wpQuiet P ops.toArray (fun u=>St w0 u ls) Q l' a'):wpQuiet P ops.toArray (fun u=>St w0 u ls) Q l a:=qbk hs F h trivial k
theorem mb {ops:List Oper} {C:World→Prop} {K:Act→World→Prop} {s s':Sc} (hs:List Nat) (F:Fr N a sl) (H:St w0 w ls) (h:mrun P N.n ops ls hs sl s=some (sl',s',[])) (k:∀ a',Fr N a' sl'→wpMix P ops.toArray C K s' a' w):wpMix P ops.toArray C K s a w:=mbk hs F H h trivial k
theorem sb {y:Code} {id:Nat} (hs:List Nat) (F:Fr N a sl) (H:St w0 w ls) (h:qrun P N.n l ls hs sl l=some (sl',l',[])) (k:∀ a',Fr N a' sl'→wpList P l.toArray (Exit.then (fun a w=>y.wp P Q a w) Q) l' a' w):(Code.seq (.region id l.toArray false) y).wp P Q a w:=sr (bk hs F H h trivial k)
theorem nb {y:Code} {id:Nat} {ops:Array Oper} {Q':Exit→Act→World→Prop} (hs:List Nat) (F:Fr N a sl) (H:St w0 w ls) (h:qrun P N.n l ls hs sl l=some (sl',l',[])) (k:∀ a',Fr N a' sl'→wpList P l.toArray (Exit.then (fun a w=>y.wp P Q a w) Q) l' a' w):wpList P ops (Exit.then (fun a w=>(Code.seq (.region id l.toArray false) y).wp P Q a w) Q') [] a w:=nl (sr (bk hs F H h trivial k))
theorem sd {f:FuncId} {vs:List Value} {R:Value→World→Prop} (F:Fr N a sl) (h:opC N.n sl o=some (d,f,vs)) (he:En P f)
  (hc:Calls P f vs.toArray w fun e w'=>∃ v,e=.returned v∧R v w') (hk:∀ v w' a',R v w'→Fr N a' ((d,v)::sl)→wpList P ops Q rest a' w'):wpList P ops Q (o::rest) a w:=sc wkP F h he hc hk
theorem cPm {c:Operand} {x y:Code} {p:Prop} {i1 i2:Decidable p} {α:Type} {A B r:α} (F:Fr N a sl) (hc:ev sl c=some (.bool (@decide p i1))) (hm:(@ite α p i2 A B)=r) (ht:p→A=r→x.wp P Q a w) (hf:¬ p→B=r→y.wp P Q a w):(Code.cond c x y).wp P Q a w :=
 @x_condP P Q a w N sl F c x y p i1 hc (fun h=>ht h (@ifT p i2 α A B r h hm)) (fun h=>hf h (@ifF p i2 α A B r h hm))
theorem cNm {c:Operand} {x y:Code} {p:Prop} {i1 i2:Decidable p} {α:Type} {A B r:α} (F:Fr N a sl) (hc:ev sl c=some (.bool (!@decide p i1))) (hm:(@ite α p i2 A B)=r) (hf:¬ p→B=r→x.wp P Q a w) (ht:p→A=r→y.wp P Q a w):(Code.cond c x y).wp P Q a w :=
 @x_condN P Q a w N sl F c x y p i1 hc (fun h=>hf h (@ifF p i2 α A B r h hm)) (fun h=>ht h (@ifT p i2 α A B r h hm))
theorem spP {p:Prop} {i1 i2:Decidable p} {α:Type} {A B r:α} (k:Nat) (F:Fr N a sl) (hk:lk k sl=some (.bool (@decide p i1))) (hm:(@ite α p i2 A B)=r):(p∧A=r∧Fr N a ((k,.bool true)::sl))∨(¬ p∧B=r∧Fr N a ((k,.bool false)::sl)):=by
 by_cases h:p
 ·exact .inl ⟨h,@ifT p i2 α A B r h hm,@Fr.bT N a sl F k p i1 h hk⟩
 ·exact .inr ⟨h,@ifF p i2 α A B r h hm,@Fr.bF N a sl F k p i1 h hk⟩
theorem spN {p:Prop} {i1 i2:Decidable p} {α:Type} {A B r:α} (k:Nat) (F:Fr N a sl) (hk:lk k sl=some (.bool (!@decide p i1))) (hm:(@ite α p i2 A B)=r):(p∧A=r∧Fr N a ((k,.bool false)::sl))∨(¬ p∧B=r∧Fr N a ((k,.bool true)::sl)):=by
 by_cases h:p
 ·exact .inl ⟨h,@ifT p i2 α A B r h hm,@Fr.nT N a sl F k p i1 h hk⟩
 ·exact .inr ⟨h,@ifF p i2 α A B r h hm,@Fr.nF N a sl F k p i1 h hk⟩
theorem xm0 {x:Code} {τ ρ:Type} {ot:Option τ} {f:τ→Option ρ} {r:ρ}  (n:Nat) (is js:List Nat) (F:Fr N a sl) (H:St w0 w ls) (hm:ot.bind f=some r) (h1:pkS is sl=some s1) (h2:pmL n js ls=some l1)
  (S:τ→List (Nat×Value)→List (Nat×Value)) (L:τ→List HP→List HP)
  (hx:∀ t,ot=some t→x.wp P (Exit.then (fun a w=>Fr N a (S t s1)∧St w0 w (L t l1)) Q) a w)
  (hy:∀ t a w,f t=some r→Fr N a (S t s1)→St w0 w (L t l1)→Q .normal a w):x.wp P Q a w:=by
 obtain ⟨t,h3,h4⟩:=ob hm
 refine x_mid _ (hx t h3) ?_
 rintro a w ⟨F,H⟩
 exact hy t a w h4  F H
theorem xr0 {x:Code} {τ υ ρ:Type} {ot:Option (τ ⊕ υ)} {f:τ→Option ρ} {g:υ→Option ρ} {r:ρ}  (n:Nat) (is js:List Nat) (F:Fr N a sl) (H:St w0 w ls) (hm:(ot.bind fun z=>Sum.elim f g z)=some r) (h1:pkS is sl=some s1) (h2:pmL n js ls=some l1)
  (S:τ→List (Nat×Value)→List (Nat×Value)) (L:τ→List HP→List HP)
  (hx:∀ z,ot=some z→Sum.elim f g z=some r→x.wp P (Exit.then (fun a w=>∃ t,z=.inl t∧Fr N a (S t s1)∧St w0 w (L t l1)) Q) a w)
  (hy:∀ t a w,f t=some r→Fr N a (S t s1)→St w0 w (L t l1)→Q .normal a w):x.wp P Q a w:=by
 obtain ⟨z,h3,h4⟩:=ob hm
 refine x_mid _ (hx z h3 h4) ?_
 rintro a w ⟨t,e,F,H⟩
 cases e
 exact hy t a w h4  F H
theorem xl0 {c:Code} {σ ρ:Type} {f:σ→Option (σ ⊕ ρ)} {g0:σ} {r:ρ}  (n:Nat) (is js:List Nat) (F:Fr N a sl) (H:St w0 w ls) (hm:loopO f g0=some r) (h1:pkS is sl=some s1) (h2:pmL n js ls=some l1)
  (S:σ→List (Nat×Value)→List (Nat×Value)) (L:σ→List HP→List HP)
  (h0:Fr N a (S g0 s1)∧St w0 w (L g0 l1))
  (hk:∀ s a w o,Fr N a (S s s1)→St w0 w (L s l1)→f s=some o→c.wp P (Exit.then (fun a' w'=>∃ s',o=.inl s'∧Fr N a' (S s' s1)∧St w0 w' (L s' l1)) (fun e a' w'=>∃ r',o=.inr r'∧(r'=r→Q e a' w'))) a w):(Code.loop c).wp P Q a w:=by
 refine x_loopO f (fun s a w=>Fr N a (S s s1)∧St w0 w (L s l1)) hm h0 ?_
 rintro s a w o ⟨F,H⟩ h
 exact hk s a w o  F H h
theorem xm1 {x:Code} {τ ρ:Type} {ot:Option τ} {f:τ→Option ρ} {r:ρ} {T0:Type} (n:Nat) (is js:List Nat) (F:Fr N a sl) (H:St w0 w ls) (hm:ot.bind f=some r) (h1:pkS is sl=some s1) (h2:pmL n js ls=some l1)
  (S:τ→T0→List (Nat×Value)→List (Nat×Value)) (L:τ→T0→List HP→List HP)
  (hx:∀ t,ot=some t→x.wp P (Exit.then (fun a w=>∃ x0,Fr N a (S t x0 s1)∧St w0 w (L t x0 l1)) Q) a w)
  (hy:∀ t a w,f t=some r→∀ x0,Fr N a (S t x0 s1)→St w0 w (L t x0 l1)→Q .normal a w):x.wp P Q a w:=by
 obtain ⟨t,h3,h4⟩:=ob hm
 refine x_mid _ (hx t h3) ?_
 rintro a w ⟨x0,F,H⟩
 exact hy t a w h4 x0 F H
theorem xr1 {x:Code} {τ υ ρ:Type} {ot:Option (τ ⊕ υ)} {f:τ→Option ρ} {g:υ→Option ρ} {r:ρ} {T0:Type} (n:Nat) (is js:List Nat) (F:Fr N a sl) (H:St w0 w ls) (hm:(ot.bind fun z=>Sum.elim f g z)=some r) (h1:pkS is sl=some s1) (h2:pmL n js ls=some l1)
  (S:τ→T0→List (Nat×Value)→List (Nat×Value)) (L:τ→T0→List HP→List HP)
  (hx:∀ z,ot=some z→Sum.elim f g z=some r→x.wp P (Exit.then (fun a w=>∃ t,z=.inl t∧∃ x0,Fr N a (S t x0 s1)∧St w0 w (L t x0 l1)) Q) a w)
  (hy:∀ t a w,f t=some r→∀ x0,Fr N a (S t x0 s1)→St w0 w (L t x0 l1)→Q .normal a w):x.wp P Q a w:=by
 obtain ⟨z,h3,h4⟩:=ob hm
 refine x_mid _ (hx z h3 h4) ?_
 rintro a w ⟨t,e,x0,F,H⟩
 cases e
 exact hy t a w h4 x0 F H
theorem xl1 {c:Code} {σ ρ:Type} {f:σ→Option (σ ⊕ ρ)} {g0:σ} {r:ρ} {T0:Type} (n:Nat) (is js:List Nat) (F:Fr N a sl) (H:St w0 w ls) (hm:loopO f g0=some r) (h1:pkS is sl=some s1) (h2:pmL n js ls=some l1)
  (S:σ→T0→List (Nat×Value)→List (Nat×Value)) (L:σ→T0→List HP→List HP)
  (h0:∃ x0,Fr N a (S g0 x0 s1)∧St w0 w (L g0 x0 l1))
  (hk:∀ s a w o,∀ x0,Fr N a (S s x0 s1)→St w0 w (L s x0 l1)→f s=some o→c.wp P (Exit.then (fun a' w'=>∃ s',o=.inl s'∧∃ x0,Fr N a' (S s' x0 s1)∧St w0 w' (L s' x0 l1)) (fun e a' w'=>∃ r',o=.inr r'∧(r'=r→Q e a' w'))) a w):(Code.loop c).wp P Q a w:=by
 refine x_loopO f (fun s a w=>∃ x0,Fr N a (S s x0 s1)∧St w0 w (L s x0 l1)) hm h0 ?_
 rintro s a w o ⟨x0,F,H⟩ h
 exact hk s a w o x0 F H h
theorem xm2 {x:Code} {τ ρ:Type} {ot:Option τ} {f:τ→Option ρ} {r:ρ} {T0:Type} {T1:Type} (n:Nat) (is js:List Nat) (F:Fr N a sl) (H:St w0 w ls) (hm:ot.bind f=some r) (h1:pkS is sl=some s1) (h2:pmL n js ls=some l1)
  (S:τ→T0→T1→List (Nat×Value)→List (Nat×Value)) (L:τ→T0→T1→List HP→List HP)
  (hx:∀ t,ot=some t→x.wp P (Exit.then (fun a w=>∃ x0,∃ x1,Fr N a (S t x0 x1 s1)∧St w0 w (L t x0 x1 l1)) Q) a w)
  (hy:∀ t a w,f t=some r→∀ x0 x1,Fr N a (S t x0 x1 s1)→St w0 w (L t x0 x1 l1)→Q .normal a w):x.wp P Q a w:=by
 obtain ⟨t,h3,h4⟩:=ob hm
 refine x_mid _ (hx t h3) ?_
 rintro a w ⟨x0,x1,F,H⟩
 exact hy t a w h4 x0 x1 F H
theorem xr2 {x:Code} {τ υ ρ:Type} {ot:Option (τ ⊕ υ)} {f:τ→Option ρ} {g:υ→Option ρ} {r:ρ} {T0:Type} {T1:Type} (n:Nat) (is js:List Nat) (F:Fr N a sl) (H:St w0 w ls) (hm:(ot.bind fun z=>Sum.elim f g z)=some r) (h1:pkS is sl=some s1) (h2:pmL n js ls=some l1)
  (S:τ→T0→T1→List (Nat×Value)→List (Nat×Value)) (L:τ→T0→T1→List HP→List HP)
  (hx:∀ z,ot=some z→Sum.elim f g z=some r→x.wp P (Exit.then (fun a w=>∃ t,z=.inl t∧∃ x0,∃ x1,Fr N a (S t x0 x1 s1)∧St w0 w (L t x0 x1 l1)) Q) a w)
  (hy:∀ t a w,f t=some r→∀ x0 x1,Fr N a (S t x0 x1 s1)→St w0 w (L t x0 x1 l1)→Q .normal a w):x.wp P Q a w:=by
 obtain ⟨z,h3,h4⟩:=ob hm
 refine x_mid _ (hx z h3 h4) ?_
 rintro a w ⟨t,e,x0,x1,F,H⟩
 cases e
 exact hy t a w h4 x0 x1 F H
theorem xl2 {c:Code} {σ ρ:Type} {f:σ→Option (σ ⊕ ρ)} {g0:σ} {r:ρ} {T0:Type} {T1:Type} (n:Nat) (is js:List Nat) (F:Fr N a sl) (H:St w0 w ls) (hm:loopO f g0=some r) (h1:pkS is sl=some s1) (h2:pmL n js ls=some l1)
  (S:σ→T0→T1→List (Nat×Value)→List (Nat×Value)) (L:σ→T0→T1→List HP→List HP)
  (h0:∃ x0,∃ x1,Fr N a (S g0 x0 x1 s1)∧St w0 w (L g0 x0 x1 l1))
  (hk:∀ s a w o,∀ x0 x1,Fr N a (S s x0 x1 s1)→St w0 w (L s x0 x1 l1)→f s=some o→c.wp P (Exit.then (fun a' w'=>∃ s',o=.inl s'∧∃ x0,∃ x1,Fr N a' (S s' x0 x1 s1)∧St w0 w' (L s' x0 x1 l1)) (fun e a' w'=>∃ r',o=.inr r'∧(r'=r→Q e a' w'))) a w):(Code.loop c).wp P Q a w:=by
 refine x_loopO f (fun s a w=>∃ x0,∃ x1,Fr N a (S s x0 x1 s1)∧St w0 w (L s x0 x1 l1)) hm h0 ?_
 rintro s a w o ⟨x0,x1,F,H⟩ h
 exact hk s a w o x0 x1 F H h
theorem xm3 {x:Code} {τ ρ:Type} {ot:Option τ} {f:τ→Option ρ} {r:ρ} {T0:Type} {T1:Type} {T2:Type} (n:Nat) (is js:List Nat) (F:Fr N a sl) (H:St w0 w ls) (hm:ot.bind f=some r) (h1:pkS is sl=some s1) (h2:pmL n js ls=some l1)
  (S:τ→T0→T1→T2→List (Nat×Value)→List (Nat×Value)) (L:τ→T0→T1→T2→List HP→List HP)
  (hx:∀ t,ot=some t→x.wp P (Exit.then (fun a w=>∃ x0,∃ x1,∃ x2,Fr N a (S t x0 x1 x2 s1)∧St w0 w (L t x0 x1 x2 l1)) Q) a w)
  (hy:∀ t a w,f t=some r→∀ x0 x1 x2,Fr N a (S t x0 x1 x2 s1)→St w0 w (L t x0 x1 x2 l1)→Q .normal a w):x.wp P Q a w:=by
 obtain ⟨t,h3,h4⟩:=ob hm
 refine x_mid _ (hx t h3) ?_
 rintro a w ⟨x0,x1,x2,F,H⟩
 exact hy t a w h4 x0 x1 x2 F H
theorem xm4 {x:Code} {τ ρ:Type} {ot:Option τ} {f:τ→Option ρ} {r:ρ} {T0:Type} {T1:Type} {T2:Type} {T3:Type} (n:Nat) (is js:List Nat) (F:Fr N a sl) (H:St w0 w ls) (hm:ot.bind f=some r) (h1:pkS is sl=some s1) (h2:pmL n js ls=some l1)
  (S:τ→T0→T1→T2→T3→List (Nat×Value)→List (Nat×Value)) (L:τ→T0→T1→T2→T3→List HP→List HP)
  (hx:∀ t,ot=some t→x.wp P (Exit.then (fun a w=>∃ x0,∃ x1,∃ x2,∃ x3,Fr N a (S t x0 x1 x2 x3 s1)∧St w0 w (L t x0 x1 x2 x3 l1)) Q) a w)
  (hy:∀ t a w,f t=some r→∀ x0 x1 x2 x3,Fr N a (S t x0 x1 x2 x3 s1)→St w0 w (L t x0 x1 x2 x3 l1)→Q .normal a w):x.wp P Q a w:=by
 obtain ⟨t,h3,h4⟩:=ob hm
 refine x_mid _ (hx t h3) ?_
 rintro a w ⟨x0,x1,x2,x3,F,H⟩
 exact hy t a w h4 x0 x1 x2 x3 F H
theorem xr4 {x:Code} {τ υ ρ:Type} {ot:Option (τ ⊕ υ)} {f:τ→Option ρ} {g:υ→Option ρ} {r:ρ} {T0:Type} {T1:Type} {T2:Type} {T3:Type} (n:Nat) (is js:List Nat) (F:Fr N a sl) (H:St w0 w ls) (hm:(ot.bind fun z=>Sum.elim f g z)=some r) (h1:pkS is sl=some s1) (h2:pmL n js ls=some l1)
  (S:τ→T0→T1→T2→T3→List (Nat×Value)→List (Nat×Value)) (L:τ→T0→T1→T2→T3→List HP→List HP)
  (hx:∀ z,ot=some z→Sum.elim f g z=some r→x.wp P (Exit.then (fun a w=>∃ t,z=.inl t∧∃ x0,∃ x1,∃ x2,∃ x3,Fr N a (S t x0 x1 x2 x3 s1)∧St w0 w (L t x0 x1 x2 x3 l1)) Q) a w)
  (hy:∀ t a w,f t=some r→∀ x0 x1 x2 x3,Fr N a (S t x0 x1 x2 x3 s1)→St w0 w (L t x0 x1 x2 x3 l1)→Q .normal a w):x.wp P Q a w:=by
 obtain ⟨z,h3,h4⟩:=ob hm
 refine x_mid _ (hx z h3 h4) ?_
 rintro a w ⟨t,e,x0,x1,x2,x3,F,H⟩
 cases e
 exact hy t a w h4 x0 x1 x2 x3 F H
end
section
variable {w0 w:World} {l:List HP} {p:Option Addr} {cap:Nat} {e:TypeId}
theorem St.owStr {xs:List (List UInt8)} (H:St w0 w l) (i:Nat) (hi:l[i]?=some (HP.ow rStr e p cap xs)) {b:Nat} (hp:p=some ⟨b,0,none⟩) {j:Int} {x:List UInt8} (hx:idxO xs j=some x):w.cell? ⟨b,0+j.toNat * 1,none⟩=some (.string (txb x)):=by
 obtain ⟨B,cs,hr,hrow⟩:=H.owCell i hi hp (idxO_some hx).2
 have:cs=[.string (txb x)]:=hr
 subst this;exact hrow 0 _ rfl
end
theorem set_self {α:Type}:∀ {l:List α} {i:Nat} {A:α},l[i]?=some A→l.set i A=l
 | [],_,_,_=>rfl
 | _::_,0,_,h=>by cases h;rfl
 | _::l,i+1,A,h=>by
  have:l[i]?=some A:=by simpa using h
  simp [set_self this]
def HP.mo (p:Option Nat) (raw:Array MapEntry) (c:Nat):HP :=
 HP.of (fun _ w S=>match p with
  | none=>raw=#[]
  | some b=>w.heap[b]?=some (.map raw c)∧S b)
  (fun {B w w' S} h hS=>by
   cases p with
   | none=>exact h
   | some b=>exact ⟨by rw [hS _ h.2];exact h.1,h.2⟩)
  (fun h _=>h)
def mit (p:Option Nat) (c:Nat) (seen:Array Nat):Obj:=match p with
 | none=>.mapIter none 0 #[] 0
 | some b=>.mapIter (some b) c seen c
section
variable {κ β:Type} [DecidableEq κ]
def HP.es (R:Rp β) (ok:κ→Prop) (es:List (κ×(List Value×β))) (m:κ→Option β):HP:=HP.pe (fun B=>EsOk R ok B es m) (fun h hl=>h.mono hl)
structure MRaw (ek:κ→Value) (agg:Bool) (es:List (κ×(List Value×β))) (raw:Array MapEntry) (c:Nat):Prop where
 ent:raw.toList.map (fun e=>(e.key,e.val))=ment ek agg es
 nd:(raw.toList.map (·.born)).Nodup
 lt:∀ e∈raw.toList,e.born<c
def prs (es:List (κ×(List Value×β))):List (κ×β):=es.map fun p=>(p.1,p.2.2)
def pv (es:List (κ×(List Value×β))) (vis:List Nat):List (κ×β):=vis.filterMap fun i=>(prs es)[i]?
def bornsOf (raw:Array MapEntry) (vis:List Nat):Array Nat:=(vis.map fun i=>(raw[i]?.map (·.born)).getD 0).toArray
def VisOk (n:Nat) (vis:List Nat):Prop:=vis.Nodup∧∀ i∈vis,i<n
theorem VisOk.nil (n:Nat):VisOk n []:=⟨by simp,by simp⟩
theorem VisOk.snoc {n:Nat} {vis:List Nat} (h:VisOk n vis) {q:Nat} (hq:q<n) (hn:q ∉ vis):VisOk n (vis++[q]):=by
 refine ⟨?_,fun i hi=>?_⟩
 ·rw [List.nodup_append];exact ⟨h.1,by simp,fun x hx y hy=>by simp at hy;subst hy;exact fun e=>hn (e▸hx)⟩
 ·rcases List.mem_append.1 hi with hi | hi
  ·exact h.2 i hi
  ·simp at hi;omega
omit [DecidableEq κ] in
theorem MRaw.len {ek:κ→Value} {agg:Bool} {es:List (κ×(List Value×β))} {raw:Array MapEntry} {c:Nat} (h:MRaw ek agg es raw c):raw.size=es.length:=by
 have:=congrArg List.length h.ent;simpa [ment,mkv] using this
omit [DecidableEq κ] in
theorem MRaw.at {ek:κ→Value} {agg:Bool} {es:List (κ×(List Value×β))} {raw:Array MapEntry} {c:Nat} (h:MRaw ek agg es raw c) {q:Nat} {k:κ} {cs:List Value} {v:β} (hq:es[q]?=some (k,cs,v)):∃ e,raw[q]?=some e∧e.key=ek k∧e.val=mkV agg cs:=by
 have hl:=h.len
 have hlt:=(List.getElem?_eq_some_iff.1 hq).1
 obtain ⟨e,he⟩:∃ e,raw[q]?=some e:=⟨raw[q]'(by omega),Array.getElem?_eq_getElem (by omega)⟩
 have h1:=congrArg (fun l=>l[q]?) h.ent
 have he':raw.toList[q]?=some e:=by simpa using he
 simp only [List.getElem?_map,he',ment,mkv,hq,Option.map_some,Option.some.injEq,Prod.mk.injEq] at h1
 exact ⟨e,he,h1.1,h1.2⟩
theorem bornsOf_push (raw:Array MapEntry) (vis:List Nat) {q:Nat} {e:MapEntry} (he:raw[q]?=some e):(bornsOf raw vis).push e.born=bornsOf raw (vis++[q]):=by
 simp [bornsOf,he]
omit [DecidableEq κ] in
theorem bornsOf_has {ek:κ→Value} {agg:Bool} {es:List (κ×(List Value×β))} {raw:Array MapEntry} {c:Nat} (h:MRaw ek agg es raw c) {vis:List Nat} (hv:VisOk es.length vis) {q:Nat} {e:MapEntry} (he:raw[q]?=some e):(bornsOf raw vis).contains e.born=true↔q∈vis:=by
 have hl:=h.len
 simp only [bornsOf,List.contains_toArray,List.contains_eq_mem,decide_eq_true_eq,List.mem_map]
 constructor
 ·rintro ⟨i,hi,hb⟩
  have hil:=hv.2 i hi
  have e2:raw[i]?=some (raw[i]'(by omega)):=Array.getElem?_eq_getElem (by omega)
  rw [e2] at hb
  simp only [Option.map_some,Option.getD_some] at hb
  have hq:=(Array.getElem?_eq_some_iff.1 he)
  obtain ⟨hql,hqe⟩:=hq
  have:i=q:=by
   rcases Nat.lt_trichotomy i q with hlt | hlt | hlt
   ·exfalso
    have:=List.pairwise_iff_getElem.1 h.nd i q (by simp;omega) (by simp;omega) hlt
    apply this;simp [hb,← hqe]
   ·exact hlt
   ·exfalso
    have:=List.pairwise_iff_getElem.1 h.nd q i (by simp;omega) (by simp;omega) hlt
    apply this;simp [hb,← hqe]
  exact this▸hi
 ·intro hq;exact ⟨q,hq,by rw [he];rfl⟩
end
section
variable {κ β:Type} [DecidableEq κ] {R:Rp β} {ek:κ→Value} {agg:Bool} {ok:κ→Prop} {P:Program} {w0 w:World} {ls:List HP} {m:κ→Option β} {p:Option Nat} {es:List (κ×(List Value×β))} {raw:Array MapEntry} {c:Nat} {ops:Array Oper} {rest:List Oper} {o:Oper} {a:Act} {W:List Oper→Act→World→Prop} {N:Fs} {sl:List (Nat×Value)} {d:Nat} {x:Operand} {T K E:TypeId} {vis:List Nat}
theorem St.moOpen (H:St w0 w ls) (i:Nat) (hi:ls[i]?=some (HP.mm p ek agg R ok m)):∃ raw c es,MRaw ek agg es raw c∧Enum m (prs es)∧St w0 w (HP.es R ok es m::ls.set i (HP.mo p raw c)):=by
 obtain ⟨es,H⟩:=H.mmOpen i hi
 have hil:i<ls.length:=(List.getElem?_eq_some_iff.1 hi).1
 have hi':(ls.set i (HP.mx p ek agg R ok es m))[i]?=some (HP.mx p ek agg R ok es m):=by simp [hil]
 have key:∃ raw c,MRaw ek agg es raw c∧St w0 w ((ls.set i (HP.mx p ek agg R ok es m)).set i (HP.mo p raw c)):=by
  cases p with
  | none =>
   obtain ⟨B,_,h1,h2⟩:=H.mxOk i hi'
   simp only at h2
   subst h2
   exact ⟨#[],0,⟨rfl,by simp,by simp⟩,H.convAt i hi' fun S _=>rfl⟩
  | some b =>
   obtain ⟨B,_,h1,raw,c,h3,h4,h5,h6⟩:=H.mxOk i hi'
   refine ⟨raw,c,⟨h4,h5,h6⟩,H.convAt i hi' fun S h=>⟨h3,h.2.2⟩⟩
 obtain ⟨raw,c,hM,H2⟩:=key
 obtain ⟨B,S,hs,h1,_⟩:=H.get i hi'
 refine ⟨raw,c,es,hM,h1.1.enum,?_⟩
 rw [List.set_set] at H2
 have H3:St w0 w (HP.es R ok es m::ls.set i (HP.mx p ek agg R ok es m)):=H.more fun B hB hp=>by
  obtain ⟨S,hS⟩:=hp i _ hi'
  exact hS.1
 have:=H3.upd (w':=w) (i+1) (A:=HP.mx p ek agg R ok es m) (A':=HP.mo p raw c) (by simpa using hi') (fun {B} S hA hb=>⟨S,by
  cases p with
  | none =>
   obtain ⟨h1,h2⟩:=hA
   simp only at h2
   subst h2
   have:=hM.len
   exact Array.eq_empty_of_size_eq_zero (by simpa using this)
  | some b =>
   obtain ⟨h1,h2,h3⟩:=hA
   refine ⟨?_,h3⟩
   have:=H2.get i (A:=HP.mo (some b) raw c) (by simp [hil])
   obtain ⟨_,_,_,h7,_⟩:=this
   exact h7.1,fun b h=>.inl h,fun b h=>(hb b h).1,fun _ _ _=>rfl⟩) rfl rfl rfl (Nat.le_refl _)
 simpa using this
theorem St.moMx (H:St w0 w ls) (i j:Nat) (hM:MRaw ek agg es raw c) (hi:ls[i]?=some (HP.mo p raw c)) (hj:ls[j]?=some (HP.es R ok es m)):St w0 w (ls.set i (HP.mx p ek agg R ok es m)):=by
 obtain ⟨hv,B,f,hs,h1,h2,h3⟩:=H
 have hil:i<ls.length:=(List.getElem?_eq_some_iff.1 hi).1
 refine ⟨hv,B,f,hs,fun q A hA=>?_,by simpa using h2,by simpa using h3⟩
 rw [List.getElem?_set] at hA
 split at hA
 ·rename_i e
  subst e
  cases hA
  refine ⟨h1 j _ hj,?_⟩
  have:=h1 i _ hi
  cases p with
  | none =>
   simp only at this ⊢
   have hl:=hM.len
   have h0:raw=#[]:=this
   rw [h0] at hl
   exact List.eq_nil_of_length_eq_zero (by simpa using hl.symm)
  | some b=>exact ⟨⟨raw,c,this.1,hM.ent,hM.nd,hM.lt⟩,this.2⟩
 ·exact h1 q A hA
theorem St.moMm (H:St w0 w ls) (i j:Nat) (hM:MRaw ek agg es raw c) (hi:ls[i]?=some (HP.mo p raw c)) (hj:ls[j]?=some (HP.es R ok es m)):St w0 w (ls.set i (HP.mm p ek agg R ok m)):=by
 have hil:i<ls.length:=(List.getElem?_eq_some_iff.1 hi).1
 have h1:=H.moMx i j hM hi hj
 have h2:(ls.set i (HP.mx p ek agg R ok es m))[i]?=some (HP.mx p ek agg R ok es m):=by simp [hil]
 have:=h1.mxShut i h2
 rwa [List.set_set] at this
theorem St.esEl (H:St w0 w ls) (i:Nat) (hi:ls[i]?=some (HP.es R ok es m)) {q:Nat} {k:κ} {cs:List Value} {v:β} (hq:es[q]?=some (k,cs,v)):ok k∧St w0 w (HP.rc R cs v::ls):=by
 obtain ⟨B,S,hs,h,_⟩:=H.get i hi
 have hm:=List.mem_of_getElem? hq
 refine ⟨h.ok _ hm,H.more fun B hB hp=>?_⟩
 obtain ⟨S,hS⟩:=hp i _ hi
 exact hS.rd _ hm
theorem St.esLook (H:St w0 w ls) (i:Nat) (hi:ls[i]?=some (HP.es R ok es m)) (k:κ) {zc:List Value} {z0:β} (hz:∀ B,R.rd B zc z0):∃ cs,esGet es k zc=cs∧St w0 w (HP.rc R cs ((m k).getD z0)::ls):=by
 refine ⟨_,rfl,H.more fun B hB hp=>?_⟩
 obtain ⟨S,hS⟩:=hp i _ hi
 have hg:=hS.get k
 show R.rd B (esGet es k zc) ((m k).getD z0)
 unfold esGet
 cases hx:aget k es with
 | none=>rw [hx] at hg;rw [hg];exact hz B
 | some p=>rw [hx] at hg;rw [hg];exact hS.rd (k,p) (aget_mem' hx)
theorem s_rngM (kw:Walk P ops W) (F:Fr N a sl) (hg:o.guard=none) (hd:o.dst=some d) (hN:Nat.blt d N.n=true) (hT:P.underlying T=some (.map K E)) (ho:o.op=.range T x) (H:St w0 w ls) (i:Nat) (hi:ls[i]?=some (HP.mo p raw c)) (hx:ev sl x=some (.map p))
  (hk:∀ r w' a',St w0 w' (HP.obj r (mit p c (bornsOf raw []))::ls)→Fr N a' ((d,.pointer (some ⟨r,0,none⟩))::sl)→W rest a' w'):W (o::rest) a w:=by
 cases p with
 | none =>
  refine s_val kw F hg hd hN (by rw [ho];rfl) (v:=.pointer (some ⟨w.heap.size,0,none⟩)) (w':=w.alloc (.mapIter none 0 #[] 0)) ?_ fun a' F'=>hk _ _ a' (H.newObj _) F'
  unfold execOp
  simp [ho,F.eval hx,Instr.range,Go.run_underlying hT,newObj,Sem.run]
 | some b =>
  refine s_val kw F hg hd hN (by rw [ho];rfl) (v:=.pointer (some ⟨w.heap.size,0,none⟩)) (w':=w.alloc (.mapIter (some b) c #[] c)) ?_ fun a' F'=>hk _ _ a' (H.newObj _) F'
  have hh:w.heap[b]?=some (.map raw c):=by obtain ⟨_,_,_,h,_⟩:=H.get i hi;exact h.1
  unfold execOp
  have hg:=run_getObj (P:=P) w b raw c hh
  simp [ho,F.eval hx,Instr.range,Go.run_underlying hT,hg,newObj,Sem.run]
theorem St.moObj {b:Nat} (H:St w0 w ls) (i:Nat) (hi:ls[i]?=some (HP.mo (some b) raw c)):St w0 w (ls.set i (HP.obj b (.map raw c))):=H.convAt i hi fun S h=>h
theorem St.objMo {b:Nat} (H:St w0 w ls) (i:Nat) (hi:ls[i]?=some (HP.obj b (.map raw c))):St w0 w (ls.set i (HP.mo (some b) raw c)):=H.convAt i hi fun S h=>h
omit [DecidableEq κ] in
theorem s_nxtM (kw:Walk P ops W) (F:Fr N a sl) (hg:o.guard=none) (hd:o.dst=some d) (hN:Nat.blt d N.n=true) (ho:o.op=.next x false) {r:Nat} (hx:ev sl x=some (.pointer (some ⟨r,0,none⟩))) (hM:MRaw ek agg es raw c) (hv:VisOk es.length vis) (H:St w0 w ls) (i j:Nat) (hi:ls[i]?=some (HP.mo p raw c)) (hj:ls[j]?=some (HP.obj r (mit p c (bornsOf raw vis)))) (hij:Nat.beq i j=false)
  (h0:(∀ q,q<es.length→q∈vis)→∀ w' a',St w0 w' ls→Fr N a' ((d,.tuple [.bool false].toArray)::sl)→W rest a' w')
  (h1:∀ q k cs v,es[q]?=some (k,cs,v)→q ∉ vis→∀ w' a',St w0 w' (ls.set j (HP.obj r (mit p c (bornsOf raw (vis++[q])))))→Fr N a' ((d,.tuple [.bool true,ek k,mkV agg cs].toArray)::sl)→W rest a' w'):W (o::rest) a w:=by
 have hl:=hM.len
 have hne:i≠j:=Nat.ne_of_beq_eq_false hij
 have hil:i<ls.length:=(List.getElem?_eq_some_iff.1 hi).1
 cases p with
 | none =>
  have h00:raw=#[]:=by obtain ⟨_,_,_,h,_⟩:=H.get i hi;exact h
  have hz:es.length=0:=by rw [← hl,h00];rfl
  refine s_val kw F hg hd hN (by rw [ho];rfl) (v:=.tuple [.bool false].toArray) (w':=w) ?_ fun a' F'=>h0 (fun q hq=>by omega) _ a' H F'
  have hr:=H.objAt j hj
  have g1:(getObj r).run P w=.ok (.mapIter none 0 #[] 0) w:=by unfold getObj Sem.run;rw [hr];rfl
  unfold execOp
  simp only [ho,F.eval hx]
  unfold Instr.next
  simp only
  rw [Sem.run_bind,Sem.run_bind,g1]
  rfl
 | some b =>
  have H2:=H.moObj i hi
  have hi2:(ls.set i (HP.obj b (.map raw c)))[i]?=some (HP.obj b (.map raw c)):=by simp [hil]
  have hj2:(ls.set i (HP.obj b (.map raw c)))[j]?=some (HP.obj r (.mapIter (some b) c (bornsOf raw vis) c)):=by rw [List.getElem?_set_ne hne];exact hj
  refine s_next kw F hg hd hN ho hx H2 i j hi2 hj2 hM.lt (fun hall w' a' H' F'=>?_) (fun e he hnot w' a' H' F'=>?_)
  ·have H3:=H'.objMo i hi2
   have e3:(ls.set i (HP.obj b (.map raw c))).set i (HP.mo (some b) raw c)=ls:=by
    rw [List.set_set];exact set_self hi
   rw [e3] at H3
   refine h0 (fun q hq=>?_) w' a' H3 F'
   have e2:raw[q]?=some (raw[q]'(by omega)):=Array.getElem?_eq_getElem (by omega)
   exact (bornsOf_has hM hv e2).1 (hall _ (by simp))
  ·obtain ⟨q,hq,rfl⟩:=List.getElem_of_mem he
   have hql:q<es.length:=by rw [← hl];simpa using hq
   obtain ⟨k,cs,v,hes⟩:∃ k cs v,es[q]?=some (k,cs,v):=⟨_,_,_,List.getElem?_eq_getElem hql⟩
   obtain ⟨e',he',hk',hv'⟩:=hM.at hes
   have hee:raw.toList[q]=e':=by
    have:raw[q]?=some raw.toList[q]:=by simp [Array.getElem?_eq_getElem (show q<raw.size by omega)]
    rw [this] at he';exact Option.some.inj he'
   rw [hee] at hnot H' F'
   have hnv:q ∉ vis:=fun hin=>by rw [(bornsOf_has hM hv he').2 hin] at hnot;cases hnot
   rw [hk',hv'] at F'
   rw [bornsOf_push raw vis he'] at H'
   have H3:=H'.objMo i (by rw [List.getElem?_set_ne (Ne.symm hne)];exact hi2)
   have e3:((ls.set i (HP.obj b (.map raw c))).set j (HP.obj r (.mapIter (some b) c (bornsOf raw (vis++[q])) c))).set i (HP.mo (some b) raw c)=ls.set j (HP.obj r (mit (some b) c (bornsOf raw (vis++[q])))):=by
    have e4:=List.set_comm (l:=ls) (HP.obj b (.map raw c)) (HP.obj r (.mapIter (some b) c (bornsOf raw (vis++[q])) c)) hne
    rw [e4,List.set_set]
    exact set_self (by rw [List.getElem?_set_ne (Ne.symm hne)];exact hi)
   rw [e3] at H3
   exact h1 q k cs v hes hnv w' a' H3 F'
omit [DecidableEq κ] in
theorem y_entM (F:Fr N a sl) (ho:o.op=.entry x) {r:Nat} (hx:ev sl x=some (.pointer (some ⟨r,0,none⟩))) (hM:MRaw ek agg es raw c) {q:Nat} {k:κ} {cs:List Value} {v:β} (hq:es[q]?=some (k,cs,v)) (H:St w0 w ls) (i j:Nat) (hi:ls[i]?=some (HP.mo p raw c)) (hj:ls[j]?=some (HP.obj r (mit p c (bornsOf raw (vis++[q]))))) (hij:Nat.beq i j=false) :
  (execOp a.eval o).run P w=.ok (.value (.tuple [ek k,mkV agg cs].toArray)) w:=by
 have hne:i≠j:=Nat.ne_of_beq_eq_false hij
 have hil:i<ls.length:=(List.getElem?_eq_some_iff.1 hi).1
 obtain ⟨e,he,hk',hv'⟩:=hM.at hq
 have hem:e∈raw.toList:=by simpa using Array.mem_of_getElem? he
 cases p with
 | none =>
  have h00:raw=#[]:=by obtain ⟨_,_,_,h,_⟩:=H.get i hi;exact h
  rw [h00] at hem;simp at hem
 | some b =>
  have H2:=H.moObj i hi
  have hi2:(ls.set i (HP.obj b (.map raw c)))[i]?=some (HP.obj b (.map raw c)):=by simp [hil]
  have hj2:(ls.set i (HP.obj b (.map raw c)))[j]?=some (HP.obj r (.mapIter (some b) c ((bornsOf raw vis).push e.born) c)):=by rw [List.getElem?_set_ne hne,bornsOf_push raw vis he];exact hj
  have:=y_entry (P:=P) F ho hx H2 i j hi2 hj2 hem hM.nd
  rwa [hk',hv'] at this
end
section
variable {κ β σ ρ τ:Type} [DecidableEq κ] {m:κ→Option β} {es:List (κ×(List Value×β))} {f:σ→κ×β→Option (σ ⊕ ρ)} {s0 s:σ} {K:σ ⊕ ρ→Option τ} {R:τ} {vis:List Nat}
structure Rng (es:List (κ×(List Value×β))) (f:σ→κ×β→Option (σ ⊕ ρ)) (s0:σ) (vis:List Nat) (s:σ):Prop where
 ok:VisOk es.length vis
 st:foldO f s0 (pv es vis)=some (.inl s)
omit [DecidableEq κ] in
theorem Rng.start (es:List (κ×(List Value×β))) (f:σ→κ×β→Option (σ ⊕ ρ)) (s0:σ):Rng es f s0 [] s0:=⟨VisOk.nil _,rfl⟩
theorem foldO_app {α:Type} (f:σ→α→Option (σ ⊕ ρ)):∀ (xs ys:List α) (s0 s:σ),foldO f s0 xs=some (.inl s)→foldO f s0 (xs++ys)=foldO f s ys
 | [],ys,s0,s,h=>by cases h;rfl
 | x::xs,ys,s0,s,h=>by
  simp only [foldO] at h
  show (f s0 x).bind _=_
  obtain ⟨o,ho,h⟩:=ob h
  rw [ho]
  cases o with
  | inl s'=>exact foldO_app f xs ys s' s h
  | inr r=>cases h
omit [DecidableEq κ] in
theorem pv_perm (es:List (κ×(List Value×β))) {l:List Nat} (h:l.Perm (List.range es.length)):(pv es l).Perm (prs es):=by
 have h1:(pv es l).Perm (pv es (List.range es.length)):=List.Perm.filterMap _ h
 have h2:pv es (List.range es.length)=prs es:=by
  have hl:es.length=(prs es).length:=by simp [prs]
  unfold pv
  rw [hl]
  generalize prs es=l
  induction l with
  | nil=>rfl
  | cons a r ih =>
   rw [List.length_cons,List.range_succ_eq_map]
   simp only [List.filterMap_cons,List.getElem?_cons_zero,List.filterMap_map]
   congr 1
 rw [h2] at h1;exact h1
theorem aget_perm {l l':List (κ×β)} (h:l.Perm l') (hn:(l.map (·.1)).Nodup) (k:κ):aget k l=aget k l':=by
 have hn':(l'.map (·.1)).Nodup:=(h.map _).nodup_iff.1 hn
 cases hx:aget k l with
 | some v=>exact (aget_of_mem hn' (h.mem_iff.1 (aget_mem' hx))).symm
 | none =>
  cases hy:aget k l' with
  | none=>rfl
  | some v=>rw [aget_of_mem hn (h.mem_iff.2 (aget_mem' hy))] at hx;cases hx
theorem Enum.ofPerm {l l':List (κ×β)} (h:Enum m l) (hp:l'.Perm l):Enum m l':=by
 have hn:(l'.map (·.1)).Nodup:=(hp.map _).nodup_iff.2 h.1
 exact ⟨hn,fun k=>by rw [h.2 k];exact (aget_perm hp hn k).symm⟩
theorem sub_range:∀ {vis:List Nat} {n:Nat},VisOk n vis→∃ r,(vis++r).Perm (List.range n)
 | vis,n,h=>by
  refine ⟨(List.range n).filter (fun i=>!decide (i∈vis)),?_⟩
  have hnd:(vis++(List.range n).filter (fun i=>!decide (i∈vis))).Nodup:=by
   rw [List.nodup_append]
   exact ⟨h.1,List.nodup_range.filter _,fun a ha b hb e=>by subst e;simp at hb;exact hb.2 ha⟩
  refine (List.perm_ext_iff_of_nodup hnd List.nodup_range).2 fun a=>?_
  simp only [List.mem_append,List.mem_filter,List.mem_range,Bool.not_eq_true',decide_eq_false_iff_not]
  constructor
  ·rintro (ha | ha)
   ·exact h.2 a ha
   ·exact ha.1
  ·intro ha
   by_cases hv:a∈vis
   ·exact .inl hv
   ·exact .inr ⟨ha,hv⟩
theorem Rng.done (hE:Enum m (prs es)) (h:Rng es f s0 vis s) (hall:∀ q,q<es.length→q∈vis) (hm:detM m (fun l=>(foldO f s0 l).bind K)=some R):K (.inl s)=some R:=by
 have hp:vis.Perm (List.range es.length):=by
  refine (List.perm_ext_iff_of_nodup h.ok.1 List.nodup_range).2 fun a=>?_
  rw [List.mem_range];exact ⟨h.ok.2 a,hall a⟩
 have:=(detM_some hm).2 _ (hE.ofPerm (pv_perm es hp))
 rw [h.st] at this;exact this
theorem Rng.step (hE:Enum m (prs es)) (h:Rng es f s0 vis s) {q:Nat} {k:κ} {cs:List Value} {v:β} (hq:es[q]?=some (k,cs,v)) (hn:q ∉ vis) (hm:detM m (fun l=>(foldO f s0 l).bind K)=some R) :
  ∃ o,f s (k,v)=some o∧(∀ s',o=.inl s'→Rng es f s0 (vis++[q]) s')∧(∀ r,o=.inr r→K (.inr r)=some R):=by
 have hql:=(List.getElem?_eq_some_iff.1 hq).1
 have hv2:=h.ok.snoc hql hn
 obtain ⟨r,hr⟩:=sub_range hv2
 have hk:=(detM_some hm).2 _ (hE.ofPerm (pv_perm es hr))
 have hpq:(prs es)[q]?=some (k,v):=by simp [prs,hq]
 have e1:pv es (vis++[q]++r)=pv es vis++(k,v)::pv es r:=by simp [pv,hpq]
 rw [e1,foldO_app f _ _ _ _ h.st] at hk
 simp only [foldO] at hk
 obtain ⟨o',ho',hk⟩:=ob hk
 obtain ⟨o,ho,hk2⟩:=ob ho'
 refine ⟨o,ho,fun s' e=>⟨hv2,?_⟩,fun r' e=>?_⟩
 ·have e2:pv es (vis++[q])=pv es vis++[(k,v)]:=by simp [pv,hpq]
  rw [e2,foldO_app f _ _ _ _ h.st]
  simp only [foldO,ho,Option.bind_some,e]
 ·subst e
  cases hk2
  exact hk
end
section
variable {P:Program} {κ β σ ρ:Type} [DecidableEq κ] {es:List (κ×(List Value×β))} {f:σ→κ×β→Option (σ ⊕ ρ)} {s0:σ} {Q:Exit→Act→World→Prop} {a:Act} {w:World} {ro:Option Nat}
theorem vis_le {n:Nat} {vis:List Nat} (h:VisOk n vis):vis.length≤n:=by
 obtain ⟨r,hr⟩:=sub_range h
 have:=hr.length_eq
 simp at this;omega
theorem x_loopM {τ:Type} {m:κ→Option β} {K:σ ⊕ ρ→Option τ} {R:τ} {c:Code} (es:List (κ×(List Value×β))) (hm:detM m (fun l=>(foldO f s0 l).bind K)=some R) (J:σ→List Nat→Act→World→Prop) (h0:J s0 [] a w)
  (round:∀ s vis a w,Rng es f s0 vis s→J s vis a w→c.wp P (Exit.then (fun a' w'=>∃ s' q,Rng es f s0 (vis++[q]) s'∧J s' (vis++[q]) a' w') Q) a w):(Code.loop c).wp P Q a w:=by
 refine x_loop (fun (g:σ×List Nat) a w=>Rng es f s0 g.2 g.1∧J g.1 g.2 a w) (fun g=>es.length - g.2.length) (s0,[]) ⟨Rng.start es f s0,h0⟩ fun g a w hI=>?_
 refine wp_mono (round g.1 g.2 a w hI.1 hI.2) fun e a' w' h=>?_
 cases e with
 | normal =>
  obtain ⟨s',q,hr,hj⟩:=h
  refine ⟨(s',g.2++[q]),⟨hr,hj⟩,?_⟩
  have h1:=vis_le hr.ok
  simp only [List.length_append,List.length_cons,List.length_nil] at h1 ⊢
  omega
 | _=>exact h
theorem elimS {σ τ:Type} {f:σ→Option τ} {a r:τ} (h:Sum.elim f some (Sum.inr a)=some r):a=r:=Option.some.inj h
end
end Go.Tri
namespace Go.Tri
open Go.RowKit Go.Sort Go.Proofs
theorem cmp_self:∀ a:List UInt8,Lib.compareBytes a a=0
 | []=>rfl
 | a::as'=>by simp [Lib.compareBytes,cmp_self as']
theorem cmp_zero:∀ a b:List UInt8,Lib.compareBytes a b=0→a=b
 | [],[],_=>rfl
 | [],_::_,h=>by simp [Lib.compareBytes] at h
 | _::_,[],h=>by simp [Lib.compareBytes] at h
 | a::as',b::bs,h=>by
  simp only [Lib.compareBytes] at h
  split at h
  ·simp at h
  ·split at h
   ·simp at h
   ·rename_i h1 h2
    have:a=b:=UInt8.le_antisymm (UInt8.not_lt.1 h2) (UInt8.not_lt.1 h1)
    rw [this,cmp_zero as' bs h]
theorem cmp_swap:∀ a b:List UInt8,Lib.compareBytes b a=- Lib.compareBytes a b
 | [],[]=>rfl
 | [],_::_=>rfl
 | _::_,[]=>rfl
 | a::as',b::bs=>by
  simp only [Lib.compareBytes]
  by_cases h1:a<b
  ·have h2:¬ b<a:=UInt8.not_lt.2 (UInt8.le_of_lt h1)
   simp [h1,h2]
  ·by_cases h2:b<a
   ·simp [h1,h2]
   ·simp [h1,h2,cmp_swap as' bs]
theorem cmp_trans:∀ a b c:List UInt8,Lib.compareBytes a b<0→Lib.compareBytes b c<0→Lib.compareBytes a c<0
 | [],[],c,h,_=>by simp [Lib.compareBytes] at h
 | [],_::_,[],_,h=>by simp [Lib.compareBytes] at h
 | [],_::_,_::_,_,_=>by simp [Lib.compareBytes]
 | _::_,[],_,h,_=>by simp [Lib.compareBytes] at h
 | _::_,_::_,[],_,h=>by simp [Lib.compareBytes] at h
 | a::as',b::bs,c::cs,h1,h2=>by
  simp only [Lib.compareBytes] at *
  by_cases ab:a<b
  ·by_cases bc:b<c
   ·simp [UInt8.lt_trans ab bc]
   ·by_cases cb:c<b
    ·simp [bc,cb] at h2
    ·have:b=c:=UInt8.le_antisymm (UInt8.not_lt.1 cb) (UInt8.not_lt.1 bc)
     subst this;simp [ab]
  ·by_cases ba:b<a
   ·simp [ab,ba] at h1
   ·have:a=b:=UInt8.le_antisymm (UInt8.not_lt.1 ba) (UInt8.not_lt.1 ab)
    subst this
    simp only [UInt8.lt_irrefl,if_false] at h1
    by_cases bc:a<c
    ·simp [bc]
    ·by_cases cb:c<a
     ·simp [bc,cb] at h2
     ·simp only [bc,cb,if_false] at h2 ⊢
      exact cmp_trans as' bs cs h1 h2
def ltK (a b:List UInt8):Prop:=Lib.compareBytes a b<0
abbrev H32:={l:List UInt8 // l.length=32}
instance:Inhabited H32:=⟨⟨List.replicate 32 0,by simp⟩⟩
section
variable {w0 w:World} {ls:List HP} {e:TypeId} {b cap:Nat} {xs:List (List UInt8)}
end
theorem y_ext {P:Program} {N:Fs} {a:Act} {l:List (Nat×Value)} {o:Oper} {w:World} {v:Value} (F:Fr N a l) {f:FuncId} {xs:List Operand} {ts:Array TypeId} (ho:o.op=.call { callee:=.value (.func f),args:=xs.toArray,argTypes:=ts }) {vs:List Value} (hv:evs l xs=some vs)
  (he:(callFunc f vs.toArray).run P w=.ok (.value v) w):(execOp a.eval o).run P w=.ok (.value v) w:=by
 have:=F.evals hv
 unfold execOp
 simp [ho,resolve,Act.eval,Deferred.ofValue,invoke,he,this]
theorem aget_isSome {κ β:Type} [DecidableEq κ] (k:κ):∀ l:List (κ×β),(aget k l).isSome=true↔k∈l.map (·.1)
 | []=>by simp [aget]
 | (k',v)::l=>by
  simp only [aget]
  split
  ·rename_i h;simp [h]
  ·rename_i h
   rw [aget_isSome k l];simp [Ne.symm h]
theorem St.owCase {α:Type} {R:Rp α} {w0 w:World} {ls:List HP} {e:TypeId} {p:Option Addr} {cap:Nat} {xs:List α} (H:St w0 w ls) (i:Nat) (hi:ls[i]?=some (HP.ow R e p cap xs)):(p=none∧cap=0∧xs=[])∨∃ b,p=some ⟨b,0,none⟩:=by
 obtain ⟨B,H⟩:=H.out
 obtain ⟨S0,css,c0,⟨hl0,⟨h,h'⟩ | ⟨g,cap',cur,h,hb0,hg,hnc,hm,hsz,ht⟩⟩,hS⟩:=H.at hi
 ·injection h with h1 h2 h3
  exact .inl ⟨h1,h3,List.eq_nil_of_length_eq_zero h2⟩
 ·injection h with h1
  exact .inr ⟨g,h1⟩
theorem AggT.run_szOf {P:Program} {t:TypeId} {n:Nat} {z:List Value} (h:AggT P t n z) (w:World):(Go.sizeOf t).run P w=.ok n w:=by
 obtain ⟨i,hi,he⟩:=Option.map_eq_some_iff.1 h.info
 injection he with h1 _
 subst h1
 simp [Go.sizeOf,typeInfo,Sem.run,hi]
def leK (a b:List UInt8):Bool:=decide (Lib.compareBytes a b≤0)
theorem leK_trans (a b c:List UInt8) (h1:leK a b=true) (h2:leK b c=true):leK a c=true:=by
 have h1:Lib.compareBytes a b≤0:=of_decide_eq_true h1
 have h2:Lib.compareBytes b c≤0:=of_decide_eq_true h2
 refine decide_eq_true ?_
 by_cases e1:Lib.compareBytes a b=0
 ·rw [cmp_zero _ _ e1];exact h2
 ·by_cases e2:Lib.compareBytes b c=0
  ·rw [← cmp_zero _ _ e2];exact h1
  ·have:=cmp_trans a b c (by omega) (by omega)
   omega
theorem leK_total (a b:List UInt8):(leK a b || leK b a)=true:=by
 have:=cmp_swap a b
 unfold leK
 by_cases h:Lib.compareBytes a b≤0
 ·simp [h]
 ·have:Lib.compareBytes b a≤0:=by omega
  simp [this]
theorem enum_of {β:Type} {m:List UInt8→Option β}:∀ (ks:List (List UInt8)) (m:List UInt8→Option β),ks.Nodup→(∀ k,k∈ks↔(m k).isSome=true)→∃ kv,Enum m kv∧kv.map (·.1)=ks
 | ks,m,hn,hk=>by
  have key:∀ l:List (List UInt8),(∀ k∈l,(m k).isSome=true)→∃ kv:List (List UInt8×β),kv.map (·.1)=l∧∀ k v,(k,v)∈kv→m k=some v:=by
   intro l
   induction l with
   | nil=>intro _;exact ⟨[],rfl,fun k v h=>by cases h⟩
   | cons a l ih =>
    intro h
    obtain ⟨kv,h1,h2⟩:=ih fun k hk=>h k (List.mem_cons_of_mem _ hk)
    obtain ⟨v,hv⟩:=Option.isSome_iff_exists.1 (h a (by simp))
    refine ⟨(a,v)::kv,by simp [h1],fun k v' hm=>?_⟩
    rcases List.mem_cons.1 hm with e | e
    ·cases e;exact hv
    ·exact h2 k v' e
  obtain ⟨kv,h1,h2⟩:=key ks fun k h=>(hk k).1 h
  refine ⟨kv,⟨by rw [h1];exact hn,fun k=>?_⟩,h1⟩
  by_cases hi:k∈ks
  ·have h3:=(aget_isSome k kv).2 (by rw [h1];exact hi)
   obtain ⟨v,hv⟩:=Option.isSome_iff_exists.1 h3
   rw [hv];exact h2 k v (aget_mem' hv)
  ·have h3:(aget k kv)=none:=by
    rcases hx:aget k kv with _ | v
    ·rfl
    ·exact absurd (by rw [← h1];exact (aget_isSome k kv).1 (by rw [hx];rfl)) hi
   have h4:m k=none:=by
    rcases hx:m k with _ | v
    ·rfl
    ·exact absurd ((hk k).2 (by rw [hx];rfl)) hi
   rw [h3,h4]
end Go.Tri
namespace Go.Tri
open Go.RowKit
theorem setCells_chg (b:Nat):∀ (vs:List Value) (o:Nat) (w:World),Chg b w (w.setCells b o vs)
 | [],o,w=>⟨rfl,rfl,rfl,rfl,fun _ _=>rfl⟩
 | v::r,o,w=>by
  have ih:=setCells_chg b r (o+1) (w.setCell ⟨b,o,none⟩ v)
  have h1:(w.setCell ⟨b,o,none⟩ v).heap.size=w.heap.size:=by simp [World.setCell]
  refine ⟨ih.os,ih.tape,ih.output,ih.size.trans h1,fun k hk=>(ih.oth k hk).trans ?_⟩
  simp [World.setCell,Array.getElem?_modify,Ne.symm hk]
theorem setCells_at (b:Nat) {e:TypeId} {fr:Nat×Nat}:∀ (vs:List Value) (o:Nat) (w:World) (cur:Array Value),w.heap[b]?=some (.cells cur e fr)→o+vs.length≤cur.size →
  ∃ cur':Array Value,(w.setCells b o vs).heap[b]?=some (.cells cur' e fr)∧cur'.size=cur.size∧cur'.toList=cur.toList.take o++vs++cur.toList.drop (o+vs.length)
 | [],o,w,cur,h,_=>⟨cur,h,rfl,by simp⟩
 | v::r,o,w,cur,h,hl=>by
  simp only [List.length_cons] at hl
  have h1:(w.setCell ⟨b,o,none⟩ v).heap[b]?=some (.cells (cur.setIfInBounds o v) e fr):=by
   simp [World.setCell,Array.getElem?_modify,h]
  obtain ⟨cur',h2,h3,h4⟩:=setCells_at b r (o+1) _ _ h1 (by simp;omega)
  refine ⟨cur',h2,by simpa using h3,?_⟩
  rw [h4]
  have hlt:o<cur.toList.length:=by simp;omega
  simp only [Array.toList_setIfInBounds,List.length_cons]
  rw [List.take_set,List.take_add_one,List.getElem?_eq_getElem hlt,List.drop_set_of_lt (by omega),show o+1+r.length=o+(r.length+1) by omega]
  simp only [Option.toList_some]
  rw [List.set_append_right _ _ (by simp;omega),List.length_take,Nat.min_eq_left (by omega),Nat.sub_self,List.set_cons_zero]
  simp
def HP.cv (e:TypeId) (b c:Nat) (xs:List UInt8):HP :=
 HP.of (fun _ w S=>(∃ cur:Array Value,w.heap[b]?=some (.cells cur e (cur.size,cur.size+1))∧cur.size=c∧xs.length≤c∧cur.toList.take xs.length=bcells xs)∧S b)
  (fun {_ w w' S} ⟨⟨cur,h1,h2⟩,hS⟩ hw=>⟨⟨cur,by rw [hw b hS];exact h1,h2⟩,hS⟩) (fun h _=>h)
section
variable {P:Program} {w0 w:World} {ls:List HP} {e:TypeId} {b c:Nat} {xs ys:List UInt8}
theorem cv_row {B:Base} {S:Nat→Prop} (h:(HP.cv e b c xs).pr B w S):Row w b 0 (bcells xs):=by
 obtain ⟨⟨cur,h1,h2,h3,h4⟩,_⟩:=h
 intro j v hj
 have hj':j<xs.length:=by have:=(List.getElem?_eq_some_iff.1 hj).1;rwa [bcells_length] at this
 rw [← h4,List.getElem?_take_of_lt hj'] at hj
 unfold World.cell?
 simp only [h1]
 simpa using hj
theorem St.cvFrz (H:St w0 w ls) (i:Nat) (hi:ls[i]?=some (HP.cv e b c xs)):St w0 w (HP.sl rByte (some ⟨b,0,none⟩) c xs::ls.eraseIdx i) :=
 (H.mv i hi).freezeH fun {B B'} S h hle hw=>⟨_,rdl_bytes B' xs,fun w' hw'=>by
  have h':=HP.loc _ h (w':=w') (fun b hb=>hw w' hw' b hb)
  rw [flat_bytes];exact .inr (.inr ⟨b,0,c,rfl,by obtain ⟨⟨cur,_,_,h3,_⟩,_⟩:=h;exact h3,cv_row h'⟩)⟩
variable {ops:Array Oper} {rest:List Oper} {o:Oper} {a:Act} {W:List Oper→Act→World→Prop} {N:Fs} {sl:List (Nat×Value)} {d:Nat} {x y:Operand} {t t':TypeId}
theorem s_cvT (k:Walk P ops W) (F:Fr N a sl) (hg:o.guard=none) (hd:o.dst=some d) (hN:Nat.blt d N.n=true) (hs:P.underlying t=some .string) (hD:P.underlying t'=some (.slice e)) (he:P.underlying e=some (.int .u8)) (ho:o.op=.convert t t' x) (hx:ev sl x=some (.string (txb xs))) (H:St w0 w ls)
  (hk:∀ b c w' a',St w0 w' (HP.cv e b c xs::ls)→Fr N a' ((d,.slice (some ⟨b,0,none⟩) xs.length c)::sl)→W rest a' w'):W (o::rest) a w:=by
 have hr:=run_bytes_of_string (P:=P) w t t' e (txb xs) hs hD he
 have hge:=grownCap_ge w (txb xs).size 0 e
 generalize hc:grownCap w (txb xs).size 0 e=c at hr hge
 rw [txb_size] at hge
 have hsz:(bytesRow (txb xs) c).size=c:=by simp [bytesRow,txb,ByteArray.size];omega
 have hlist:(bytesRow (txb xs) c).toList.take xs.length=bcells xs:=by
  have h1:(bytesRow (txb xs) c).toList=bcells xs++List.replicate (c - (txb xs).size) (Value.int .u8 0):=by simp [bytesRow,txb,bcells]
  rw [h1,List.take_left' (bcells_length _)]
 have H1:=H.drew.add (.cells (bytesRow (txb xs) c) e ((bytesRow (txb xs) c).size,(bytesRow (txb xs) c).size+1)) (HP.cv e w.heap.size c xs) fun S hS=>⟨⟨_,heapNew w.drew _,hsz,hge,hlist⟩,hS⟩
 refine s_val (v:=.slice (some ⟨w.heap.size,0,none⟩) (txb xs).size c) (w':=w.drew.alloc (.cells (bytesRow (txb xs) c) e ((bytesRow (txb xs) c).size,(bytesRow (txb xs) c).size+1))) k F hg hd hN (by rw [ho];rfl) ?_ fun a' F'=>hk w.heap.size c _ a' H1 (by rw [txb_size] at F';exact F')
 unfold execOp
 simp only [ho,F.eval hx]
 rw [Sem.run_bind,hr]
 rfl
theorem s_appCv (k:Walk P ops W) (F:Fr N a sl) (hg:o.guard=none) (hd:o.dst=some d) (hN:Nat.blt d N.n=true) (ho:o.op=.call { callee:=.builtin .append,args:=#[x,y],argTypes:=#[t,t] }) {q:Option Addr} {cc:Nat} (hx:ev sl x=some (.slice (some ⟨b,0,none⟩) xs.length c)) (hy:ev sl y=some (.slice q ys.length cc))
  {bytes:Nat} {z:Value} (hE:ElemT P t e 1 bytes z) (hb:Nat.ble (Cap.cap UInt8 * bytes) 140737488355328=true) {zs:List UInt8} (hz:appO xs ys=some zs) (hpos:Nat.blt 0 ys.length=true) (H:St w0 w ls) (i j:Nat) (hi:ls[i]?=some (HP.cv e b c xs)) (hj:ls[j]?=some (HP.sl rByte q cc ys))
  (hk:∀ p' c' w' a',St w0 w' (HP.sl rByte p' c' zs::ls.eraseIdx i)→Fr N a' ((d,.slice p' zs.length c')::sl)→W rest a' w'):W (o::rest) a w:=by
 obtain ⟨hr,rfl⟩:=appO_some hz
 have hcl:=Cap.lt (α:=UInt8)
 have hbb:=Nat.le_of_ble_eq_true hb
 have h0:0<ys.length:=by simpa using hpos
 have hmul:(xs.length+ys.length) * bytes≤140737488355328:=Nat.le_trans (Nat.mul_le_mul_right _ hr) hbb
 obtain ⟨ti,hj1,hz0,hs1,hs2⟩:=info_parts hE.hi
 obtain ⟨B,f,hs,h1,h2,h3⟩:=H.own
 have hil:i<ls.length:=(List.getElem?_eq_some_iff.1 hi).1
 have hcv:=h1 i _ hi
 have hrow:=cv_row hcv
 obtain ⟨⟨cur,c1,c2,c3,c4⟩,c5⟩:=hcv
 obtain ⟨css,d1,d2⟩:=h1 j _ hj
 have hsl:=d2 w hs
 rw [rdl_bytes_flat d1] at hsl
 obtain ⟨b2,off,hq,hrow2⟩:=hsl.rowAt (c:=0) rfl h0
 subst hq
 have holds:∀ (j:Nat) u,(bcells xs)[j]?=some u→w.cell? ((⟨b,0,none⟩:Addr).add j)=some u:=fun j u hj=>by rw [add_none];exact hrow j u hj
 have hnews:∀ (j:Nat) u,(bcells ys)[j]?=some u→w.cell? ((⟨b2,off,none⟩:Addr).add j)=some u:=fun j u hj=>by rw [add_none];exact hrow2 j u hj
 have hone:∀ u∈bcells ys,u.oneCell'=true:=bcells_flat ys
 have hlx:(bcells xs).length=xs.length * 1:=by rw [bcells_length,Nat.mul_one]
 have hly:(bcells ys).length=ys.length * 1:=by rw [bcells_length,Nat.mul_one]
 by_cases hroom:xs.length+ys.length≤c
 ·have hcell:∀ j,j<(bcells ys).length→(w.cell? ⟨b,0+xs.length * ti.size+j,none⟩).isSome=true:=fun j hj=>by
   rw [bcells_length] at hj
   unfold World.cell?
   simp only [c1,hs1,Nat.mul_one,Nat.zero_add]
   rw [Array.getElem?_eq_getElem (by omega)];rfl
  have hfz:∀ j,j<(bcells ys).length→w.frozen? ⟨b,0+xs.length * ti.size+j,none⟩=false:=fun j hj=>by
   rw [bcells_length] at hj
   unfold World.frozen?
   simp only [c1,hs1,Nat.mul_one,Nat.zero_add]
   simp;omega
  have hrun:=run_append_room_cells (P:=P) w t o.type e ti hE.ht hj1 b 0 xs.length c ⟨b2,off,none⟩ ys.length cc (bcells ys) (by rw [hs1];exact hly) hnews hone hroom hcell hfz
  rw [hs1,Nat.mul_one,Nat.zero_add] at hrun
  obtain ⟨cur',e1,e2,e3⟩:=setCells_at b (bcells ys) xs.length w cur c1 (by rw [bcells_length];omega)
  have hbc:bcells (xs++ys)=bcells xs++bcells ys:=by simp [bcells]
  have h5:cur'.toList.take (xs++ys).length=bcells (xs++ys):=by
   rw [e3,c4,hbc,List.take_left' (by simp [bcells_length])]
  have H1:=H.chg i hi (A':=HP.cv e b c (xs++ys)) (g:=b) (fun S hA=>hA.2) (setCells_chg b (bcells ys) xs.length w) fun S hA=>⟨⟨cur',by rw [e2];exact e1,by omega,by simpa using hroom,h5⟩,hA.2⟩
  have H2:=H1.cvFrz i (e:=e) (b:=b) (c:=c) (xs:=xs++ys) (by simp [List.getElem?_set,hil])
  rw [List.eraseIdx_set_eq] at H2
  refine s_val (v:=.slice (some ⟨b,0,none⟩) (xs.length+ys.length) c) (w':=_) k F hg hd hN (by rw [ho];rfl) ?_ fun a' F'=>hk (some ⟨b,0,none⟩) c _ a' H2 (by rw [List.length_append];exact F')
  unfold execOp
  simp [ho,resolve,invoke,builtin,F.eval hx,F.eval hy,hrun]
 ·have hrun:=run_append_grow (P:=P) w t o.type e ti z hE.ht hj1 hz0 ⟨b,0,none⟩ xs.length c (bcells xs) (by rw [hs1];exact hlx) holds ⟨b2,off,none⟩ ys.length cc (bcells ys) (by rw [hs1];exact hly) hnews (by omega) (by omega) (growslice_fits (by omega) (by rw [hs2];exact hmul))
  have hge:=grownCap_ge w (xs.length+ys.length) c e
  have hcm:=grownCap_le_maxLen w (xs.length+ys.length) c e (by unfold maxLen;omega)
  have hlen:(bcells xs++bcells ys).length=xs.length+ys.length:=by simp [bcells_length]
  have hbc:bcells (xs++ys)=bcells xs++bcells ys:=by simp [bcells]
  generalize hX:(Obj.cells _ e:Obj)=X at hrun
  have H1:=H.upd i hi (w':=w.drew.alloc X) (A':=HP.ow rByte e (some ⟨w.heap.size,0,none⟩) (grownCap w (xs.length+ys.length) c e) (xs++ys)) (fun {B} S hA hS=>⟨fun b=>b=w.heap.size,⟨_,rdl_bytes B (xs++ys),⟨by rw [flat_bytes,bcells_length];show _=(xs++ys).length * 1;rw [Nat.mul_one],.inr ⟨w.heap.size,_,_,by rw [List.length_append],Nat.zero_le _,by rw [← hX];exact heap_alloc_new w.drew _,by rw [List.length_append];exact hge,hcm,by
    simp only [Array.size_append,List.size_toArray,size_zeroCells,hE.hz,bcells_length,List.length_append,rByte,Rp.enc]
    omega,by
    rw [flat_bytes,hbc]
    simp only [Array.toList_append,List.append_assoc]
    rw [← List.append_assoc,List.take_left' (by simp [bcells_length,rByte,Rp.enc])]⟩⟩,fun b hb=>by simp [Value.ownBlock] at hb;exact hb.symm⟩,fun b hb=>.inr (by omega),fun b hb=>by rw [hb];simp,fun b hb _=>heapOld w.drew _ b hb⟩) rfl rfl rfl (by simp)
  have H2:=H1.frz i (R:=rByte) (e:=e) (xs:=xs++ys) (p:=some ⟨w.heap.size,0,none⟩) (cap:=grownCap w (xs.length+ys.length) c e) (by simp [List.getElem?_set,hil])
  rw [List.eraseIdx_set_eq] at H2
  refine s_val (v:=.slice (some ⟨w.heap.size,0,none⟩) (xs.length+ys.length) (grownCap w (xs.length+ys.length) c e)) (w':=w.drew.alloc X) k F hg hd hN (by rw [ho];rfl) ?_ fun a' F'=>hk (some ⟨w.heap.size,0,none⟩) _ _ a' H2 (by rw [List.length_append];exact F')
  unfold execOp
  simp [ho,resolve,invoke,builtin,F.eval hx,F.eval hy,hrun]
end
def sp:List UInt8→List (List UInt8)
 | []=>[[]]
 | c::r=>if c=47 then []::sp r else match sp r with | h::t=>(c::h)::t | []=>[[c]]
theorem split_sp:∀ s:List UInt8,Lib.splitK [47] 0 (Lib.count s [47]) s=sp s
 | []=>by rw [Lib.count_miss (by simp [Lib.index])];rfl
 | c::r=>by
  have ih:=split_sp r
  by_cases h:c=47
  ·subst h
   rw [Lib.count_cons_eq,Nat.add_comm,Lib.splitK]
   have hix:Lib.index (47::r) [47]=0:=by rw [Lib.index];simp [List.isPrefixOf]
   rw [hix]
   simp only [sp,if_true]
   rw [if_neg (by decide)]
   simpa using ih
  ·have hp:([47]:List UInt8).isPrefixOf (c::r)=false:=by simp [List.isPrefixOf,Ne.symm h]
   have hix:Lib.index (c::r) [47]=if Lib.index r [47]==-1 then -1 else Lib.index r [47]+1:=by rw [Lib.index,hp];simp
   rw [Lib.count_cons_ne c 47 r h]
   simp only [sp,h,if_false]
   by_cases hm:Lib.index r [47]=-1
   ·rw [Lib.count_miss hm] at ih ⊢
    rw [← ih];rfl
   ·have hge:=Lib.index_ge r [47]
    obtain ⟨j,hj⟩:∃ j:Nat,Lib.index r [47]=j:=⟨(Lib.index r [47]).toNat,by omega⟩
    rw [Lib.count_hit (by simp) hj,Nat.add_comm] at ih ⊢
    rw [Lib.splitK,hj,if_neg (by simp)] at ih
    rw [Lib.splitK,hix,hj,if_neg (show ¬ (((j:Int)==-1)=true) by simp),if_neg (by simp;omega),← ih]
    simp only [Int.toNat_natCast,Nat.add_zero]
    rw [show ((j:Int)+1).toNat=j+1 by omega]
    rfl
def jn (xs:List (List UInt8)):List UInt8:=Lib.join xs [47]
def splitO (s sep:List UInt8) (sv n:Int):Option (List (List UInt8)):=if sep=[47]∧sv=0∧n=-1∧s.length≤100000 then some (sp s) else none
theorem splitO_some {s sep:List UInt8} {sv n:Int} {r:List (List UInt8)} (h:splitO s sep sv n=some r):sep=[47]∧sv=0∧n=-1∧s.length≤100000∧r=sp s:=by
 unfold splitO at h
 split at h
 ·rename_i h0;cases h;exact ⟨h0.1,h0.2.1,h0.2.2.1,h0.2.2.2,rfl⟩
 ·cases h
def joinO (xs:List (List UInt8)) (sep:List UInt8):Option (List UInt8):=if sep=[47]∧xs.length≤100000∧(jn xs).length≤100000 then some (jn xs) else none
theorem joinO_some {xs:List (List UInt8)} {sep r:List UInt8} (h:joinO xs sep=some r):sep=[47]∧xs.length≤100000∧(jn xs).length≤100000∧r=jn xs:=by
 unfold joinO at h
 split at h
 ·rename_i h0;cases h;exact ⟨h0.1,h0.2.1,h0.2.2,rfl⟩
 ·cases h
def indexO (s sub:List UInt8):Option Int:=match sub with
 | [c]=>some (Lib.indexByte s c)
 | _=>none
theorem indexO_some {s sub:List UInt8} {r:Int} (h:indexO s sub=some r):∃ c,sub=[c]∧r=Lib.indexByte s c:=by
 unfold indexO at h
 split at h
 ·rename_i c;cases h;exact ⟨c,rfl,rfl⟩
 ·cases h
theorem St.below {w0 w w':World} {l:List HP} (H:St w0 w l) (hb:Below w.heap.size w w'):St w0 w' l:=by
 obtain ⟨hv,B,f,hs,h1,h2,h3⟩:=H
 have hold:∀ b,b<w.heap.size→w'.heap[b]?=w.heap[b]?:=fun b hlt=>hb.block b hlt
 refine ⟨⟨hb.os.trans hv.1,hb.tape.trans hv.2.1,hb.output.trans hv.2.2.1,Nat.le_trans hv.2.2.2 hb.size⟩,B,f,fun b o h=>?_,fun i A hi=>A.loc (h1 i A hi) fun b hf=>hold b (h3 i b (List.getElem?_eq_some_iff.1 hi).1 hf).1,h2,fun i b hi hf=>?_⟩
 ·rw [hold b (hs.lt h)];exact hs b o h
 ·have:=h3 i b hi hf
  exact ⟨Nat.lt_of_lt_of_le this.1 hb.size,this.2⟩
theorem St.newTexts {w0 w:World} {l:List HP} (H:St w0 w l) (e:TypeId) (xs:List (List UInt8)) (hm:xs.length≤maxLen):St w0 (w.alloc (.cells (xs.map fun x=>Value.string (txb x)).toArray e)) (HP.ow rStr e (some ⟨w.heap.size,0,none⟩) xs.length xs::l):=by
 have hf:(xs.map fun x=>[Value.string (txb x)]).flatten=xs.map fun x=>Value.string (txb x):=by
  induction xs with
  | nil=>rfl
  | cons x xs ih=>simp only [List.length_cons] at hm;simp [ih (by omega)]
 have hr:∀ B:Base,RdL rStr B (xs.map fun x=>[Value.string (txb x)]) xs:=fun B=>by
  clear hm hf
  induction xs with
  | nil=>trivial
  | cons x xs ih=>exact ⟨rfl,ih⟩
 refine H.add _ _ fun {B} S hS=>⟨_,hr B,?_⟩
 rw [hf]
 exact ⟨⟨by simp [rStr,Rp.enc],.inr ⟨_,xs.length,_,rfl,Nat.zero_le _,heapNew w _,Nat.le_refl _,hm,by simp [rStr,Rp.enc],by simp only [rStr,Rp.enc,Nat.mul_one];rw [List.take_of_length_le];simp⟩⟩,fun b hb=>by simp [Value.ownBlock] at hb;exact hb▸hS⟩
end Go.Tri
namespace Go.Tri
open Go.RowKit Go.ChangeShapes Go.WideShapes Go.ChangeAt Go.Deep
def baseOf (w:World):Base:=fun b=>w.heap[b]?
theorem sub_row {w w':World} {b off:Nat} {cs:List Value} (hs:Sub (baseOf w) w') (h:Row w b off cs):Row w' b off cs:=by
 intro j v hj
 have h1:=h j v hj
 unfold World.cell? at h1 ⊢
 simp only at h1 ⊢
 cases hb:w.heap[b]? with
 | none=>rw [hb] at h1;cases h1
 | some o=>rw [hs b o hb];rw [hb] at h1;exact h1
theorem sub_sl {w w':World} {v:Value} {n:Nat} {cs:List Value} (hs:Sub (baseOf w) w') (h:Sl w v n cs):Sl w' v n cs:=by
 rcases h with h | h | ⟨b,off,cap,h1,h2,h3⟩
 ·exact .inl h
 ·exact .inr (.inl h)
 ·exact .inr (.inr ⟨b,off,cap,h1,h2,sub_row hs h3⟩)
section
variable {α H:Type} (enc:TypeId×Value→H) (P:Program) (w:World) (base:Nat) (spare:Nat→Bool) (held:Bool)
def Opn (R:Rp α) (e:TypeId):Prop:=∀ (fuel:Nat) (cs:List Value) (x:DataW H×List MemPlace),DataW.trod enc P w base spare held fuel e cs=some x→∃ y,R.rd (baseOf w) cs y
end
section
variable {α H:Type} {enc:TypeId×Value→H} {P:Program} {w:World} {base:Nat} {spare:Nat→Bool} {held:Bool} {R:Rp α} {e t:TypeId}
theorem opn_int {k:IntKind} (ht:P.underlying t=some (.int k)):Opn enc P w base spare held (rInt k) t:=fun fuel cs x h=>by
 obtain ⟨n0,g0,_,w0⟩:=DataW.trod_int ht h
 exact ⟨n0,g0⟩
theorem opn_byte (ht:P.underlying t=some (.int .u8)):Opn enc P w base spare held rByte t:=fun fuel cs x h=>by
 obtain ⟨n0,g0,_,w0⟩:=DataW.trod_int ht h
 have hb:0≤n0∧n0≤255:=by
  simp [Lit.wf,IntKind.min,IntKind.max,IntKind.signed,IntKind.bits] at w0;omega
 refine ⟨UInt8.ofNat n0.toNat,?_⟩
 show cs=[.int .u8 ((UInt8.ofNat n0.toNat).toNat:Int)]
 rw [g0]
 have:((UInt8.ofNat n0.toNat).toNat:Int)=n0:=by simp;omega
 rw [this]
end
def HP.all (w0:World):HP:=HP.pe (fun B=>∀ b o,w0.heap[b]?=some o→B b=some o)
  (fun h hl b o hb=>hl b o (h b o hb))
theorem St.start0 (w0:World) (l:List HP) (h:∀ A∈l,A.pr (baseOf w0) w0 (fun _=>False)):St w0 w0 l :=
 ⟨⟨rfl,rfl,rfl,Nat.le_refl _⟩,baseOf w0,fun _ _=>False,fun b o h=>h,fun i A hi=>h A (List.mem_of_getElem? hi),fun _ _ _ _ _ hf=>hf.elim,fun _ _ _ hf=>hf.elim⟩
theorem all_start (w0 w:World) (S:Nat→Prop):(HP.all w0).pr (baseOf w0) w S:=fun b o h=>h
theorem St.finish {w0 w:World} (H:St w0 w [HP.all w0]):Below w0.heap.size w0 w:=by
 obtain ⟨⟨h1,h2,h3,h4⟩,B,f,hs,ha,_⟩:=H
 refine ⟨h1,h2,h3,h4,fun k hk=>?_⟩
 have:=hs k _ (ha 0 _ rfl k _ (Array.getElem?_eq_getElem hk))
 rw [this,Array.getElem?_eq_getElem hk]
end Go.Tri
namespace Go.Tri
open Go.RowKit
def Base.ge (B:Base) (n:Nat):Base:=fun b=>if n≤b then B b else none
theorem Base.ge_mono {B B':Base} (h:B.le B') (n:Nat):(B.ge n).le (B'.ge n):=fun b o hb=>by
 unfold Base.ge at hb ⊢
 split at hb
 ·rename_i hn;rw [if_pos hn];exact h b o hb
 ·cases hb
section
variable {α:Type} {R:Rp α} {w0 w w':World} {l:List HP} {p:Option Addr} {cap n0:Nat} {xs:List α} {e:TypeId}
def HP.nsl (n0:Nat) (R:Rp α) (p:Option Addr) (cap:Nat) (xs:List α):HP :=
 HP.pe (fun B=>(HP.sl R p cap xs).pr (B.ge n0) default (fun _=>False)∧(0<xs.length→∃ b cur e,p=some ⟨b,0,none⟩∧(B.ge n0) b=some (.cells cur e (0,0))∧xs.length≤maxLen))
  (fun h hl=>⟨HP.mono (HP.sl R p cap xs) h.1 (Base.ge_mono hl n0),fun h0=>by obtain ⟨b,cur,e,h1,h2,h3⟩:=h.2 h0;exact ⟨b,cur,e,h1,Base.ge_mono hl n0 _ _ h2,h3⟩⟩)
def rSlN (n0:Nat) (R:Rp α):Rp (List α):=⟨1,fun B cs xs=>∃ p cap,cs=[.slice p xs.length cap]∧(HP.nsl n0 R p cap xs).pr B default (fun _=>False),fun ⟨p,cap,h,k⟩ hl=>⟨p,cap,h,HP.mono _ k hl⟩,fun ⟨p,cap,h,k⟩=>by rw [h];rfl,fun ⟨p,cap,h,k⟩=>by rw [h];intro v hv;simp at hv;subst hv;rfl⟩
end
section
variable {κ β:Type} [DecidableEq κ] {w0 w w':World} {l:List HP} {p:Option Nat} {ek:κ→Value} {agg:Bool} {R R':Rp β} {ok:κ→Prop} {m:κ→Option β}
end
section
variable {α:Type} {R R':Rp α} {B B':Base} {n0:Nat}
abbrev rP2:Rp (List UInt8×List UInt8):=rPair (rSl rByte) (rSl rByte)
abbrev rP2N (n0:Nat):Rp (List UInt8×List UInt8):=rPair (rSlN n0 rByte) (rSlN n0 rByte)
end
section
variable {w0 w w':World} {l:List HP} {p:Option Addr} {cap n0:Nat} {xs:List (List UInt8×List UInt8)}
def HP.box (p:Option Addr) (cap:Nat) (xs:List (List UInt8×List UInt8)):HP :=
 HP.of (fun _ w S=>∃ B:Base,(∀ b o,B b=some o→S b∧w.heap[b]?=some o)∧(HP.nsl 0 (rP2N 0) p cap xs).pr B default (fun _=>False))
  (fun ⟨B,h1,h2⟩ hS=>⟨B,fun b o hb=>⟨(h1 b o hb).1,by rw [hS b (h1 b o hb).1];exact (h1 b o hb).2⟩,h2⟩)
  (fun h _=>h)
end
end Go.Tri
namespace Go.Tri
open Go.RowKit Go.Sort Go.Proofs
theorem rdl_str {B:Base}:∀ {css:List (List Value)} {xs:List (List UInt8)},RdL rStr B css xs→css.flatten=xs.map encStr
 | [],[],_=>rfl
 | [],_::_,h=>h.elim
 | _::_,[],h=>h.elim
 | c::css,x::xs,⟨h1,h2⟩=>by
  have h1:c=[.string (txb x)]:=h1
  rw [List.flatten_cons,rdl_str h2,h1];rfl
theorem rdl_str' {B:Base}:∀ xs:List (List UInt8),RdL rStr B (xs.map fun x=>[encStr x]) xs
 | []=>trivial
 | x::xs=>⟨rfl,rdl_str' xs⟩
theorem flat_str (xs:List (List UInt8)):(xs.map fun x=>[encStr x]).flatten=xs.map encStr:=by
 induction xs with
 | nil=>rfl
 | cons x xs ih=>simp [ih]
section
variable {w0 w:World} {ls:List HP} {e:TypeId} {b cap:Nat} {xs:List (List UInt8)}
theorem St.putStr (H:St w0 w ls) (i:Nat) (hi:ls[i]?=some (HP.ow rStr e (some ⟨b,0,none⟩) cap xs)):Holds encStr w b 0 xs.toArray∧b<w.heap.size∧xs.length≤cap ∧
  ∀ (d':List (List UInt8)) (k n:Nat) (os:Array Obj),d'.length=xs.length→k≤d'.length→St w0 (grow (putRow encStr (Sort.ahead w n) b 0 d'.toArray) os) (ls.set i (HP.ow rStr e (some ⟨b,0,none⟩) cap (d'.take k))):=by
 obtain ⟨B,H⟩:=H.out
 obtain ⟨S0,css,c0,⟨hl0,⟨h,h'⟩ | ⟨g,cap',cur,h,hb0,hg,hnc,hm,hsz,ht⟩⟩,hS⟩:=H.at hi
 ·cases h
 cases h
 have h1:rStr.n=1:=rfl
 have hbl:b<w.heap.size:=(Array.getElem?_eq_some_iff.1 hg).1
 rw [rdl_str c0,h1,Nat.mul_one] at ht
 have hF:∀ t (hx:t<xs.length),cur[t]?=some (encStr xs[t]):=by
  intro t hx
  have e3:(xs.map encStr)[t]?=some (encStr xs[t]):=by simp [hx]
  rw [← ht,List.getElem?_take_of_lt hx] at e3
  simpa using e3
 refine ⟨fun t h5=>?_,hbl,hnc,fun d' k n os hd hk=>?_⟩
 ·have h2:t<xs.length:=by simpa using h5
  refine ⟨?_,?_⟩
  ·unfold World.cell?
   simp only [hg,Nat.zero_add]
   rw [hF t h2]
   simp [getElem!_pos,h2]
  ·unfold World.frozen?
   simp only [hg]
   simp
 ·have hw:(grow (putRow encStr (Sort.ahead w n) b 0 d'.toArray) os).heap=(w.heap.modify b (onCells (putCells encStr 0 d'.toArray)))++os:=rfl
  have hold:∀ k,k<w.heap.size→k≠b→(grow (putRow encStr (Sort.ahead w n) b 0 d'.toArray) os).heap[k]?=w.heap[k]?:=by
   intro k hk hne
   rw [hw,Array.getElem?_append_left (by simpa using hk),Array.getElem?_modify,if_neg (Ne.symm hne)]
  have hnew:(grow (putRow encStr (Sort.ahead w n) b 0 d'.toArray) os).heap[b]?=some (.cells (putCells encStr 0 d'.toArray cur) e (0,0)):=by
   rw [hw,Array.getElem?_append_left (by simpa using hbl),Array.getElem?_modify,if_pos rfl,hg];rfl
  have hsz2:w.heap.size≤(grow (putRow encStr (Sort.ahead w n) b 0 d'.toArray) os).heap.size:=by rw [hw];simp
  have hpc:((putCells encStr 0 d'.toArray cur).toList).take k=(d'.take k).map encStr:=by
   apply List.ext_getElem?
   intro t
   by_cases h:t<k
   ·have hts:t<cur.size:=by rw [hsz,h1];omega
    have hfs:t<d'.length:=by omega
    rw [List.getElem?_take_of_lt h]
    simp only [Array.getElem?_toList,List.getElem?_map,List.getElem?_take_of_lt h]
    unfold putCells
    rw [Array.getElem?_mapIdx,Array.getElem?_eq_getElem hts,Option.map_some,if_pos ⟨Nat.zero_le _,by simpa using hfs⟩,List.getElem?_eq_getElem hfs]
    simp [getElem!_pos,hfs]
   ·rw [List.getElem?_eq_none (by simp;omega),List.getElem?_eq_none (by simp;omega)]
  refine (H.st).upd i hi (fun {B} S hA hb=>?_) rfl rfl rfl hsz2
  obtain ⟨css1,c1,hA1,hA2⟩:=hA
  have hSb:S b:=hA2 b rfl
  have hkl:(d'.take k).length=k:=by rw [List.length_take,Nat.min_eq_left hk]
  refine ⟨S,⟨_,rdl_str' (d'.take k),⟨?_,.inr ⟨b,cap,_,rfl,Nat.zero_le _,hnew,?_,hm,?_,?_⟩⟩,fun b' hb'=>hA2 b' hb'⟩,fun k hk=>.inl hk,fun k hk=>Nat.lt_of_lt_of_le (hb k hk).1 hsz2,fun k hk hn=>hold k hk (fun e=>hn (e▸hSb))⟩
  ·rw [flat_str];simp [h1]
  ·rw [hkl];omega
  ·rw [← hsz];simp [putCells]
  ·rw [flat_str,hkl,h1,Nat.mul_one];exact hpc
end
abbrev PE (B:Base):={p:List Value×(List UInt8×List UInt8) // rP2.rd B p.1 p.2}
instance (B:Base):Inhabited (PE B):=⟨⟨([.slice none 0 0,.slice none 0 0],([],[])),⟨[.slice none 0 0],[.slice none 0 0],rfl,rSl_nil _ _,rSl_nil _ _⟩⟩⟩
def encP {B:Base} (x:PE B):List Value:=x.1.1
def cmpP {B:Base} (x y:PE B):Int:=Lib.compareBytes x.1.2.1 y.1.2.1
theorem encP_len {B:Base} (x:PE B):(encP x).length=2:=rP2.len x.2
theorem encP_one {B:Base} (x:PE B):∀ v∈encP x,v.oneCell'=true:=fun v hv=>rP2.flat x.2 v hv
theorem cmpP_swo {B:Base}:SWO (ltOf (cmpP (B:=B))) where
 irrefl x:=by simp [ltOf,cmpP,cmp_self]
 trans x y z h1 h2:=decide_eq_true (cmp_trans _ _ _ (of_decide_eq_true h1) (of_decide_eq_true h2))
 ntrans x y z h1 h2:=by
  replace h1:¬ Lib.compareBytes x.1.2.1 y.1.2.1<0:=of_decide_eq_false h1
  replace h2:¬ Lib.compareBytes y.1.2.1 z.1.2.1<0:=of_decide_eq_false h2
  refine decide_eq_false fun h3=>?_
  replace h3:Lib.compareBytes x.1.2.1 z.1.2.1<0:=h3
  by_cases hz:Lib.compareBytes y.1.2.1 x.1.2.1=0
  ·rw [cmp_zero _ _ hz] at h2;exact h2 h3
  ·have:Lib.compareBytes y.1.2.1 x.1.2.1<0:=by rw [cmp_swap];rw [cmp_swap] at hz;omega
   exact h2 (cmp_trans _ _ _ this h3)
theorem rdl_pe {B:Base}:∀ {css:List (List Value)} {xs:List (List UInt8×List UInt8)},RdL rP2 B css xs→∃ d:List (PE B),d.map (·.1.2)=xs∧css=d.map encP
 | [],[],_=>⟨[],rfl,rfl⟩
 | c::css,x::xs,h=>by
  obtain ⟨d,h1,h2⟩:=rdl_pe h.2
  exact ⟨⟨(c,x),h.1⟩::d,by simp [h1],by simp [h2,encP]⟩
 | [],_::_,h=>h.elim
 | _::_,[],h=>h.elim
theorem rdl_pe' {B:Base}:∀ d:List (PE B),RdL rP2 B (d.map encP) (d.map (·.1.2))
 | []=>trivial
 | x::d=>⟨x.2,rdl_pe' d⟩
theorem pflat_len {B:Base} (d:List (PE B)):(d.map encP).flatten.length=d.length * 2:=by
 induction d with
 | nil=>rfl
 | cons x d ih=>simp only [List.map_cons,List.flatten_cons,List.length_append,encP_len,ih,List.length_cons];omega
theorem pflat_get {B:Base} (d:List (PE B)) (t:Nat) (h:t<d.length * 2):(d.map encP).flatten[t]?=(encP ((d.toArray)[t / 2]!))[t % 2]?:=by
 have hj:t / 2<d.length:=by omega
 have hc:(d.map encP)[t / 2]?=some (encP (d[t / 2]'hj)):=by simp [List.getElem?_eq_getElem hj]
 have h1:=flatK_at (K:=2) (css:=d.map encP) (fun c hc=>by obtain ⟨x,_,rfl⟩:=List.mem_map.1 hc;exact encP_len x) hc
 have e1:(d.toArray)[t / 2]! = d[t / 2]'hj:=by simp [getElem!_pos,hj]
 rw [e1,← h1,List.getElem?_take_of_lt (by omega),List.getElem?_drop]
 congr 1;omega
theorem pflat_list {B:Base} (d:List (PE B)):(flatK encP 2 d.toArray).toList=(d.map encP).flatten:=by
 apply List.ext_getElem?
 intro t
 by_cases h:t<d.length * 2
 ·have e2:t<(flatK encP 2 d.toArray).size:=by simpa using h
  rw [pflat_get d t h]
  have e3:=get_flatK encP 2 d.toArray t (by simpa using h)
  rw [getElem!_pos (flatK encP 2 d.toArray) t e2] at e3
  rw [Array.getElem?_toList,Array.getElem?_eq_getElem e2,e3]
  have e4:t % 2<(encP (d.toArray[t / 2]!)).length:=by rw [encP_len];omega
  rw [List.getElem?_eq_getElem e4,getElem!_pos (encP (d.toArray[t / 2]!)) _ e4]
 ·rw [List.getElem?_eq_none (by simpa using h),List.getElem?_eq_none (by rw [pflat_len];omega)]
section
variable {w0 w:World} {ls:List HP} {e:TypeId} {b cap:Nat} {xs:List (List UInt8×List UInt8)}
theorem St.sortP (H:St w0 w ls) (i:Nat) (hi:ls[i]?=some (HP.ow rP2 e (some ⟨b,0,none⟩) cap xs)):∃ (B:Base) (d:List (PE B)),d.map (·.1.2)=xs∧HoldsK encP 2 w b 0 d.toArray∧b<w.heap.size ∧
  (∀ (d':Array (PE B)) (n:Nat) (os:Array Obj),Sub B (sortWorldK encP 2 w b 0 n d' os)) ∧
  ∀ (d':Array (PE B)) (n:Nat) (os:Array Obj),d'.size=d.length→St w0 (sortWorldK encP 2 w b 0 n d' os) (ls.set i (HP.ow rP2 e (some ⟨b,0,none⟩) cap (d'.toList.map (·.1.2)))):=by
 obtain ⟨hv,B,f,hs,g1,g2,g3⟩:=H
 obtain ⟨css,c0,⟨hl0,⟨h,h'⟩ | ⟨g,cap',cur,h,hb0,hg,hnc,hm,hsz,ht⟩⟩,hS⟩:=g1 i _ hi
 ·cases h
 cases h
 have hil:i<ls.length:=(List.getElem?_eq_some_iff.1 hi).1
 obtain ⟨d,hd,rfl⟩:=rdl_pe c0
 have hlen:d.length=xs.length:=by rw [← hd];simp
 have hn2:rP2.n=2:=rfl
 have hbl:b<w.heap.size:=(Array.getElem?_eq_some_iff.1 hg).1
 have hBb:B b=none:=(g3 i b hil (hS b rfl)).2.1
 have hF:∀ t,t<d.length * 2→cur[t]?=some ((flatK encP 2 d.toArray)[t]!):=by
  intro t h1
  have e2:t<(flatK encP 2 d.toArray).size:=by simpa using h1
  have e3:(flatK encP 2 d.toArray).toList[t]?=some ((flatK encP 2 d.toArray)[t]!):=by
   rw [Array.getElem?_toList,Array.getElem?_eq_getElem e2,getElem!_pos _ t e2]
  rw [pflat_list,← ht,List.getElem?_take_of_lt (by rw [hn2,← hlen];exact h1)] at e3
  simpa using e3
 have hold:∀ (d':Array (PE B)) (n:Nat) (os:Array Obj) k,k<w.heap.size→k≠b→(sortWorldK encP 2 w b 0 n d' os).heap[k]?=w.heap[k]?:=by
  intro d' n os k hk hne
  have hw:(sortWorldK encP 2 w b 0 n d' os).heap=(w.heap.modify b (onCells (putCells id 0 (flatK encP 2 d'))))++os:=rfl
  rw [hw,Array.getElem?_append_left (by simpa using hk),Array.getElem?_modify,if_neg (Ne.symm hne)]
 refine ⟨B,d,hd,fun t h1=>?_,hbl,fun d' n os b' o hb'=>?_,fun d' n os hs2=>?_⟩
 ·have h2:=hF t (by simpa using h1)
  refine ⟨?_,?_⟩
  ·unfold World.cell?
   simp only [hg,Nat.zero_add]
   exact h2
  ·unfold World.frozen?
   simp only [hg]
   simp
 ·rw [hold d' n os b' (hs.lt hb') (fun e=>by rw [e,hBb] at hb';cases hb')];exact hs b' o hb'
 ·have hw:(sortWorldK encP 2 w b 0 n d' os).heap=(w.heap.modify b (onCells (putCells id 0 (flatK encP 2 d'))))++os:=rfl
  have hnew:(sortWorldK encP 2 w b 0 n d' os).heap[b]?=some (.cells (putCells id 0 (flatK encP 2 d') cur) e (0,0)):=by
   rw [hw,Array.getElem?_append_left (by simpa using hbl),Array.getElem?_modify,if_pos rfl,hg];rfl
  have hsz2:w.heap.size≤(sortWorldK encP 2 w b 0 n d' os).heap.size:=by rw [hw];simp
  have hcap:xs.length * 2≤cap * 2:=Nat.mul_le_mul_right _ hnc
  have hpc:((putCells id 0 (flatK encP 2 d') cur).toList).take (xs.length * 2)=(d'.toList.map encP).flatten:=by
   rw [← pflat_list,Array.toArray_toList]
   apply List.ext_getElem?
   intro t
   by_cases h:t<xs.length * 2
   ·have hts:t<cur.size:=by rw [hsz,hn2];omega
    have hfs:t<(flatK encP 2 d').size:=by simp;rw [hs2,hlen];exact h
    rw [List.getElem?_take_of_lt h]
    simp only [Array.getElem?_toList]
    unfold putCells
    rw [Array.getElem?_mapIdx,Array.getElem?_eq_getElem hts,Option.map_some,if_pos ⟨Nat.zero_le _,by omega⟩,Array.getElem?_eq_getElem hfs]
    rw [Nat.sub_zero,getElem!_pos (flatK encP 2 d') t hfs];rfl
   ·rw [List.getElem?_eq_none (by simp;omega),List.getElem?_eq_none (by simp;rw [hs2,hlen];omega)]
  have hSb:f i b:=hS b rfl
  have hA':(HP.ow rP2 e (some ⟨b,0,none⟩) cap (d'.toList.map (·.1.2))).pr B (sortWorldK encP 2 w b 0 n d' os) (f i):=by
   refine ⟨d'.toList.map encP,rdl_pe' _,⟨?_,.inr ⟨b,cap,_,?_,Nat.zero_le _,hnew,?_,hm,?_,?_⟩⟩,fun b' hb'=>hS b' hb'⟩
   ·rw [pflat_len];simp [hn2]
   ·simp [hs2,hlen]
   ·simp [hs2,hlen];exact hnc
   ·rw [← hsz];simp [putCells]
   ·rw [hn2,show (d'.toList.map (·.1.2)).length=xs.length by simp [hs2,hlen]];exact hpc
  refine ⟨⟨hv.1,hv.2.1,hv.2.2.1,Nat.le_trans hv.2.2.2 hsz2⟩,B,f,fun b' o hb'=>?_,fun j C hj=>?_,fun j k b' hj hk=>g2 j k b' (by simpa using hj) (by simpa using hk),fun j b' hj hf=>?_⟩
  ·rw [hold d' n os b' (hs.lt hb') (fun e=>by rw [e,hBb] at hb';cases hb')];exact hs b' o hb'
  ·rw [List.getElem?_set] at hj
   by_cases e1:i=j
   ·subst e1;rw [if_pos rfl,if_pos hil] at hj;cases hj;exact hA'
   ·rw [if_neg e1] at hj
    have hjl:=(List.getElem?_eq_some_iff.1 hj).1
    exact C.loc (g1 j C hj) fun b' hb'=>hold d' n os b' (g3 j b' hjl hb').1 fun e=>e1 (g2 i j b hil hjl hSb (e▸hb'))
  ·have:=g3 j b' (by simpa using hj) hf
   exact ⟨Nat.lt_of_lt_of_le this.1 hsz2,this.2⟩
end
theorem pe_key {B:Base} {w:World} (hs:Sub B w) (x:PE B):∃ q c v,x.1.1=[.slice q x.1.2.1.length c,v]∧Sl w (.slice q x.1.2.1.length c) x.1.2.1.length (bcells x.1.2.1):=by
 obtain ⟨c1,d1,h1,⟨q,c,h2,css,h3,h4⟩,⟨q2,c2,h5,_⟩⟩:=x.2
 refine ⟨q,c,.slice q2 x.1.2.2.length c2,by rw [h1,h2,h5];rfl,?_⟩
 have:=h4 w hs
 rwa [rdl_bytes_flat h3] at this
abbrev P2:=List UInt8×List UInt8
def leP (a b:P2):Bool:=decide (Lib.compareBytes a.1 b.1≤0)
def sortPairs (xs:List P2):List P2:=xs.mergeSort leP
def sortPO (xs:List P2):Option (List P2):=if (xs.map (·.1)).Nodup∧xs.length≤100000000 then some (sortPairs xs) else none
theorem sortPO_some {xs r:List P2} (h:sortPO xs=some r):(xs.map (·.1)).Nodup∧xs.length≤100000000∧r=sortPairs xs:=by
 unfold sortPO at h
 split at h
 ·rename_i h0;cases h;exact ⟨h0.1,h0.2,rfl⟩
 ·cases h
def ltP (a b:P2):Prop:=ltK a.1 b.1
theorem pairs_same:∀ {l l':List P2},l.Pairwise ltP→l'.Pairwise ltP→(∀ k,k∈l↔k∈l')→l=l'
 | [],[],_,_,_=>rfl
 | [],b::l',_,_,h=>absurd ((h b).2 (by simp)) (by simp)
 | a::l,[],_,_,h=>absurd ((h a).1 (by simp)) (by simp)
 | a::l,b::l',h1,h2,h=>by
  obtain ⟨h3,h4⟩:=List.pairwise_cons.1 h1
  obtain ⟨h5,h6⟩:=List.pairwise_cons.1 h2
  have hirr:∀ x,¬ ltP x x:=fun x hx=>by unfold ltP ltK at hx;rw [cmp_self] at hx;omega
  have hab:a=b:=by
   rcases List.mem_cons.1 ((h a).1 (by simp)) with e | e
   ·exact e
   ·rcases List.mem_cons.1 ((h b).2 (by simp)) with e2 | e2
    ·exact e2.symm
    ·exact absurd (show ltP a a from cmp_trans _ _ _ (h3 b e2) (h5 a e)) (hirr a)
  subst hab
  rw [pairs_same h4 h6 fun k=>?_]
  constructor
  ·intro hk
   rcases List.mem_cons.1 ((h k).1 (List.mem_cons_of_mem _ hk)) with e | e
   ·subst e;exact absurd (h3 k hk) (hirr k)
   ·exact e
  ·intro hk
   rcases List.mem_cons.1 ((h k).2 (List.mem_cons_of_mem _ hk)) with e | e
   ·subst e;exact absurd (h5 k hk) (hirr k)
   ·exact e
theorem strict_of {l:List P2} (hn:(l.map (·.1)).Nodup) (h:l.Pairwise (fun a b=>¬ ltK b.1 a.1)):l.Pairwise ltP:=by
 have hn':l.Pairwise (fun a b=>a.1≠b.1):=by rw [List.nodup_iff_pairwise_ne,List.pairwise_map] at hn;exact hn
 refine (h.and hn').imp fun {a b} h=>?_
 obtain ⟨h1,h2⟩:=h
 unfold ltP
 unfold ltK at *
 have h3:=cmp_zero a.1 b.1
 have h4:=cmp_swap a.1 b.1
 have:Lib.compareBytes a.1 b.1≠0:=fun e=>h2 (h3 e)
 omega
theorem leP_trans (a b c:P2) (h1:leP a b=true) (h2:leP b c=true):leP a c=true:=leK_trans a.1 b.1 c.1 h1 h2
theorem leP_total (a b:P2):(leP a b || leP b a)=true:=leK_total a.1 b.1
theorem sortPairs_strict {xs:List P2} (hn:(xs.map (·.1)).Nodup):(sortPairs xs).Pairwise ltP:=by
 have hp:=List.mergeSort_perm xs leP
 refine strict_of ((hp.map _).nodup_iff.2 hn) ?_
 refine (List.pairwise_mergeSort (fun a b c=>leP_trans a b c) (fun a b=>leP_total a b) xs).imp fun {a b} h=>?_
 have h:Lib.compareBytes a.1 b.1≤0:=of_decide_eq_true h
 have:=cmp_swap a.1 b.1
 unfold ltK;omega
theorem sortPairs_eq {xs ks:List P2} (hn:(xs.map (·.1)).Nodup) (hp:ks.Perm xs) (hs:ks.Pairwise (fun a b=>¬ ltK b.1 a.1)):ks=sortPairs xs :=
 pairs_same (strict_of ((hp.map _).nodup_iff.2 hn) hs) (sortPairs_strict hn) fun k=>(hp.trans (List.mergeSort_perm xs leP).symm).mem_iff
theorem sort_pairs {B:Base} {d:List (PE B)} {d':Array (PE B)} (hp:PermIn 0 d.toArray.size d.toArray d') (hs:SortedIn (ltOf cmpP) 0 d.toArray.size d'):d'.size=d.length∧(d'.toList.map (·.1.2)).Perm (d.map (·.1.2))∧(d'.toList.map (·.1.2)).Pairwise (fun a b=>¬ ltK b.1 a.1):=by
 obtain ⟨h1,_,h2⟩:=hp
 have hsz:d'.size=d.length:=by simpa using h1
 have e1:(d'.extract 0 d.toArray.size).toList=d'.toList:=by simp [← hsz]
 have e2:(d.toArray.extract 0 d.toArray.size).toList=d:=by simp
 rw [e1,e2] at h2
 refine ⟨hsz,h2.map _,?_⟩
 rw [List.pairwise_map,List.pairwise_iff_getElem]
 intro i j hi hj hij
 have hi':i<d'.size:=by simpa using hi
 have hj':j<d'.size:=by simpa using hj
 have:=hs i j (Nat.zero_le _) hij (by simpa [hsz] using hj')
 rw [getElem!_pos d' j hj',getElem!_pos d' i hi'] at this
 have h5:¬ (Lib.compareBytes (d'[j]).1.2.1 (d'[i]).1.2.1<0):=of_decide_eq_false this
 show ¬ ltK _ _
 simpa [ltK] using h5
def sortTO (xs:List (List UInt8)):Option (List (List UInt8)):=if xs.length≤100000000 then some (xs.mergeSort fun x y=>decide (x≤y)) else none
theorem sortTO_some {xs r:List (List UInt8)} (h:sortTO xs=some r):xs.length≤100000000∧r=xs.mergeSort fun x y=>decide (x≤y):=by
 unfold sortTO at h
 split at h
 ·rename_i h0;cases h;exact ⟨h0,rfl⟩
 ·cases h
def delO (xs:List (List UInt8)) (to:List UInt8):Option (List (List UInt8)):=if xs.length≤100000000 then some (xs.filter fun x=>!leqB x to) else none
theorem delO_some {xs r:List (List UInt8)} {to:List UInt8} (h:delO xs to=some r):xs.length≤100000000∧r=xs.filter fun x=>!leqB x to:=by
 unfold delO at h
 split at h
 ·rename_i h0;cases h;exact ⟨h0,rfl⟩
 ·cases h
theorem St.apart {w0 w:World} {ls:List HP} {e:TypeId} {b b3 cap:Nat} {xs:List (List UInt8)} {cs:List Value} {t:TypeId} (H:St w0 w ls) (i j:Nat) (hi:ls[i]?=some (HP.ow rStr e (some ⟨b,0,none⟩) cap xs)) (hj:ls[j]?=some (HP.blk b3 cs t)) (hij:i≠j):Blk w b3 cs t∧b3<w.heap.size∧b3≠b:=by
 obtain ⟨_,B,f,hs,g1,g2,g3⟩:=H
 have hil:=(List.getElem?_eq_some_iff.1 hi).1
 have hjl:=(List.getElem?_eq_some_iff.1 hj).1
 obtain ⟨css,c0,_,hS⟩:=g1 i _ hi
 obtain ⟨k1,k2⟩:=g1 j _ hj
 exact ⟨k1,(g3 j b3 hjl k2).1,fun e=>hij (g2 i j b hil hjl (hS b rfl) (e▸k2))⟩
end Go.Tri
namespace Go.Tri
open Go.RowKit Go.WideShapes
section
variable {P:Program} {t e:TypeId} {size bytes:Nat} {z:Value} {ops:Array Oper} {rest:List Oper} {o:Oper} {a:Act} {w0 w:World} {Q:Exit→Act→World→Prop} {ls:List HP}
theorem wl_appendSt (hE:ElemT P t e size bytes z) {s x:Operand} (ho:o.op=.call { callee:=.builtin .append,args:=#[s,x],argTypes:=#[t,t] }) (hgd:Region.wanted o (yielded ops a.tmps)=true) {v u:Value} (hs:a.eval s=v) (hx:a.eval x=u)
  (H:St w0 w ls) (i:Nat) {n m:Nat} {xs news:List Value} (hi:ls[i]?=some (HP.own e size v n xs)) (hsrc:Sl w u m news) (hl:news.length=m * size) (h1:Flat news) (h63:n+m≤maxLen) (hbytes:(n+m) * bytes≤140737488355328)
  (hk:∀ v' w',St w0 w' (ls.set i (HP.own e size v' (n+m) (xs++news)))→wpList P ops Q rest (a.put o.dst v') w'):wpList P ops Q (o::rest) a w:=by
 refine BigFrame.wpList_want hgd fun K' hK'=>?_
 obtain ⟨v',w',hrun,H2⟩:=run_appendSt (P:=P) H i hi hE hsrc hl h1 h63 hbytes o.type
 have ex:execOp a.eval o=(do pure (.value (← Builtin.append_ #[t,t] o.type #[v,u]))):=by
  unfold execOp;rw [ho];simp [resolve,invoke,Go.builtin,hs,hx]
 unfold Oper.wp
 rw [ex,Sem.run_bind,hrun]
 exact hK' _ _ (hk v' w' H2)
theorem run_appendR (hE:ElemT P t e size bytes z) {b n cap bo so m c:Nat} {cur news:List Value} {u ty:TypeId} (hb:Blk w b cur u) (hr:Row w bo so news) (hn:news.length=m * size) (hf:Flat news) (hroom:n+m≤cap) (hfit:n * size+news.length≤cur.length) :
  (Builtin.append_ #[t,t] ty #[.slice (some ⟨b,0,none⟩) n cap,.slice (some ⟨bo,so,none⟩) m c]).run P w =
   .ok (.slice (some ⟨b,0,none⟩) (n+m) cap) (w.setRow b (cur.take (n * size)++news++cur.drop (n * size+news.length)).toArray):=by
 obtain ⟨i,hi,_,hs,_⟩:=hE.parts
 have hfc:=run_firstCells_some (P:=P) w size m ⟨bo,so,none⟩ m c news hn (fun j v hj=>by rw [add_none];exact hr j v hj)
 have hst:=run_storeCells_at (P:=P) b (n * size) u news 0 cur.toArray w hb (by simpa using hfit) hf
 simp only [Nat.add_zero] at hst
 simp [Builtin.append_,Go.run_underlying hE.ht,sizeOf,typeInfo,hi,hs,Builtin.lenOf,hroom,hfc,Addr.add_lit,hst]
theorem wl_appendR (hE:ElemT P t e size bytes z) {s x:Operand} (ho:o.op=.call { callee:=.builtin .append,args:=#[s,x],argTypes:=#[t,t] }) (hgd:Region.wanted o (yielded ops a.tmps)=true) {b n cap:Nat} (hs:a.eval s=.slice (some ⟨b,0,none⟩) n cap)
  {bo so m c:Nat} (hx:a.eval x=.slice (some ⟨bo,so,none⟩) m c) {cur news:List Value} {u:TypeId} (hb:Blk w b cur u) (hr:Row w bo so news) (hn:news.length=m * size) (hf:Flat news) (hroom:n+m≤cap) (hfit:n * size+news.length≤cur.length)
  (hk:∀ w',Blk w' b (cur.take (n * size)++news++cur.drop (n * size+news.length)) u→Chg b w w'→wpList P ops Q rest (a.put o.dst (.slice (some ⟨b,0,none⟩) (n+m) cap)) w'):wpList P ops Q (o::rest) a w:=by
 refine BigFrame.wpList_want hgd fun K' hK'=>?_
 have ex:execOp a.eval o=(do pure (.value (← Builtin.append_ #[t,t] o.type #[.slice (some ⟨b,0,none⟩) n cap,.slice (some ⟨bo,so,none⟩) m c]))):=by
  unfold execOp;rw [ho];simp [resolve,invoke,Go.builtin,hs,hx]
 unfold Oper.wp
 rw [ex,Sem.run_bind,run_appendR hE hb hr hn hf hroom hfit]
 exact hK' _ _ (hk _ (hb.set_same _) (Chg.setRow w b _))
theorem run_clearR (hE:ElemT P t e size bytes z) {b off n:Nat} {cur:List Value} {u:TypeId} (hb:Blk w b cur u) (hn:0<n) (hfl:Flat z.cells.toList) (hfit:off+n * size≤cur.length) :
  ∃ zs:List Value,zs.length=n * size∧∀ (c:Nat) (ty:TypeId),(Builtin.clear_ #[t] ty #[.slice (some ⟨b,off,none⟩) n c]).run P w=.ok (.tuple #[]) (w.setRow b (cur.take off++zs++cur.drop (off+zs.length)).toArray):=by
 obtain ⟨i,hi,hz,hs,_⟩:=hE.parts
 have hzl:(Builtin.zeroCells z.cells n).toList.length=n * size:=by
  rw [Array.length_toList,size_zeroCells,hE.hz]
 have hzf:Flat (Builtin.zeroCells z.cells n).toList:=by
  intro v hv
  simp only [Builtin.zeroCells,Array.toList_map,List.mem_map,Array.toList_range,List.mem_range] at hv
  obtain ⟨q,hq,rfl⟩:=hv
  have h0:0<z.cells.size:=Nat.pos_of_ne_zero fun h=>by rw [h,Nat.mul_zero] at hq;omega
  exact hfl _ (by rw [getElem!_pos z.cells _ (Nat.mod_lt _ h0)];exact Array.getElem_mem_toList _)
 refine ⟨_,hzl,fun c ty=>?_⟩
 have hst:=run_storeCells_at (P:=P) b off u (Builtin.zeroCells z.cells n).toList 0 cur.toArray w hb (by rw [hzl];simpa using hfit) hzf
 simp only [Nat.add_zero] at hst
 have hv:∀ w,(zeroValue e).run P w=.ok z w:=fun w=>by unfold zeroValue;rw [Sem.run_bind,run_typeInfo hi];show Sem.run P (match i.zero with | some v=>pure v | none=>_) w=_;rw [hz];rfl
 obtain ⟨m,rfl⟩:∃ m,n=m+1:=⟨n - 1,by omega⟩
 simp [Builtin.clear_,Go.run_underlying hE.ht,hv,hst]
end
theorem Chg.trans {g:Nat} {w1 w2 w3:World} (h:Chg g w1 w2) (k:Chg g w2 w3):Chg g w1 w3 :=
 ⟨k.os.trans h.os,k.tape.trans h.tape,k.output.trans h.output,k.size.trans h.size,fun q hq=>(k.oth q hq).trans (h.oth q hq)⟩
theorem Chg.drewN (g:Nat) (w:World) (n:Nat):Chg g w (w.drewN n):=⟨rfl,rfl,rfl,rfl,fun _ _=>rfl⟩
theorem cut_room (cur xs zs:List Value) (a b k:Nat) (hx:cur.take (a+k+b)=xs) (hl:a+k+b≤cur.length) (hz:zs.length=k) (C1 C2:List Value) (h1:C1=cur.take a++xs.drop (a+k)++cur.drop (a+b)) (h2:C2=C1.take (a+b)++zs++C1.drop (a+b+zs.length)) :
  C1.length=cur.length∧C2.length=cur.length∧C2.take (a+b)=xs.take a++xs.drop (a+k):=by
 have hxl:xs.length=a+k+b:=by rw [← hx,List.length_take];omega
 have e1:C1.length=cur.length:=by rw [h1];simp only [List.length_append,List.length_take,List.length_drop];omega
 have e2:C1.take (a+b)=xs.take a++xs.drop (a+k):=by
  rw [h1,List.take_append_of_le_length (by simp only [List.length_append,List.length_take,List.length_drop];omega),List.take_of_length_le (by simp only [List.length_append,List.length_take,List.length_drop];omega),← hx,List.take_take,Nat.min_eq_left (by omega)]
 refine ⟨e1,?_,?_⟩
 ·rw [h2];simp only [List.length_append,List.length_take,List.length_drop];omega
 ·rw [h2,List.append_assoc,List.take_append_of_le_length (by simp only [List.length_take];omega),List.take_take,Nat.min_self,e2]
def InsSt (e size:Nat) (w0:World) (l:List HP) (i n q:Nat) (xs cs:List Value) (en:Ending) (w':World):Prop :=
 ∃ v',en=.returned v'∧St w0 w' (l.set i (HP.own e size v' (n+1) (xs.take (q * size)++cs++xs.drop (q * size))))
def DelSt (e size:Nat) (w0:World) (l:List HP) (i g cap q r:Nat) (xs:List Value) (en:Ending) (w':World):Prop :=
 en=.returned (.slice (some ⟨g,0,none⟩) (q+r) cap)∧St w0 w' (l.set i (HP.own e size (.slice (some ⟨g,0,none⟩) (q+r) cap) (q+r) (xs.take (q * size)++xs.drop ((q+1) * size))))
def insO {α:Type} (xs:List α) (i:Int) (vs:List α):Option (List α):=if 0≤i∧i≤xs.length∧xs.length≤1000∧vs.length=1 then some (xs.take i.toNat++vs++xs.drop i.toNat) else none
def cutO {α:Type} (xs:List α) (i j:Int):Option (List α):=if 0≤i∧j=i+1∧j≤xs.length then some (xs.take i.toNat++xs.drop (i.toNat+1)) else none
theorem ins_st {P:Program} {f:FuncId} {e k:Nat} {α:Type} {R:Rp α} (hk:R.n=k) (hp:0<k)
  (hEnd:∀ {w0 w:World} {l:List HP} {s:Value} {n:Nat} {xs:List Value} (_:St w0 w l) (i:Nat) (_:l[i]?=some (HP.own e k s n xs)) (_:n≤1000) (bv cv:Nat) (cs:List Value) (_:Row w bv 0 cs) (_:cs.length=k) (_:Flat cs),
   Calls P f #[s,.int .i64 n,.slice (some ⟨bv,0,none⟩) 1 (cv+1)] w (InsSt e k w0 l i n n xs cs))
  (hRoom:∀ {w0 w:World} {l:List HP} {g cap n q:Nat} {xs cur:List Value} (_:St w0 w l) (i:Nat) (_:l[i]?=some (HP.own e k (.slice (some ⟨g,0,none⟩) n cap) n xs)) (_:Blk w g cur e) (_:cur.length=cap * k) (_:cur.take (n * k)=xs) (_:Flat xs) (_:cap≤maxLen) (_:n≤1000) (_:q<n) (_:n+1≤cap)
   (bv cv:Nat) (cs cb:List Value) (_:Blk w bv cb e) (_:Row w bv 0 cs) (_:cs.length=k) (_:Flat cs) (_:cb≠[]) (_:bv≠g),
   Calls P f #[.slice (some ⟨g,0,none⟩) n cap,.int .i64 q,.slice (some ⟨bv,0,none⟩) 1 (cv+1)] w (InsSt e k w0 l i n q xs cs))
  (hGrow:∀ {w0 w:World} {l:List HP} {g n q:Nat} {xs:List Value} (_:St w0 w l) (i:Nat) (_:l[i]?=some (HP.own e k (.slice (some ⟨g,0,none⟩) n n) n xs)) (_:Row w g 0 xs) (_:xs.length=n * k) (_:Flat xs) (_:g<w.heap.size) (_:n≤1000) (_:q<n)
   (bv cv:Nat) (cs:List Value) (_:Row w bv 0 cs) (_:cs.length=k) (_:Flat cs) (_:bv<w.heap.size),
   Calls P f #[.slice (some ⟨g,0,none⟩) n n,.int .i64 q,.slice (some ⟨bv,0,none⟩) 1 (cv+1)] w (InsSt e k w0 l i n q xs cs))
  {p q:Option Addr} {cap c2:Nat} {xs vs zs:List α} {i:Int} (em:insO xs i vs=some zs) {w0 w:World} {l:List HP} (H:St w0 w (HP.ow R e p cap xs::HP.ow R e q c2 vs::l)) :
  Calls P f [.slice p xs.length cap,.int .i64 i,.slice q vs.length c2].toArray w fun en w'=>∃ v,en=.returned v∧∃ (p':Option Addr) (c':Nat),v=.slice p' zs.length c'∧St w0 w' (HP.ow R e p' c' zs::l):=by
 subst hk
 unfold insO at em
 split at em
 ·rename_i hc
  obtain ⟨hi0,hil,hn,hv1⟩:=hc
  cases em
  obtain ⟨x,rfl⟩:∃ x,vs=[x]:=List.length_eq_one_iff.1 hv1
  obtain ⟨k,rfl⟩:=Int.eq_ofNat_of_zero_le hi0
  simp only [Int.toNat_natCast]
  obtain ⟨css,c1,H1⟩:=H.owOpen 0 rfl
  obtain ⟨dss,d1,H2⟩:=H1.owOpen 2 rfl
  simp only [List.set_cons_succ,List.set_cons_zero] at H2
  have o1:=H2.owns 2 rfl
  have o2:=H2.owns 3 rfl
  have hfx:Flat css.flatten:=by obtain ⟨B,S,hs,h,_⟩:=H2.get 1 (A:=HP.rdl R css xs) rfl;exact RdL.flat h
  have hfd:Flat dss.flatten:=by obtain ⟨B,S,hs,h,_⟩:=H2.get 0 (A:=HP.rdl R dss [x]) rfl;exact RdL.flat h
  have hdl:dss.flatten.length=R.n:=by rw [d1];simp
  have hne:∀ b,(Value.slice p xs.length cap).ownBlock=some b→(Value.slice q [x].length c2).ownBlock=some b→False:=by
   obtain ⟨hv,B,f,hs,h1,h2,h3⟩:=H2
   intro b hb hb'
   have a1:=(h1 2 _ rfl).2 b hb
   have a2:=(h1 3 _ rfl).2 b hb'
   have:=h2 2 3 b (by simp) (by simp) a1 a2
   omega
  obtain ⟨_,⟨h,h'⟩ | ⟨g2,cap2,cur2,h,_,hg2,hc2,hm2,hs2,ht2⟩⟩:=o2
  ·simp at h'
  cases h
  obtain ⟨cv,rfl⟩:∃ cv,c2=cv+1:=⟨c2 - 1,by simp at hc2;omega⟩
  have hb2:Blk w g2 cur2.toList e:=by unfold Blk;simpa using hg2
  have hrow2:Row w g2 0 dss.flatten:=by
   have:=hb2.row
   rw [← List.take_append_drop ([x].length * R.n) cur2.toList,ht2] at this
   exact this.left
  have hcb:∀ (cur2:Array Value) (cv:Nat),cur2.size=(cv+1) * R.n→cur2.toList≠[]:=fun cur2 cv hs h0=>by
   have h1:cur2.size=0:=by rw [← Array.length_toList,h0];rfl
   rw [h1] at hs
   exact absurd hs (Nat.ne_of_lt (Nat.mul_pos (Nat.succ_pos cv) hp))
  have key:Calls P f #[.slice p xs.length cap,.int .i64 (k:Int),.slice (some ⟨g2,0,none⟩) 1 (cv+1)] w (InsSt e R.n w0 (HP.rdl R dss [x]::HP.rdl R css xs::HP.own e R.n (.slice p xs.length cap) xs.length css.flatten::HP.own e R.n (.slice (some ⟨g2,0,none⟩) [x].length (cv+1)) [x].length dss.flatten::l) 2 xs.length k css.flatten dss.flatten):=by
   by_cases hk:k=xs.length
   ·subst hk
    exact hEnd H2 2 rfl hn g2 cv _ hrow2 hdl hfd
   ·obtain ⟨_,⟨h,h'⟩ | ⟨g,cap',cur,h,_,hg,hc,hm,hs,ht⟩⟩:=o1
    ·simp only [h',Int.ofNat_zero] at hil;omega
    cases h
    have hbk:Blk w g cur.toList e:=by unfold Blk;simpa using hg
    have hgb:g2≠g:=fun he=>hne g rfl (by rw [he];rfl)
    by_cases hr:xs.length+1≤cap
    ·exact hRoom H2 2 rfl hbk (by simpa using hs) ht hfx hm hn (by omega) hr g2 cv _ cur2.toList hb2 hrow2 hdl hfd (hcb cur2 cv hs2) hgb
    ·obtain rfl:cap=xs.length:=by omega
     have hrow:Row w g 0 css.flatten:=by
      have:=hbk.row
      rw [← List.take_append_drop (xs.length * R.n) cur.toList,ht] at this
      exact this.left
     exact hGrow H2 2 rfl hrow c1 hfx hbk.lt hn (by omega) g2 cv _ hrow2 hdl hfd hb2.lt
  refine key.mono ?_
  rintro en w' ⟨v',rfl,H3⟩
  simp only [List.set_cons_succ,List.set_cons_zero] at H3
  obtain ⟨p',c',rfl,_,_⟩:=H3.ownForm 2 rfl
  have hzl:(xs.take k++[x]++xs.drop k).length=xs.length+1:=by simp;omega
  refine ⟨_,rfl,p',c',by rw [hzl],?_⟩
  obtain ⟨B,H4⟩:=H3.out
  obtain ⟨_,r1⟩:=H4.at (i:=0) (A:=HP.rdl R dss [x]) rfl
  obtain ⟨_,r2⟩:=H4.at (i:=1) (A:=HP.rdl R css xs) rfl
  have r3:RdL R B (css.take k++dss++css.drop k) (xs.take k++[x]++xs.drop k):=(RdL.append (RdL.append (RdL.take k r2) r1) (RdL.drop k r2))
  have hfl:(css.take k++dss++css.drop k).flatten=css.flatten.take (k * R.n)++dss.flatten++css.flatten.drop (k * R.n):=by
   rw [List.flatten_append,List.flatten_append,flat_take k r2,flat_drop k r2]
  have H5:=(H4.set 2 (C:=HP.ow R e p' c' (xs.take k++[x]++xs.drop k)) rfl fun S h=>⟨_,r3,by rw [hfl,hzl];exact h⟩).st
  simp only [List.set_cons_succ,List.set_cons_zero] at H5
  exact H5.pm 4 [2] rfl
 ·cases em
theorem del_st {P:Program} {f:FuncId} {e k:Nat} {α:Type} {R:Rp α} (hk:R.n=k) (hp:0<k)
  (hDel:∀ {w0 w:World} {l:List HP} {g cap q r:Nat} {xs cur:List Value} (_:St w0 w l) (i:Nat) (_:l[i]?=some (HP.own e k (.slice (some ⟨g,0,none⟩) (q+1+r) cap) (q+1+r) xs)) (_:Blk w g cur e) (_:cur.length=cap * k) (_:cur.take ((q+1+r) * k)=xs) (_:Flat xs) (_:cap≤maxLen) (_:q+1+r≤cap),
   Calls P f #[.slice (some ⟨g,0,none⟩) (q+1+r) cap,.int .i64 (q:Int),.int .i64 ((q+1:Nat):Int)] w (DelSt e k w0 l i g cap q r xs))
  {p:Option Addr} {cap:Nat} {xs zs:List α} {i j:Int} (em:cutO xs i j=some zs) {w0 w:World} {l:List HP} (H:St w0 w (HP.ow R e p cap xs::l)) :
  Calls P f [.slice p xs.length cap,.int .i64 i,.int .i64 j].toArray w fun en w'=>∃ v,en=.returned v∧∃ (p':Option Addr) (c':Nat),v=.slice p' zs.length c'∧St w0 w' (HP.ow R e p' c' zs::l):=by
 subst hk
 unfold cutO at em
 split at em
 ·rename_i hc
  obtain ⟨hi0,rfl,hjl⟩:=hc
  cases em
  obtain ⟨q,rfl⟩:=Int.eq_ofNat_of_zero_le hi0
  simp only [Int.toNat_natCast]
  obtain ⟨r,hr⟩:∃ r,xs.length=q+1+r:=⟨xs.length - (q+1),by omega⟩
  obtain ⟨css,c1,H1⟩:=H.owOpen 0 rfl
  simp only [List.set_cons_zero] at H1
  have o1:=H1.owns 1 rfl
  have hfx:Flat css.flatten:=by obtain ⟨B,S,hs,h,_⟩:=H1.get 0 (A:=HP.rdl R css xs) rfl;exact RdL.flat h
  obtain ⟨_,⟨h,h'⟩ | ⟨g,cap',cur,h,_,hg,hc,hm,hs,ht⟩⟩:=o1
  ·omega
  cases h
  have hbk:Blk w g cur.toList e:=by unfold Blk;simpa using hg
  have key:=hDel (q:=q) (r:=r) (cap:=cap) H1 1 (by rw [← hr];rfl) hbk (by simpa using hs) (by rw [← hr];exact ht) hfx hm (by omega)
  rw [← hr] at key
  have hz:(xs.take q++xs.drop (q+1)).length=q+r:=by simp;omega
  refine key.mono ?_
  rintro en w' ⟨rfl,H3⟩
  simp only [List.set_cons_succ,List.set_cons_zero] at H3
  refine ⟨_,rfl,_,cap,by rw [hz],?_⟩
  obtain ⟨B,H4⟩:=H3.out
  obtain ⟨_,r2⟩:=H4.at (i:=0) (A:=HP.rdl R css xs) rfl
  have r3:RdL R B (css.take q++css.drop (q+1)) (xs.take q++xs.drop (q+1)):=RdL.append (RdL.take q r2) (RdL.drop (q+1) r2)
  have hfl:(css.take q++css.drop (q+1)).flatten=css.flatten.take (q * R.n)++css.flatten.drop ((q+1) * R.n):=by
   rw [List.flatten_append,flat_take q r2,flat_drop (q+1) r2]
  have H5:=(H4.set 1 (C:=HP.ow R e (some ⟨g,0,none⟩) cap (xs.take q++xs.drop (q+1))) rfl fun S h=>⟨_,r3,by rw [hfl,hz];exact h⟩).st
  simp only [List.set_cons_succ,List.set_cons_zero] at H5
  exact H5.tail
 ·cases em
end Go.Tri
