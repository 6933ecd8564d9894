/- Texts N, S, K, Cv, Str, Op, Seal, Srt, Ins, Rec. -/
import Derived.Test.YtapllcabobickaaGreatDoorQ3
import Derived.Shelf.SlSortCmp.WholeK
import Derived.ArgAppend
import Derived.Lib.SplitLaws
import Derived.Lib.Join
import Derived.Below
import Derived.Test.YtapllcabobickaaGreatDoorQ0
import Derived.Shelf.SlicesE.DeleteFunc
import Derived.Sort.EncStr
import Derived.Shelf.SlSortCmp.NoneTotal
set_option linter.unusedSimpArgs false
set_option linter.unusedVariables false
namespace Go.Tri
open Go.RowKit
abbrev En (P:Program) (f:FuncId):Prop:=∀ args w,(callFunc f args).run P w=.ok (.enter f args) w
theorem fl {cs:List Value} (h:cs.all Value.oneCell'=true):Flat cs:=fun v hv=>List.all_eq_true.1 h v hv
def pkS:List Nat→List (Nat×Value)→Option (List (Nat×Value))
 | [],_=>some []
 | k::r,l=>match lk k l with
  | some v=>match pkS r l with
   | some r'=>some ((k,v)::r')
   | none=>none
  | none=>none
def opV (n:Nat) (o:Oper):Option Nat:=match o.guard with
 | some _=>none
 | none=>match o.dst with
  | none=>none
  | some d=>match Nat.blt d n with
   | true=>match notDefer o.op with
    | true=>some d
    | false=>none
   | false=>none
theorem opV_ok {n d:Nat} {o:Oper} (h:opV n o=some d):o.guard=none∧o.dst=some d∧Nat.blt d n=true∧notDefer o.op=true:=by
 unfold opV at h
 split at h
 ·cases h
 ·rename_i hg
  split at h
  ·cases h
  ·rename_i d' hd
   split at h
   ·rename_i hb
    split at h
    ·rename_i hn;cases h;exact ⟨hg,hd,hb,hn⟩
    ·cases h
   ·cases h
section
variable {P:Program} {ops:Array Oper} {Q:Exit→Act→World→Prop} {a:Act} {w w0 w':World} {N:Fs} {sl sl' s1:List (Nat×Value)} {ls l1:List HP} {o:Oper} {rest l l':List Oper} {d:Nat} {v:Value}
theorem sv (F:Fr N a sl) (h:opV N.n o=some d) (hr:(execOp a.eval o).run P w=.ok (.value v) w') (hk:∀ a',Fr N a' ((d,v)::sl)→wpList P ops Q rest a' w'):wpList P ops Q (o::rest) a w :=
 s_val wkP F (opV_ok h).1 (opV_ok h).2.1 (opV_ok h).2.2.1 (opV_ok h).2.2.2 hr hk
theorem qv {C:World→Prop} {Q:Act→Prop} (F:Fr N a sl) (h:opV N.n o=some d) (hr:∀ w,C w→(execOp a.eval o).run P w=.ok (.value v) w) (hk:∀ a',Fr N a' ((d,v)::sl)→wpQuiet P ops C Q rest a'):wpQuiet P ops C Q (o::rest) a :=
 q_val F (opV_ok h).1 (opV_ok h).2.1 (opV_ok h).2.2.1 hr hk
theorem bb {ops:List Oper} (hs:List Nat) (F:Fr N a sl) (H:St w0 w ls) (h:qrun P N.n ops ls hs sl l=some (sl',l',[])) (k:∀ a',Fr N a' sl'→wpList P ops.toArray Q l' a' w):wpList P ops.toArray Q l a w:=bk hs F H h trivial k
theorem qb {ops:List Oper} {Q:Act→Prop} (hs:List Nat) (F:Fr N a sl) (h:qrun P N.n ops ls hs sl l=some (sl',l',[])) (k:∀ a',Fr N a' sl'→wpQuiet P ops.toArray (fun u=>St w0 u ls) Q l' a'):wpQuiet P ops.toArray (fun u=>St w0 u ls) Q l a:=qbk hs F h trivial k
theorem mb {ops:List Oper} {C:World→Prop} {K:Act→World→Prop} {s s':Sc} (hs:List Nat) (F:Fr N a sl) (H:St w0 w ls) (h:mrun P N.n ops ls hs sl s=some (sl',s',[])) (k:∀ a',Fr N a' sl'→wpMix P ops.toArray C K s' a' w):wpMix P ops.toArray C K s a w:=mbk hs F H h trivial k
theorem sb {y:Code} {id:Nat} (hs:List Nat) (F:Fr N a sl) (H:St w0 w ls) (h:qrun P N.n l ls hs sl l=some (sl',l',[])) (k:∀ a',Fr N a' sl'→wpList P l.toArray (Exit.then (fun a w=>y.wp P Q a w) Q) l' a' w):(Code.seq (.region id l.toArray false) y).wp P Q a w:=sr (bk hs F H h trivial k)
theorem nb {y:Code} {id:Nat} {ops:Array Oper} {Q':Exit→Act→World→Prop} (hs:List Nat) (F:Fr N a sl) (H:St w0 w ls) (h:qrun P N.n l ls hs sl l=some (sl',l',[])) (k:∀ a',Fr N a' sl'→wpList P l.toArray (Exit.then (fun a w=>y.wp P Q a w) Q) l' a' w):wpList P ops (Exit.then (fun a w=>(Code.seq (.region id l.toArray false) y).wp P Q a w) Q') [] a w:=nl (sr (bk hs F H h trivial k))
theorem sd {f:FuncId} {vs:List Value} {R:Value→World→Prop} (F:Fr N a sl) (h:opC N.n sl o=some (d,f,vs)) (he:En P f)
  (hc:Calls P f vs.toArray w fun e w'=>∃ v,e=.returned v∧R v w') (hk:∀ v w' a',R v w'→Fr N a' ((d,v)::sl)→wpList P ops Q rest a' w'):wpList P ops Q (o::rest) a w:=sc wkP F h he hc hk
theorem cPm {c:Operand} {x y:Code} {p:Prop} {i1 i2:Decidable p} {α:Type} {A B r:α} (F:Fr N a sl) (hc:ev sl c=some (.bool (@decide p i1))) (hm:(@ite α p i2 A B)=r) (ht:p→A=r→x.wp P Q a w) (hf:¬ p→B=r→y.wp P Q a w):(Code.cond c x y).wp P Q a w :=
 @x_condP P Q a w N sl F c x y p i1 hc (fun h=>ht h (@ifT p i2 α A B r h hm)) (fun h=>hf h (@ifF p i2 α A B r h hm))
theorem cNm {c:Operand} {x y:Code} {p:Prop} {i1 i2:Decidable p} {α:Type} {A B r:α} (F:Fr N a sl) (hc:ev sl c=some (.bool (!@decide p i1))) (hm:(@ite α p i2 A B)=r) (hf:¬ p→B=r→x.wp P Q a w) (ht:p→A=r→y.wp P Q a w):(Code.cond c x y).wp P Q a w :=
 @x_condN P Q a w N sl F c x y p i1 hc (fun h=>hf h (@ifF p i2 α A B r h hm)) (fun h=>ht h (@ifT p i2 α A B r h hm))
theorem spP {p:Prop} {i1 i2:Decidable p} {α:Type} {A B r:α} (k:Nat) (F:Fr N a sl) (hk:lk k sl=some (.bool (@decide p i1))) (hm:(@ite α p i2 A B)=r):(p∧A=r∧Fr N a ((k,.bool true)::sl))∨(¬ p∧B=r∧Fr N a ((k,.bool false)::sl)):=by
 by_cases h:p
 ·exact .inl ⟨h,@ifT p i2 α A B r h hm,@Fr.bT N a sl F k p i1 h hk⟩
 ·exact .inr ⟨h,@ifF p i2 α A B r h hm,@Fr.bF N a sl F k p i1 h hk⟩
theorem spN {p:Prop} {i1 i2:Decidable p} {α:Type} {A B r:α} (k:Nat) (F:Fr N a sl) (hk:lk k sl=some (.bool (!@decide p i1))) (hm:(@ite α p i2 A B)=r):(p∧A=r∧Fr N a ((k,.bool false)::sl))∨(¬ p∧B=r∧Fr N a ((k,.bool true)::sl)):=by
 by_cases h:p
 ·exact .inl ⟨h,@ifT p i2 α A B r h hm,@Fr.nT N a sl F k p i1 h hk⟩
 ·exact .inr ⟨h,@ifF p i2 α A B r h hm,@Fr.nF N a sl F k p i1 h hk⟩
theorem xm0 {x:Code} {τ ρ:Type} {ot:Option τ} {f:τ→Option ρ} {r:ρ}  (n:Nat) (is js:List Nat) (F:Fr N a sl) (H:St w0 w ls) (hm:ot.bind f=some r) (h1:pkS is sl=some s1) (h2:pmL n js ls=some l1)
  (S:τ→List (Nat×Value)→List (Nat×Value)) (L:τ→List HP→List HP)
  (hx:∀ t,ot=some t→x.wp P (Exit.then (fun a w=>Fr N a (S t s1)∧St w0 w (L t l1)) Q) a w)
  (hy:∀ t a w,f t=some r→Fr N a (S t s1)→St w0 w (L t l1)→Q .normal a w):x.wp P Q a w:=by
 obtain ⟨t,h3,h4⟩:=ob hm
 refine x_mid _ (hx t h3) ?_
 rintro a w ⟨F,H⟩
 exact hy t a w h4  F H
theorem xr0 {x:Code} {τ υ ρ:Type} {ot:Option (τ ⊕ υ)} {f:τ→Option ρ} {g:υ→Option ρ} {r:ρ}  (n:Nat) (is js:List Nat) (F:Fr N a sl) (H:St w0 w ls) (hm:(ot.bind fun z=>Sum.elim f g z)=some r) (h1:pkS is sl=some s1) (h2:pmL n js ls=some l1)
  (S:τ→List (Nat×Value)→List (Nat×Value)) (L:τ→List HP→List HP)
  (hx:∀ z,ot=some z→Sum.elim f g z=some r→x.wp P (Exit.then (fun a w=>∃ t,z=.inl t∧Fr N a (S t s1)∧St w0 w (L t l1)) Q) a w)
  (hy:∀ t a w,f t=some r→Fr N a (S t s1)→St w0 w (L t l1)→Q .normal a w):x.wp P Q a w:=by
 obtain ⟨z,h3,h4⟩:=ob hm
 refine x_mid _ (hx z h3 h4) ?_
 rintro a w ⟨t,e,F,H⟩
 cases e
 exact hy t a w h4  F H
theorem xl0 {c:Code} {σ ρ:Type} {f:σ→Option (σ ⊕ ρ)} {g0:σ} {r:ρ}  (n:Nat) (is js:List Nat) (F:Fr N a sl) (H:St w0 w ls) (hm:loopO f g0=some r) (h1:pkS is sl=some s1) (h2:pmL n js ls=some l1)
  (S:σ→List (Nat×Value)→List (Nat×Value)) (L:σ→List HP→List HP)
  (h0:Fr N a (S g0 s1)∧St w0 w (L g0 l1))
  (hk:∀ s a w o,Fr N a (S s s1)→St w0 w (L s l1)→f s=some o→c.wp P (Exit.then (fun a' w'=>∃ s',o=.inl s'∧Fr N a' (S s' s1)∧St w0 w' (L s' l1)) (fun e a' w'=>∃ r',o=.inr r'∧(r'=r→Q e a' w'))) a w):(Code.loop c).wp P Q a w:=by
 refine x_loopO f (fun s a w=>Fr N a (S s s1)∧St w0 w (L s l1)) hm h0 ?_
 rintro s a w o ⟨F,H⟩ h
 exact hk s a w o  F H h
theorem xm1 {x:Code} {τ ρ:Type} {ot:Option τ} {f:τ→Option ρ} {r:ρ} {T0:Type} (n:Nat) (is js:List Nat) (F:Fr N a sl) (H:St w0 w ls) (hm:ot.bind f=some r) (h1:pkS is sl=some s1) (h2:pmL n js ls=some l1)
  (S:τ→T0→List (Nat×Value)→List (Nat×Value)) (L:τ→T0→List HP→List HP)
  (hx:∀ t,ot=some t→x.wp P (Exit.then (fun a w=>∃ x0,Fr N a (S t x0 s1)∧St w0 w (L t x0 l1)) Q) a w)
  (hy:∀ t a w,f t=some r→∀ x0,Fr N a (S t x0 s1)→St w0 w (L t x0 l1)→Q .normal a w):x.wp P Q a w:=by
 obtain ⟨t,h3,h4⟩:=ob hm
 refine x_mid _ (hx t h3) ?_
 rintro a w ⟨x0,F,H⟩
 exact hy t a w h4 x0 F H
theorem xm2 {x:Code} {τ ρ:Type} {ot:Option τ} {f:τ→Option ρ} {r:ρ} {T0:Type} {T1:Type} (n:Nat) (is js:List Nat) (F:Fr N a sl) (H:St w0 w ls) (hm:ot.bind f=some r) (h1:pkS is sl=some s1) (h2:pmL n js ls=some l1)
  (S:τ→T0→T1→List (Nat×Value)→List (Nat×Value)) (L:τ→T0→T1→List HP→List HP)
  (hx:∀ t,ot=some t→x.wp P (Exit.then (fun a w=>∃ x0,∃ x1,Fr N a (S t x0 x1 s1)∧St w0 w (L t x0 x1 l1)) Q) a w)
  (hy:∀ t a w,f t=some r→∀ x0 x1,Fr N a (S t x0 x1 s1)→St w0 w (L t x0 x1 l1)→Q .normal a w):x.wp P Q a w:=by
 obtain ⟨t,h3,h4⟩:=ob hm
 refine x_mid _ (hx t h3) ?_
 rintro a w ⟨x0,x1,F,H⟩
 exact hy t a w h4 x0 x1 F H
theorem xr2 {x:Code} {τ υ ρ:Type} {ot:Option (τ ⊕ υ)} {f:τ→Option ρ} {g:υ→Option ρ} {r:ρ} {T0:Type} {T1:Type} (n:Nat) (is js:List Nat) (F:Fr N a sl) (H:St w0 w ls) (hm:(ot.bind fun z=>Sum.elim f g z)=some r) (h1:pkS is sl=some s1) (h2:pmL n js ls=some l1)
  (S:τ→T0→T1→List (Nat×Value)→List (Nat×Value)) (L:τ→T0→T1→List HP→List HP)
  (hx:∀ z,ot=some z→Sum.elim f g z=some r→x.wp P (Exit.then (fun a w=>∃ t,z=.inl t∧∃ x0,∃ x1,Fr N a (S t x0 x1 s1)∧St w0 w (L t x0 x1 l1)) Q) a w)
  (hy:∀ t a w,f t=some r→∀ x0 x1,Fr N a (S t x0 x1 s1)→St w0 w (L t x0 x1 l1)→Q .normal a w):x.wp P Q a w:=by
 obtain ⟨z,h3,h4⟩:=ob hm
 refine x_mid _ (hx z h3 h4) ?_
 rintro a w ⟨t,e,x0,x1,F,H⟩
 cases e
 exact hy t a w h4 x0 x1 F H
theorem xl2 {c:Code} {σ ρ:Type} {f:σ→Option (σ ⊕ ρ)} {g0:σ} {r:ρ} {T0:Type} {T1:Type} (n:Nat) (is js:List Nat) (F:Fr N a sl) (H:St w0 w ls) (hm:loopO f g0=some r) (h1:pkS is sl=some s1) (h2:pmL n js ls=some l1)
  (S:σ→T0→T1→List (Nat×Value)→List (Nat×Value)) (L:σ→T0→T1→List HP→List HP)
  (h0:∃ x0,∃ x1,Fr N a (S g0 x0 x1 s1)∧St w0 w (L g0 x0 x1 l1))
  (hk:∀ s a w o,∀ x0 x1,Fr N a (S s x0 x1 s1)→St w0 w (L s x0 x1 l1)→f s=some o→c.wp P (Exit.then (fun a' w'=>∃ s',o=.inl s'∧∃ x0,∃ x1,Fr N a' (S s' x0 x1 s1)∧St w0 w' (L s' x0 x1 l1)) (fun e a' w'=>∃ r',o=.inr r'∧(r'=r→Q e a' w'))) a w):(Code.loop c).wp P Q a w:=by
 refine x_loopO f (fun s a w=>∃ x0,∃ x1,Fr N a (S s x0 x1 s1)∧St w0 w (L s x0 x1 l1)) hm h0 ?_
 rintro s a w o ⟨x0,x1,F,H⟩ h
 exact hk s a w o x0 x1 F H h
theorem xm3 {x:Code} {τ ρ:Type} {ot:Option τ} {f:τ→Option ρ} {r:ρ} {T0:Type} {T1:Type} {T2:Type} (n:Nat) (is js:List Nat) (F:Fr N a sl) (H:St w0 w ls) (hm:ot.bind f=some r) (h1:pkS is sl=some s1) (h2:pmL n js ls=some l1)
  (S:τ→T0→T1→T2→List (Nat×Value)→List (Nat×Value)) (L:τ→T0→T1→T2→List HP→List HP)
  (hx:∀ t,ot=some t→x.wp P (Exit.then (fun a w=>∃ x0,∃ x1,∃ x2,Fr N a (S t x0 x1 x2 s1)∧St w0 w (L t x0 x1 x2 l1)) Q) a w)
  (hy:∀ t a w,f t=some r→∀ x0 x1 x2,Fr N a (S t x0 x1 x2 s1)→St w0 w (L t x0 x1 x2 l1)→Q .normal a w):x.wp P Q a w:=by
 obtain ⟨t,h3,h4⟩:=ob hm
 refine x_mid _ (hx t h3) ?_
 rintro a w ⟨x0,x1,x2,F,H⟩
 exact hy t a w h4 x0 x1 x2 F H
theorem xl4 {c:Code} {σ ρ:Type} {f:σ→Option (σ ⊕ ρ)} {g0:σ} {r:ρ} {T0:Type} {T1:Type} {T2:Type} {T3:Type} (n:Nat) (is js:List Nat) (F:Fr N a sl) (H:St w0 w ls) (hm:loopO f g0=some r) (h1:pkS is sl=some s1) (h2:pmL n js ls=some l1)
  (S:σ→T0→T1→T2→T3→List (Nat×Value)→List (Nat×Value)) (L:σ→T0→T1→T2→T3→List HP→List HP)
  (h0:∃ x0,∃ x1,∃ x2,∃ x3,Fr N a (S g0 x0 x1 x2 x3 s1)∧St w0 w (L g0 x0 x1 x2 x3 l1))
  (hk:∀ s a w o,∀ x0 x1 x2 x3,Fr N a (S s x0 x1 x2 x3 s1)→St w0 w (L s x0 x1 x2 x3 l1)→f s=some o→c.wp P (Exit.then (fun a' w'=>∃ s',o=.inl s'∧∃ x0,∃ x1,∃ x2,∃ x3,Fr N a' (S s' x0 x1 x2 x3 s1)∧St w0 w' (L s' x0 x1 x2 x3 l1)) (fun e a' w'=>∃ r',o=.inr r'∧(r'=r→Q e a' w'))) a w):(Code.loop c).wp P Q a w:=by
 refine x_loopO f (fun s a w=>∃ x0,∃ x1,∃ x2,∃ x3,Fr N a (S s x0 x1 x2 x3 s1)∧St w0 w (L s x0 x1 x2 x3 l1)) hm h0 ?_
 rintro s a w o ⟨x0,x1,x2,x3,F,H⟩ h
 exact hk s a w o x0 x1 x2 x3 F H h
theorem xm5 {x:Code} {τ ρ:Type} {ot:Option τ} {f:τ→Option ρ} {r:ρ} {T0:Type} {T1:Type} {T2:Type} {T3:Type} {T4:Type} (n:Nat) (is js:List Nat) (F:Fr N a sl) (H:St w0 w ls) (hm:ot.bind f=some r) (h1:pkS is sl=some s1) (h2:pmL n js ls=some l1)
  (S:τ→T0→T1→T2→T3→T4→List (Nat×Value)→List (Nat×Value)) (L:τ→T0→T1→T2→T3→T4→List HP→List HP)
  (hx:∀ t,ot=some t→x.wp P (Exit.then (fun a w=>∃ x0,∃ x1,∃ x2,∃ x3,∃ x4,Fr N a (S t x0 x1 x2 x3 x4 s1)∧St w0 w (L t x0 x1 x2 x3 x4 l1)) Q) a w)
  (hy:∀ t a w,f t=some r→∀ x0 x1 x2 x3 x4,Fr N a (S t x0 x1 x2 x3 x4 s1)→St w0 w (L t x0 x1 x2 x3 x4 l1)→Q .normal a w):x.wp P Q a w:=by
 obtain ⟨t,h3,h4⟩:=ob hm
 refine x_mid _ (hx t h3) ?_
 rintro a w ⟨x0,x1,x2,x3,x4,F,H⟩
 exact hy t a w h4 x0 x1 x2 x3 x4 F H
end
section
variable {α:Type} {R:Rp α} {p:Option Addr} {cap:Nat} {xs:List α} {x:α} {w0 w:World} {l:List HP}
theorem St.slF (H:St w0 w l) (i:Nat) (hi:l[i]?=some (HP.sl R p cap xs)) {b off:Nat} (hp:p=some ⟨b,off,none⟩) {q:Int} (hx:idxO xs q=some x):∃ cs,St w0 w (HP.row b (off+q.toNat * R.n) cs::HP.rc R cs x::l):=by
 obtain ⟨cs,_,h⟩:=H.slEl i hi hp (idxO_some hx).2
 exact ⟨cs,h⟩
theorem St.slE (H:St w0 w l) (i:Nat) (hi:l[i]?=some (HP.sl R p cap xs)) {q:Int} (hx:idxO xs q=some x):∃ b off,p=some ⟨b,off,none⟩∧∃ cs,St w0 w (HP.row b (off+q.toNat * R.n) cs::HP.rc R cs x::l):=by
 obtain ⟨b,off,hp⟩:=H.slP i hi (idxO_some hx).2
 exact ⟨b,off,hp,H.slF i hi hp hx⟩
end
def scL:List Nat→Sc
 | []=>.done
 | n::r=>.step (n / 1000) (n % 1000) (scL r)
def pkH:List Nat→List HP→Option (List HP)
 | [],_=>some []
 | i::r,l=>match atL i l with
  | some A=>match pkH r l with
   | some L=>some (A::L)
   | none=>none
  | none=>none
theorem pkH_at {l:List HP}:∀ {is:List Nat} {L:List HP},pkH is l=some L→is.map (fun i=>l[i]?)=L.map some
 | [],L,h=>by cases h;rfl
 | i::r,L,h=>by
  simp only [pkH] at h
  split at h
  ·rename_i A hA
   rw [atL_eq] at hA
   split at h
   ·rename_i L' hL
    cases h
    rw [List.map_cons,List.map_cons,hA,pkH_at hL]
   ·cases h
  ·cases h
def nodN:List Nat→Bool
 | []=>true
 | i::r=>match memN i r with
  | true=>false
  | false=>nodN r
theorem nodN_ok:∀ {is:List Nat},nodN is=true→is.Nodup
 | [],_=>List.nodup_nil
 | i::r,h=>by
  simp only [nodN] at h
  split at h
  ·cases h
  ·rename_i hm
   exact List.nodup_cons.2 ⟨(fun hi=>by rw [(memN_eq i r).2 hi] at hm;cases hm),nodN_ok h⟩
section
variable {P:Program} {id:Nat} {ro:Option Nat} {Q:Exit→Act→World→Prop} {a:Act} {w0 w:World} {l:List Oper} {ls L:List HP}
theorem mix_regionK (hs hz:List Nat) (s:Sc) (is:List Nat) (H:St w0 w ls) (hp:pkH is ls=some L) (hn:nodN is=true) (hm:P.follows .mixedOrders=true)
  (hB:(Region.noSelect l.toArray&&schedB .any l.toArray (fun i=>hs.contains i) (fun i=>hz.contains i) s (Array.replicate l.toArray.size false)&&(s.len==l.toArray.size))=true)
  (h:∀ w,St w0 w ls→wpMix P l.toArray (fun u=>∃ r,St w0 u (L++r)) (Q .normal) s a w):(Code.region id l.toArray true).wp P Q a w :=
 mix_region hs hz s _ hm hB ⟨[],by rw [List.append_nil];exact H.drew.pick is (nodN_ok hn) (pkH_at hp)⟩ (h _ H.drew)
end
section
variable {w0 w:World} {l:List HP} {p:Option Addr} {cap:Nat} {e:TypeId}
end
theorem set_self {α:Type}:∀ {l:List α} {i:Nat} {A:α},l[i]?=some A→l.set i A=l
 | [],_,_,_=>rfl
 | _::_,0,_,h=>by cases h;rfl
 | _::l,i+1,A,h=>by
  have:l[i]?=some A:=by simpa using h
  simp [set_self this]
def HP.mo (p:Option Nat) (raw:Array MapEntry) (c:Nat):HP :=
 HP.of (fun _ w S=>match p with
  | none=>raw=#[]
  | some b=>w.heap[b]?=some (.map raw c)∧S b)
  (fun {B w w' S} h hS=>by
   cases p with
   | none=>exact h
   | some b=>exact ⟨by rw [hS _ h.2];exact h.1,h.2⟩)
  (fun h _=>h)
def mit (p:Option Nat) (c:Nat) (seen:Array Nat):Obj:=match p with
 | none=>.mapIter none 0 #[] 0
 | some b=>.mapIter (some b) c seen c
section
variable {κ β:Type} [DecidableEq κ]
def HP.es (R:Rp β) (ok:κ→Prop) (es:List (κ×(List Value×β))) (m:κ→Option β):HP:=HP.pe (fun B=>EsOk R ok B es m) (fun h hl=>h.mono hl)
structure MRaw (ek:κ→Value) (agg:Bool) (es:List (κ×(List Value×β))) (raw:Array MapEntry) (c:Nat):Prop where
 ent:raw.toList.map (fun e=>(e.key,e.val))=ment ek agg es
 nd:(raw.toList.map (·.born)).Nodup
 lt:∀ e∈raw.toList,e.born<c
def prs (es:List (κ×(List Value×β))):List (κ×β):=es.map fun p=>(p.1,p.2.2)
def pv (es:List (κ×(List Value×β))) (vis:List Nat):List (κ×β):=vis.filterMap fun i=>(prs es)[i]?
def bornsOf (raw:Array MapEntry) (vis:List Nat):Array Nat:=(vis.map fun i=>(raw[i]?.map (·.born)).getD 0).toArray
def VisOk (n:Nat) (vis:List Nat):Prop:=vis.Nodup∧∀ i∈vis,i<n
theorem VisOk.nil (n:Nat):VisOk n []:=⟨by simp,by simp⟩
theorem VisOk.snoc {n:Nat} {vis:List Nat} (h:VisOk n vis) {q:Nat} (hq:q<n) (hn:q ∉ vis):VisOk n (vis++[q]):=by
 refine ⟨?_,fun i hi=>?_⟩
 ·rw [List.nodup_append];exact ⟨h.1,by simp,fun x hx y hy=>by simp at hy;subst hy;exact fun e=>hn (e▸hx)⟩
 ·rcases List.mem_append.1 hi with hi | hi
  ·exact h.2 i hi
  ·simp at hi;omega
omit [DecidableEq κ] in
theorem MRaw.len {ek:κ→Value} {agg:Bool} {es:List (κ×(List Value×β))} {raw:Array MapEntry} {c:Nat} (h:MRaw ek agg es raw c):raw.size=es.length:=by
 have:=congrArg List.length h.ent;simpa [ment,mkv] using this
omit [DecidableEq κ] in
theorem MRaw.at {ek:κ→Value} {agg:Bool} {es:List (κ×(List Value×β))} {raw:Array MapEntry} {c:Nat} (h:MRaw ek agg es raw c) {q:Nat} {k:κ} {cs:List Value} {v:β} (hq:es[q]?=some (k,cs,v)):∃ e,raw[q]?=some e∧e.key=ek k∧e.val=mkV agg cs:=by
 have hl:=h.len
 have hlt:=(List.getElem?_eq_some_iff.1 hq).1
 obtain ⟨e,he⟩:∃ e,raw[q]?=some e:=⟨raw[q]'(by omega),Array.getElem?_eq_getElem (by omega)⟩
 have h1:=congrArg (fun l=>l[q]?) h.ent
 have he':raw.toList[q]?=some e:=by simpa using he
 simp only [List.getElem?_map,he',ment,mkv,hq,Option.map_some,Option.some.injEq,Prod.mk.injEq] at h1
 exact ⟨e,he,h1.1,h1.2⟩
theorem bornsOf_push (raw:Array MapEntry) (vis:List Nat) {q:Nat} {e:MapEntry} (he:raw[q]?=some e):(bornsOf raw vis).push e.born=bornsOf raw (vis++[q]):=by
 simp [bornsOf,he]
omit [DecidableEq κ] in
theorem bornsOf_has {ek:κ→Value} {agg:Bool} {es:List (κ×(List Value×β))} {raw:Array MapEntry} {c:Nat} (h:MRaw ek agg es raw c) {vis:List Nat} (hv:VisOk es.length vis) {q:Nat} {e:MapEntry} (he:raw[q]?=some e):(bornsOf raw vis).contains e.born=true↔q∈vis:=by
 have hl:=h.len
 simp only [bornsOf,List.contains_toArray,List.contains_eq_mem,decide_eq_true_eq,List.mem_map]
 constructor
 ·rintro ⟨i,hi,hb⟩
  have hil:=hv.2 i hi
  have e2:raw[i]?=some (raw[i]'(by omega)):=Array.getElem?_eq_getElem (by omega)
  rw [e2] at hb
  simp only [Option.map_some,Option.getD_some] at hb
  have hq:=(Array.getElem?_eq_some_iff.1 he)
  obtain ⟨hql,hqe⟩:=hq
  have:i=q:=by
   rcases Nat.lt_trichotomy i q with hlt | hlt | hlt
   ·exfalso
    have:=List.pairwise_iff_getElem.1 h.nd i q (by simp;omega) (by simp;omega) hlt
    apply this;simp [hb,← hqe]
   ·exact hlt
   ·exfalso
    have:=List.pairwise_iff_getElem.1 h.nd q i (by simp;omega) (by simp;omega) hlt
    apply this;simp [hb,← hqe]
  exact this▸hi
 ·intro hq;exact ⟨q,hq,by rw [he];rfl⟩
end
section
variable {κ β:Type} [DecidableEq κ] {R:Rp β} {ek:κ→Value} {agg:Bool} {ok:κ→Prop} {P:Program} {w0 w:World} {ls:List HP} {m:κ→Option β} {p:Option Nat} {es:List (κ×(List Value×β))} {raw:Array MapEntry} {c:Nat} {ops:Array Oper} {rest:List Oper} {o:Oper} {a:Act} {W:List Oper→Act→World→Prop} {N:Fs} {sl:List (Nat×Value)} {d:Nat} {x:Operand} {T K E:TypeId} {vis:List Nat}
theorem St.moOpen (H:St w0 w ls) (i:Nat) (hi:ls[i]?=some (HP.mm p ek agg R ok m)):∃ raw c es,MRaw ek agg es raw c∧Enum m (prs es)∧St w0 w (HP.es R ok es m::ls.set i (HP.mo p raw c)):=by
 obtain ⟨es,H⟩:=H.mmOpen i hi
 have hil:i<ls.length:=(List.getElem?_eq_some_iff.1 hi).1
 have hi':(ls.set i (HP.mx p ek agg R ok es m))[i]?=some (HP.mx p ek agg R ok es m):=by simp [hil]
 have key:∃ raw c,MRaw ek agg es raw c∧St w0 w ((ls.set i (HP.mx p ek agg R ok es m)).set i (HP.mo p raw c)):=by
  cases p with
  | none =>
   obtain ⟨B,_,h1,h2⟩:=H.mxOk i hi'
   simp only at h2
   subst h2
   exact ⟨#[],0,⟨rfl,by simp,by simp⟩,H.convAt i hi' fun S _=>rfl⟩
  | some b =>
   obtain ⟨B,_,h1,raw,c,h3,h4,h5,h6⟩:=H.mxOk i hi'
   refine ⟨raw,c,⟨h4,h5,h6⟩,H.convAt i hi' fun S h=>⟨h3,h.2.2⟩⟩
 obtain ⟨raw,c,hM,H2⟩:=key
 obtain ⟨B,S,hs,h1,_⟩:=H.get i hi'
 refine ⟨raw,c,es,hM,h1.1.enum,?_⟩
 rw [List.set_set] at H2
 have H3:St w0 w (HP.es R ok es m::ls.set i (HP.mx p ek agg R ok es m)):=H.more fun B hB hp=>by
  obtain ⟨S,hS⟩:=hp i _ hi'
  exact hS.1
 have:=H3.upd (w':=w) (i+1) (A:=HP.mx p ek agg R ok es m) (A':=HP.mo p raw c) (by simpa using hi') (fun {B} S hA hb=>⟨S,by
  cases p with
  | none =>
   obtain ⟨h1,h2⟩:=hA
   simp only at h2
   subst h2
   have:=hM.len
   exact Array.eq_empty_of_size_eq_zero (by simpa using this)
  | some b =>
   obtain ⟨h1,h2,h3⟩:=hA
   refine ⟨?_,h3⟩
   have:=H2.get i (A:=HP.mo (some b) raw c) (by simp [hil])
   obtain ⟨_,_,_,h7,_⟩:=this
   exact h7.1,fun b h=>.inl h,fun b h=>(hb b h).1,fun _ _ _=>rfl⟩) rfl rfl rfl (Nat.le_refl _)
 simpa using this
theorem St.moMx (H:St w0 w ls) (i j:Nat) (hM:MRaw ek agg es raw c) (hi:ls[i]?=some (HP.mo p raw c)) (hj:ls[j]?=some (HP.es R ok es m)):St w0 w (ls.set i (HP.mx p ek agg R ok es m)):=by
 obtain ⟨hv,B,f,hs,h1,h2,h3⟩:=H
 have hil:i<ls.length:=(List.getElem?_eq_some_iff.1 hi).1
 refine ⟨hv,B,f,hs,fun q A hA=>?_,by simpa using h2,by simpa using h3⟩
 rw [List.getElem?_set] at hA
 split at hA
 ·rename_i e
  subst e
  cases hA
  refine ⟨h1 j _ hj,?_⟩
  have:=h1 i _ hi
  cases p with
  | none =>
   simp only at this ⊢
   have hl:=hM.len
   have h0:raw=#[]:=this
   rw [h0] at hl
   exact List.eq_nil_of_length_eq_zero (by simpa using hl.symm)
  | some b=>exact ⟨⟨raw,c,this.1,hM.ent,hM.nd,hM.lt⟩,this.2⟩
 ·exact h1 q A hA
theorem St.moMm (H:St w0 w ls) (i j:Nat) (hM:MRaw ek agg es raw c) (hi:ls[i]?=some (HP.mo p raw c)) (hj:ls[j]?=some (HP.es R ok es m)):St w0 w (ls.set i (HP.mm p ek agg R ok m)):=by
 have hil:i<ls.length:=(List.getElem?_eq_some_iff.1 hi).1
 have h1:=H.moMx i j hM hi hj
 have h2:(ls.set i (HP.mx p ek agg R ok es m))[i]?=some (HP.mx p ek agg R ok es m):=by simp [hil]
 have:=h1.mxShut i h2
 rwa [List.set_set] at this
theorem St.esEl (H:St w0 w ls) (i:Nat) (hi:ls[i]?=some (HP.es R ok es m)) {q:Nat} {k:κ} {cs:List Value} {v:β} (hq:es[q]?=some (k,cs,v)):ok k∧St w0 w (HP.rc R cs v::ls):=by
 obtain ⟨B,S,hs,h,_⟩:=H.get i hi
 have hm:=List.mem_of_getElem? hq
 refine ⟨h.ok _ hm,H.more fun B hB hp=>?_⟩
 obtain ⟨S,hS⟩:=hp i _ hi
 exact hS.rd _ hm
theorem St.esLook (H:St w0 w ls) (i:Nat) (hi:ls[i]?=some (HP.es R ok es m)) (k:κ) {zc:List Value} {z0:β} (hz:∀ B,R.rd B zc z0):∃ cs,esGet es k zc=cs∧St w0 w (HP.rc R cs ((m k).getD z0)::ls):=by
 refine ⟨_,rfl,H.more fun B hB hp=>?_⟩
 obtain ⟨S,hS⟩:=hp i _ hi
 have hg:=hS.get k
 show R.rd B (esGet es k zc) ((m k).getD z0)
 unfold esGet
 cases hx:aget k es with
 | none=>rw [hx] at hg;rw [hg];exact hz B
 | some p=>rw [hx] at hg;rw [hg];exact hS.rd (k,p) (aget_mem' hx)
theorem s_rngM (kw:Walk P ops W) (F:Fr N a sl) (hg:o.guard=none) (hd:o.dst=some d) (hN:Nat.blt d N.n=true) (hT:P.underlying T=some (.map K E)) (ho:o.op=.range T x) (H:St w0 w ls) (i:Nat) (hi:ls[i]?=some (HP.mo p raw c)) (hx:ev sl x=some (.map p))
  (hk:∀ r w' a',St w0 w' (HP.obj r (mit p c (bornsOf raw []))::ls)→Fr N a' ((d,.pointer (some ⟨r,0,none⟩))::sl)→W rest a' w'):W (o::rest) a w:=by
 cases p with
 | none =>
  refine s_val kw F hg hd hN (by rw [ho];rfl) (v:=.pointer (some ⟨w.heap.size,0,none⟩)) (w':=w.alloc (.mapIter none 0 #[] 0)) ?_ fun a' F'=>hk _ _ a' (H.newObj _) F'
  unfold execOp
  simp [ho,F.eval hx,Instr.range,Go.run_underlying hT,newObj,Sem.run]
 | some b =>
  refine s_val kw F hg hd hN (by rw [ho];rfl) (v:=.pointer (some ⟨w.heap.size,0,none⟩)) (w':=w.alloc (.mapIter (some b) c #[] c)) ?_ fun a' F'=>hk _ _ a' (H.newObj _) F'
  have hh:w.heap[b]?=some (.map raw c):=by obtain ⟨_,_,_,h,_⟩:=H.get i hi;exact h.1
  unfold execOp
  have hg:=run_getObj (P:=P) w b raw c hh
  simp [ho,F.eval hx,Instr.range,Go.run_underlying hT,hg,newObj,Sem.run]
theorem St.moObj {b:Nat} (H:St w0 w ls) (i:Nat) (hi:ls[i]?=some (HP.mo (some b) raw c)):St w0 w (ls.set i (HP.obj b (.map raw c))):=H.convAt i hi fun S h=>h
theorem St.objMo {b:Nat} (H:St w0 w ls) (i:Nat) (hi:ls[i]?=some (HP.obj b (.map raw c))):St w0 w (ls.set i (HP.mo (some b) raw c)):=H.convAt i hi fun S h=>h
omit [DecidableEq κ] in
theorem s_nxtM (kw:Walk P ops W) (F:Fr N a sl) (hg:o.guard=none) (hd:o.dst=some d) (hN:Nat.blt d N.n=true) (ho:o.op=.next x false) {r:Nat} (hx:ev sl x=some (.pointer (some ⟨r,0,none⟩))) (hM:MRaw ek agg es raw c) (hv:VisOk es.length vis) (H:St w0 w ls) (i j:Nat) (hi:ls[i]?=some (HP.mo p raw c)) (hj:ls[j]?=some (HP.obj r (mit p c (bornsOf raw vis)))) (hij:Nat.beq i j=false)
  (h0:(∀ q,q<es.length→q∈vis)→∀ w' a',St w0 w' ls→Fr N a' ((d,.tuple [.bool false].toArray)::sl)→W rest a' w')
  (h1:∀ q k cs v,es[q]?=some (k,cs,v)→q ∉ vis→∀ w' a',St w0 w' (ls.set j (HP.obj r (mit p c (bornsOf raw (vis++[q])))))→Fr N a' ((d,.tuple [.bool true,ek k,mkV agg cs].toArray)::sl)→W rest a' w'):W (o::rest) a w:=by
 have hl:=hM.len
 have hne:i≠j:=Nat.ne_of_beq_eq_false hij
 have hil:i<ls.length:=(List.getElem?_eq_some_iff.1 hi).1
 cases p with
 | none =>
  have h00:raw=#[]:=by obtain ⟨_,_,_,h,_⟩:=H.get i hi;exact h
  have hz:es.length=0:=by rw [← hl,h00];rfl
  refine s_val kw F hg hd hN (by rw [ho];rfl) (v:=.tuple [.bool false].toArray) (w':=w) ?_ fun a' F'=>h0 (fun q hq=>by omega) _ a' H F'
  have hr:=H.objAt j hj
  have g1:(getObj r).run P w=.ok (.mapIter none 0 #[] 0) w:=by unfold getObj Sem.run;rw [hr];rfl
  unfold execOp
  simp only [ho,F.eval hx]
  unfold Instr.next
  simp only
  rw [Sem.run_bind,Sem.run_bind,g1]
  rfl
 | some b =>
  have H2:=H.moObj i hi
  have hi2:(ls.set i (HP.obj b (.map raw c)))[i]?=some (HP.obj b (.map raw c)):=by simp [hil]
  have hj2:(ls.set i (HP.obj b (.map raw c)))[j]?=some (HP.obj r (.mapIter (some b) c (bornsOf raw vis) c)):=by rw [List.getElem?_set_ne hne];exact hj
  refine s_next kw F hg hd hN ho hx H2 i j hi2 hj2 hM.lt (fun hall w' a' H' F'=>?_) (fun e he hnot w' a' H' F'=>?_)
  ·have H3:=H'.objMo i hi2
   have e3:(ls.set i (HP.obj b (.map raw c))).set i (HP.mo (some b) raw c)=ls:=by
    rw [List.set_set];exact set_self hi
   rw [e3] at H3
   refine h0 (fun q hq=>?_) w' a' H3 F'
   have e2:raw[q]?=some (raw[q]'(by omega)):=Array.getElem?_eq_getElem (by omega)
   exact (bornsOf_has hM hv e2).1 (hall _ (by simp))
  ·obtain ⟨q,hq,rfl⟩:=List.getElem_of_mem he
   have hql:q<es.length:=by rw [← hl];simpa using hq
   obtain ⟨k,cs,v,hes⟩:∃ k cs v,es[q]?=some (k,cs,v):=⟨_,_,_,List.getElem?_eq_getElem hql⟩
   obtain ⟨e',he',hk',hv'⟩:=hM.at hes
   have hee:raw.toList[q]=e':=by
    have:raw[q]?=some raw.toList[q]:=by simp [Array.getElem?_eq_getElem (show q<raw.size by omega)]
    rw [this] at he';exact Option.some.inj he'
   rw [hee] at hnot H' F'
   have hnv:q ∉ vis:=fun hin=>by rw [(bornsOf_has hM hv he').2 hin] at hnot;cases hnot
   rw [hk',hv'] at F'
   rw [bornsOf_push raw vis he'] at H'
   have H3:=H'.objMo i (by rw [List.getElem?_set_ne (Ne.symm hne)];exact hi2)
   have e3:((ls.set i (HP.obj b (.map raw c))).set j (HP.obj r (.mapIter (some b) c (bornsOf raw (vis++[q])) c))).set i (HP.mo (some b) raw c)=ls.set j (HP.obj r (mit (some b) c (bornsOf raw (vis++[q])))):=by
    have e4:=List.set_comm (l:=ls) (HP.obj b (.map raw c)) (HP.obj r (.mapIter (some b) c (bornsOf raw (vis++[q])) c)) hne
    rw [e4,List.set_set]
    exact set_self (by rw [List.getElem?_set_ne (Ne.symm hne)];exact hi)
   rw [e3] at H3
   exact h1 q k cs v hes hnv w' a' H3 F'
omit [DecidableEq κ] in
theorem y_entM (F:Fr N a sl) (ho:o.op=.entry x) {r:Nat} (hx:ev sl x=some (.pointer (some ⟨r,0,none⟩))) (hM:MRaw ek agg es raw c) {q:Nat} {k:κ} {cs:List Value} {v:β} (hq:es[q]?=some (k,cs,v)) (H:St w0 w ls) (i j:Nat) (hi:ls[i]?=some (HP.mo p raw c)) (hj:ls[j]?=some (HP.obj r (mit p c (bornsOf raw (vis++[q]))))) (hij:Nat.beq i j=false) :
  (execOp a.eval o).run P w=.ok (.value (.tuple [ek k,mkV agg cs].toArray)) w:=by
 have hne:i≠j:=Nat.ne_of_beq_eq_false hij
 have hil:i<ls.length:=(List.getElem?_eq_some_iff.1 hi).1
 obtain ⟨e,he,hk',hv'⟩:=hM.at hq
 have hem:e∈raw.toList:=by simpa using Array.mem_of_getElem? he
 cases p with
 | none =>
  have h00:raw=#[]:=by obtain ⟨_,_,_,h,_⟩:=H.get i hi;exact h
  rw [h00] at hem;simp at hem
 | some b =>
  have H2:=H.moObj i hi
  have hi2:(ls.set i (HP.obj b (.map raw c)))[i]?=some (HP.obj b (.map raw c)):=by simp [hil]
  have hj2:(ls.set i (HP.obj b (.map raw c)))[j]?=some (HP.obj r (.mapIter (some b) c ((bornsOf raw vis).push e.born) c)):=by rw [List.getElem?_set_ne hne,bornsOf_push raw vis he];exact hj
  have:=y_entry (P:=P) F ho hx H2 i j hi2 hj2 hem hM.nd
  rwa [hk',hv'] at this
end
section
variable {κ β σ ρ τ:Type} [DecidableEq κ] {m:κ→Option β} {es:List (κ×(List Value×β))} {f:σ→κ×β→Option (σ ⊕ ρ)} {s0 s:σ} {K:σ ⊕ ρ→Option τ} {R:τ} {vis:List Nat}
structure Rng (es:List (κ×(List Value×β))) (f:σ→κ×β→Option (σ ⊕ ρ)) (s0:σ) (vis:List Nat) (s:σ):Prop where
 ok:VisOk es.length vis
 st:foldO f s0 (pv es vis)=some (.inl s)
omit [DecidableEq κ] in
theorem Rng.start (es:List (κ×(List Value×β))) (f:σ→κ×β→Option (σ ⊕ ρ)) (s0:σ):Rng es f s0 [] s0:=⟨VisOk.nil _,rfl⟩
theorem foldO_app {α:Type} (f:σ→α→Option (σ ⊕ ρ)):∀ (xs ys:List α) (s0 s:σ),foldO f s0 xs=some (.inl s)→foldO f s0 (xs++ys)=foldO f s ys
 | [],ys,s0,s,h=>by cases h;rfl
 | x::xs,ys,s0,s,h=>by
  simp only [foldO] at h
  show (f s0 x).bind _=_
  obtain ⟨o,ho,h⟩:=ob h
  rw [ho]
  cases o with
  | inl s'=>exact foldO_app f xs ys s' s h
  | inr r=>cases h
omit [DecidableEq κ] in
theorem pv_perm (es:List (κ×(List Value×β))) {l:List Nat} (h:l.Perm (List.range es.length)):(pv es l).Perm (prs es):=by
 have h1:(pv es l).Perm (pv es (List.range es.length)):=List.Perm.filterMap _ h
 have h2:pv es (List.range es.length)=prs es:=by
  have hl:es.length=(prs es).length:=by simp [prs]
  unfold pv
  rw [hl]
  generalize prs es=l
  induction l with
  | nil=>rfl
  | cons a r ih =>
   rw [List.length_cons,List.range_succ_eq_map]
   simp only [List.filterMap_cons,List.getElem?_cons_zero,List.filterMap_map]
   congr 1
 rw [h2] at h1;exact h1
theorem aget_perm {l l':List (κ×β)} (h:l.Perm l') (hn:(l.map (·.1)).Nodup) (k:κ):aget k l=aget k l':=by
 have hn':(l'.map (·.1)).Nodup:=(h.map _).nodup_iff.1 hn
 cases hx:aget k l with
 | some v=>exact (aget_of_mem hn' (h.mem_iff.1 (aget_mem' hx))).symm
 | none =>
  cases hy:aget k l' with
  | none=>rfl
  | some v=>rw [aget_of_mem hn (h.mem_iff.2 (aget_mem' hy))] at hx;cases hx
theorem Enum.ofPerm {l l':List (κ×β)} (h:Enum m l) (hp:l'.Perm l):Enum m l':=by
 have hn:(l'.map (·.1)).Nodup:=(hp.map _).nodup_iff.2 h.1
 exact ⟨hn,fun k=>by rw [h.2 k];exact (aget_perm hp hn k).symm⟩
theorem sub_range:∀ {vis:List Nat} {n:Nat},VisOk n vis→∃ r,(vis++r).Perm (List.range n)
 | vis,n,h=>by
  refine ⟨(List.range n).filter (fun i=>!decide (i∈vis)),?_⟩
  have hnd:(vis++(List.range n).filter (fun i=>!decide (i∈vis))).Nodup:=by
   rw [List.nodup_append]
   exact ⟨h.1,List.nodup_range.filter _,fun a ha b hb e=>by subst e;simp at hb;exact hb.2 ha⟩
  refine (List.perm_ext_iff_of_nodup hnd List.nodup_range).2 fun a=>?_
  simp only [List.mem_append,List.mem_filter,List.mem_range,Bool.not_eq_true',decide_eq_false_iff_not]
  constructor
  ·rintro (ha | ha)
   ·exact h.2 a ha
   ·exact ha.1
  ·intro ha
   by_cases hv:a∈vis
   ·exact .inl hv
   ·exact .inr ⟨ha,hv⟩
theorem Rng.done (hE:Enum m (prs es)) (h:Rng es f s0 vis s) (hall:∀ q,q<es.length→q∈vis) (hm:detM m (fun l=>(foldO f s0 l).bind K)=some R):K (.inl s)=some R:=by
 have hp:vis.Perm (List.range es.length):=by
  refine (List.perm_ext_iff_of_nodup h.ok.1 List.nodup_range).2 fun a=>?_
  rw [List.mem_range];exact ⟨h.ok.2 a,hall a⟩
 have:=(detM_some hm).2 _ (hE.ofPerm (pv_perm es hp))
 rw [h.st] at this;exact this
theorem Rng.step (hE:Enum m (prs es)) (h:Rng es f s0 vis s) {q:Nat} {k:κ} {cs:List Value} {v:β} (hq:es[q]?=some (k,cs,v)) (hn:q ∉ vis) (hm:detM m (fun l=>(foldO f s0 l).bind K)=some R) :
  ∃ o,f s (k,v)=some o∧(∀ s',o=.inl s'→Rng es f s0 (vis++[q]) s')∧(∀ r,o=.inr r→K (.inr r)=some R):=by
 have hql:=(List.getElem?_eq_some_iff.1 hq).1
 have hv2:=h.ok.snoc hql hn
 obtain ⟨r,hr⟩:=sub_range hv2
 have hk:=(detM_some hm).2 _ (hE.ofPerm (pv_perm es hr))
 have hpq:(prs es)[q]?=some (k,v):=by simp [prs,hq]
 have e1:pv es (vis++[q]++r)=pv es vis++(k,v)::pv es r:=by simp [pv,hpq]
 rw [e1,foldO_app f _ _ _ _ h.st] at hk
 simp only [foldO] at hk
 obtain ⟨o',ho',hk⟩:=ob hk
 obtain ⟨o,ho,hk2⟩:=ob ho'
 refine ⟨o,ho,fun s' e=>⟨hv2,?_⟩,fun r' e=>?_⟩
 ·have e2:pv es (vis++[q])=pv es vis++[(k,v)]:=by simp [pv,hpq]
  rw [e2,foldO_app f _ _ _ _ h.st]
  simp only [foldO,ho,Option.bind_some,e]
 ·subst e
  cases hk2
  exact hk
end
section
variable {P:Program} {κ β σ ρ:Type} [DecidableEq κ] {es:List (κ×(List Value×β))} {f:σ→κ×β→Option (σ ⊕ ρ)} {s0:σ} {Q:Exit→Act→World→Prop} {a:Act} {w:World} {ro:Option Nat}
theorem vis_le {n:Nat} {vis:List Nat} (h:VisOk n vis):vis.length≤n:=by
 obtain ⟨r,hr⟩:=sub_range h
 have:=hr.length_eq
 simp at this;omega
theorem x_loopM {τ:Type} {m:κ→Option β} {K:σ ⊕ ρ→Option τ} {R:τ} {c:Code} (es:List (κ×(List Value×β))) (hm:detM m (fun l=>(foldO f s0 l).bind K)=some R) (J:σ→List Nat→Act→World→Prop) (h0:J s0 [] a w)
  (round:∀ s vis a w,Rng es f s0 vis s→J s vis a w→c.wp P (Exit.then (fun a' w'=>∃ s' q,Rng es f s0 (vis++[q]) s'∧J s' (vis++[q]) a' w') Q) a w):(Code.loop c).wp P Q a w:=by
 refine x_loop (fun (g:σ×List Nat) a w=>Rng es f s0 g.2 g.1∧J g.1 g.2 a w) (fun g=>es.length - g.2.length) (s0,[]) ⟨Rng.start es f s0,h0⟩ fun g a w hI=>?_
 refine wp_mono (round g.1 g.2 a w hI.1 hI.2) fun e a' w' h=>?_
 cases e with
 | normal =>
  obtain ⟨s',q,hr,hj⟩:=h
  refine ⟨(s',g.2++[q]),⟨hr,hj⟩,?_⟩
  have h1:=vis_le hr.ok
  simp only [List.length_append,List.length_cons,List.length_nil] at h1 ⊢
  omega
 | _=>exact h
end
end Go.Tri
namespace Go.Tri
open Go.RowKit Go.Sort Go.Proofs
theorem cmp_self:∀ a:List UInt8,Lib.compareBytes a a=0
 | []=>rfl
 | a::as'=>by simp [Lib.compareBytes,cmp_self as']
theorem cmp_zero:∀ a b:List UInt8,Lib.compareBytes a b=0→a=b
 | [],[],_=>rfl
 | [],_::_,h=>by simp [Lib.compareBytes] at h
 | _::_,[],h=>by simp [Lib.compareBytes] at h
 | a::as',b::bs,h=>by
  simp only [Lib.compareBytes] at h
  split at h
  ·simp at h
  ·split at h
   ·simp at h
   ·rename_i h1 h2
    have:a=b:=UInt8.le_antisymm (UInt8.not_lt.1 h2) (UInt8.not_lt.1 h1)
    rw [this,cmp_zero as' bs h]
theorem cmp_swap:∀ a b:List UInt8,Lib.compareBytes b a=- Lib.compareBytes a b
 | [],[]=>rfl
 | [],_::_=>rfl
 | _::_,[]=>rfl
 | a::as',b::bs=>by
  simp only [Lib.compareBytes]
  by_cases h1:a<b
  ·have h2:¬ b<a:=UInt8.not_lt.2 (UInt8.le_of_lt h1)
   simp [h1,h2]
  ·by_cases h2:b<a
   ·simp [h1,h2]
   ·simp [h1,h2,cmp_swap as' bs]
theorem cmp_trans:∀ a b c:List UInt8,Lib.compareBytes a b<0→Lib.compareBytes b c<0→Lib.compareBytes a c<0
 | [],[],c,h,_=>by simp [Lib.compareBytes] at h
 | [],_::_,[],_,h=>by simp [Lib.compareBytes] at h
 | [],_::_,_::_,_,_=>by simp [Lib.compareBytes]
 | _::_,[],_,h,_=>by simp [Lib.compareBytes] at h
 | _::_,_::_,[],_,h=>by simp [Lib.compareBytes] at h
 | a::as',b::bs,c::cs,h1,h2=>by
  simp only [Lib.compareBytes] at *
  by_cases ab:a<b
  ·by_cases bc:b<c
   ·simp [UInt8.lt_trans ab bc]
   ·by_cases cb:c<b
    ·simp [bc,cb] at h2
    ·have:b=c:=UInt8.le_antisymm (UInt8.not_lt.1 cb) (UInt8.not_lt.1 bc)
     subst this;simp [ab]
  ·by_cases ba:b<a
   ·simp [ab,ba] at h1
   ·have:a=b:=UInt8.le_antisymm (UInt8.not_lt.1 ba) (UInt8.not_lt.1 ab)
    subst this
    simp only [UInt8.lt_irrefl,if_false] at h1
    by_cases bc:a<c
    ·simp [bc]
    ·by_cases cb:c<a
     ·simp [bc,cb] at h2
     ·simp only [bc,cb,if_false] at h2 ⊢
      exact cmp_trans as' bs cs h1 h2
def ltK (a b:List UInt8):Prop:=Lib.compareBytes a b<0
abbrev H32:={l:List UInt8 // l.length=32}
instance:Inhabited H32:=⟨⟨List.replicate 32 0,by simp⟩⟩
section
variable {w0 w:World} {ls:List HP} {e:TypeId} {b cap:Nat} {xs:List (List UInt8)}
end
theorem y_ext {P:Program} {N:Fs} {a:Act} {l:List (Nat×Value)} {o:Oper} {w:World} {v:Value} (F:Fr N a l) {f:FuncId} {xs:List Operand} {ts:Array TypeId} (ho:o.op=.call { callee:=.value (.func f),args:=xs.toArray,argTypes:=ts }) {vs:List Value} (hv:evs l xs=some vs)
  (he:(callFunc f vs.toArray).run P w=.ok (.value v) w):(execOp a.eval o).run P w=.ok (.value v) w:=by
 have:=F.evals hv
 unfold execOp
 simp [ho,resolve,Act.eval,Deferred.ofValue,invoke,he,this]
theorem St.owCase {α:Type} {R:Rp α} {w0 w:World} {ls:List HP} {e:TypeId} {p:Option Addr} {cap:Nat} {xs:List α} (H:St w0 w ls) (i:Nat) (hi:ls[i]?=some (HP.ow R e p cap xs)):(p=none∧cap=0∧xs=[])∨∃ b,p=some ⟨b,0,none⟩:=by
 obtain ⟨B,H⟩:=H.out
 obtain ⟨S0,css,c0,⟨hl0,⟨h,h'⟩ | ⟨g,cap',cur,h,hb0,hg,hnc,hm,hsz,ht⟩⟩,hS⟩:=H.at hi
 ·injection h with h1 h2 h3
  exact .inl ⟨h1,h3,List.eq_nil_of_length_eq_zero h2⟩
 ·injection h with h1
  exact .inr ⟨g,h1⟩
theorem AggT.run_szOf {P:Program} {t:TypeId} {n:Nat} {z:List Value} (h:AggT P t n z) (w:World):(Go.sizeOf t).run P w=.ok n w:=by
 obtain ⟨i,hi,he⟩:=Option.map_eq_some_iff.1 h.info
 injection he with h1 _
 subst h1
 simp [Go.sizeOf,typeInfo,Sem.run,hi]
def leK (a b:List UInt8):Bool:=decide (Lib.compareBytes a b≤0)
theorem leK_trans (a b c:List UInt8) (h1:leK a b=true) (h2:leK b c=true):leK a c=true:=by
 have h1:Lib.compareBytes a b≤0:=of_decide_eq_true h1
 have h2:Lib.compareBytes b c≤0:=of_decide_eq_true h2
 refine decide_eq_true ?_
 by_cases e1:Lib.compareBytes a b=0
 ·rw [cmp_zero _ _ e1];exact h2
 ·by_cases e2:Lib.compareBytes b c=0
  ·rw [← cmp_zero _ _ e2];exact h1
  ·have:=cmp_trans a b c (by omega) (by omega)
   omega
theorem leK_total (a b:List UInt8):(leK a b || leK b a)=true:=by
 have:=cmp_swap a b
 unfold leK
 by_cases h:Lib.compareBytes a b≤0
 ·simp [h]
 ·have:Lib.compareBytes b a≤0:=by omega
  simp [this]
end Go.Tri
namespace Go.Tri
open Go.RowKit
def HP.cv (e:TypeId) (b c:Nat) (xs:List UInt8):HP :=
 HP.of (fun _ w S=>(∃ cur:Array Value,w.heap[b]?=some (.cells cur e (cur.size,cur.size+1))∧cur.size=c∧xs.length≤c∧cur.toList.take xs.length=bcells xs)∧S b)
  (fun {_ w w' S} ⟨⟨cur,h1,h2⟩,hS⟩ hw=>⟨⟨cur,by rw [hw b hS];exact h1,h2⟩,hS⟩) (fun h _=>h)
section
variable {P:Program} {w0 w:World} {ls:List HP} {e:TypeId} {b c:Nat} {xs ys:List UInt8}
theorem cv_row {B:Base} {S:Nat→Prop} (h:(HP.cv e b c xs).pr B w S):Row w b 0 (bcells xs):=by
 obtain ⟨⟨cur,h1,h2,h3,h4⟩,_⟩:=h
 intro j v hj
 have hj':j<xs.length:=by have:=(List.getElem?_eq_some_iff.1 hj).1;rwa [bcells_length] at this
 rw [← h4,List.getElem?_take_of_lt hj'] at hj
 unfold World.cell?
 simp only [h1]
 simpa using hj
theorem St.cvFrz (H:St w0 w ls) (i:Nat) (hi:ls[i]?=some (HP.cv e b c xs)):St w0 w (HP.sl rByte (some ⟨b,0,none⟩) c xs::ls.eraseIdx i) :=
 (H.mv i hi).freezeH fun {B B'} S h hle hw=>⟨_,rdl_bytes B' xs,fun w' hw'=>by
  have h':=HP.loc _ h (w':=w') (fun b hb=>hw w' hw' b hb)
  rw [flat_bytes];exact .inr (.inr ⟨b,0,c,rfl,by obtain ⟨⟨cur,_,_,h3,_⟩,_⟩:=h;exact h3,cv_row h'⟩)⟩
variable {ops:Array Oper} {rest:List Oper} {o:Oper} {a:Act} {W:List Oper→Act→World→Prop} {N:Fs} {sl:List (Nat×Value)} {d:Nat} {x y:Operand} {t t':TypeId}
theorem s_cvT (k:Walk P ops W) (F:Fr N a sl) (hg:o.guard=none) (hd:o.dst=some d) (hN:Nat.blt d N.n=true) (hs:P.underlying t=some .string) (hD:P.underlying t'=some (.slice e)) (he:P.underlying e=some (.int .u8)) (ho:o.op=.convert t t' x) (hx:ev sl x=some (.string (txb xs))) (H:St w0 w ls)
  (hk:∀ b c w' a',St w0 w' (HP.cv e b c xs::ls)→Fr N a' ((d,.slice (some ⟨b,0,none⟩) xs.length c)::sl)→W rest a' w'):W (o::rest) a w:=by
 have hr:=run_bytes_of_string (P:=P) w t t' e (txb xs) hs hD he
 have hge:=grownCap_ge w (txb xs).size 0 e
 generalize hc:grownCap w (txb xs).size 0 e=c at hr hge
 rw [txb_size] at hge
 have hsz:(bytesRow (txb xs) c).size=c:=by simp [bytesRow,txb,ByteArray.size];omega
 have hlist:(bytesRow (txb xs) c).toList.take xs.length=bcells xs:=by
  have h1:(bytesRow (txb xs) c).toList=bcells xs++List.replicate (c - (txb xs).size) (Value.int .u8 0):=by simp [bytesRow,txb,bcells]
  rw [h1,List.take_left' (bcells_length _)]
 have H1:=H.drew.add (.cells (bytesRow (txb xs) c) e ((bytesRow (txb xs) c).size,(bytesRow (txb xs) c).size+1)) (HP.cv e w.heap.size c xs) fun S hS=>⟨⟨_,heapNew w.drew _,hsz,hge,hlist⟩,hS⟩
 refine s_val (v:=.slice (some ⟨w.heap.size,0,none⟩) (txb xs).size c) (w':=w.drew.alloc (.cells (bytesRow (txb xs) c) e ((bytesRow (txb xs) c).size,(bytesRow (txb xs) c).size+1))) k F hg hd hN (by rw [ho];rfl) ?_ fun a' F'=>hk w.heap.size c _ a' H1 (by rw [txb_size] at F';exact F')
 unfold execOp
 simp only [ho,F.eval hx]
 rw [Sem.run_bind,hr]
 rfl
end
def sp:List UInt8→List (List UInt8)
 | []=>[[]]
 | c::r=>if c=47 then []::sp r else match sp r with | h::t=>(c::h)::t | []=>[[c]]
theorem split_sp:∀ s:List UInt8,Lib.splitK [47] 0 (Lib.count s [47]) s=sp s
 | []=>by rw [Lib.count_miss (by simp [Lib.index])];rfl
 | c::r=>by
  have ih:=split_sp r
  by_cases h:c=47
  ·subst h
   rw [Lib.count_cons_eq,Nat.add_comm,Lib.splitK]
   have hix:Lib.index (47::r) [47]=0:=by rw [Lib.index];simp [List.isPrefixOf]
   rw [hix]
   simp only [sp,if_true]
   rw [if_neg (by decide)]
   simpa using ih
  ·have hp:([47]:List UInt8).isPrefixOf (c::r)=false:=by simp [List.isPrefixOf,Ne.symm h]
   have hix:Lib.index (c::r) [47]=if Lib.index r [47]==-1 then -1 else Lib.index r [47]+1:=by rw [Lib.index,hp];simp
   rw [Lib.count_cons_ne c 47 r h]
   simp only [sp,h,if_false]
   by_cases hm:Lib.index r [47]=-1
   ·rw [Lib.count_miss hm] at ih ⊢
    rw [← ih];rfl
   ·have hge:=Lib.index_ge r [47]
    obtain ⟨j,hj⟩:∃ j:Nat,Lib.index r [47]=j:=⟨(Lib.index r [47]).toNat,by omega⟩
    rw [Lib.count_hit (by simp) hj,Nat.add_comm] at ih ⊢
    rw [Lib.splitK,hj,if_neg (by simp)] at ih
    rw [Lib.splitK,hix,hj,if_neg (show ¬ (((j:Int)==-1)=true) by simp),if_neg (by simp;omega),← ih]
    simp only [Int.toNat_natCast,Nat.add_zero]
    rw [show ((j:Int)+1).toNat=j+1 by omega]
    rfl
def jn (xs:List (List UInt8)):List UInt8:=Lib.join xs [47]
def splitO (s sep:List UInt8) (sv n:Int):Option (List (List UInt8)):=if sep=[47]∧sv=0∧n=-1∧s.length≤2000000000 then some (sp s) else none
theorem splitO_some {s sep:List UInt8} {sv n:Int} {r:List (List UInt8)} (h:splitO s sep sv n=some r):sep=[47]∧sv=0∧n=-1∧s.length≤2000000000∧r=sp s:=by
 unfold splitO at h
 split at h
 ·rename_i h0;cases h;exact ⟨h0.1,h0.2.1,h0.2.2.1,h0.2.2.2,rfl⟩
 ·cases h
def joinO (xs:List (List UInt8)) (sep:List UInt8):Option (List UInt8):=if sep=[47]∧xs.length≤2000000000∧(jn xs).length≤2000000000 then some (jn xs) else none
theorem joinO_some {xs:List (List UInt8)} {sep r:List UInt8} (h:joinO xs sep=some r):sep=[47]∧xs.length≤2000000000∧(jn xs).length≤2000000000∧r=jn xs:=by
 unfold joinO at h
 split at h
 ·rename_i h0;cases h;exact ⟨h0.1,h0.2.1,h0.2.2,rfl⟩
 ·cases h
theorem St.below {w0 w w':World} {l:List HP} (H:St w0 w l) (hb:Below w.heap.size w w'):St w0 w' l:=by
 obtain ⟨hv,B,f,hs,h1,h2,h3⟩:=H
 have hold:∀ b,b<w.heap.size→w'.heap[b]?=w.heap[b]?:=fun b hlt=>hb.block b hlt
 refine ⟨⟨hb.os.trans hv.1,hb.tape.trans hv.2.1,hb.output.trans hv.2.2.1,Nat.le_trans hv.2.2.2 hb.size⟩,B,f,fun b o h=>?_,fun i A hi=>A.loc (h1 i A hi) fun b hf=>hold b (h3 i b (List.getElem?_eq_some_iff.1 hi).1 hf).1,h2,fun i b hi hf=>?_⟩
 ·rw [hold b (hs.lt h)];exact hs b o h
 ·have:=h3 i b hi hf
  exact ⟨Nat.lt_of_lt_of_le this.1 hb.size,this.2⟩
theorem St.newTexts {w0 w:World} {l:List HP} (H:St w0 w l) (e:TypeId) (xs:List (List UInt8)) (hm:xs.length≤maxLen):St w0 (w.alloc (.cells (xs.map fun x=>Value.string (txb x)).toArray e)) (HP.ow rStr e (some ⟨w.heap.size,0,none⟩) xs.length xs::l):=by
 have hf:(xs.map fun x=>[Value.string (txb x)]).flatten=xs.map fun x=>Value.string (txb x):=by
  induction xs with
  | nil=>rfl
  | cons x xs ih=>simp only [List.length_cons] at hm;simp [ih (by omega)]
 have hr:∀ B:Base,RdL rStr B (xs.map fun x=>[Value.string (txb x)]) xs:=fun B=>by
  clear hm hf
  induction xs with
  | nil=>trivial
  | cons x xs ih=>exact ⟨rfl,ih⟩
 refine H.add _ _ fun {B} S hS=>⟨_,hr B,?_⟩
 rw [hf]
 exact ⟨⟨by simp [rStr,Rp.enc],.inr ⟨_,xs.length,_,rfl,Nat.zero_le _,heapNew w _,Nat.le_refl _,hm,by simp [rStr,Rp.enc],by simp only [rStr,Rp.enc,Nat.mul_one];rw [List.take_of_length_le];simp⟩⟩,fun b hb=>by simp [Value.ownBlock] at hb;exact hb▸hS⟩
end Go.Tri
namespace Go.Tri
open Go.RowKit Go.ChangeShapes Go.WideShapes Go.ChangeAt Go.Deep
def baseOf (w:World):Base:=fun b=>w.heap[b]?
theorem sub_row {w w':World} {b off:Nat} {cs:List Value} (hs:Sub (baseOf w) w') (h:Row w b off cs):Row w' b off cs:=by
 intro j v hj
 have h1:=h j v hj
 unfold World.cell? at h1 ⊢
 simp only at h1 ⊢
 cases hb:w.heap[b]? with
 | none=>rw [hb] at h1;cases h1
 | some o=>rw [hs b o hb];rw [hb] at h1;exact h1
theorem sub_sl {w w':World} {v:Value} {n:Nat} {cs:List Value} (hs:Sub (baseOf w) w') (h:Sl w v n cs):Sl w' v n cs:=by
 rcases h with h | h | ⟨b,off,cap,h1,h2,h3⟩
 ·exact .inl h
 ·exact .inr (.inl h)
 ·exact .inr (.inr ⟨b,off,cap,h1,h2,sub_row hs h3⟩)
section
variable {α H:Type} (enc:TypeId×Value→H) (P:Program) (w:World) (base:Nat) (spare:Nat→Bool) (held:Bool)
def Opn (R:Rp α) (e:TypeId):Prop:=∀ (fuel:Nat) (cs:List Value) (x:DataW H×List MemPlace),DataW.trod enc P w base spare held fuel e cs=some x→∃ y,R.rd (baseOf w) cs y
end
section
variable {α H:Type} {enc:TypeId×Value→H} {P:Program} {w:World} {base:Nat} {spare:Nat→Bool} {held:Bool} {R:Rp α} {e t:TypeId}
theorem opn_int {k:IntKind} (ht:P.underlying t=some (.int k)):Opn enc P w base spare held (rInt k) t:=fun fuel cs x h=>by
 obtain ⟨n0,g0,_,w0⟩:=DataW.trod_int ht h
 exact ⟨n0,g0⟩
theorem opn_byte (ht:P.underlying t=some (.int .u8)):Opn enc P w base spare held rByte t:=fun fuel cs x h=>by
 obtain ⟨n0,g0,_,w0⟩:=DataW.trod_int ht h
 have hb:0≤n0∧n0≤255:=by
  simp [Lit.wf,IntKind.min,IntKind.max,IntKind.signed,IntKind.bits] at w0;omega
 refine ⟨UInt8.ofNat n0.toNat,?_⟩
 show cs=[.int .u8 ((UInt8.ofNat n0.toNat).toNat:Int)]
 rw [g0]
 have:((UInt8.ofNat n0.toNat).toNat:Int)=n0:=by simp;omega
 rw [this]
end
def HP.all (w0:World):HP:=HP.pe (fun B=>∀ b o,w0.heap[b]?=some o→B b=some o)
  (fun h hl b o hb=>hl b o (h b o hb))
theorem St.start0 (w0:World) (l:List HP) (h:∀ A∈l,A.pr (baseOf w0) w0 (fun _=>False)):St w0 w0 l :=
 ⟨⟨rfl,rfl,rfl,Nat.le_refl _⟩,baseOf w0,fun _ _=>False,fun b o h=>h,fun i A hi=>h A (List.mem_of_getElem? hi),fun _ _ _ _ _ hf=>hf.elim,fun _ _ _ hf=>hf.elim⟩
theorem all_start (w0 w:World) (S:Nat→Prop):(HP.all w0).pr (baseOf w0) w S:=fun b o h=>h
theorem row_start {w0:World} {b off:Nat} {cs:List Value} (h:Row w0 b off cs) (w:World) (S:Nat→Prop):(HP.row b off cs).pr (baseOf w0) w S:=fun w' hw=>sub_row hw h
theorem St.finish {w0 w:World} (H:St w0 w [HP.all w0]):Below w0.heap.size w0 w:=by
 obtain ⟨⟨h1,h2,h3,h4⟩,B,f,hs,ha,_⟩:=H
 refine ⟨h1,h2,h3,h4,fun k hk=>?_⟩
 have:=hs k _ (ha 0 _ rfl k _ (Array.getElem?_eq_getElem hk))
 rw [this,Array.getElem?_eq_getElem hk]
theorem laid_row {P:Program} {W:World} {g t e n:Nat} {k:IntKind} {fuel:Nat} {cs:Array Value} {p:List MemPlace} {xs:List Int} {name:String} (ht:P.underlying t=some (.array n e)) (he:P.underlying e=some (.int k)) (hc:P.cellsOf e=1) (hg:P.globalNamed name=some g) (hv:W.var? P name=some cs)
  (hd:DataW.trod (fun _=>()) P W 0 (fun _=>true) false fuel t cs.toList=some ((DataW.agg (xs.map fun n=>.lit (.int k n)):DataW Unit),p)):Row W g 0 (icells k xs):=by
 obtain ⟨ys,m,_,ex,_,hl,hel⟩:=DataW.trod_array ht hd
 have e3:ys.map (·.1)=xs.map fun n=>(DataW.lit (.int k n):DataW Unit):=(DataW.agg.inj (Prod.mk.inj ex).1).symm
 have hlen:xs.length=n:=by have:=congrArg List.length e3;simp at this;omega
 intro r v hr
 have hr2:r<xs.length:=by have:=(List.getElem?_eq_some_iff.1 hr).1;simpa [icells] using this
 have hE:=hel r (by omega)
 rw [hc,Nat.mul_one,List.getElem?_eq_getElem (by omega)] at hE
 obtain ⟨z,e1,e2,_⟩:=DataW.trod_int he hE
 have e4:(ys.map (·.1))[r]?=(xs.map fun n=>(DataW.lit (.int k n):DataW Unit))[r]?:=by rw [e3]
 rw [List.getElem?_map,List.getElem?_map,List.getElem?_eq_getElem (by omega:r<ys.length),List.getElem?_eq_getElem hr2,e2] at e4
 have hz:z=xs[r]:=by
  simp only [Option.map_some,Option.some.injEq,DataW.lit.injEq,Lit.int.injEq,true_and] at e4
  exact e4
 have hv2:v=.int k xs[r]:=by
  simp [icells,hr2] at hr;exact hr.symm
 rw [hv2,← hz,Nat.zero_add,World.var?_cell hg hv r]
 have:cs.toList[r]?=some (.int k z):=by
  have h0:((cs.toList.drop r).take 1)[0]?=some (.int k z):=by rw [e1];rfl
  simpa using h0
 simpa using this
end Go.Tri
namespace Go.Tri
open Go.RowKit
def Base.ge (B:Base) (n:Nat):Base:=fun b=>if n≤b then B b else none
theorem Base.ge_le (B:Base) (n:Nat):(B.ge n).le B:=fun b o h=>by
 unfold Base.ge at h
 split at h
 ·exact h
 ·cases h
theorem Base.ge_mono {B B':Base} (h:B.le B') (n:Nat):(B.ge n).le (B'.ge n):=fun b o hb=>by
 unfold Base.ge at hb ⊢
 split at hb
 ·rename_i hn;rw [if_pos hn];exact h b o hb
 ·cases hb
section
variable {α:Type} {R:Rp α} {w0 w w':World} {l:List HP} {p:Option Addr} {cap n0:Nat} {xs:List α} {e:TypeId}
def HP.nsl (n0:Nat) (R:Rp α) (p:Option Addr) (cap:Nat) (xs:List α):HP :=
 HP.pe (fun B=>(HP.sl R p cap xs).pr (B.ge n0) default (fun _=>False)∧(0<xs.length→∃ b cur e,p=some ⟨b,0,none⟩∧(B.ge n0) b=some (.cells cur e (0,0))∧xs.length≤maxLen))
  (fun h hl=>⟨HP.mono (HP.sl R p cap xs) h.1 (Base.ge_mono hl n0),fun h0=>by obtain ⟨b,cur,e,h1,h2,h3⟩:=h.2 h0;exact ⟨b,cur,e,h1,Base.ge_mono hl n0 _ _ h2,h3⟩⟩)
def rSlN (n0:Nat) (R:Rp α):Rp (List α):=⟨1,fun B cs xs=>∃ p cap,cs=[.slice p xs.length cap]∧(HP.nsl n0 R p cap xs).pr B default (fun _=>False),fun ⟨p,cap,h,k⟩ hl=>⟨p,cap,h,HP.mono _ k hl⟩,fun ⟨p,cap,h,k⟩=>by rw [h];rfl,fun ⟨p,cap,h,k⟩=>by rw [h];intro v hv;simp at hv;subst hv;rfl⟩
theorem rSlN_weak {B:Base} {cs:List Value} (h:(rSlN n0 R).rd B cs xs):(rSl R).rd B cs xs:=by
 obtain ⟨p,cap,h1,h2⟩:=h
 exact ⟨p,cap,h1,HP.mono (HP.sl R p cap xs) h2.1 (Base.ge_le B n0)⟩
theorem rSlN_ge {B:Base} {cs:List Value} (h:(rSlN n0 R).rd B cs xs):(rSl R).rd (B.ge n0) cs xs:=by
 obtain ⟨p,cap,h1,h2⟩:=h
 exact ⟨p,cap,h1,h2.1⟩
theorem St.frzN (H:St w0 w l) (i:Nat) (hR:∀ {B B':Base} {css:List (List Value)},RdL R B css xs→B.le B'→RdL R (B'.ge w0.heap.size) css xs) (hi:l[i]?=some (HP.ow R e p cap xs)):St w0 w (HP.nsl w0.heap.size R p cap xs::l.eraseIdx i):=by
 have H1:=H.mv i hi
 have hn:∀ {B:Base} (S:Nat→Prop),(∀ b,S b→w0.heap.size≤b)→True:=fun _ _=>trivial
 classical
 obtain ⟨hv,B,f,hs,h1,h2,h3⟩:=H1
 let B':Base:=fun b=>if f 0 b then w.heap[b]? else B b
 have hle:B.le B':=by
  intro b o hb
  have:¬ f 0 b:=fun hf=>by have:=(h3 0 b (by simp) hf).2.1;rw [hb] at this;cases this
  show (if f 0 b then _ else _)=_
  rw [if_neg this];exact hb
 have hsub:Sub B' w:=by
  intro b o hb
  have hb':(if f 0 b then w.heap[b]? else B b)=some o:=hb
  split at hb'
  ·exact hb'
  ·exact hs b o hb'
 refine ⟨hv,B',fun i=>match i with | 0=>fun _=>False | i+1=>f (i+1),hsub,?_,?_,?_⟩
 ·intro i D hi
  cases i with
  | zero =>
   simp at hi;subst hi
   obtain ⟨css,c1,c2⟩:=h1 0 _ rfl
   have hin:∀ b,f 0 b→(B'.ge w0.heap.size) b=w.heap[b]?:=fun b hf=>by
    have hge:=(h3 0 b (by simp) hf).2.2
    unfold Base.ge
    rw [if_pos hge]
    show (if f 0 b then _ else _)=_
    rw [if_pos hf]
   refine ⟨⟨css,hR c1 hle,fun w' hw'=>?_⟩,fun h0=>?_⟩
   ·refine ownsRow_sl (HP.loc _ c2 (w':=w') fun b hf=>?_).1
    have hlt:=(h3 0 b (by simp) hf).1
    have:(B'.ge w0.heap.size) b=some w.heap[b]:=by rw [hin b hf];exact Array.getElem?_eq_getElem hlt
    rw [hw' b _ this];exact (Array.getElem?_eq_getElem hlt).symm
   ·obtain ⟨⟨_,⟨hx,hx0⟩ | ⟨g,cap',cur,hx,_,hheap,hm1,hm2,_⟩⟩,hS⟩:=c2
    ·omega
    ·obtain ⟨rfl,_,_⟩:=Value.slice.inj hx
     exact ⟨g,cur,e,rfl,by rw [hin g (hS g rfl)];exact hheap,Nat.le_trans hm1 hm2⟩
  | succ i=>exact D.mono (h1 (i+1) D (by simpa using hi)) hle
 ·intro i j b hi hj hfi hfj
  cases i with
  | zero=>exact hfi.elim
  | succ i =>
   cases j with
   | zero=>exact hfj.elim
   | succ j=>exact h2 (i+1) (j+1) b hi hj hfi hfj
 ·intro i b hi hf
  cases i with
  | zero=>exact hf.elim
  | succ i =>
   have h4:=h3 (i+1) b hi hf
   refine ⟨h4.1,?_,h4.2.2⟩
   show (if f 0 b then _ else _)=_
   rw [if_neg (fun h0=>by have:=h2 0 (i+1) b (by simp) hi h0 hf;omega)]
   exact h4.2.1
theorem St.nslSl (H:St w0 w l) (i:Nat) (hi:l[i]?=some (HP.nsl n0 R p cap xs)):St w0 w (HP.sl R p cap xs::l) :=
 H.more fun B _ g=>by
  obtain ⟨S,h⟩:=g i _ hi
  exact HP.mono (HP.sl R p cap xs) (w:=default) (S:=fun _=>False) h.1 (Base.ge_le B n0)
def Sealed (w:World) (L:List HP):Prop:=∀ A∈L,A.pr (baseOf w) w (fun _=>False)
theorem sealN (w:World):Sealed w [HP.all w]:=by
 intro A hA
 simp only [List.mem_cons,List.not_mem_nil,or_false] at hA
 subst hA;exact all_start _ _ _
theorem sealC {A:HP} {L:List HP} (h:A.pr (baseOf w) w (fun _=>False)) (hL:Sealed w L):Sealed w (A::L):=by
 intro C hC
 rcases List.mem_cons.1 hC with rfl | hC
 ·exact h
 ·exact hL C hC
theorem Sealed.st {L:List HP} (h:Sealed w L):St w w L:=St.start0 w L h
theorem sub_le {B:Base} (h:Sub B w):B.le (baseOf w):=fun b o hb=>h b o hb
theorem St.sealP (H:St w0 w l) (i:Nat) {A:HP} (hi:l[i]?=some A) (hp:A.ps=true):A.pr (baseOf w) w (fun _=>False):=by
 obtain ⟨B,S,hs,h,_⟩:=H.get i hi
 exact A.mono (A.pok hp h) (sub_le hs)
theorem St.unseal (H:St w0 w l) {rs rs':List HP} (hl:rs'.length=rs.length) (hT:∀ (i:Nat) (A A':HP),rs[i]?=some A→rs'[i]?=some A'→∀ {B:Base} {S:Nat→Prop},A.pr B w' S→A'.pr (B.ge w.heap.size) w' S) (H':St w w' (rs++[HP.all w])):St w0 w' (rs'++l):=by
 obtain ⟨hv,B,f,hs,h1,h2,h3⟩:=H
 obtain ⟨hv',B2,f2,hs2,k1,k2,k3⟩:=H'
 have hall:∀ b o,w.heap[b]?=some o→B2 b=some o:=k1 rs.length (HP.all w) (by simp)
 have hold:∀ b,b<w.heap.size→w'.heap[b]?=w.heap[b]?:=fun b hb=>by
  rw [Array.getElem?_eq_getElem hb];exact hs2 b _ (hall b _ (Array.getElem?_eq_getElem hb))
 let Bn:Base:=fun b=>if b<w.heap.size then B b else B2 b
 have hle:B.le Bn:=fun b o hb=>by
  show (if b<w.heap.size then B b else B2 b)=_
  rw [if_pos (hs.lt hb)];exact hb
 have hge:(B2.ge w.heap.size).le Bn:=fun b o hb=>by
  unfold Base.ge at hb
  split at hb
  ·show (if b<w.heap.size then B b else B2 b)=_
   rw [if_neg (by omega)];exact hb
  ·cases hb
 refine ⟨⟨hv'.1.trans hv.1,hv'.2.1.trans hv.2.1,hv'.2.2.1.trans hv.2.2.1,Nat.le_trans hv.2.2.2 hv'.2.2.2⟩,Bn,fun i=>if i<rs'.length then f2 i else f (i - rs'.length),?_,?_,?_,?_⟩
 ·intro b o hb
  have hb':(if b<w.heap.size then B b else B2 b)=some o:=hb
  split at hb'
  ·rename_i hlt;rw [hold b hlt];exact hs b o hb'
  ·exact hs2 b o hb'
 ·intro i A hi
  rw [List.getElem?_append] at hi
  by_cases e:i<rs'.length
  ·rw [if_pos e] at hi
   simp only [if_pos e]
   have hA:rs[i]?=some rs[i]:=List.getElem?_eq_getElem (by omega)
   exact A.mono (hT i _ A hA hi (k1 i _ (by rw [List.getElem?_append,if_pos (by omega)];exact hA))) hge
  ·rw [if_neg e] at hi
   simp only [if_neg e]
   exact A.mono (A.loc (h1 _ A hi) fun b hb=>hold b (h3 _ b (List.getElem?_eq_some_iff.1 hi).1 hb).1) hle
 ·intro i j b hi hj hfi hfj
  rw [List.length_append] at hi hj
  by_cases e1:i<rs'.length
  ·by_cases e2:j<rs'.length
   ·simp only [if_pos e1,if_pos e2] at hfi hfj
    exact k2 i j b (by simp;omega) (by simp;omega) hfi hfj
   ·simp only [if_pos e1,if_neg e2] at hfi hfj
    have:=(k3 i b (by simp;omega) hfi).2.2
    have:=(h3 _ b (by omega) hfj).1
    omega
  ·by_cases e2:j<rs'.length
   ·simp only [if_neg e1,if_pos e2] at hfi hfj
    have:=(k3 j b (by simp;omega) hfj).2.2
    have:=(h3 _ b (by omega) hfi).1
    omega
   ·simp only [if_neg e1,if_neg e2] at hfi hfj
    have:=h2 _ _ b (by omega) (by omega) hfi hfj
    omega
 ·intro i b hi hf
  rw [List.length_append] at hi
  by_cases e1:i<rs'.length
  ·simp only [if_pos e1] at hf
   have h4:=k3 i b (by simp;omega) hf
   refine ⟨h4.1,?_,Nat.le_trans hv.2.2.2 h4.2.2⟩
   show (if b<w.heap.size then B b else B2 b)=none
   rw [if_neg (by omega)];exact h4.2.1
  ·simp only [if_neg e1] at hf
   have h4:=h3 _ b (by omega) hf
   refine ⟨Nat.lt_of_lt_of_le h4.1 hv'.2.2.2,?_,h4.2.2⟩
   show (if b<w.heap.size then B b else B2 b)=none
   rw [if_pos h4.1];exact h4.2.1
theorem St.unseal1 (H:St w0 w l) {A A':HP} (hT:∀ {B:Base} {S:Nat→Prop},A.pr B w' S→A'.pr (B.ge w.heap.size) w' S) (H':St w w' [A,HP.all w]):St w0 w' (A'::l) :=
 H.unseal (rs:=[A]) (rs':=[A']) rfl (fun i C C' h h'=>by
  cases i with
  | zero=>simp at h h';subst h;subst h';exact hT
  | succ i=>simp at h) H'
end
section
variable {κ β:Type} [DecidableEq κ] {w0 w w':World} {l:List HP} {p:Option Nat} {ek:κ→Value} {agg:Bool} {R R':Rp β} {ok:κ→Prop} {m:κ→Option β}
theorem EsOk.conv {B B':Base} {es:List (κ×(List Value×β))} (hR:∀ {cs:List Value} {x:β},R.rd B cs x→R'.rd B' cs x) (h:EsOk R ok B es m):EsOk R' ok B' es m:=⟨h.nodup,h.ok,fun p hp=>hR (h.rd p hp),h.get⟩
theorem mm_conv {B B':Base} {S:Nat→Prop} (hR:∀ {cs:List Value} {x:β},R.rd B cs x→R'.rd B' cs x) (h:(HP.mm p ek agg R ok m).pr B w S):(HP.mm p ek agg R' ok m).pr B' w S:=by
 obtain ⟨es,h1,h2⟩:=h
 exact ⟨es,h1.conv hR,h2⟩
theorem St.unsealM {m:κ→Option (List UInt8)} (H:St w0 w l) (H':St w w' [HP.mm p ek false (rSlN w.heap.size rByte) ok m,HP.all w]):St w0 w' (HP.mm p ek false (rSl rByte) ok m::l) :=
 H.unseal1 (A:=HP.mm p ek false (rSlN w.heap.size rByte) ok m) (fun h=>mm_conv (fun h=>rSlN_ge h) h) H'
theorem St.mmN {n0:Nat} {m:κ→Option (List UInt8)} (H:St w0 w l) (i:Nat) (hi:l[i]?=some (HP.mm p ek false (rSlN n0 rByte) ok m)):St w0 w (l.set i (HP.mm p ek false (rSl rByte) ok m)) :=
 H.convAt i hi fun S h=>mm_conv (fun h=>rSlN_weak h) h
end
section
variable {α:Type} {R R':Rp α} {B B':Base} {n0:Nat}
theorem rdl_conv (h:∀ {cs:List Value} {x:α},R.rd B cs x→R'.rd B' cs x):∀ {css:List (List Value)} {xs:List α},RdL R B css xs→RdL R' B' css xs
 | [],[],_=>trivial
 | [],_::_,h'=>h'.elim
 | _::_,[],h'=>h'.elim
 | _::_,_::_,⟨h1,h2⟩=>⟨h h1,rdl_conv h h2⟩
theorem sl_conv {p:Option Addr} {cap:Nat} {xs:List α} (hB:B.le B') (h:∀ {cs:List Value} {x:α},R.rd B cs x→R'.rd B' cs x) (hs:(HP.sl R p cap xs).pr B default (fun _=>False)):(HP.sl R' p cap xs).pr B' default (fun _=>False):=by
 obtain ⟨css,h1,h2⟩:=hs
 exact ⟨css,rdl_conv h h1,fun w hw=>h2 w (hw.mono hB)⟩
theorem ge_ge {B B':Base} (h:B.le B') (n:Nat):(B.ge n).le ((B'.ge n).ge n):=fun b o hb=>by
 unfold Base.ge at hb ⊢
 split at hb
 ·rename_i hn;simp only [if_pos hn];exact h b o hb
 ·cases hb
theorem rSlN_up {cs:List Value} {xs:List α} (h:(rSlN n0 R).rd B cs xs) (hl:B.le B'):(rSlN n0 R).rd (B'.ge n0) cs xs:=by
 obtain ⟨p,cap,h1,h2⟩:=h
 exact ⟨p,cap,h1,HP.mono (HP.sl R p cap xs) (w:=default) (S:=fun _=>False) h2.1 (ge_ge hl n0),fun h0=>by obtain ⟨b,cur,e,h3,h4,h5⟩:=h2.2 h0;exact ⟨b,cur,e,h3,ge_ge hl n0 _ _ h4,h5⟩⟩
abbrev rP2:Rp (List UInt8×List UInt8):=rPair (rSl rByte) (rSl rByte)
abbrev rP2N (n0:Nat):Rp (List UInt8×List UInt8):=rPair (rSlN n0 rByte) (rSlN n0 rByte)
theorem p2N_up {cs:List Value} {x:List UInt8×List UInt8} (hl:B.le B') (h:(rP2N n0).rd B cs x):(rP2N n0).rd (B'.ge n0) cs x:=by
 obtain ⟨c,d,h1,h2,h3⟩:=h
 exact ⟨c,d,h1,rSlN_up h2 hl,rSlN_up h3 hl⟩
theorem p2N_weak {cs:List Value} {x:List UInt8×List UInt8} (h:(rP2N n0).rd B cs x):rP2.rd B cs x:=by
 obtain ⟨c,d,h1,h2,h3⟩:=h
 exact ⟨c,d,h1,rSlN_weak h2,rSlN_weak h3⟩
theorem St.frzP2 {w0 w:World} {l:List HP} {p:Option Addr} {cap:Nat} {xs:List (List UInt8×List UInt8)} {e:TypeId} (H:St w0 w l) (i:Nat) (hi:l[i]?=some (HP.ow (rP2N w0.heap.size) e p cap xs)):St w0 w (HP.nsl w0.heap.size (rP2N w0.heap.size) p cap xs::l.eraseIdx i) :=
 H.frzN i (fun h hl=>rdl_conv (fun h=>p2N_up hl h) h) hi
theorem St.frzNB {w0 w:World} {l:List HP} {p:Option Addr} {cap:Nat} {xs:List UInt8} {e:TypeId} (H:St w0 w l) (i:Nat) (hi:l[i]?=some (HP.ow rByte e p cap xs)):St w0 w (HP.nsl w0.heap.size rByte p cap xs::l.eraseIdx i) :=
 H.frzN i (fun {B B' css} h hl=>rdl_conv (R:=rByte) (R':=rByte) (B:=B) (B':=B'.ge w0.heap.size) (fun h=>h) h) hi
end
section
variable {w0 w w':World} {l:List HP} {p:Option Addr} {cap n0:Nat} {xs:List (List UInt8×List UInt8)}
def HP.box (p:Option Addr) (cap:Nat) (xs:List (List UInt8×List UInt8)):HP :=
 HP.of (fun _ w S=>∃ B:Base,(∀ b o,B b=some o→S b∧w.heap[b]?=some o)∧(HP.nsl 0 (rP2N 0) p cap xs).pr B default (fun _=>False))
  (fun ⟨B,h1,h2⟩ hS=>⟨B,fun b o hb=>⟨(h1 b o hb).1,by rw [hS b (h1 b o hb).1];exact (h1 b o hb).2⟩,h2⟩)
  (fun h _=>h)
end
end Go.Tri
namespace Go.Tri
open Go.RowKit Go.Sort Go.Proofs
section
variable {w0 w:World} {ls:List HP} {e:TypeId} {b cap:Nat} {xs:List (List UInt8)}
end
abbrev PE (B:Base):={p:List Value×(List UInt8×List UInt8) // rP2.rd B p.1 p.2}
instance (B:Base):Inhabited (PE B):=⟨⟨([.slice none 0 0,.slice none 0 0],([],[])),⟨[.slice none 0 0],[.slice none 0 0],rfl,rSl_nil _ _,rSl_nil _ _⟩⟩⟩
def encP {B:Base} (x:PE B):List Value:=x.1.1
def cmpP {B:Base} (x y:PE B):Int:=Lib.compareBytes x.1.2.1 y.1.2.1
theorem encP_len {B:Base} (x:PE B):(encP x).length=2:=rP2.len x.2
theorem encP_one {B:Base} (x:PE B):∀ v∈encP x,v.oneCell'=true:=fun v hv=>rP2.flat x.2 v hv
theorem cmpP_swo {B:Base}:SWO (ltOf (cmpP (B:=B))) where
 irrefl x:=by simp [ltOf,cmpP,cmp_self]
 trans x y z h1 h2:=decide_eq_true (cmp_trans _ _ _ (of_decide_eq_true h1) (of_decide_eq_true h2))
 ntrans x y z h1 h2:=by
  replace h1:¬ Lib.compareBytes x.1.2.1 y.1.2.1<0:=of_decide_eq_false h1
  replace h2:¬ Lib.compareBytes y.1.2.1 z.1.2.1<0:=of_decide_eq_false h2
  refine decide_eq_false fun h3=>?_
  replace h3:Lib.compareBytes x.1.2.1 z.1.2.1<0:=h3
  by_cases hz:Lib.compareBytes y.1.2.1 x.1.2.1=0
  ·rw [cmp_zero _ _ hz] at h2;exact h2 h3
  ·have:Lib.compareBytes y.1.2.1 x.1.2.1<0:=by rw [cmp_swap];rw [cmp_swap] at hz;omega
   exact h2 (cmp_trans _ _ _ this h3)
theorem rdl_pe {B:Base}:∀ {css:List (List Value)} {xs:List (List UInt8×List UInt8)},RdL rP2 B css xs→∃ d:List (PE B),d.map (·.1.2)=xs∧css=d.map encP
 | [],[],_=>⟨[],rfl,rfl⟩
 | c::css,x::xs,h=>by
  obtain ⟨d,h1,h2⟩:=rdl_pe h.2
  exact ⟨⟨(c,x),h.1⟩::d,by simp [h1],by simp [h2,encP]⟩
 | [],_::_,h=>h.elim
 | _::_,[],h=>h.elim
theorem rdl_pe' {B:Base}:∀ d:List (PE B),RdL rP2 B (d.map encP) (d.map (·.1.2))
 | []=>trivial
 | x::d=>⟨x.2,rdl_pe' d⟩
theorem pflat_len {B:Base} (d:List (PE B)):(d.map encP).flatten.length=d.length * 2:=by
 induction d with
 | nil=>rfl
 | cons x d ih=>simp only [List.map_cons,List.flatten_cons,List.length_append,encP_len,ih,List.length_cons];omega
theorem pflat_get {B:Base} (d:List (PE B)) (t:Nat) (h:t<d.length * 2):(d.map encP).flatten[t]?=(encP ((d.toArray)[t / 2]!))[t % 2]?:=by
 have hj:t / 2<d.length:=by omega
 have hc:(d.map encP)[t / 2]?=some (encP (d[t / 2]'hj)):=by simp [List.getElem?_eq_getElem hj]
 have h1:=flatK_at (K:=2) (css:=d.map encP) (fun c hc=>by obtain ⟨x,_,rfl⟩:=List.mem_map.1 hc;exact encP_len x) hc
 have e1:(d.toArray)[t / 2]! = d[t / 2]'hj:=by simp [getElem!_pos,hj]
 rw [e1,← h1,List.getElem?_take_of_lt (by omega),List.getElem?_drop]
 congr 1;omega
theorem pflat_list {B:Base} (d:List (PE B)):(flatK encP 2 d.toArray).toList=(d.map encP).flatten:=by
 apply List.ext_getElem?
 intro t
 by_cases h:t<d.length * 2
 ·have e2:t<(flatK encP 2 d.toArray).size:=by simpa using h
  rw [pflat_get d t h]
  have e3:=get_flatK encP 2 d.toArray t (by simpa using h)
  rw [getElem!_pos (flatK encP 2 d.toArray) t e2] at e3
  rw [Array.getElem?_toList,Array.getElem?_eq_getElem e2,e3]
  have e4:t % 2<(encP (d.toArray[t / 2]!)).length:=by rw [encP_len];omega
  rw [List.getElem?_eq_getElem e4,getElem!_pos (encP (d.toArray[t / 2]!)) _ e4]
 ·rw [List.getElem?_eq_none (by simpa using h),List.getElem?_eq_none (by rw [pflat_len];omega)]
section
variable {w0 w:World} {ls:List HP} {e:TypeId} {b cap:Nat} {xs:List (List UInt8×List UInt8)}
theorem St.sortP (H:St w0 w ls) (i:Nat) (hi:ls[i]?=some (HP.ow rP2 e (some ⟨b,0,none⟩) cap xs)):∃ (B:Base) (d:List (PE B)),d.map (·.1.2)=xs∧HoldsK encP 2 w b 0 d.toArray∧b<w.heap.size ∧
  (∀ (d':Array (PE B)) (n:Nat) (os:Array Obj),Sub B (sortWorldK encP 2 w b 0 n d' os)) ∧
  ∀ (d':Array (PE B)) (n:Nat) (os:Array Obj),d'.size=d.length→St w0 (sortWorldK encP 2 w b 0 n d' os) (ls.set i (HP.ow rP2 e (some ⟨b,0,none⟩) cap (d'.toList.map (·.1.2)))):=by
 obtain ⟨hv,B,f,hs,g1,g2,g3⟩:=H
 obtain ⟨css,c0,⟨hl0,⟨h,h'⟩ | ⟨g,cap',cur,h,hb0,hg,hnc,hm,hsz,ht⟩⟩,hS⟩:=g1 i _ hi
 ·cases h
 cases h
 have hil:i<ls.length:=(List.getElem?_eq_some_iff.1 hi).1
 obtain ⟨d,hd,rfl⟩:=rdl_pe c0
 have hlen:d.length=xs.length:=by rw [← hd];simp
 have hn2:rP2.n=2:=rfl
 have hbl:b<w.heap.size:=(Array.getElem?_eq_some_iff.1 hg).1
 have hBb:B b=none:=(g3 i b hil (hS b rfl)).2.1
 have hF:∀ t,t<d.length * 2→cur[t]?=some ((flatK encP 2 d.toArray)[t]!):=by
  intro t h1
  have e2:t<(flatK encP 2 d.toArray).size:=by simpa using h1
  have e3:(flatK encP 2 d.toArray).toList[t]?=some ((flatK encP 2 d.toArray)[t]!):=by
   rw [Array.getElem?_toList,Array.getElem?_eq_getElem e2,getElem!_pos _ t e2]
  rw [pflat_list,← ht,List.getElem?_take_of_lt (by rw [hn2,← hlen];exact h1)] at e3
  simpa using e3
 have hold:∀ (d':Array (PE B)) (n:Nat) (os:Array Obj) k,k<w.heap.size→k≠b→(sortWorldK encP 2 w b 0 n d' os).heap[k]?=w.heap[k]?:=by
  intro d' n os k hk hne
  have hw:(sortWorldK encP 2 w b 0 n d' os).heap=(w.heap.modify b (onCells (putCells id 0 (flatK encP 2 d'))))++os:=rfl
  rw [hw,Array.getElem?_append_left (by simpa using hk),Array.getElem?_modify,if_neg (Ne.symm hne)]
 refine ⟨B,d,hd,fun t h1=>?_,hbl,fun d' n os b' o hb'=>?_,fun d' n os hs2=>?_⟩
 ·have h2:=hF t (by simpa using h1)
  refine ⟨?_,?_⟩
  ·unfold World.cell?
   simp only [hg,Nat.zero_add]
   exact h2
  ·unfold World.frozen?
   simp only [hg]
   simp
 ·rw [hold d' n os b' (hs.lt hb') (fun e=>by rw [e,hBb] at hb';cases hb')];exact hs b' o hb'
 ·have hw:(sortWorldK encP 2 w b 0 n d' os).heap=(w.heap.modify b (onCells (putCells id 0 (flatK encP 2 d'))))++os:=rfl
  have hnew:(sortWorldK encP 2 w b 0 n d' os).heap[b]?=some (.cells (putCells id 0 (flatK encP 2 d') cur) e (0,0)):=by
   rw [hw,Array.getElem?_append_left (by simpa using hbl),Array.getElem?_modify,if_pos rfl,hg];rfl
  have hsz2:w.heap.size≤(sortWorldK encP 2 w b 0 n d' os).heap.size:=by rw [hw];simp
  have hcap:xs.length * 2≤cap * 2:=Nat.mul_le_mul_right _ hnc
  have hpc:((putCells id 0 (flatK encP 2 d') cur).toList).take (xs.length * 2)=(d'.toList.map encP).flatten:=by
   rw [← pflat_list,Array.toArray_toList]
   apply List.ext_getElem?
   intro t
   by_cases h:t<xs.length * 2
   ·have hts:t<cur.size:=by rw [hsz,hn2];omega
    have hfs:t<(flatK encP 2 d').size:=by simp;rw [hs2,hlen];exact h
    rw [List.getElem?_take_of_lt h]
    simp only [Array.getElem?_toList]
    unfold putCells
    rw [Array.getElem?_mapIdx,Array.getElem?_eq_getElem hts,Option.map_some,if_pos ⟨Nat.zero_le _,by omega⟩,Array.getElem?_eq_getElem hfs]
    rw [Nat.sub_zero,getElem!_pos (flatK encP 2 d') t hfs];rfl
   ·rw [List.getElem?_eq_none (by simp;omega),List.getElem?_eq_none (by simp;rw [hs2,hlen];omega)]
  have hSb:f i b:=hS b rfl
  have hA':(HP.ow rP2 e (some ⟨b,0,none⟩) cap (d'.toList.map (·.1.2))).pr B (sortWorldK encP 2 w b 0 n d' os) (f i):=by
   refine ⟨d'.toList.map encP,rdl_pe' _,⟨?_,.inr ⟨b,cap,_,?_,Nat.zero_le _,hnew,?_,hm,?_,?_⟩⟩,fun b' hb'=>hS b' hb'⟩
   ·rw [pflat_len];simp [hn2]
   ·simp [hs2,hlen]
   ·simp [hs2,hlen];exact hnc
   ·rw [← hsz];simp [putCells]
   ·rw [hn2,show (d'.toList.map (·.1.2)).length=xs.length by simp [hs2,hlen]];exact hpc
  refine ⟨⟨hv.1,hv.2.1,hv.2.2.1,Nat.le_trans hv.2.2.2 hsz2⟩,B,f,fun b' o hb'=>?_,fun j C hj=>?_,fun j k b' hj hk=>g2 j k b' (by simpa using hj) (by simpa using hk),fun j b' hj hf=>?_⟩
  ·rw [hold d' n os b' (hs.lt hb') (fun e=>by rw [e,hBb] at hb';cases hb')];exact hs b' o hb'
  ·rw [List.getElem?_set] at hj
   by_cases e1:i=j
   ·subst e1;rw [if_pos rfl,if_pos hil] at hj;cases hj;exact hA'
   ·rw [if_neg e1] at hj
    have hjl:=(List.getElem?_eq_some_iff.1 hj).1
    exact C.loc (g1 j C hj) fun b' hb'=>hold d' n os b' (g3 j b' hjl hb').1 fun e=>e1 (g2 i j b hil hjl hSb (e▸hb'))
  ·have:=g3 j b' (by simpa using hj) hf
   exact ⟨Nat.lt_of_lt_of_le this.1 hsz2,this.2⟩
end
theorem pe_key {B:Base} {w:World} (hs:Sub B w) (x:PE B):∃ q c v,x.1.1=[.slice q x.1.2.1.length c,v]∧Sl w (.slice q x.1.2.1.length c) x.1.2.1.length (bcells x.1.2.1):=by
 obtain ⟨c1,d1,h1,⟨q,c,h2,css,h3,h4⟩,⟨q2,c2,h5,_⟩⟩:=x.2
 refine ⟨q,c,.slice q2 x.1.2.2.length c2,by rw [h1,h2,h5];rfl,?_⟩
 have:=h4 w hs
 rwa [rdl_bytes_flat h3] at this
abbrev P2:=List UInt8×List UInt8
def leP (a b:P2):Bool:=decide (Lib.compareBytes a.1 b.1≤0)
def sortPairs (xs:List P2):List P2:=xs.mergeSort leP
def sortPO (xs:List P2):Option (List P2):=if (xs.map (·.1)).Nodup∧xs.length≤100000000 then some (sortPairs xs) else none
theorem sortPO_some {xs r:List P2} (h:sortPO xs=some r):(xs.map (·.1)).Nodup∧xs.length≤100000000∧r=sortPairs xs:=by
 unfold sortPO at h
 split at h
 ·rename_i h0;cases h;exact ⟨h0.1,h0.2,rfl⟩
 ·cases h
def ltP (a b:P2):Prop:=ltK a.1 b.1
theorem pairs_same:∀ {l l':List P2},l.Pairwise ltP→l'.Pairwise ltP→(∀ k,k∈l↔k∈l')→l=l'
 | [],[],_,_,_=>rfl
 | [],b::l',_,_,h=>absurd ((h b).2 (by simp)) (by simp)
 | a::l,[],_,_,h=>absurd ((h a).1 (by simp)) (by simp)
 | a::l,b::l',h1,h2,h=>by
  obtain ⟨h3,h4⟩:=List.pairwise_cons.1 h1
  obtain ⟨h5,h6⟩:=List.pairwise_cons.1 h2
  have hirr:∀ x,¬ ltP x x:=fun x hx=>by unfold ltP ltK at hx;rw [cmp_self] at hx;omega
  have hab:a=b:=by
   rcases List.mem_cons.1 ((h a).1 (by simp)) with e | e
   ·exact e
   ·rcases List.mem_cons.1 ((h b).2 (by simp)) with e2 | e2
    ·exact e2.symm
    ·exact absurd (show ltP a a from cmp_trans _ _ _ (h3 b e2) (h5 a e)) (hirr a)
  subst hab
  rw [pairs_same h4 h6 fun k=>?_]
  constructor
  ·intro hk
   rcases List.mem_cons.1 ((h k).1 (List.mem_cons_of_mem _ hk)) with e | e
   ·subst e;exact absurd (h3 k hk) (hirr k)
   ·exact e
  ·intro hk
   rcases List.mem_cons.1 ((h k).2 (List.mem_cons_of_mem _ hk)) with e | e
   ·subst e;exact absurd (h5 k hk) (hirr k)
   ·exact e
theorem strict_of {l:List P2} (hn:(l.map (·.1)).Nodup) (h:l.Pairwise (fun a b=>¬ ltK b.1 a.1)):l.Pairwise ltP:=by
 have hn':l.Pairwise (fun a b=>a.1≠b.1):=by rw [List.nodup_iff_pairwise_ne,List.pairwise_map] at hn;exact hn
 refine (h.and hn').imp fun {a b} h=>?_
 obtain ⟨h1,h2⟩:=h
 unfold ltP
 unfold ltK at *
 have h3:=cmp_zero a.1 b.1
 have h4:=cmp_swap a.1 b.1
 have:Lib.compareBytes a.1 b.1≠0:=fun e=>h2 (h3 e)
 omega
theorem leP_trans (a b c:P2) (h1:leP a b=true) (h2:leP b c=true):leP a c=true:=leK_trans a.1 b.1 c.1 h1 h2
theorem leP_total (a b:P2):(leP a b || leP b a)=true:=leK_total a.1 b.1
theorem sortPairs_strict {xs:List P2} (hn:(xs.map (·.1)).Nodup):(sortPairs xs).Pairwise ltP:=by
 have hp:=List.mergeSort_perm xs leP
 refine strict_of ((hp.map _).nodup_iff.2 hn) ?_
 refine (List.pairwise_mergeSort (fun a b c=>leP_trans a b c) (fun a b=>leP_total a b) xs).imp fun {a b} h=>?_
 have h:Lib.compareBytes a.1 b.1≤0:=of_decide_eq_true h
 have:=cmp_swap a.1 b.1
 unfold ltK;omega
theorem sortPairs_eq {xs ks:List P2} (hn:(xs.map (·.1)).Nodup) (hp:ks.Perm xs) (hs:ks.Pairwise (fun a b=>¬ ltK b.1 a.1)):ks=sortPairs xs :=
 pairs_same (strict_of ((hp.map _).nodup_iff.2 hn) hs) (sortPairs_strict hn) fun k=>(hp.trans (List.mergeSort_perm xs leP).symm).mem_iff
theorem sort_pairs {B:Base} {d:List (PE B)} {d':Array (PE B)} (hp:PermIn 0 d.toArray.size d.toArray d') (hs:SortedIn (ltOf cmpP) 0 d.toArray.size d'):d'.size=d.length∧(d'.toList.map (·.1.2)).Perm (d.map (·.1.2))∧(d'.toList.map (·.1.2)).Pairwise (fun a b=>¬ ltK b.1 a.1):=by
 obtain ⟨h1,_,h2⟩:=hp
 have hsz:d'.size=d.length:=by simpa using h1
 have e1:(d'.extract 0 d.toArray.size).toList=d'.toList:=by simp [← hsz]
 have e2:(d.toArray.extract 0 d.toArray.size).toList=d:=by simp
 rw [e1,e2] at h2
 refine ⟨hsz,h2.map _,?_⟩
 rw [List.pairwise_map,List.pairwise_iff_getElem]
 intro i j hi hj hij
 have hi':i<d'.size:=by simpa using hi
 have hj':j<d'.size:=by simpa using hj
 have:=hs i j (Nat.zero_le _) hij (by simpa [hsz] using hj')
 rw [getElem!_pos d' j hj',getElem!_pos d' i hi'] at this
 have h5:¬ (Lib.compareBytes (d'[j]).1.2.1 (d'[i]).1.2.1<0):=of_decide_eq_false this
 show ¬ ltK _ _
 simpa [ltK] using h5
theorem St.apart {w0 w:World} {ls:List HP} {e:TypeId} {b b3 cap:Nat} {xs:List (List UInt8)} {cs:List Value} {t:TypeId} (H:St w0 w ls) (i j:Nat) (hi:ls[i]?=some (HP.ow rStr e (some ⟨b,0,none⟩) cap xs)) (hj:ls[j]?=some (HP.blk b3 cs t)) (hij:i≠j):Blk w b3 cs t∧b3<w.heap.size∧b3≠b:=by
 obtain ⟨_,B,f,hs,g1,g2,g3⟩:=H
 have hil:=(List.getElem?_eq_some_iff.1 hi).1
 have hjl:=(List.getElem?_eq_some_iff.1 hj).1
 obtain ⟨css,c0,_,hS⟩:=g1 i _ hi
 obtain ⟨k1,k2⟩:=g1 j _ hj
 exact ⟨k1,(g3 j b3 hjl k2).1,fun e=>hij (g2 i j b hil hjl (hS b rfl) (e▸k2))⟩
end Go.Tri
namespace Go.Tri
open Go.RowKit Go.WideShapes
section
variable {P:Program} {t e:TypeId} {size bytes:Nat} {z:Value} {ops:Array Oper} {rest:List Oper} {o:Oper} {a:Act} {w0 w:World} {Q:Exit→Act→World→Prop} {ls:List HP}
theorem wl_appendSt (hE:ElemT P t e size bytes z) {s x:Operand} (ho:o.op=.call { callee:=.builtin .append,args:=#[s,x],argTypes:=#[t,t] }) (hgd:Region.wanted o (yielded ops a.tmps)=true) {v u:Value} (hs:a.eval s=v) (hx:a.eval x=u)
  (H:St w0 w ls) (i:Nat) {n m:Nat} {xs news:List Value} (hi:ls[i]?=some (HP.own e size v n xs)) (hsrc:Sl w u m news) (hl:news.length=m * size) (h1:Flat news) (h63:n+m≤maxLen) (hbytes:(n+m) * bytes≤140737488355328)
  (hk:∀ v' w',St w0 w' (ls.set i (HP.own e size v' (n+m) (xs++news)))→wpList P ops Q rest (a.put o.dst v') w'):wpList P ops Q (o::rest) a w:=by
 refine BigFrame.wpList_want hgd fun K' hK'=>?_
 obtain ⟨v',w',hrun,H2⟩:=run_appendSt (P:=P) H i hi hE hsrc hl h1 h63 hbytes o.type
 have ex:execOp a.eval o=(do pure (.value (← Builtin.append_ #[t,t] o.type #[v,u]))):=by
  unfold execOp;rw [ho];simp [resolve,invoke,Go.builtin,hs,hx]
 unfold Oper.wp
 rw [ex,Sem.run_bind,hrun]
 exact hK' _ _ (hk v' w' H2)
end
theorem Chg.trans {g:Nat} {w1 w2 w3:World} (h:Chg g w1 w2) (k:Chg g w2 w3):Chg g w1 w3 :=
 ⟨k.os.trans h.os,k.tape.trans h.tape,k.output.trans h.output,k.size.trans h.size,fun q hq=>(k.oth q hq).trans (h.oth q hq)⟩
theorem Chg.drewN (g:Nat) (w:World) (n:Nat):Chg g w (w.drewN n):=⟨rfl,rfl,rfl,rfl,fun _ _=>rfl⟩
def InsSt (e size:Nat) (w0:World) (l:List HP) (i n q:Nat) (xs cs:List Value) (en:Ending) (w':World):Prop :=
 ∃ v',en=.returned v'∧St w0 w' (l.set i (HP.own e size v' (n+1) (xs.take (q * size)++cs++xs.drop (q * size))))
def insO {α:Type} (xs:List α) (i:Int) (vs:List α):Option (List α):=if 0≤i∧i≤xs.length∧xs.length≤1000∧vs.length=1 then some (xs.take i.toNat++vs++xs.drop i.toNat) else none
theorem ins_st {P:Program} {f:FuncId} {e k:Nat} {α:Type} {R:Rp α} (hk:R.n=k) (hp:0<k)
  (hEnd:∀ {w0 w:World} {l:List HP} {s:Value} {n:Nat} {xs:List Value} (_:St w0 w l) (i:Nat) (_:l[i]?=some (HP.own e k s n xs)) (_:n≤1000) (bv cv:Nat) (cs:List Value) (_:Row w bv 0 cs) (_:cs.length=k) (_:Flat cs),
   Calls P f #[s,.int .i64 n,.slice (some ⟨bv,0,none⟩) 1 (cv+1)] w (InsSt e k w0 l i n n xs cs))
  (hRoom:∀ {w0 w:World} {l:List HP} {g cap n q:Nat} {xs cur:List Value} (_:St w0 w l) (i:Nat) (_:l[i]?=some (HP.own e k (.slice (some ⟨g,0,none⟩) n cap) n xs)) (_:Blk w g cur e) (_:cur.length=cap * k) (_:cur.take (n * k)=xs) (_:Flat xs) (_:cap≤maxLen) (_:n≤1000) (_:q<n) (_:n+1≤cap)
   (bv cv:Nat) (cs cb:List Value) (_:Blk w bv cb e) (_:Row w bv 0 cs) (_:cs.length=k) (_:Flat cs) (_:cb≠[]) (_:bv≠g),
   Calls P f #[.slice (some ⟨g,0,none⟩) n cap,.int .i64 q,.slice (some ⟨bv,0,none⟩) 1 (cv+1)] w (InsSt e k w0 l i n q xs cs))
  (hGrow:∀ {w0 w:World} {l:List HP} {g n q:Nat} {xs:List Value} (_:St w0 w l) (i:Nat) (_:l[i]?=some (HP.own e k (.slice (some ⟨g,0,none⟩) n n) n xs)) (_:Row w g 0 xs) (_:xs.length=n * k) (_:Flat xs) (_:g<w.heap.size) (_:n≤1000) (_:q<n)
   (bv cv:Nat) (cs:List Value) (_:Row w bv 0 cs) (_:cs.length=k) (_:Flat cs) (_:bv<w.heap.size),
   Calls P f #[.slice (some ⟨g,0,none⟩) n n,.int .i64 q,.slice (some ⟨bv,0,none⟩) 1 (cv+1)] w (InsSt e k w0 l i n q xs cs))
  {p q:Option Addr} {cap c2:Nat} {xs vs zs:List α} {i:Int} (em:insO xs i vs=some zs) {w0 w:World} {l:List HP} (H:St w0 w (HP.ow R e p cap xs::HP.ow R e q c2 vs::l)) :
  Calls P f [.slice p xs.length cap,.int .i64 i,.slice q vs.length c2].toArray w fun en w'=>∃ v,en=.returned v∧∃ (p':Option Addr) (c':Nat),v=.slice p' zs.length c'∧St w0 w' (HP.ow R e p' c' zs::l):=by
 subst hk
 unfold insO at em
 split at em
 ·rename_i hc
  obtain ⟨hi0,hil,hn,hv1⟩:=hc
  cases em
  obtain ⟨x,rfl⟩:∃ x,vs=[x]:=List.length_eq_one_iff.1 hv1
  obtain ⟨k,rfl⟩:=Int.eq_ofNat_of_zero_le hi0
  simp only [Int.toNat_natCast]
  obtain ⟨css,c1,H1⟩:=H.owOpen 0 rfl
  obtain ⟨dss,d1,H2⟩:=H1.owOpen 2 rfl
  simp only [List.set_cons_succ,List.set_cons_zero] at H2
  have o1:=H2.owns 2 rfl
  have o2:=H2.owns 3 rfl
  have hfx:Flat css.flatten:=by obtain ⟨B,S,hs,h,_⟩:=H2.get 1 (A:=HP.rdl R css xs) rfl;exact RdL.flat h
  have hfd:Flat dss.flatten:=by obtain ⟨B,S,hs,h,_⟩:=H2.get 0 (A:=HP.rdl R dss [x]) rfl;exact RdL.flat h
  have hdl:dss.flatten.length=R.n:=by rw [d1];simp
  have hne:∀ b,(Value.slice p xs.length cap).ownBlock=some b→(Value.slice q [x].length c2).ownBlock=some b→False:=by
   obtain ⟨hv,B,f,hs,h1,h2,h3⟩:=H2
   intro b hb hb'
   have a1:=(h1 2 _ rfl).2 b hb
   have a2:=(h1 3 _ rfl).2 b hb'
   have:=h2 2 3 b (by simp) (by simp) a1 a2
   omega
  obtain ⟨_,⟨h,h'⟩ | ⟨g2,cap2,cur2,h,_,hg2,hc2,hm2,hs2,ht2⟩⟩:=o2
  ·simp at h'
  cases h
  obtain ⟨cv,rfl⟩:∃ cv,c2=cv+1:=⟨c2 - 1,by simp at hc2;omega⟩
  have hb2:Blk w g2 cur2.toList e:=by unfold Blk;simpa using hg2
  have hrow2:Row w g2 0 dss.flatten:=by
   have:=hb2.row
   rw [← List.take_append_drop ([x].length * R.n) cur2.toList,ht2] at this
   exact this.left
  have hcb:∀ (cur2:Array Value) (cv:Nat),cur2.size=(cv+1) * R.n→cur2.toList≠[]:=fun cur2 cv hs h0=>by
   have h1:cur2.size=0:=by rw [← Array.length_toList,h0];rfl
   rw [h1] at hs
   exact absurd hs (Nat.ne_of_lt (Nat.mul_pos (Nat.succ_pos cv) hp))
  have key:Calls P f #[.slice p xs.length cap,.int .i64 (k:Int),.slice (some ⟨g2,0,none⟩) 1 (cv+1)] w (InsSt e R.n w0 (HP.rdl R dss [x]::HP.rdl R css xs::HP.own e R.n (.slice p xs.length cap) xs.length css.flatten::HP.own e R.n (.slice (some ⟨g2,0,none⟩) [x].length (cv+1)) [x].length dss.flatten::l) 2 xs.length k css.flatten dss.flatten):=by
   by_cases hk:k=xs.length
   ·subst hk
    exact hEnd H2 2 rfl hn g2 cv _ hrow2 hdl hfd
   ·obtain ⟨_,⟨h,h'⟩ | ⟨g,cap',cur,h,_,hg,hc,hm,hs,ht⟩⟩:=o1
    ·simp only [h',Int.ofNat_zero] at hil;omega
    cases h
    have hbk:Blk w g cur.toList e:=by unfold Blk;simpa using hg
    have hgb:g2≠g:=fun he=>hne g rfl (by rw [he];rfl)
    by_cases hr:xs.length+1≤cap
    ·exact hRoom H2 2 rfl hbk (by simpa using hs) ht hfx hm hn (by omega) hr g2 cv _ cur2.toList hb2 hrow2 hdl hfd (hcb cur2 cv hs2) hgb
    ·obtain rfl:cap=xs.length:=by omega
     have hrow:Row w g 0 css.flatten:=by
      have:=hbk.row
      rw [← List.take_append_drop (xs.length * R.n) cur.toList,ht] at this
      exact this.left
     exact hGrow H2 2 rfl hrow c1 hfx hbk.lt hn (by omega) g2 cv _ hrow2 hdl hfd hb2.lt
  refine key.mono ?_
  rintro en w' ⟨v',rfl,H3⟩
  simp only [List.set_cons_succ,List.set_cons_zero] at H3
  obtain ⟨p',c',rfl,_,_⟩:=H3.ownForm 2 rfl
  have hzl:(xs.take k++[x]++xs.drop k).length=xs.length+1:=by simp;omega
  refine ⟨_,rfl,p',c',by rw [hzl],?_⟩
  obtain ⟨B,H4⟩:=H3.out
  obtain ⟨_,r1⟩:=H4.at (i:=0) (A:=HP.rdl R dss [x]) rfl
  obtain ⟨_,r2⟩:=H4.at (i:=1) (A:=HP.rdl R css xs) rfl
  have r3:RdL R B (css.take k++dss++css.drop k) (xs.take k++[x]++xs.drop k):=(RdL.append (RdL.append (RdL.take k r2) r1) (RdL.drop k r2))
  have hfl:(css.take k++dss++css.drop k).flatten=css.flatten.take (k * R.n)++dss.flatten++css.flatten.drop (k * R.n):=by
   rw [List.flatten_append,List.flatten_append,flat_take k r2,flat_drop k r2]
  have H5:=(H4.set 2 (C:=HP.ow R e p' c' (xs.take k++[x]++xs.drop k)) rfl fun S h=>⟨_,r3,by rw [hfl,hzl];exact h⟩).st
  simp only [List.set_cons_succ,List.set_cons_zero] at H5
  exact H5.pm 4 [2] rfl
 ·cases em
end Go.Tri
namespace Go.Tri
open Go.RowKit
section
variable {P:Program} {t e:TypeId} {w0 w:World} {ls:List HP} {ops:Array Oper} {rest:List Oper} {o:Oper} {a:Act} {W:List Oper→Act→World→Prop} {N:Fs} {l:List (Nat×Value)} {d:Nat} {x y:Operand}
theorem copyF_cells {A C:List Value} {xs zs:List UInt8} {n q:Nat} (hA:A.length=q) (hn:xs.length=n):(A++(bcells xs++C)).take q++(bcells zs).take n++(A++(bcells xs++C)).drop (q+((bcells zs).take n).length)=A++(bcells (putAt xs 0 (zs.take n))++C):=by
 subst hA hn
 have e1:((bcells zs).take xs.length).length≤(bcells xs).length:=by rw [List.length_take,bcells_length,bcells_length];omega
 rw [List.take_left' rfl,List.drop_append,List.drop_of_length_le (by omega),List.nil_append,Nat.add_sub_cancel_left,List.drop_append_of_le_length e1,List.append_assoc]
 congr 1
 rw [← List.append_assoc]
 congr 1
 simp [putAt,bcells,List.map_take]
theorem s_cpyF (k:Walk P ops W) (F:Fr N a l) (hg:o.guard=none) (hd:o.dst=some d) (hN:Nat.blt d N.n=true) {t':TypeId} {bytes:Nat} {z:Value} (hE:ElemT P t e 1 bytes z) (ho:o.op=.call { callee:=.builtin .copy,args:=#[x,y],argTypes:=#[t,t'] })
  {p p2:Option Addr} {b q dn n dc c2:Nat} {A C:List Value} {xs zs:List UInt8} {u:TypeId} (hx:ev l x=some (.slice p dn dc)) (hdn:dn=n) (hp:p=some ⟨b,q,none⟩) (hy:ev l y=some (.slice p2 zs.length c2)) (H:St w0 w ls) (i j:Nat) (hi:ls[i]?=some (HP.blk b (A++(bcells xs++C)) u)) (hj:ls[j]?=some (HP.sl rByte p2 c2 zs)) (hA:A.length=q) (hn:xs.length=n)
  (hk:∀ w' a',St w0 w' (ls.set i (HP.blk b (A++(bcells (putAt xs 0 (zs.take n))++C)) u))→Fr N a' ((d,.int .i64 ((min zs.length n:Nat):Int))::l)→W rest a' w'):W (o::rest) a w:=by
 subst hp hdn
 have hs:=H.slBy j hj
 have hflat:Flat (bcells zs):=bcells_flat _
 have hr:=run_copyBlk (P:=P) (t':=t') (ty:=o.type) (dc:=dc) hE (H.blk i hi) hs (bcells_length _) (d:=q) (dn:=dn) (by simp [bcells_length];omega) hflat
 rw [copyF_cells hA hn] at hr
 refine s_val (w':=w.setRow b (A++(bcells (putAt xs 0 (zs.take dn))++C)).toArray) k F hg hd hN (by rw [ho];rfl) (v:=.int .i64 ((min zs.length dn:Nat):Int)) ?_ fun a' F'=>hk _ a' (H.setBlk i hi _) F'
 unfold execOp
 simp [ho,resolve,invoke,builtin,F.eval hx,F.eval hy,hr]
end
section
variable {κ β:Type} [DecidableEq κ] {R:Rp β} {P:Program} {T K E:TypeId} {ek:κ→Value} {ok:κ→Prop} {agg:Bool} {w0 w w':World} {p:Option Nat} {m:κ→Option β} {es:List (κ×(List Value×β))} {ls:List HP}
def HP.fmx (p:Option Nat) (ek:κ→Value) (agg:Bool) (R:Rp β) (ok:κ→Prop) (es:List (κ×(List Value×β))) (m:κ→Option β):HP :=
 HP.pe (fun B=>EsOk R ok B es m∧match p with | none=>es=[] | some b=>∃ raw c,B b=some (.map raw c)∧MRaw ek agg es raw c)
  (fun {B B'} h hl=>⟨h.1.mono hl,by
   have h2:=h.2
   cases p with
   | none=>exact h2
   | some b =>
    obtain ⟨raw,c,h3,h4⟩:=h2
    exact ⟨raw,c,hl _ _ h3,h4⟩⟩)
def HP.fm (p:Option Nat) (ek:κ→Value) (agg:Bool) (R:Rp β) (ok:κ→Prop) (m:κ→Option β):HP :=
 HP.pe (fun B=>∃ es,(HP.fmx p ek agg R ok es m).pr B default (fun _=>False))
  (fun {B B'} ⟨es,h⟩ hl=>⟨es,HP.mono (HP.fmx p ek agg R ok es m) (w:=default) (S:=fun _=>False) h hl⟩)
theorem St.fmOpen (H:St w0 w ls) (i:Nat) (hi:ls[i]?=some (HP.fm p ek agg R ok m)):∃ es,St w0 w (HP.fmx p ek agg R ok es m::ls):=by
 obtain ⟨B,H⟩:=H.out
 obtain ⟨S,es,h⟩:=H.at hi
 exact ⟨es,(H.more (A:=HP.fmx p ek agg R ok es m) h).st⟩
theorem St.fmGet (H:St w0 w ls) (i:Nat) (hi:ls[i]?=some (HP.fmx p ek agg R ok es m)) (k:κ) {zc:List Value} {z0:β} (hz:∀ B,R.rd B zc z0):∃ cs,esGet es k zc=cs∧St w0 w (HP.rc R cs ((m k).getD z0)::ls):=by
 obtain ⟨B,H⟩:=H.out
 obtain ⟨S,h⟩:=H.at hi
 refine ⟨_,rfl,(H.more (A:=HP.rc R (esGet es k zc) ((m k).getD z0)) ?_).st⟩
 show R.rd B _ _
 rw [h.1.get k]
 unfold esGet
 cases e:aget k es with
 | none=>exact hz B
 | some q=>exact h.1.rd _ (aget_mem' e)
theorem fm_look (hT:P.underlying T=some (.map K E)) (hK:KeyT P K ek ok) {zc:List Value} (hz:∀ w,(zeroValue E).run P w=.ok (mkV agg zc) w) (H:St w0 w ls) (i:Nat) (hi:ls[i]?=some (HP.fmx p ek agg R ok es m)) (k:κ) (hkk:ok k) (c:Bool) :
  (Instr.lookup T (.map p) (ek k) c).run P w=.ok (if c then .tuple #[mkV agg (esGet es k zc),.bool (m k).isSome] else mkV agg (esGet es k zc)) w:=by
 obtain ⟨B,S,hs,⟨hes,hm⟩,_⟩:=H.get i hi
 cases p with
 | some b =>
  obtain ⟨raw,cc,h3,h4⟩:=hm
  rw [run_lookupW hT hK hz ⟨raw,cc,hs _ _ h3,h4.ent,h4.nd,h4.lt⟩ (es_ok hes.ok) k hkk]
  rw [hes.get k]
  unfold esGet
  have:=aget_map (vv:=fun q:List Value×β=>mkV agg q.1) k es
  rw [this]
  cases aget k es<;>cases c<;>rfl
 | none =>
  have hm:es=[]:=hm
  have h1:=hK.check true k w hkk
  have h2:=hK.find k [] [] w hkk (by simp) rfl
  rw [hes.get k]
  unfold Instr.lookup
  rw [Sem.run_bind,run_underlying hT]
  simp only [Result.andThen_ok]
  cases c<;>simp [h1,h2,findI,hz,aget,esGet,hm]
variable {o:Oper} {a:Act} {N:Fs} {sl:List (Nat×Value)} {x y:Operand}
theorem y_fmGet2 {zc cs:List Value} (F:Fr N a sl) (hT:P.underlying T=some (.map K E)) (hK:KeyT P K ek ok) (hz:∀ w,(zeroValue E).run P w=.ok (mkV agg zc) w) (ho:o.op=.lookup T x y true) (H:St w0 w ls) (i:Nat) (hi:ls[i]?=some (HP.fmx p ek agg R ok es m)) (hx:ev sl x=some (.map p)) {k:κ} (hy:ev sl y=some (ek k)) (hkk:ok k) (hcs:esGet es k zc=cs) :
  (execOp a.eval o).run P w=.ok (.value (.tuple [mkV agg cs,.bool (m k).isSome].toArray)) w:=by
 unfold execOp
 simp only [ho,F.eval hx,F.eval hy,Sem.run_bind,fm_look hT hK hz H i hi k hkk true,Result.andThen_ok,Sem.run_pure,hcs]
 rfl
theorem St.sealFm (H:St w0 w ls) (i:Nat) (hi:ls[i]?=some (HP.mm p ek agg R ok m)):(HP.fm p ek agg R ok m).pr (baseOf w) w (fun _=>False):=by
 obtain ⟨B,S,hs,⟨es,h1,h2⟩,_⟩:=H.get i hi
 refine ⟨es,h1.mono (sub_le hs),?_⟩
 cases p with
 | none=>exact h2
 | some b =>
  obtain ⟨⟨es',c,h3,h4,h5,h6⟩,_⟩:=h2
  exact ⟨es',c,h3,h4,h5,h6⟩
variable {raw:Array MapEntry} {c:Nat} {vis:List Nat} {ops:Array Oper} {rest:List Oper} {W:List Oper→Act→World→Prop} {d:Nat}
end
section
variable {w0 w w':World} {l:List HP} {n0:Nat}
theorem St.slP2W {p:Option Addr} {cap:Nat} {xs:List (List UInt8×List UInt8)} (H:St w0 w l) (i:Nat) (hi:l[i]?=some (HP.sl (rP2N n0) p cap xs)):St w0 w (HP.sl rP2 p cap xs::l) :=
 H.more fun B _ g=>by
  obtain ⟨S,h⟩:=g i _ hi
  exact sl_conv (fun _ _ h=>h) (fun h=>p2N_weak h) h
theorem St.rcP2W {cs:List Value} {x:List UInt8×List UInt8} (H:St w0 w l) (i:Nat) (hi:l[i]?=some (HP.rc (rP2N n0) cs x)):St w0 w (HP.rc rP2 cs x::l) :=
 H.more fun B _ g=>by
  obtain ⟨S,h⟩:=g i _ hi
  exact p2N_weak h
end
end Go.Tri
