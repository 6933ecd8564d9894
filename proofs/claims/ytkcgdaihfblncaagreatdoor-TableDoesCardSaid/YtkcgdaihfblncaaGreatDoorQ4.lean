/- Texts A5, N, S, Op, Seal, Cm, Arr. -/
import Derived.Test.YtkcgdaihfblncaaGreatDoorQ3
import Derived.Laws.IdiomStrings
import Derived.Test.YtkcgdaihfblncaaGreatDoorQ0
set_option linter.unusedSimpArgs false
set_option linter.unusedVariables false
/- Data: lists whose elements are owned slices of bytes;bytes copied over an owned slice. -/
namespace Go.Tri
open Go.RowKit
theorem St.split {w0 w:World} {A:HP} {l:List HP} (H:St w0 w (A::l)) {ι:Type} {C D:ι->HP} (hS:∀ {B:Base} {S:Nat->Prop},A.pr B w S->∃ i S1 S2,(C i).pr B w S1/\(D i).pr B w S2/\(∀ b,S1 b->S2 b->False)/\(∀ b,S1 b->S b)/\(∀ b,S2 b->S b)):∃ i,St w0 w (C i::D i::l):=by
 obtain ⟨hv,B,f,hs,h1,h2,h3⟩:=H
 obtain ⟨i,S1,S2,hC,hD,hd,s1,s2⟩:=hS (h1 0 A rfl)
 refine ⟨i,hv,B,fun j=>match j with | 0=>S1 | 1=>S2 | j+2=>f (j+1),hs,?_,?_,?_⟩
 ·intro j E hj
  match j with
  | 0=>simp at hj;subst hj;exact hC
  | 1=>simp at hj;subst hj;exact hD
  | j+2=>exact h1 (j+1) E (by simpa using hj)
 ·intro j k b hj hk hfj hfk
  simp only [List.length_cons] at hj hk
  match j,k with
  | 0,0=>rfl
  | 0,1=>exact (hd b hfj hfk).elim
  | 0,k+2=>have:=h2 0 (k+1) b (by simp) (by simp;omega) (s1 b hfj) hfk;omega
  | 1,0=>exact (hd b hfk hfj).elim
  | 1,1=>rfl
  | 1,k+2=>have:=h2 0 (k+1) b (by simp) (by simp;omega) (s2 b hfj) hfk;omega
  | j+2,0=>have:=h2 0 (j+1) b (by simp) (by simp;omega) (s1 b hfk) hfj;omega
  | j+2,1=>have:=h2 0 (j+1) b (by simp) (by simp;omega) (s2 b hfk) hfj;omega
  | j+2,k+2=>have:=h2 (j+1) (k+1) b (by simp;omega) (by simp;omega) hfj hfk;omega
 ·intro j b hj hf
  simp only [List.length_cons] at hj
  match j with
  | 0=>exact h3 0 b (by simp) (s1 b hf)
  | 1=>exact h3 0 b (by simp) (s2 b hf)
  | j+2=>exact h3 (j+1) b (by simp;omega) hf
def HP.os (e1:TypeId) (css:List (List Value)) (xs:List (List UInt8)) (h:Nat->Prop):HP :=
 HP.of (fun B w S=>∃ f:Nat->Nat->Prop,css.length=xs.length/\(∀ (i:Nat) (cs:List Value) (x:List UInt8),css[i]?=some cs->xs[i]?=some x->∃ q c,cs=[.slice q x.length c]/\(¬ h i->(HP.ow rByte e1 q c x).pr B w (f i)))/\(∀ i j b,f i b->f j b->i=j)/\(∀ i b,f i b->S b))
  (fun ⟨f,h0,h1,h2,h3⟩ hS=>⟨f,h0,fun i cs x hc hx=>by
   obtain ⟨q,c,e,ho⟩:=h1 i cs x hc hx
   exact ⟨q,c,e,fun hn=>HP.loc _ (ho hn) fun b hb=>hS b (h3 i b hb)⟩,h2,h3⟩)
  (fun ⟨f,h0,h1,h2⟩ hl=>⟨f,h0,fun i cs x hc hx=>by
   obtain ⟨q,c,e,ho⟩:=h1 i cs x hc hx
   exact ⟨q,c,e,fun hn=>HP.mono _ (ho hn) hl⟩,h2⟩)
section
variable {w0 w:World} {l:List HP} {e1:TypeId} {css:List (List Value)} {xs:List (List UInt8)}
end
section
variable {P:Program} {t e:TypeId} {w0 w:World} {ls:List HP} {ops:Array Oper} {rest:List Oper} {o:Oper} {a:Act} {W:List Oper->Act->World->Prop} {N:Fs} {l:List (Nat×Value)} {d:Nat} {x y:Operand}
theorem aK7 {t' ty:TypeId} {bytes:Nat} {z:Value} (hE:ElemT P t e 1 bytes z) (H:St w0 w ls) (i:Nat) {p:Option Addr} {cap:Nat} {xs zs:List UInt8} {e0:TypeId} (hi:ls[i]?=some (HP.ow rByte e0 p cap xs)) {dp:Option Addr} {q dn dc:Nat} (hdp:0<dn->∃ b,p=some ⟨b,0,none⟩/\dp=some ⟨b,q,none⟩) (hfit:q+dn<=xs.length) {p2:Option Addr} {c2:Nat} (hs:Sl w (.slice p2 zs.length c2) zs.length (aQ zs)) :
  ∃ w',(Builtin.copy_ #[t,t'] ty #[.slice dp dn dc,.slice p2 zs.length c2]).run P w=.ok (.int .i64 ((min zs.length dn:Nat):Int)) w'/\St w0 w' (ls.set i (HP.ow rByte e0 p cap (putAt xs q (zs.take dn)))):=by
 by_cases h0:dn=0
 ·subst h0
  have hfc:(Builtin.firstCells 1 0 (.slice p2 zs.length c2)).run P w=.ok #[] w:=by
   cases p2 with
   | none=>rfl
   | some ad =>
    have:=run_firstCells_some (P:=P) (w:=w) 1 0 ad zs.length c2 [] rfl (by simp)
    simpa using this
  refine ⟨w,?_,?_⟩
  ·unfold Builtin.copy_
   cases dp with
   | none=>simp [Go.run_underlying hE.ht,Builtin.lenOf,hE.run_size,hfc,goInt]
   | some ad =>
    have hst:(storeCells ad []).run P w=.ok () w:=rfl
    simp [Go.run_underlying hE.ht,Builtin.lenOf,hE.run_size,hfc,goInt,hst]
  ·have:putAt xs q (zs.take 0)=xs:=by simp [putAt]
   rw [this,set_same hi];exact H
 ·obtain ⟨b,rfl,rfl⟩:=hdp (by omega)
  obtain ⟨B,HB⟩:=H.out
  obtain ⟨S0,css0,c0,⟨hl0,⟨h,h'⟩ | ⟨g,cap',cur,h,hb0,hg,hnc,hm,hsz,ht⟩⟩,hS⟩:=HB.at hi
  ·cases h
  ·cases h
   have e1:rByte.n=1:=rfl
   rw [gA c0] at ht hl0
   rw [e1,Nat.mul_one] at ht hsz hl0
   have hb:Blk w b cur.toList e0:=by unfold Blk;simpa using hg
   have hflat:Flat (aQ zs):=wT _
   have hszl:cur.toList.length=cap:=by simpa using hsz
   have hr:=aIq (P:=P) (t':=t') (ty:=ty) (dc:=dc) hE hb hs (aR _) (d:=q) (dn:=dn) (by omega) hflat
   refine ⟨_,hr,(HB.chg (A':=HP.ow rByte e0 (some ⟨b,0,none⟩) cap (putAt xs q (zs.take dn))) i hi (g:=b) (fun S hA=>by obtain ⟨_,_,_,h⟩:=hA;exact h b rfl) (Chg.setRow w b _) (fun S hA=>?_)).st⟩
   have hSb:S b:=by obtain ⟨_,_,_,h⟩:=hA;exact h b rfl
   have hlen:(putAt xs q (zs.take dn)).length=xs.length:=qU _ _ _ (by simp;omega)
   refine ⟨_,gK B (putAt xs q (zs.take dn)),⟨?_,.inr ⟨b,cap,_,by rw [hlen],Nat.zero_le _,hb.set_same _,by rw [hlen];exact hnc,hm,?_,?_⟩⟩,fun b' hb'=>by simp [Value.ownBlock] at hb';subst hb';exact hSb⟩
   ·rw [gA (gK B _),aR,e1,Nat.mul_one]
   ·simp only [List.size_toArray,List.length_append,List.length_take,List.length_drop,hszl,aR,e1,Nat.mul_one];omega
   ·rw [gA (gK B _),e1,Nat.mul_one,hlen]
    have hx:aQ xs=cur.toList.take xs.length:=ht.symm
    have h1:aQ (putAt xs q (zs.take dn))=(aQ xs).take q++(aQ zs).take dn++(aQ xs).drop (q+((aQ zs).take dn).length):=by
     simp only [putAt,aQ,List.map_append,List.map_take,List.map_drop,List.length_take,List.length_map]
    rw [h1,hx]
    have h2:(List.take dn (aQ zs)).length<=dn:=by rw [List.length_take];exact Nat.min_le_left _ _
    simp only [List.toList_toArray]
    rw [List.take_append,List.take_append,List.take_take,List.length_take,hszl,List.drop_take,List.length_append,List.length_take,hszl]
    have e2:min q cap=q:=by omega
    simp only [e2]
    have e3:List.take (xs.length-q) (List.take dn (aQ zs))=List.take dn (aQ zs):=List.take_of_length_le (by omega)
    rw [e3,List.take_take,Nat.min_eq_left (show q<=xs.length by omega)]
    rw [Nat.min_eq_right (show q<=xs.length by omega)]
theorem uP (k:bN P ops W) (F:Fr N a l) (hg:o.guard=none) (hd:o.dst=some d) (hN:Nat.blt d N.n=true) {t':TypeId} {bytes:Nat} {z:Value} (hE:ElemT P t e 1 bytes z) (ho:o.op=.call { callee:=.builtin .copy,args:=#[x,y],argTypes:=#[t,t'] })
  (H:St w0 w ls) (i j:Nat) {p:Option Addr} {cap:Nat} {xs zs:List UInt8} {e0:TypeId} (hi:ls[i]?=some (HP.ow rByte e0 p cap xs)) {dp:Option Addr} {q dn dc:Nat} (hx:ev l x=some (.slice dp dn dc)) (hdp:0<dn->∃ b,p=some ⟨b,0,none⟩/\dp=some ⟨b,q,none⟩) (hfit:q+dn<=xs.length) {p2:Option Addr} {c2:Nat} (hy:ev l y=some (.slice p2 zs.length c2)) (hj:ls[j]?=some (HP.sl rByte p2 c2 zs))
  (hk:∀ w' a',St w0 w' (ls.set i (HP.ow rByte e0 p cap (putAt xs q (zs.take dn))))->Fr N a' ((d,.int .i64 ((min zs.length dn:Nat):Int))::l)->W rest a' w'):W (o::rest) a w:=by
 obtain ⟨B,S,hs,⟨css,c1,c2'⟩,_⟩:=H.get j hj
 have hsl:=c2' w hs
 rw [gA c1] at hsl
 obtain ⟨w',hr,H'⟩:=aK7 (P:=P) (t':=t') (ty:=o.type) (dc:=dc) hE H i hi hdp hfit hsl
 refine bD (v:=.int .i64 ((min zs.length dn:Nat):Int)) (w':=w') k F hg hd hN (by rw [ho];rfl) ?_ fun a' F'=>hk w' a' H' F'
 unfold execOp
 simp [ho,resolve,invoke,builtin,F.eval hx,F.eval hy,hr]
theorem qH {p:Option Addr} {cap:Nat} {xs zs:List UInt8} {e0:TypeId} (H:St w0 w ls) (i:Nat) (hi:ls[i]?=some (HP.ow rByte e0 p cap xs)) {lo hi':Int} (hz:aY xs lo hi'=some zs):(0<zs.length->∃ b,p=some ⟨b,0,none⟩/\shp p cap lo.toNat 1=some ⟨b,lo.toNat,none⟩)/\lo.toNat+zs.length<=xs.length:=by
 obtain ⟨h1,rfl,h2⟩:=gD hz
 have hcap:=H.owForm i hi
 have hlen:((xs.take hi'.toNat).drop lo.toNat).length=hi'.toNat-lo.toNat:=by simp;omega
 refine ⟨fun h0=>?_,by rw [hlen];omega⟩
 rw [hlen] at h0
 have hx:0<xs.length:=by omega
 obtain ⟨b,rfl⟩:=H.owP i hi (List.getElem?_eq_getElem hx)
 refine ⟨b,rfl,?_⟩
 rw [aNx (by omega)]
 simp
end
section
variable {P:Program} {t e e1:TypeId} {w0 w:World} {ls:List HP} {ops:Array Oper} {rest:List Oper} {o:Oper} {a:Act} {W:List Oper->Act->World->Prop} {N:Fs} {l:List (Nat×Value)} {d:Nat} {x y:Operand}
end
theorem aJo {P:Program} {w:World} {t t' e:TypeId} {p:Option Addr} {cap:Nat} {l:List UInt8} (hs:P.underlying t=some (.slice e)) (he:P.underlying e=some (.int .u8)) (hd:P.underlying t'=some .string)
  (h:Sl w (.slice p l.length cap) l.length (aQ l)):(convert t t' (.slice p l.length cap)).run P w=.ok (.string (txb l)) w:=by
 generalize hv:(Value.slice p l.length cap)=v at h ⊢
 rcases h with ⟨h,hn,_⟩ | ⟨ad,c,h,hn,_⟩ | ⟨b,off,c,h,_,hr⟩
 ·subst h
  obtain rfl:l=[]:=by cases l<;>simp_all
  injection hv with h1 h2 h3
  rw [run_convert_bytes_string w t t' e _ _ _ hs he hd];rfl
 ·subst h
  obtain rfl:l=[]:=by cases l<;>simp_all
  injection hv with h1 h2 h3
  rw [run_convert_bytes_string w t t' e _ _ _ hs he hd]
  rw [run_bytesToString w _ 0 c [] (run_loadCells_list (P:=P) w _ [] (fun j v hj=>by simp at hj))];rfl
 ·subst h
  exact run_convert_bytes_back w t t' e ⟨b,off,none⟩ c l hs he hd fun j hj=>by
   rw [dQ];exact hr j _ (by simp [aQ,hj])
theorem uV {P:Program} {o:Oper} {a:Act} {w w0:World} {N:Fs} {sl:List (Nat×Value)} {x:Operand} {t t' e:TypeId} {p:Option Addr} {cap:Nat} {xs:List UInt8} {ls:List HP} (F:Fr N a sl) (hs:P.underlying t=some (.slice e)) (hd:P.underlying t'=some .string) (he:P.underlying e=some (.int .u8)) (ho:o.op=.convert t t' x) (hx:ev sl x=some (.slice p xs.length cap))
  (H:St w0 w ls) (i:Nat) (hi:ls[i]?=some (HP.sl rByte p cap xs)):(execOp a.eval o).run P w=.ok (.value (.string (txb xs))) w:=by
 obtain ⟨B,S,hw,⟨css,h1,h2⟩,_⟩:=H.get i hi
 have h3:=h2 w hw
 rw [gA h1] at h3
 unfold execOp
 simp only [ho,F.eval hx]
 simp_all [aJo]
def aT (l m:List UInt8):Bool:=Op.bytesLess l m
def cA (l m:List UInt8):Bool:=aT l m || l==m
def eY (l m:List UInt8):Bool:=!(aT l m || l==m)
def mL (l m:List UInt8):Bool:=!aT l m
section
variable {P:Program} {o:Oper} {a:Act} {w:World} {N:Fs} {sl:List (Nat×Value)} {x y:Operand} {t t':TypeId} {l m:List UInt8}
theorem aHu (F:Fr N a sl) (ho:o.op=.binOp .lss t x y t') (hx:ev sl x=some (.string (txb l))) (hy:ev sl y=some (.string (txb m))):(execOp a.eval o).run P w=.ok (.value (.bool (aT l m))) w:=by
 unfold execOp
 simp [ho,F.eval hx,F.eval hy,eqGuard,binOp,Op.stringOp,mD,aT]
theorem zI (F:Fr N a sl) (ho:o.op=.binOp .leq t x y t') (hx:ev sl x=some (.string (txb l))) (hy:ev sl y=some (.string (txb m))):(execOp a.eval o).run P w=.ok (.value (.bool (cA l m))) w:=by
 unfold execOp
 simp [ho,F.eval hx,F.eval hy,eqGuard,binOp,Op.stringOp,mD,aT,cA]
theorem uS (F:Fr N a sl) (ho:o.op=.binOp .gtr t x y t') (hx:ev sl x=some (.string (txb l))) (hy:ev sl y=some (.string (txb m))):(execOp a.eval o).run P w=.ok (.value (.bool (eY l m))) w:=by
 unfold execOp
 simp [ho,F.eval hx,F.eval hy,eqGuard,binOp,Op.stringOp,mD,aT,eY]
theorem aKh (F:Fr N a sl) (ho:o.op=.binOp .geq t x y t') (hx:ev sl x=some (.string (txb l))) (hy:ev sl y=some (.string (txb m))):(execOp a.eval o).run P w=.ok (.value (.bool (mL l m))) w:=by
 unfold execOp
 simp [ho,F.eval hx,F.eval hy,eqGuard,binOp,Op.stringOp,mD,aT,mL]
theorem aNy (F:Fr N a sl) (ho:o.op=.index t x y) (ht:P.underlying t=some .string) (hx:ev sl x=some (.string (txb l))) {k:IntKind} {i:Int} (hy:ev sl y=some (.int k i)) {c:UInt8} (hc:aD l i=some c):(execOp a.eval o).run P w=.ok (.value (.int .u8 ((c.toNat:Nat):Int))) w:=by
 obtain ⟨h0,h1⟩:=eR hc
 grind [aMj]
theorem aMk (F:Fr N a sl) {lo hi:Operand} {k k':IntKind} {i j:Int} (ho:o.op=.slice t x (some lo) (some hi) none) (ht:P.underlying t=some .string) (hx:ev sl x=some (.string (txb l))) (hl:ev sl lo=some (.int k i)) (hh:ev sl hi=some (.int k' j)) {z:List UInt8} (hz:aY l i j=some z):(execOp a.eval o).run P w=.ok (.value (.string (txb z))) w:=by
 obtain ⟨⟨h0,h1,h2⟩,rfl,_⟩:=gD hz
 grind [aP2]
theorem aL8 (F:Fr N a sl) {lo:Operand} {k:IntKind} {i:Int} (ho:o.op=.slice t x (some lo) none none) (ht:P.underlying t=some .string) (hx:ev sl x=some (.string (txb l))) (hl:ev sl lo=some (.int k i)) {z:List UInt8} (hz:aY l i ((l.length:Nat):Int)=some z):(execOp a.eval o).run P w=.ok (.value (.string (txb z))) w:=by
 obtain ⟨⟨h0,h1,h2⟩,rfl,_⟩:=gD hz
 grind [aH9,List.take_length]
theorem aJw (F:Fr N a sl) {hi:Operand} {k:IntKind} {j:Int} (ho:o.op=.slice t x none (some hi) none) (ht:P.underlying t=some .string) (hx:ev sl x=some (.string (txb l))) (hh:ev sl hi=some (.int k j)) {z:List UInt8} (hz:aY l 0 j=some z):(execOp a.eval o).run P w=.ok (.value (.string (txb z))) w:=by
 obtain ⟨⟨h0,h1,h2⟩,rfl,_⟩:=gD hz
 grind [aNq]
theorem mU (F:Fr N a sl) (ho:o.op=.binOp .add t x y t') (hx:ev sl x=some (.string (txb l))) (hy:ev sl y=some (.string (txb m))) {z:List UInt8} (hz:aL l m=some z):(execOp a.eval o).run P w=.ok (.value (.string (txb z))) w:=by
 obtain ⟨h,rfl⟩:=tJ hz
 grind [aPc,Cap.lt]
end
def atL {α:Type}:Nat->List α->Option α
 | _,[]=>none
 | 0,a::_=>some a
 | n+1,_::l=>atL n l
theorem cU {α:Type}:∀ (n:Nat) (l:List α),atL n l=l[n]?
 | _,[]=>by cases ‹Nat›<;>rfl
 | 0,a::_=>rfl
 | n+1,_::l=>by simpa [atL] using cU n l
def nfL {α:Type}:Nat->List α->Option (List α)
 | 0,l=>some l
 | n+1,l=>match l with
  | []=>none
  | a::r=>match nfL n r with
   | some r'=>some (a::r')
   | none=>none
theorem aEu {α:Type}:∀ {n:Nat} {l l':List α},nfL n l=some l'->l'=l
 | 0,l,l',h=>by cases h;rfl
 | n+1,[],l',h=>by cases h
 | n+1,a::r,l',h=>by
  simp only [nfL] at h
  split at h
  ·rename_i r' e;cases h;rw [aEu e]
  grind
theorem St.nf {w0 w:World} {l l':List HP} (H:St w0 w l) (n:Nat) (h:nfL n l=some l'):St w0 w l':=aEu h▸H
def IsSlT (P:Program) (t:TypeId):Prop:=∃ e,P.underlying t=some (.slice e)
def AggN (P:Program) (t n:Nat):Prop:=∃ z,AggT P t n z
theorem bY {P:Program} {t n m:Nat} {z:List Value} (h:AggT P t n z) (e:m=n):AggN P t m:=⟨z,e▸h⟩
def uB (P:Program) (t':TypeId) (n:Int) (p:Prop):Nat->Option (Value×List Prop)
 | 0=>some (.int .i64 (IntKind.i64.wrap n),[p,P.underlying t'=some (.int .i64)])
 | 1=>some (.int .u8 (IntKind.u8.wrap n),[p,P.underlying t'=some (.int .u8)])
 | 2=>some (.int .u64 (IntKind.u64.wrap n),[p,P.underlying t'=some (.int .u64)])
 | 3=>some (.int .u32 (IntKind.u32.wrap n),[p,P.underlying t'=some (.int .u32)])
 | 4=>some (.int .i32 (IntKind.i32.wrap n),[p,P.underlying t'=some (.int .i32)])
 | 5=>some (.int .u16 (IntKind.u16.wrap n),[p,P.underlying t'=some (.int .u16)])
 | 6=>some (.int .i16 (IntKind.i16.wrap n),[p,P.underlying t'=some (.int .i16)])
 | _=>some (.int .i8 (IntKind.i8.wrap n),[p,P.underlying t'=some (.int .i8)])
theorem aLs {P:Program} {t':TypeId} {n:Int} {p:Prop} {h:Nat} {v:Value} {ob:List Prop} (e:uB P t' n p h=some (v,ob)):∃ k',v=.int k' (k'.wrap n)/\ob=[p,P.underlying t'=some (.int k')]:=by
 unfold uB at e
 grind
def xM (k:IntKind) (m n:Int):BinOp->Option Value
 | .lss=>some (.bool (decide (m<n)))
 | .leq=>some (.bool (decide (m<=n)))
 | .gtr=>some (.bool (decide (n<m)))
 | .geq=>some (.bool (decide (n<=m)))
 | .eql=>some (.bool (decide (m=n)))
 | .neq=>some (.bool (!decide (m=n)))
 | .add=>some (.int k (k.wrap (m+n)))
 | .sub=>some (.int k (k.wrap (m-n)))
 | .mul=>some (.int k (k.wrap (m*n)))
 | .and=>some (.int k (xP k m n))
 | .or=>some (.int k (orI k m n))
 | .xor=>some (.int k (rG k m n))
 | _=>none
def qlen (ts:List TypeId) (n:Nat):Option (Value×(Program->List Prop)):=match ts with
 | [t]=>some (.int .i64 n,fun P=>[IsSlT P t])
 | _=>none
def kB (P:Program) (ls:List HP) (sl:List (Nat×Value)) (h:Nat):Op->Option (Value×List Prop)
 | .move x=>match ev sl x with
  | some v=>some (v,[])
  | none=>none
 | .assign x=>match ev sl x with
  | some v=>some (v,[])
  | none=>none
 | .pick x y z=>match ev sl x with
  | some (.bool b)=>match b with
   | true=>match ev sl y with
    | some v=>some (v,[])
    | none=>none
   | false=>match ev sl z with
    | some v=>some (v,[])
    | none=>none
  | _=>none
 | .nilCheck x=>match ev sl x with
  | some (.pointer p)=>match p with
   | some ad=>some (.pointer (some ad),[])
   | none=>none
  | _=>none
 | .unOp u _ x=>match ev sl x with
  | some (.bool b)=>match u with
   | .not=>some (.bool (!b),[])
   | _=>none
  | some (.int k m)=>match u with
   | .xor=>some (.int k (yW k m),[])
   | .neg=>some (.int k (k.wrap (0-m)),[])
   | _=>none
  | _=>none
 | .binOp op _ x y _=>match ev sl x with
  | some (.int k m)=>match ev sl y with
   | some (.int k' n)=>match decide (k'=k) with
    | true=>match xM k m n op with
     | some v=>some (v,[])
     | none=>none
    | false=>none
   | _=>none
  | _=>none
 | .extract x i=>match ev sl x with
  | some (.tuple vs)=>match atL i vs.toList with
   | some v=>some (v,[])
   | none=>none
  | _=>none
 | .fieldAddr t x f=>match ev sl x with
  | some (.pointer (some ⟨b,k,sp⟩))=>match sp with
   | none=>some (.pointer (some ⟨b,k+h,none⟩),[aM P t f h])
   | some _=>none
  | _=>none
 | .load t x=>match ev sl x with
  | some (.pointer (some ad))=>match atL (h / 1000) ls with
   | some A=>match A.tag with
    | some (b,o,cs)=>match Nat.beq (h % 1000) 999 with
     | true=>some (.agg cs.toArray,[ad=⟨b,o,none⟩,AggN P t cs.length])
     | false=>match atL (h % 1000) cs with
      | some v=>some (v,[ad=⟨b,o+h % 1000,none⟩,Plain P t])
      | none=>none
    | none=>none
   | none=>none
  | _=>none
 | .convert t t' x=>match ev sl x with
  | some (.int k n)=>uB P t' n (P.underlying t=some (.int k)) h
  | _=>none
 | .call c=>match c.callee with
  | .builtin b=>match b with
   | .len=>match c.args.toList with
    | [x]=>match ev sl x with
     | some (.slice _ n _)=>match qlen c.argTypes.toList n with
      | some (v,o)=>some (v,o P)
      | none=>none
     | _=>none
    | _=>none
   | _=>none
  | _=>none
 | _=>none
def AllP:List Prop->Prop
 | []=>True
 | p::r=>p/\AllP r
theorem AllP.app:∀ {l r:List Prop},AllP (l++r)->AllP l/\AllP r
 | [],_,h=>⟨trivial,h⟩
 | _::_,_,h=>⟨⟨h.1,(AllP.app h.2).1⟩,(AllP.app h.2).2⟩
section
variable {P:Program} {o:Oper} {a:Act} {N:Fs} {sl:List (Nat×Value)} {w0 w:World} {ls:List HP} {v:Value} {h:Nat} {ob:List Prop}
theorem St.tagRow (H:St w0 w ls) {i:Nat} {A:HP} (hi:ls[i]?=some A) {b off:Nat} {cs:List Value} (ht:A.tag=some (b,off,cs)):Row w b off cs:=by
 obtain ⟨_,B,f,hs,h1,_⟩:=H
 grind [A.tok]
theorem aL3 (F:Fr N a sl) {k:IntKind} {m n:Int} {op:BinOp} {t t':TypeId} {x y:Operand} (ho:o.op=.binOp op t x y t') (hx:ev sl x=some (.int k m)) (hy:ev sl y=some (.int k n)) (hq:xM k m n op=some v):(execOp a.eval o).run P w=.ok (.value v) w:=by
 cases op<;>simp only [xM,Option.some.injEq,reduceCtorEq] at hq<;>subst hq
 case add=>exact i_add F ho hx hy
 case sub=>exact i_sub F ho hx hy
 case mul=>exact i_mul F ho hx hy
 case and=>exact i_and F ho hx hy
 case or=>exact i_or F ho hx hy
 case xor=>exact i_xor F ho hx hy
 case lss=>exact uT F ho hx hy
 case leq=>exact y_leq F ho hx hy
 case gtr=>exact y_gtr F ho hx hy
 case geq=>exact y_geq F ho hx hy
 case eql=>exact aAv F ho hx hy
 case neq=>exact y_neq F ho hx hy
theorem oY (F:Fr N a sl) (H:St w0 w ls) (hq:kB P ls sl h o.op=some (v,ob)) (hob:AllP ob):(execOp a.eval o).run P w=.ok (.value v) w:=by
 generalize ho:o.op=op at hq
 cases op<;>simp only [kB,reduceCtorEq] at hq
 case move x=>split at hq<;>cases hq;rename_i e;exact dB F ho e
 case assign x=>split at hq<;>cases hq;rename_i e;exact dV F ho e
 case pick x y z =>
  split at hq
  ·rename_i b e
   cases b<;>(simp only at hq;split at hq<;>cases hq;rename_i e2)
   ·exact aHt F ho e e2
   ·exact aKv F ho e e2
  ·cases hq
 case nilCheck x =>
  split at hq
  ·rename_i p e
   cases p<;>cases hq
   exact aN7 F ho e
  ·cases hq
 case unOp u t x =>
  split at hq
  ·rename_i b e
   cases u<;>cases hq
   exact aF5 F ho e
  ·rename_i k m e
   cases u<;>cases hq
   ·exact i_neg F ho e
   ·exact i_not F ho e
  ·cases hq
 case binOp op t x y t' =>
  split at hq
  ·rename_i k m e
   split at hq
   ·rename_i k' n e2
    by_cases hk:k'=k
    ·subst hk
     simp only [decide_true] at hq
     split at hq<;>cases hq
     rename_i e3
     exact aL3 F ho e e2 e3
    ·simp [hk] at hq
   ·cases hq
  ·cases hq
 case extract x i =>
  split at hq
  ·rename_i vs e
   split at hq<;>cases hq
   rename_i e2
   rw [cU] at e2
   obtain ⟨vs⟩:=vs
   exact aLx F ho e e2
  ·cases hq
 case fieldAddr t x f =>
  split at hq
  ·rename_i b k sp e
   cases sp<;>cases hq
   exact pA F hob.1 ho e
  ·cases hq
 case load t x =>
  split at hq
  ·rename_i ad e
   split at hq
   ·rename_i A e2
    rw [cU] at e2
    split at hq
    ·rename_i b off cs e3
     have hr:=H.tagRow e2 e3
     cases hb:Nat.beq (h % 1000) 999<;>rw [hb] at hq<;>simp only at hq
     ·split at hq<;>cases hq
      rename_i e4
      rw [cU] at e4
      obtain ⟨h1,h2,_⟩:=hob
      subst h1
      exact bS F h2 ho e (hr _ _ e4)
     ·cases hq
      obtain ⟨h1,⟨z,h2⟩,_⟩:=hob
      subst h1
      exact dJ F h2 ho e hr rfl
    ·cases hq
   ·cases hq
  ·cases hq
 case convert t t' x =>
  split at hq
  ·rename_i e
   obtain ⟨k',rfl,rfl⟩:=aLs hq
   obtain ⟨h1,h2,_⟩:=hob
   exact aDm F h1 h2 ho e
  ·cases hq
 case call c =>
  split at hq
  ·rename_i b e1
   cases b<;>simp only [reduceCtorEq] at hq
   split at hq
   ·rename_i x e2
    split at hq
    ·rename_i p n cap e3
     split at hq
     ·rename_i v' o' e4
      cases hq
      unfold qlen at e4
      split at e4
      ·rename_i t e5
       cases e4
       obtain ⟨⟨e,h1⟩,_⟩:=hob
       obtain ⟨cc,ca,ct⟩:=c
       obtain ⟨ca⟩:=ca
       obtain ⟨ct⟩:=ct
       simp only at e1 e2 e5
       subst e1 e2 e5
       exact tC F ho h1 e3
      ·cases e4
     ·cases hq
    ·cases hq
   ·cases hq
  ·cases hq
def qE (ops:List Oper) (sl:List (Nat×Value)):Option (Nat×Bool)->Option Bool
 | none=>some true
 | some (g,bb)=>match atL g ops with
  | some og=>match og.dst with
   | some s=>match lk s sl with
    | some (.bool c)=>match bb with
     | true=>some c
     | false=>some (!c)
    | some (.tuple vs)=>match vs.toList with
     | []=>some false
     | _::_=>none
    | _=>none
   | none=>none
  | none=>none
theorem mB {ops:List Oper} (F:Fr N a sl) {b:Bool} (h:qE ops sl o.guard=some b):Region.wanted o (yielded ops.toArray a.tmps)=b:=by
 cases hg:o.guard with
 | none=>rw [hg] at h;cases h;exact cX hg
 | some p =>
  obtain ⟨g,bb⟩:=p
  rw [hg] at h
  simp only [qE] at h
  split at h
  ·rename_i og e
   rw [cU] at e
   have hog:ops.toArray[g]?=some og:=by simpa using e
   split at h
   ·rename_i s e2
    split at h
    ·rename_i c e3
     cases bb<;>cases c<;>cases b<;>first | cases h | skip
     ·exact jF F hg hog e2 e3
     ·exact aEe F hg hog e2 e3 rfl
     ·exact aEe F hg hog e2 e3 rfl
     ·exact jF F hg hog e2 e3
    ·rename_i vs e3
     obtain ⟨vs⟩:=vs
     cases vs with
     | nil=>cases h;exact aJd F hg hog e2 e3
     | cons _ _=>cases h
    ·cases h
   ·cases h
  ·cases h
def eP (P:Program) (n:Nat) (ops:List Oper) (ls:List HP):List Nat->List (Nat×Value)->List Oper->Option (List (Nat×Value)×List Oper×List Prop)
 | [],sl,l=>some (sl,l,[])
 | _::_,_,[]=>none
 | h::hs,sl,o::l=>match o.dst with
  | none=>none
  | some d=>match Nat.blt d n with
   | false=>none
   | true=>match qE ops sl o.guard with
    | none=>none
    | some true=>match kB P ls sl h o.op with
     | none=>none
     | some (v,ob)=>match eP P n ops ls hs ((d,v)::sl) l with
      | some (sl',l',ob')=>some (sl',l',ob++ob')
      | none=>none
    | some false=>match eP P n ops ls hs ((d,undef)::sl) l with
     | some (sl',l',ob')=>some (sl',l',ob')
     | none=>none
theorem aCb {op:Op} (h':kB P ls sl h op=some (v,ob)):dD op=true:=by cases op<;>first | rfl | (simp only [kB,reduceCtorEq] at h')
theorem bulk {ops:List Oper} {W:List Oper->Act->World->Prop} (k:bN P ops.toArray W) (H:St w0 w ls):∀ {hs:List Nat} {sl sl':List (Nat×Value)} {l l':List Oper} {ob:List Prop} {a:Act},Fr N a sl->eP P N.n ops ls hs sl l=some (sl',l',ob)->AllP ob->(∀ a',Fr N a' sl'->W l' a' w)->W l a w
 | [],sl,sl',l,l',ob,a,F,h,_,kk=>by cases h;exact kk a F
 | _::_,_,_,[],_,_,_,_,h,_,_=>by cases h
 | h0::hs,sl,sl',o::l,l',ob,a,F,h,hob,kk=>by
  simp only [eP] at h
  split at h
  ·cases h
  ·rename_i d hd
   split at h
   ·cases h
   ·rename_i hN
    split at h
    ·cases h
    ·rename_i hw
     split at h
     ·cases h
     ·rename_i v ob1 hv
      split at h
      ·rename_i s2 l2 ob2 hr
       cases h
       obtain ⟨q1,q2⟩:=hob.app
       exact k.val (mB F hw) (aCb hv) (oY F H hv q1) (by rw [hd];exact bulk k H (F.put hN v) hr q2 kk)
      ·cases h
    ·rename_i hw
     split at h
     ·rename_i s2 l2 ob2 hr
      cases h
      exact k.off (mB F hw) (by rw [hd];exact bulk k H (F.put hN _) hr hob kk)
     ·cases h
end
section
variable {P:Program} {a:Act} {N:Fs} {sl sl':List (Nat×Value)} {w0 w:World} {ls:List HP} {ob:List Prop} {Q:Exit->Act->World->Prop} {ops l l':List Oper} {ro:Option Nat}
theorem bk (hs:List Nat) (F:Fr N a sl) (H:St w0 w ls) (h:eP P N.n ops ls hs sl l=some (sl',l',ob)) (hob:AllP ob) (k:∀ a',Fr N a' sl'->wpList P ops.toArray Q l' a' w):wpList P ops.toArray Q l a w:=by grind [bulk,wkP]
theorem bki (hs:List Nat) (F:Fr N a sl) (H:St w0 w ls) (h:eP P N.n ops ls hs sl l=some (sl',l',ob)) (hob:AllP ob) (k:∀ a',Fr N a' sl'->wpListIn (FN ro) 0 P ops.toArray Q l' a' w):wpListIn (FN ro) 0 P ops.toArray Q l a w:=by grind [bulk,wkI]
theorem aK9 {P:Program} {ops:Array Oper} {rest:List Oper} {o:Oper} {a:Act} {Q:Act->Prop} {C:World->Prop} {v:Value} (hw:Region.wanted o (yielded ops a.tmps)=true) (hr:∀ w,C w->(execOp a.eval o).run P w=.ok (.value v) w) (hk:wpQuiet P ops C Q rest (a.put o.dst v)):wpQuiet P ops C Q (o::rest) a:=by
 unfold wpQuiet
 rw [if_pos hw]
 refine ⟨v,fun w hw=>?_,hk⟩
 unfold Oper.quietAt
 rw [hr w hw]
 exact ⟨rfl,rfl⟩
theorem aN0 {P:Program} {ops:Array Oper} {rest:List Oper} {o:Oper} {a:Act} {Q:Act->Prop} {C:World->Prop} (hw:Region.wanted o (yielded ops a.tmps)=false) (hk:wpQuiet P ops C Q rest (a.put o.dst undef)):wpQuiet P ops C Q (o::rest) a:=by
 unfold wpQuiet
 grind
theorem wH {C:World->Prop} {Q:Act->Prop} (hC:∀ w,C w->∃ w0,St w0 w ls):∀ {hs:List Nat} {sl sl':List (Nat×Value)} {l l':List Oper} {ob:List Prop} {a:Act},Fr N a sl->eP P N.n ops ls hs sl l=some (sl',l',ob)->AllP ob->(∀ a',Fr N a' sl'->wpQuiet P ops.toArray C Q l' a')->wpQuiet P ops.toArray C Q l a
 | [],sl,sl',l,l',ob,a,F,h,_,kk=>by cases h;exact kk a F
 | _::_,_,_,[],_,_,_,_,h,_,_=>by cases h
 | h0::hs,sl,sl',o::l,l',ob,a,F,h,hob,kk=>by
  simp only [eP] at h
  split at h
  ·cases h
  ·rename_i d hd
   split at h
   ·cases h
   ·rename_i hN
    split at h
    ·cases h
    ·rename_i hw
     split at h
     ·cases h
     ·rename_i v ob1 hv
      split at h
      ·rename_i s2 l2 ob2 hr
       cases h
       obtain ⟨q1,q2⟩:=hob.app
       exact aK9 (mB F hw) (fun w hw=>by obtain ⟨w0,H⟩:=hC w hw;exact oY F H hv q1) (by rw [hd];exact wH hC (F.put hN v) hr q2 kk)
      ·cases h
    ·rename_i hw
     split at h
     ·rename_i s2 l2 ob2 hr
      cases h
      exact aN0 (mB F hw) (by rw [hd];exact wH hC (F.put hN _) hr hob kk)
     ·cases h
theorem qbk {Q:Act->Prop} (hs:List Nat) (F:Fr N a sl) (h:eP P N.n ops ls hs sl l=some (sl',l',ob)) (hob:AllP ob) (k:∀ a',Fr N a' sl'->wpQuiet P ops.toArray (fun u=>St w0 u ls) Q l' a'):wpQuiet P ops.toArray (fun u=>St w0 u ls) Q l a:=by grind [wH]
theorem qr {id:Nat} {Q:Exit->Act->World->Prop} (H:St w0 w ls) (hm:P.follows .mixedOrders=true) (hB:Region.lexB .any l.toArray=true) (h:wpQuiet P l.toArray (fun u=>St w0 u ls) (fun a'=>∀ w',St w0 w' ls->Q .normal a' w') l a):(Code.region id l.toArray true).wp P Q a w:=aOz _ hm hB H.drew h
def lK (P:Program) (n:Nat) (ops:List Oper) (ls:List HP):List Nat->List (Nat×Value)->Sc->Option (List (Nat×Value)×Sc×List Prop)
 | [],sl,s=>some (sl,s,[])
 | _::_,_,.done=>none
 | _::_,_,.fork _ _ _ _=>none
 | _::_,_,.fork3 _ _ _ _ _ _=>none
 | h::hs,sl,.step k i r=>match atL i ops with
  | none=>none
  | some o=>match o.dst with
   | none=>none
   | some d=>match Nat.blt d n with
    | false=>none
    | true=>match qE ops sl o.guard with
     | none=>none
     | some true=>match Nat.ble k 1 with
      | false=>none
      | true=>match kB P (match k with | 0=>[] | _=>ls) sl h o.op with
       | none=>none
       | some (v,ob)=>match lK P n ops ls hs ((d,v)::sl) r with
        | some (sl',l',ob')=>some (sl',l',ob++ob')
        | none=>none
     | some false=>match lK P n ops ls hs ((d,undef)::sl) r with
      | some (sl',l',ob')=>some (sl',l',ob')
      | none=>none
theorem tV {C:World->Prop} {K:Act->World->Prop} (H:St w0 w ls):∀ {hs:List Nat} {sl sl':List (Nat×Value)} {s s':Sc} {ob:List Prop} {a:Act},Fr N a sl->lK P N.n ops ls hs sl s=some (sl',s',ob)->AllP ob->(∀ a',Fr N a' sl'->aW P ops.toArray C K s' a' w)->aW P ops.toArray C K s a w
 | [],sl,sl',s,s',ob,a,F,h,_,kk=>by cases h;exact kk a F
 | _::_,_,_,.done,_,_,_,_,h,_,_=>by cases h
 | _::_,_,_,.fork _ _ _ _,_,_,_,_,h,_,_=>by cases h
 | _::_,_,_,.fork3 _ _ _ _ _ _,_,_,_,_,h,_,_=>by cases h
 | h0::hs,sl,sl',.step k i r,s',ob,a,F,h,hob,kk=>by
  simp only [lK] at h
  split at h
  ·cases h
  ·rename_i o ho
   rw [cU] at ho
   have ho':ops.toArray[i]?=some o:=by simpa using ho
   split at h
   ·cases h
   ·rename_i d hd
    split at h
    ·cases h
    ·rename_i hN
     split at h
     ·cases h
     ·rename_i hw
      split at h
      ·cases h
      ·rename_i hk1
       split at h
       ·cases h
       ·rename_i v ob1 hv
        split at h
        ·rename_i s2 l2 ob2 hr
         cases h
         obtain ⟨q1,q2⟩:=hob.app
         have hw':=mB F hw
         refine ⟨o,ho',fun _=>?_,fun e=>by rw [hw'] at e;cases e⟩
         have hk2:k=0\/k=1:=by have:=Nat.le_of_ble_eq_true hk1;omega
         rcases hk2 with rfl | rfl
         ·exact ⟨v,fun u _=>oY F (St.start u) hv q1,by rw [hd];exact tV H (F.put hN v) hr q2 kk⟩
         ·exact ⟨v,oY F H hv q1,by rw [hd];exact tV H (F.put hN v) hr q2 kk⟩
        ·cases h
     ·rename_i hw
      split at h
      ·rename_i s2 l2 ob2 hr
       cases h
       have hw':=mB F hw
       exact ⟨o,ho',(fun e=>by rw [hw'] at e;cases e),fun _=>by rw [hd];exact tV H (F.put hN _) hr hob kk⟩
      ·cases h
theorem mbk {C:World->Prop} {K:Act->World->Prop} {s s':Sc} (hs:List Nat) (F:Fr N a sl) (H:St w0 w ls) (h:lK P N.n ops ls hs sl s=some (sl',s',ob)) (hob:AllP ob) (k:∀ a',Fr N a' sl'->aW P ops.toArray C K s' a' w):aW P ops.toArray C K s a w:=by grind [tV]
def mZ {α:Type}:Nat->List α->α->Option (List α)
 | _,[],_=>none
 | 0,_::r,v=>some (v::r)
 | n+1,a::r,v=>match mZ n r v with
  | some r'=>some (a::r')
  | none=>none
theorem yZ {α:Type}:∀ {n:Nat} {l l':List α} {v:α},mZ n l v=some l'->l.set n v=l'/\n<l.length
 | _,[],_,_,h=>by cases ‹Nat›<;>cases h
 | 0,_::r,_,_,h=>by cases h;simp
 | n+1,a::r,l',v,h=>by
  simp only [mZ] at h
  split at h
  ·rename_i r' e
   obtain ⟨h1,h2⟩:=yZ e
   grind
  grind
section
variable {rest:List Oper} {o:Oper} {W:List Oper->Act->World->Prop} {l:List (Nat×Value)} {x y:Operand} {t u:TypeId} {ops:Array Oper} {v:Value}
theorem cN (k:bN P ops W) (F:Fr N a l) (hg:o.guard=none) (hd:o.dst=none) {z1:Value} (hz:Zero1 P t z1) (ho:o.op=.store t x y) {b off:Nat} (hx:ev l x=some (.pointer (some ⟨b,off,none⟩))) {old old':List Value} (hy:ev l y=some v) (hv:v.cells=#[v]) (h1:v.oneCell'=true)
  (H:St w0 w ls) (i:Nat) (hi:ls[i]?=some (HP.blk b old u)) (hs:mZ off old v=some old') (hk:∀ w',St w0 w' (ls.set i (HP.blk b old' u))->W rest a w'):W (o::rest) a w :=
 aQd k F hg hd hz ho hx hy hv h1 H i hi (yZ hs).2 fun w' H'=>hk w' ((yZ hs).1▸H')
end
theorem St.slSubN {α:Type} {R:Rp α} {p:Option Addr} {cap:Nat} {xs:List α} {l:List HP} (H:St w0 w l) (m:Nat) (hm:R.n=m) (n:Nat) (hn:l[n]?=some (HP.sl R p cap xs)) {i j:Int} {zs:List α} (hz:aY xs i j=some zs):St w0 w (HP.sl R (shp p cap i.toNat m) (cap-i.toNat) zs::l):=hm▸H.sU n hn hz
theorem sr {y:Code} {id:Nat} (h:wpList P l.toArray (Exit.then (fun a w=>y.wp P Q a w) Q) l a w):(Code.seq (.region id l.toArray false) y).wp P Q a w:=wp_seq (dI h)
theorem nl {K:Act->World->Prop} {ops:Array Oper} (h:K a w):wpList P ops (Exit.then K Q) [] a w:=by assumption
end
section
variable {α:Type} {R:Rp α} {P:Program} {o:Oper} {a:Act} {w0 w:World} {N:Fs} {sl:List (Nat×Value)} {x y:Operand} {t e:TypeId} {l:List HP} {p:Option Addr} {cap:Nat} {xs:List α} {size bytes:Nat} {z0:Value} {k k' k'':IntKind}
theorem aIn (F:Fr N a sl) (hE:ElemT P t e size bytes z0) {lo hi mx:Operand} (ho:o.op=.slice t x (some lo) (some hi) (some mx)) {i j:Int} {zs:List α} (hx:ev sl x=some (.slice p xs.length cap)) (hl:ev sl lo=some (.int k i)) (hh:ev sl hi=some (.int k' j)) (hm:ev sl mx=some (.int k'' j)) (hz:aY xs i j=some zs) (hc:xs.length<=cap) :
  (execOp a.eval o).run P w=.ok (.value (.slice (shp p j.toNat i.toNat size) zs.length (j.toNat-i.toNat))) w:=by
 obtain ⟨h1,_,h2⟩:=gD hz
 have hb:(Instr.sliceBounds true xs.length cap (some (.int k i)) (some (.int k' j)) (some (.int k'' j))).run P w=.ok (i.toNat,j.toNat,j.toNat) w:=by
  unfold Instr.sliceBounds
  simp [kF (show 0<=j by omega) (show j<=cap by omega),kF (show 0<=j by omega) (show j<=((j.toNat:Nat):Int) by omega),kF (show 0<=i by omega) (show i<=((j.toNat:Nat):Int) by omega)]
 have hr:(Instr.sliceAt t (.slice p xs.length cap) (some (.int k i)) (some (.int k' j)) (some (.int k'' j))).run P w=.ok (.slice (shp p j.toNat i.toNat size) (j.toNat-i.toNat) (j.toNat-i.toNat)) w:=by
  unfold Instr.sliceAt
  rw [Sem.run_bind,Go.run_underlying hE.ht]
  simp only [Result.andThen_ok]
  unfold Instr.slice
  rw [Sem.run_bind,Go.run_underlying hE.ht]
  simp only [Result.andThen_ok]
  rw [Sem.run_bind,hb]
  simp only [Result.andThen_ok]
  rw [Sem.run_bind,hE.run_size]
  simp [shp]
 unfold execOp
 rw [h2]
 simp [ho,F.eval hx,F.eval hl,F.eval hh,F.eval hm,hr]
theorem St.slNar (H:St w0 w l) (n:Nat) (hn:l[n]?=some (HP.sl R p cap xs)) {j:Nat} (hj:j<=xs.length):St w0 w (HP.sl R p j (xs.take j)::l):=by
 obtain ⟨B,H⟩:=H.out
 obtain ⟨S,css,c1,c2⟩:=H.at hn
 refine (H.more (A:=HP.sl R _ _ _) ⟨css.take j,c1.take _,fun w hw=>?_⟩).st
 have h:=(c2 w hw).sub (v:=.nilFunc) (i:=0) (j:=j) (size:=R.n) (by omega) hj c1.flen
 rw [pK _ c1,List.length_take,Nat.min_eq_left hj]
 rcases c2 w hw with ⟨h1,h2,h3⟩ | ⟨ad,c,h1,h2,h3⟩ | ⟨b,off,c,h1,h2,h3⟩
 ·obtain ⟨rfl,_,rfl⟩:=Value.slice.inj h1
  obtain rfl:j=0:=by omega
  exact .inl ⟨rfl,rfl,by simp⟩
 ·obtain ⟨rfl,_,_⟩:=Value.slice.inj h1
  obtain rfl:j=0:=by omega
  exact .inr (.inl ⟨ad,0,rfl,rfl,by simp⟩)
 ·obtain ⟨rfl,_,_⟩:=Value.slice.inj h1
  refine .inr (.inr ⟨b,off,j,rfl,Nat.le_refl _,?_⟩)
  have:=h3.sub 0 (j*R.n)
  simpa using this
theorem St.slSubM (H:St w0 w l) (m:Nat) (hm:R.n=m) (n:Nat) (hn:l[n]?=some (HP.sl R p cap xs)) {i j:Int} {zs:List α} (hz:aY xs i j=some zs):St w0 w (HP.sl R (shp p j.toNat i.toNat m) (j.toNat-i.toNat) zs::l):=by
 obtain ⟨h1,h2,h3⟩:=gD hz
 have hj:j.toNat<=xs.length:=by omega
 have H1:=H.slNar n hn hj
 have hz':aY (xs.take j.toNat) i j=some zs:=by grind [aY]
 have H2:=H1.slSubN m hm 0 rfl hz'
 exact H2.dp 1 rfl
end
def pI (n:Int) (len:Nat):Option Nat:=if 0<n/\n<=9223372036854775807/\len<=1152921504606846976 then some n.toNat else none
theorem yV {n:Int} {len m:Nat} (h:pI n len=some m):n=((m:Nat):Int)/\0<m/\m<=9223372036854775807/\len<=1152921504606846976:=by grind [pI]
def eK (n len:Nat):Nat:=(len+n-1) / n
def cQ {γ:Type} (n:Nat) (xs:List γ):List (Nat×List γ):=(List.range (eK n xs.length)).map fun k=>(k*n,(xs.drop (k*n)).take n)
def dG {γ:Type} (n:Nat) (xs:List γ):List (List γ):=(cQ n xs).map (·.2)
theorem kR {n len k:Nat} (hn:0<n):k<eK n len↔k*n<len:=by grind [eK,Nat.lt_div_iff_mul_lt]
theorem aM8 {γ:Type} {n:Nat} {xs:List γ} (hn:0<n) {k:Nat} (hk:k*n<xs.length):(cQ n xs)[k]?=some (k*n,(xs.drop (k*n)).take n):=by grind [cQ,kR]
theorem aO2 {γ:Type} {n:Nat} {xs:List γ} (hn:0<n) {k:Nat} (hk:¬ k*n<xs.length):(cQ n xs).take k=cQ n xs:=by
 refine List.take_of_length_le ?_
 grind [cQ,kR]
theorem aJ4 {γ:Type} {n:Nat} {xs:List γ} (hn:0<n) {i:Nat} {y:List γ} (h:(i,y)∈cQ n xs):i<xs.length/\y=(xs.drop i).take n:=by grind [cQ,kR]
theorem aBm {γ:Type} {n i:Nat} {xs y:List γ} (hi:i<xs.length) (hy:y=(xs.drop i).take n):aY xs ((i:Nat):Int) (((i+y.length:Nat)):Int)=some y:=by grind [aY,Int.toNat_natCast,List.drop_take,List.take,List.drop]
theorem St.chunkEl {α:Type} {R:Rp α} {w0 w:World} {l:List HP} {p:Option Addr} {cap:Nat} {xs:List α} (H:St w0 w l) (m:Nat) (hm:R.n=m) (j:Nat) (hj:l[j]?=some (HP.sl R p cap xs)) {n:Nat} (hn:0<n) {i:Nat} {y:List α} (h:(i,y)∈cQ n xs):St w0 w (HP.sl R (shp p (i+y.length) i m) y.length y::l):=by
 obtain ⟨h1,h2⟩:=aJ4 hn h
 have:=H.slSubM m hm j hj (aBm h1 h2)
 grind
structure KeyS (P:Program) (K:TypeId) {κ:Type} (cells:κ->List Value) (lits:κ->List Lit) (ok:κ->Prop):Prop where
 key:P.keyTypeAt 3 K=true
 wide:∃ fs,P.underlying K=some (.struct fs)
 form:∀ k,ok k->(Value.agg (cells k).toArray).formed P K=true
 lit:∀ k,ok k->P.keyLits 3 K (cells k)=some (lits k)
 inj:∀ k k',lits k=lits k'->k=k'
 int:∀ k,∀ c∈cells k,∃ q n,c=Value.int q n
def aDx (n:Int):Prop:=-9223372036854775808<=n/\n<=9223372036854775807
instance (n:Int):Decidable (aDx n):=by unfold aDx;exact inferInstance
theorem qri {P:Program} {ro:Option Nat} {id:Nat} {Q:Exit->Act->World->Prop} {a:Act} {w0 w:World} {ls:List HP} {l:List Oper} (H:St w0 w ls) (hm:P.follows .mixedOrders=true) (hB:(l.all (fun o=>dD o.op)&&Region.lexB .any l.toArray)=true)
  (h:wpQuiet P l.toArray (fun u=>St w0 u ls) (fun a'=>∀ w',St w0 w' ls->Q .normal a' w') l a):(Code.region id l.toArray true).wpIn (FN ro) 0 P Q a w:=by
 simp only [Bool.and_eq_true] at hB
 obtain ⟨h0,hB⟩:=hB
 have hnd:∀ (i:Nat) (o:Oper),l.toArray[i]?=some o->dD o.op=true:=by
  intro i o ho
  refine List.all_eq_true.1 h0 o ?_
  simp at ho
  exact List.mem_of_getElem? ho
 refine Go.wpIn_mono (Q:=fun e a w=>match e with | .normal=>Q .normal a w | _=>False) (wpIn_region_any hm ?_) fun e a w h=>by cases e<;>first | exact h | exact h.elim
 simp only [Region.lexB,Bool.and_eq_true] at hB
 have h2:=wpAnyQ_lex (C:=fun u=>St w0 u ls) (md:=.any) hB.1 l.toArray.toList 0 (Array.replicate l.toArray.size false) a (by simp) (by simpa using hB.2) (by simpa using h)
 have:=wpAny_of_quiet (Q:=fun a'=>∀ w',St w0 w' ls->Q .normal a' w') (Q':=fun e a w=>match e with | .normal=>Q .normal a w | _=>False) (fun _ w' hw' h=>h w' hw') _ _ _ _ H.drew (by simpa using h2)
 exact oU ro (fun _ _ h=>h) hnd _ _ _ _ this
theorem St.slBy {w0 w:World} {ls:List HP} {p:Option Addr} {c:Nat} {xs:List UInt8} (H:St w0 w ls) (i:Nat) (hi:ls[i]?=some (HP.sl rByte p c xs)):Sl w (.slice p xs.length c) xs.length (aQ xs):=by
 obtain ⟨B,S,hs,⟨css,h1,h2⟩,_⟩:=H.get i hi
 grind [gA]
section
variable {w0 w:World} {ls:List HP}
end
section
variable {P:Program} {o:Oper} {a:Act} {w:World} {N:Fs} {l:List (Nat×Value)} {x y z:Operand} {t:TypeId}
theorem aI4 (F:Fr N a l) {f:Nat} {fs:Array Field} {fd:Field} (hu:P.underlying t=some (.struct fs)) (hf:fs[f]?=some fd) (hP:Plain P fd.type) (ho:o.op=.field t x f) {cs:List Value} (hx:ev l x=some (.agg cs.toArray)) {v:Value} (hc:cs[fd.offset]?=some v):(execOp a.eval o).run P w=.ok (.value v) w:=by
 have:(Instr.field t (.agg cs.toArray) f).run P w=.ok v w:=by
  unfold Instr.field
  rw [Sem.run_bind,Go.run_underlying hu]
  simp only [Result.andThen_ok,hf]
  simp [asAgg,part,hP.run_isAgg,hc]
 unfold execOp
 simp [ho,F.eval hx,this]
theorem aLe (F:Fr N a l) {k:IntKind} {m n q r:Int} {ts:Array TypeId} (ho:o.op=.call { callee:=.builtin .min,args:=#[x,y,z],argTypes:=ts }) (hx:ev l x=some (.int k m)) (hy:ev l y=some (.int k n)) (hz:ev l z=some (.int k q)) (hr:min (min m n) q=r):(execOp a.eval o).run P w=.ok (.value (.int k r)) w:=by
 unfold execOp
 simp [ho,resolve,invoke,builtin,F.eval hx,F.eval hy,F.eval hz,Builtin.min_,Builtin.min2]
 grind
end
theorem OwnR.mono:∀ {l:List HP} {B:Base} {w:World} {S S':Nat->Prop},OwnR l B w S->(∀ b,S b->S' b)->OwnR l B w S'
 | [],_,_,_,_,_,_=>trivial
 | _::_,_,_,_,_,⟨S1,S2,h1,h2,h3,h4,h5⟩,hs=>⟨S1,S2,h1,h2,h3,fun b hb=>hs b (h4 b hb),fun b hb=>hs b (h5 b hb)⟩
theorem OwnR.loc:∀ {l:List HP} {B:Base} {w w':World} {S:Nat->Prop},OwnR l B w S->(∀ b,S b->w'.heap[b]?=w.heap[b]?)->OwnR l B w' S
 | [],_,_,_,_,_,_=>trivial
 | A::_,_,_,_,_,⟨S1,S2,h1,h2,h3,h4,h5⟩,hs=>⟨S1,S2,A.loc h1 fun b hb=>hs b (h4 b hb),OwnR.loc h2 fun b hb=>hs b (h5 b hb),h3,h4,h5⟩
theorem OwnR.base:∀ {l:List HP} {B B':Base} {w:World} {S:Nat->Prop},OwnR l B w S->B.le B'->OwnR l B' w S
 | [],_,_,_,_,_,_=>trivial
 | A::_,_,_,_,_,⟨S1,S2,h1,h2,h3,h4,h5⟩,hs=>⟨S1,S2,A.mono h1 hs,OwnR.base h2 hs,h3,h4,h5⟩
theorem OwnR.app:∀ {m l:List HP} {B:Base} {w:World} {S S1 S2:Nat->Prop},OwnR m B w S1->OwnR l B w S2->(∀ b,S1 b->S2 b->False)->(∀ b,S1 b->S b)->(∀ b,S2 b->S b)->OwnR (m++l) B w S
 | [],_,_,_,_,_,_,_,h2,_,_,h5=>h2.mono h5
 | _::_,_,_,_,_,_,S2,⟨T1,T2,k1,k2,k3,k4,k5⟩,h2,h3,h4,h5=>⟨T1,fun b=>T2 b\/S2 b,k1,OwnR.app k2 h2 (fun b x y=>h3 b (k5 b x) y) (fun _ x=>.inl x) (fun _ x=>.inr x),fun b x y=>y.elim (k3 b x) (h3 b (k4 b x)),fun b x=>h4 b (k4 b x),fun b x=>x.elim (fun y=>h4 b (k5 b y)) (h5 b)⟩
theorem OwnR.unapp:∀ {m l:List HP} {B:Base} {w:World} {S:Nat->Prop},OwnR (m++l) B w S->∃ S1 S2:Nat->Prop,OwnR m B w S1/\OwnR l B w S2/\(∀ b,S1 b->S2 b->False)/\(∀ b,S1 b->S b)/\(∀ b,S2 b->S b)
 | [],_,_,_,S,h=>⟨fun _=>False,S,trivial,h,fun _ x=>x.elim,fun _ x=>x.elim,fun _ x=>x⟩
 | _::m,_,_,_,_,⟨T1,T2,k1,k2,k3,k4,k5⟩=>by
  obtain ⟨S1,S2,j1,j2,j3,j4,j5⟩:=OwnR.unapp (m:=m) k2
  exact ⟨fun b=>T1 b\/S1 b,S2,⟨T1,S1,k1,j1,fun b x y=>k3 b x (j4 b y),fun _ x=>.inl x,fun _ x=>.inr x⟩,j2,fun b x y=>x.elim (fun z=>k3 b z (j5 b y)) (fun z=>j3 b z y),fun b x=>x.elim (k4 b) fun z=>k5 b (j4 b z),fun b x=>k5 b (j5 b x)⟩
def HP.ex {ι:Type} (f:ι->List HP):HP :=
 HP.of (fun B w S=>∃ i,OwnR (f i) B w S) (fun ⟨i,h⟩ hs=>⟨i,h.loc hs⟩) (fun ⟨i,h⟩ hl=>⟨i,h.base hl⟩)
section
variable {w0 w:World} {l:List HP}
theorem St.ownR (H:St w0 w l):(w.os=w0.os/\w.tape=w0.tape/\w.output=w0.output/\w0.heap.size<=w.heap.size)/\∃ B,Sub B w/\OwnR l B w (fun b=>b<w.heap.size/\B b=none/\w0.heap.size<=b):=by
 obtain ⟨hv,B,f,hs,h1,h2,h3⟩:=H
 exact ⟨hv,B,hs,OwnR.of ⟨f,h1,h2,h3⟩⟩
theorem St.ofOwnR {B:Base} (hv:w.os=w0.os/\w.tape=w0.tape/\w.output=w0.output/\w0.heap.size<=w.heap.size) (hs:Sub B w) (h:OwnR l B w (fun b=>b<w.heap.size/\B b=none/\w0.heap.size<=b)):St w0 w l:=by
 obtain ⟨f,h1,h2,h3⟩:=OwnR.to h
 exact ⟨hv,B,f,hs,h1,h2,h3⟩
theorem St.exOpen {ι:Type} {f:ι->List HP} (H:St w0 w (HP.ex f::l)):∃ i,St w0 w (f i++l):=by
 obtain ⟨hv,B,hs,S1,S2,⟨i,h1⟩,h2,h3,h4,h5⟩:=H.ownR
 exact ⟨i,St.ofOwnR hv hs (h1.app h2 h3 h4 h5)⟩
theorem St.exShut {ι:Type} {f:ι->List HP} (i:ι) (H:St w0 w (f i++l)):St w0 w (HP.ex f::l):=by
 obtain ⟨hv,B,hs,h⟩:=H.ownR
 obtain ⟨S1,S2,h1,h2,h3,h4,h5⟩:=h.unapp
 exact St.ofOwnR hv hs ⟨S1,S2,⟨i,h1⟩,h2,h3,h4,h5⟩
def pkL {α:Type}:Nat->List α->Option (α×List α)
 | _,[]=>none
 | 0,a::r=>some (a,r)
 | n+1,a::r=>match pkL n r with
  | some (x,r')=>some (x,a::r')
  | none=>none
theorem aEp {α:Type}:∀ {n:Nat} {l r:List α} {a:α},pkL n l=some (a,r)->l[n]?=some a/\l.eraseIdx n=r
 | _,[],_,_,h=>by cases ‹Nat›<;>cases h
 | 0,_::_,_,_,h=>by cases h;simp
 | n+1,b::r,r2,a,h=>by
  simp only [pkL] at h
  split at h
  ·rename_i x r' e
   obtain ⟨h1,h2⟩:=aEp e
   grind
  grind
theorem St.pk (H:St w0 w l) (n:Nat) {A:HP} {r:List HP} (h:pkL n l=some (A,r)):St w0 w (A::r):=by
 obtain ⟨h1,h2⟩:=aEp h
 rw [<- h2];exact H.mv n h1
def spL {α:Type}:Nat->List α->Option (List α×List α)
 | 0,l=>some ([],l)
 | _+1,[]=>none
 | n+1,a::r=>match spL n r with
  | some (f,t)=>some (a::f,t)
  | none=>none
theorem qO {α:Type}:∀ {n:Nat} {l f t:List α},spL n l=some (f,t)->l=f++t/\f.length=n
 | 0,l,f,t,h=>by cases h;simp
 | n+1,[],_,_,h=>by cases h
 | n+1,a::r,f,t,h=>by
  simp only [spL] at h
  split at h
  ·rename_i f' t' e
   obtain ⟨h1,h2⟩:=qO e
   grind
  grind
def lM:Nat->List Nat->Bool
 | _,[]=>false
 | i,j::r=>match Nat.beq i j with
  | true=>true
  | false=>lM i r
theorem xC (i:Nat):∀ l:List Nat,lM i l=true↔i∈l
 | []=>by simp [lM]
 | j::r=>by
  simp only [lM]
  cases h:Nat.beq i j
  ·have:i≠j:=Nat.ne_of_beq_eq_false h
   simp [this,xC i r]
  simp_all
def pmG (front tail:List HP):List Nat->Option (List HP)
 | []=>some tail
 | i::r=>match atL i front with
  | some A=>match pmG front tail r with
   | some L=>match lM i r with
    | false=>some (A::L)
    | true=>match A.ps with
     | true=>some (A::L)
     | false=>none
   | none=>none
  | none=>none
def pmL (n:Nat) (is:List Nat) (L:List HP):Option (List HP):=match spL n L with
 | some (f,t)=>pmG f t is
 | none=>none
theorem aFp {front tail:List HP}:∀ {is:List Nat} {L:List HP},pmG front tail is=some L->L.length=is.length+tail.length/\(∀ q A,L[q]?=some A->(∃ i,is[q]?=some i/\front[i]?=some A/\(i∈is.drop (q+1)->A.ps=true))\/(is.length<=q/\tail[q-is.length]?=some A))
 | [],L,h=>by cases h;exact ⟨by simp,fun q A hq=>.inr ⟨Nat.zero_le _,by simpa using hq⟩⟩
 | i::r,L,h=>by
  simp only [pmG] at h
  split at h
  ·rename_i A hA
   rw [cU] at hA
   split at h
   ·rename_i L' hL
    obtain ⟨h1,h2⟩:=aFp hL
    have key:L=A::L'/\(i∈r->A.ps=true):=by
     split at h
     ·rename_i hm;cases h;exact ⟨rfl,fun hi=>by rw [(xC i r).2 hi] at hm;cases hm⟩
     ·split at h
      ·rename_i hp;cases h;exact ⟨rfl,fun _=>hp⟩
      ·cases h
    obtain ⟨rfl,hp⟩:=key
    refine ⟨by simp [h1];omega,fun q C hq=>?_⟩
    cases q with
    | zero=>simp at hq;subst hq;exact .inl ⟨i,rfl,hA,by simpa using hp⟩
    | succ q =>
     rcases h2 q C (by simpa using hq) with ⟨j,j1,j2,j3⟩ | ⟨j1,j2⟩
     ·exact .inl ⟨j,by simpa using j1,j2,by simpa using j3⟩
     ·exact .inr ⟨by simp;omega,by simpa using j2⟩
   ·cases h
  ·cases h
theorem St.pm (H:St w0 w l) (n:Nat) (is:List Nat) {L:List HP} (h:pmL n is l=some L):St w0 w L:=by
 unfold pmL at h
 split at h
 ·rename_i front tail e
  obtain ⟨rfl,hn⟩:=qO e
  obtain ⟨hl,hat⟩:=aFp h
  obtain ⟨hv,B,f,hs,h1,h2,h3⟩:=H
  let dup:Nat->Prop:=fun q=>∃ i,is[q]?=some i/\i∈is.drop (q+1)
  let ix:Nat->Nat:=fun q=>(is[q]?).getD (n+(q-is.length))
  have hix:∀ q,q<L.length->ix q<(front++tail).length:=by
   intro q hq
   obtain ⟨A,hA⟩:∃ A,L[q]?=some A:=⟨_,List.getElem?_eq_getElem hq⟩
   rcases hat q A hA with ⟨i,i1,i2,_⟩ | ⟨j1,j2⟩
   ·have:=(List.getElem?_eq_some_iff.1 i2).1
    simp only [ix,i1,Option.getD_some,List.length_append];omega
   ·have:=(List.getElem?_eq_some_iff.1 j2).1
    have e2:is[q]?=none:=List.getElem?_eq_none j1
    simp only [ix,e2,Option.getD_none,List.length_append];omega
  have hixA:∀ q A,L[q]?=some A->(front++tail)[ix q]?=some A:=by
   intro q A hA
   rcases hat q A hA with ⟨i,i1,i2,_⟩ | ⟨j1,j2⟩
   ·have:=(List.getElem?_eq_some_iff.1 i2).1
    simp only [ix,i1,Option.getD_some]
    rw [List.getElem?_append_left this];exact i2
   ·have e2:is[q]?=none:=List.getElem?_eq_none j1
    simp only [ix,e2,Option.getD_none]
    rw [List.getElem?_append_right (by omega),<- j2]
    congr 1;omega
  have inj:∀ p q,p<L.length->q<L.length->¬ dup p->¬ dup q->ix p=ix q->p=q:=by
   intro p q hp hq hdp hdq he
   rcases Nat.lt_trichotomy p q with hlt | hlt | hlt
   ·exfalso
    obtain ⟨A,hA⟩:∃ A,L[p]?=some A:=⟨_,List.getElem?_eq_getElem hp⟩
    obtain ⟨C,hC⟩:∃ A,L[q]?=some A:=⟨_,List.getElem?_eq_getElem hq⟩
    rcases hat p A hA with ⟨i,i1,i2,_⟩ | ⟨j1,j2⟩
    ·rcases hat q C hC with ⟨k,k1,k2,_⟩ | ⟨m1,m2⟩
     ·simp only [ix,i1,k1,Option.getD_some] at he
      subst he
      refine hdp ⟨i,i1,?_⟩
      have:(is.drop (p+1))[q-(p+1)]?=some i:=by rw [List.getElem?_drop,show p+1+(q-(p+1))=q by omega];exact k1
      exact List.mem_of_getElem? this
     ·have:=(List.getElem?_eq_some_iff.1 i2).1
      simp only [ix,i1,List.getElem?_eq_none m1,Option.getD_some,Option.getD_none] at he;omega
    ·have e2:is[q]?=none:=List.getElem?_eq_none (by omega)
     simp only [ix,List.getElem?_eq_none j1,e2,Option.getD_none] at he;omega
   ·exact hlt
   ·exfalso
    obtain ⟨A,hA⟩:∃ A,L[q]?=some A:=⟨_,List.getElem?_eq_getElem hq⟩
    obtain ⟨C,hC⟩:∃ A,L[p]?=some A:=⟨_,List.getElem?_eq_getElem hp⟩
    rcases hat q A hA with ⟨i,i1,i2,_⟩ | ⟨j1,j2⟩
    ·rcases hat p C hC with ⟨k,k1,k2,_⟩ | ⟨m1,m2⟩
     ·simp only [ix,i1,k1,Option.getD_some] at he
      subst he
      refine hdq ⟨k,i1,?_⟩
      have:(is.drop (q+1))[p-(q+1)]?=some k:=by rw [List.getElem?_drop,show q+1+(p-(q+1))=p by omega];exact k1
      exact List.mem_of_getElem? this
     ·have:=(List.getElem?_eq_some_iff.1 i2).1
      simp only [ix,i1,List.getElem?_eq_none m1,Option.getD_some,Option.getD_none] at he;omega
    ·have e2:is[p]?=none:=List.getElem?_eq_none (by omega)
     simp only [ix,List.getElem?_eq_none j1,e2,Option.getD_none] at he;omega
  refine ⟨hv,B,fun q b=>¬ dup q/\f (ix q) b,hs,fun q A hA=>?_,fun p q b hp hq hfp hfq=>?_,fun q b hq hf=>h3 _ b (hix q hq) hf.2⟩
  ·have h4:=h1 _ A (hixA q A hA)
   by_cases hd:dup q
   ·obtain ⟨i,i1,i2⟩:=hd
    rcases hat q A hA with ⟨k,k1,_,k3⟩ | ⟨j1,_⟩
    ·rw [i1] at k1;cases k1
     exact A.pok (k3 i2) h4
    ·rw [List.getElem?_eq_none j1] at i1;cases i1
   ·have e:(fun b=>¬ dup q/\f (ix q) b)=f (ix q):=by funext b;simp [hd]
    show A.pr B w (fun b=>¬ dup q/\f (ix q) b)
    rw [e];exact h4
  ·exact inj p q hp hq hfp.1 hfq.1 (h2 _ _ b (hix p hp) (hix q hq) hfp.2 hfq.2)
 ·cases h
def tK:List (Nat×Value)->List (Nat×Value)->Option (List (Nat×Value))
 | [],_=>some []
 | (k,_)::r,l=>match lk k l with
  | some v=>match tK r l with
   | some r'=>some ((k,v)::r')
   | none=>none
  | none=>none
theorem aDs {l:List (Nat×Value)}:∀ {ks l':List (Nat×Value)},tK ks l=some l'->yF l l'
 | [],_,h=>by cases h;trivial
 | (k,_)::r,l',h=>by
  simp only [tK] at h
  split at h
  ·rename_i v e
   split at h
   ·rename_i r' e2;cases h;exact ⟨e,aDs e2⟩
   grind
  grind
theorem Fr.sl {N:Fs} {a:Act} {l l':List (Nat×Value)} (F:Fr N a l) (h:tK l' l=some l'):Fr N a l':=F.cut _ (aDs h)
theorem Fr.bT {N:Fs} {a:Act} {l:List (Nat×Value)} (F:Fr N a l) (k:Nat) {p:Prop} [Decidable p] (h:p) (hk:lk k l=some (.bool (decide p))):Fr N a ((k,.bool true)::l):=F.bool hk (by grind)
theorem Fr.bF {N:Fs} {a:Act} {l:List (Nat×Value)} (F:Fr N a l) (k:Nat) {p:Prop} [Decidable p] (h:¬ p) (hk:lk k l=some (.bool (decide p))):Fr N a ((k,.bool false)::l):=F.bool hk (by grind)
theorem Fr.nT {N:Fs} {a:Act} {l:List (Nat×Value)} (F:Fr N a l) (k:Nat) {p:Prop} [Decidable p] (h:p) (hk:lk k l=some (.bool (!decide p))):Fr N a ((k,.bool false)::l):=F.bool hk (by grind)
theorem Fr.nF {N:Fs} {a:Act} {l:List (Nat×Value)} (F:Fr N a l) (k:Nat) {p:Prop} [Decidable p] (h:¬ p) (hk:lk k l=some (.bool (!decide p))):Fr N a ((k,.bool true)::l):=F.bool hk (by grind)
theorem Fr.vT {N:Fs} {a:Act} {l:List (Nat×Value)} (F:Fr N a l) (k:Nat) {b:Bool} (h:b=true) (hk:lk k l=some (.bool b)):Fr N a ((k,.bool true)::l):=F.bool hk (by grind)
theorem Fr.vF {N:Fs} {a:Act} {l:List (Nat×Value)} (F:Fr N a l) (k:Nat) {b:Bool} (h:¬ b=true) (hk:lk k l=some (.bool b)):Fr N a ((k,.bool false)::l):=F.bool hk (by grind)
def opC (n:Nat) (sl:List (Nat×Value)) (o:Oper):Option (Nat×FuncId×List Value):=match o.guard with
 | some _=>none
 | none=>match o.dst with
  | none=>none
  | some d=>match Nat.blt d n with
   | false=>none
   | true=>match o.op with
    | .call c=>match c.callee with
     | .value (.func f)=>match evs sl c.args.toList with
      | some vs=>some (d,f,vs)
      | none=>none
     | _=>none
    | _=>none
theorem aGf {n d:Nat} {f:FuncId} {vs:List Value} {sl:List (Nat×Value)} {o:Oper} (h:opC n sl o=some (d,f,vs)):o.guard=none/\o.dst=some d/\Nat.blt d n=true/\∃ xs ts,o.op=.call { callee:=.value (.func f),args:=List.toArray xs,argTypes:=ts }/\evs sl xs=some vs:=by
 unfold opC at h
 split at h
 ·cases h
 ·rename_i hg
  split at h
  ·cases h
  ·rename_i d' hd
   split at h
   ·cases h
   ·rename_i hN
    split at h
    ·rename_i c ho
     split at h
     ·rename_i f' hc
      split at h
      ·rename_i vs' hv
       cases h
       obtain ⟨cc,⟨ca⟩,ct⟩:=c
       simp only at hc hv
       subst hc
       exact ⟨hg,hd,hN,ca,ct,ho,hv⟩
      ·cases h
     ·cases h
    ·cases h
theorem sc {P:Program} {ops:Array Oper} {W:List Oper->Act->World->Prop} {rest:List Oper} {o:Oper} {a:Act} {N:Fs} {sl:List (Nat×Value)} {d:Nat} {f:FuncId} {vs:List Value} {R:Value->World->Prop} (kw:bN P ops W) (F:Fr N a sl) (h:opC N.n sl o=some (d,f,vs)) (he:∀ args w,(callFunc f args).run P w=.ok (.enter f args) w)
  (hc:Calls P f vs.toArray w fun e w'=>∃ v,e=.returned v/\R v w') (hk:∀ v w' a',R v w'->Fr N a' ((d,v)::sl)->W rest a' w'):W (o::rest) a w:=by
 obtain ⟨hg,hd,hN,xs,ts,ho,hv⟩:=aGf h
 exact rM kw F hg hd hN (by rw [ho];rfl) (nA F ho hv he) hc hk
theorem St.mR {α:Type} {R:Rp α} (H:St w0 w l) {cs:List Value} {x:α} (hrd:∀ {B:Base},(∀ (j:Nat) (C:HP),l[j]?=some C->∃ S,C.pr B w S)->R.rd B cs x):St w0 w (HP.rc R cs x::l) :=
 H.more fun B _ hp=>hrd fun j C hj=>hp j C hj
theorem St.rL {α:Type} {R:Rp α} (H:St w0 w l) (i:Nat) {cs:List Value} {x:α} (hi:l[i]?=some (HP.rc R cs x)):cs.length=R.n:=by
 obtain ⟨B,S,_,h,_⟩:=H.get i hi
 exact R.len h
theorem St.rF {α:Type} {R:Rp α} (H:St w0 w l) (i:Nat) {cs:List Value} {x:α} (hi:l[i]?=some (HP.rc R cs x)):Flat cs:=by
 obtain ⟨B,S,_,h,_⟩:=H.get i hi
 exact R.flat h
end
theorem sq:type_of% @wp_seq:=@wp_seq
theorem bl:type_of% @wp_block:=@wp_block
theorem ct:type_of% @cJ:=@cJ
theorem bn:type_of% @yD:=@yD
theorem cx:type_of% @pB:=@pB
theorem ch:type_of% @sI:=@sI
theorem lz:type_of% @wpList_nil:=@wpList_nil
theorem sk:type_of% @wp_skip:=@wp_skip
theorem ex:type_of% @wp_exit:=@wp_exit
theorem wr:type_of% @wp_ret:=@wp_ret
theorem br:type_of% @sF:=@sF
theorem tr:type_of% @pE:=@pE
theorem rl:type_of% @dI:=@dI
theorem sqi:type_of% @wpIn_seq:=@wpIn_seq
theorem bli:type_of% @wpIn_block:=@wpIn_block
theorem lzi:type_of% @wpListIn_nil:=@wpListIn_nil
theorem rli:type_of% @lL:=@lL
theorem cB:type_of% @wJ:=@wJ
theorem cT:type_of% @kI:=@kI
theorem cF:type_of% @iZ:=@iZ
abbrev En (P:Program) (f:FuncId):Prop:=∀ args w,(callFunc f args).run P w=.ok (.enter f args) w
theorem fl {cs:List Value} (h:cs.all Value.oneCell'=true):Flat cs:=fun v hv=>List.all_eq_true.1 h v hv
def pkS:List Nat->List (Nat×Value)->Option (List (Nat×Value))
 | [],_=>some []
 | k::r,l=>match lk k l with
  | some v=>match pkS r l with
   | some r'=>some ((k,v)::r')
   | none=>none
  | none=>none
def opV (n:Nat) (o:Oper):Option Nat:=match o.guard with
 | some _=>none
 | none=>match o.dst with
  | none=>none
  | some d=>match Nat.blt d n with
   | true=>match dD o.op with
    | true=>some d
    | false=>none
   | false=>none
theorem rJ {n d:Nat} {o:Oper} (h:opV n o=some d):o.guard=none/\o.dst=some d/\Nat.blt d n=true/\dD o.op=true:=by grind [opV]
section
variable {P:Program} {ops:Array Oper} {Q:Exit->Act->World->Prop} {a:Act} {w w0 w':World} {N:Fs} {sl sl' s1:List (Nat×Value)} {ls l1:List HP} {o:Oper} {rest l l':List Oper} {d:Nat} {v:Value}
theorem sv (F:Fr N a sl) (h:opV N.n o=some d) (hr:(execOp a.eval o).run P w=.ok (.value v) w') (hk:∀ a',Fr N a' ((d,v)::sl)->wpList P ops Q rest a' w'):wpList P ops Q (o::rest) a w:=by grind [bD,wkP,rJ]
theorem qv {C:World->Prop} {Q:Act->Prop} (F:Fr N a sl) (h:opV N.n o=some d) (hr:∀ w,C w->(execOp a.eval o).run P w=.ok (.value v) w) (hk:∀ a',Fr N a' ((d,v)::sl)->wpQuiet P ops C Q rest a'):wpQuiet P ops C Q (o::rest) a :=
 aF9 F (rJ h).1 (rJ h).2.1 (rJ h).2.2.1 hr hk
theorem bb {ops:List Oper} (hs:List Nat) (F:Fr N a sl) (H:St w0 w ls) (h:eP P N.n ops ls hs sl l=some (sl',l',[])) (k:∀ a',Fr N a' sl'->wpList P ops.toArray Q l' a' w):wpList P ops.toArray Q l a w:=bk hs F H h trivial k
theorem qb {ops:List Oper} {Q:Act->Prop} (hs:List Nat) (F:Fr N a sl) (h:eP P N.n ops ls hs sl l=some (sl',l',[])) (k:∀ a',Fr N a' sl'->wpQuiet P ops.toArray (fun u=>St w0 u ls) Q l' a'):wpQuiet P ops.toArray (fun u=>St w0 u ls) Q l a:=qbk hs F h trivial k
theorem mb {ops:List Oper} {C:World->Prop} {K:Act->World->Prop} {s s':Sc} (hs:List Nat) (F:Fr N a sl) (H:St w0 w ls) (h:lK P N.n ops ls hs sl s=some (sl',s',[])) (k:∀ a',Fr N a' sl'->aW P ops.toArray C K s' a' w):aW P ops.toArray C K s a w:=mbk hs F H h trivial k
theorem sb {y:Code} {id:Nat} (hs:List Nat) (F:Fr N a sl) (H:St w0 w ls) (h:eP P N.n l ls hs sl l=some (sl',l',[])) (k:∀ a',Fr N a' sl'->wpList P l.toArray (Exit.then (fun a w=>y.wp P Q a w) Q) l' a' w):(Code.seq (.region id l.toArray false) y).wp P Q a w:=sr (bk hs F H h trivial k)
theorem nb {y:Code} {id:Nat} {ops:Array Oper} {Q':Exit->Act->World->Prop} (hs:List Nat) (F:Fr N a sl) (H:St w0 w ls) (h:eP P N.n l ls hs sl l=some (sl',l',[])) (k:∀ a',Fr N a' sl'->wpList P l.toArray (Exit.then (fun a w=>y.wp P Q a w) Q) l' a' w):wpList P ops (Exit.then (fun a w=>(Code.seq (.region id l.toArray false) y).wp P Q a w) Q') [] a w:=nl (sr (bk hs F H h trivial k))
theorem sd {f:FuncId} {vs:List Value} {R:Value->World->Prop} (F:Fr N a sl) (h:opC N.n sl o=some (d,f,vs)) (he:En P f)
  (hc:Calls P f vs.toArray w fun e w'=>∃ v,e=.returned v/\R v w') (hk:∀ v w' a',R v w'->Fr N a' ((d,v)::sl)->wpList P ops Q rest a' w'):wpList P ops Q (o::rest) a w:=sc wkP F h he hc hk
theorem cPm {c:Operand} {x y:Code} {p:Prop} {i1 i2:Decidable p} {α:Type} {A B r:α} (F:Fr N a sl) (hc:ev sl c=some (.bool (@decide p i1))) (hm:(@ite α p i2 A B)=r) (ht:p->A=r->x.wp P Q a w) (hf:¬ p->B=r->y.wp P Q a w):(Code.cond c x y).wp P Q a w:=by grind [aHg]
theorem cNm {c:Operand} {x y:Code} {p:Prop} {i1 i2:Decidable p} {α:Type} {A B r:α} (F:Fr N a sl) (hc:ev sl c=some (.bool (!@decide p i1))) (hm:(@ite α p i2 A B)=r) (hf:¬ p->B=r->x.wp P Q a w) (ht:p->A=r->y.wp P Q a w):(Code.cond c x y).wp P Q a w:=by grind [aO7]
theorem spP {p:Prop} {i1 i2:Decidable p} {α:Type} {A B r:α} (k:Nat) (F:Fr N a sl) (hk:lk k sl=some (.bool (@decide p i1))) (hm:(@ite α p i2 A B)=r):(p/\A=r/\Fr N a ((k,.bool true)::sl))\/(¬ p/\B=r/\Fr N a ((k,.bool false)::sl)):=by grind [Fr.bT,Fr.bF]
theorem spN {p:Prop} {i1 i2:Decidable p} {α:Type} {A B r:α} (k:Nat) (F:Fr N a sl) (hk:lk k sl=some (.bool (!@decide p i1))) (hm:(@ite α p i2 A B)=r):(p/\A=r/\Fr N a ((k,.bool false)::sl))\/(¬ p/\B=r/\Fr N a ((k,.bool true)::sl)):=by grind [Fr.nT,Fr.nF]
theorem xm0 {x:Code} {τ ρ:Type} {ot:Option τ} {f:τ->Option ρ} {r:ρ}  (n:Nat) (is js:List Nat) (F:Fr N a sl) (H:St w0 w ls) (hm:ot.bind f=some r) (h1:pkS is sl=some s1) (h2:pmL n js ls=some l1)
  (S:τ->List (Nat×Value)->List (Nat×Value)) (L:τ->List HP->List HP)
  (hx:∀ t,ot=some t->x.wp P (Exit.then (fun a w=>Fr N a (S t s1)/\St w0 w (L t l1)) Q) a w)
  (hy:∀ t a w,f t=some r->Fr N a (S t s1)->St w0 w (L t l1)->Q .normal a w):x.wp P Q a w:=by
 obtain ⟨t,h3,h4⟩:=ob hm
 grind [fQ]
theorem xr0 {x:Code} {τ υ ρ:Type} {ot:Option (τ ⊕ υ)} {f:τ->Option ρ} {g:υ->Option ρ} {r:ρ}  (n:Nat) (is js:List Nat) (F:Fr N a sl) (H:St w0 w ls) (hm:(ot.bind fun z=>Sum.elim f g z)=some r) (h1:pkS is sl=some s1) (h2:pmL n js ls=some l1)
  (S:τ->List (Nat×Value)->List (Nat×Value)) (L:τ->List HP->List HP)
  (hx:∀ z,ot=some z->Sum.elim f g z=some r->x.wp P (Exit.then (fun a w=>∃ t,z=.inl t/\Fr N a (S t s1)/\St w0 w (L t l1)) Q) a w)
  (hy:∀ t a w,f t=some r->Fr N a (S t s1)->St w0 w (L t l1)->Q .normal a w):x.wp P Q a w:=by
 obtain ⟨z,h3,h4⟩:=ob hm
 grind [fQ]
theorem xl0 {c:Code} {σ ρ:Type} {f:σ->Option (σ ⊕ ρ)} {g0:σ} {r:ρ}  (n:Nat) (is js:List Nat) (F:Fr N a sl) (H:St w0 w ls) (hm:aH f g0=some r) (h1:pkS is sl=some s1) (h2:pmL n js ls=some l1)
  (S:σ->List (Nat×Value)->List (Nat×Value)) (L:σ->List HP->List HP)
  (h0:Fr N a (S g0 s1)/\St w0 w (L g0 l1))
  (hk:∀ s a w o,Fr N a (S s s1)->St w0 w (L s l1)->f s=some o->c.wp P (Exit.then (fun a' w'=>∃ s',o=.inl s'/\Fr N a' (S s' s1)/\St w0 w' (L s' l1)) (fun e a' w'=>∃ r',o=.inr r'/\(r'=r->Q e a' w'))) a w):(Code.loop c).wp P Q a w:=by
 refine jC f (fun s a w=>Fr N a (S s s1)/\St w0 w (L s l1)) hm h0 ?_
 grind
theorem xm1 {x:Code} {τ ρ:Type} {ot:Option τ} {f:τ->Option ρ} {r:ρ} {T0:Type} (n:Nat) (is js:List Nat) (F:Fr N a sl) (H:St w0 w ls) (hm:ot.bind f=some r) (h1:pkS is sl=some s1) (h2:pmL n js ls=some l1)
  (S:τ->T0->List (Nat×Value)->List (Nat×Value)) (L:τ->T0->List HP->List HP)
  (hx:∀ t,ot=some t->x.wp P (Exit.then (fun a w=>∃ x0,Fr N a (S t x0 s1)/\St w0 w (L t x0 l1)) Q) a w)
  (hy:∀ t a w,f t=some r->∀ x0,Fr N a (S t x0 s1)->St w0 w (L t x0 l1)->Q .normal a w):x.wp P Q a w:=by
 obtain ⟨t,h3,h4⟩:=ob hm
 grind [fQ]
theorem xr1 {x:Code} {τ υ ρ:Type} {ot:Option (τ ⊕ υ)} {f:τ->Option ρ} {g:υ->Option ρ} {r:ρ} {T0:Type} (n:Nat) (is js:List Nat) (F:Fr N a sl) (H:St w0 w ls) (hm:(ot.bind fun z=>Sum.elim f g z)=some r) (h1:pkS is sl=some s1) (h2:pmL n js ls=some l1)
  (S:τ->T0->List (Nat×Value)->List (Nat×Value)) (L:τ->T0->List HP->List HP)
  (hx:∀ z,ot=some z->Sum.elim f g z=some r->x.wp P (Exit.then (fun a w=>∃ t,z=.inl t/\∃ x0,Fr N a (S t x0 s1)/\St w0 w (L t x0 l1)) Q) a w)
  (hy:∀ t a w,f t=some r->∀ x0,Fr N a (S t x0 s1)->St w0 w (L t x0 l1)->Q .normal a w):x.wp P Q a w:=by
 obtain ⟨z,h3,h4⟩:=ob hm
 grind [fQ]
theorem xl1 {c:Code} {σ ρ:Type} {f:σ->Option (σ ⊕ ρ)} {g0:σ} {r:ρ} {T0:Type} (n:Nat) (is js:List Nat) (F:Fr N a sl) (H:St w0 w ls) (hm:aH f g0=some r) (h1:pkS is sl=some s1) (h2:pmL n js ls=some l1)
  (S:σ->T0->List (Nat×Value)->List (Nat×Value)) (L:σ->T0->List HP->List HP)
  (h0:∃ x0,Fr N a (S g0 x0 s1)/\St w0 w (L g0 x0 l1))
  (hk:∀ s a w o,∀ x0,Fr N a (S s x0 s1)->St w0 w (L s x0 l1)->f s=some o->c.wp P (Exit.then (fun a' w'=>∃ s',o=.inl s'/\∃ x0,Fr N a' (S s' x0 s1)/\St w0 w' (L s' x0 l1)) (fun e a' w'=>∃ r',o=.inr r'/\(r'=r->Q e a' w'))) a w):(Code.loop c).wp P Q a w:=by
 refine jC f (fun s a w=>∃ x0,Fr N a (S s x0 s1)/\St w0 w (L s x0 l1)) hm h0 ?_
 grind
theorem xm2 {x:Code} {τ ρ:Type} {ot:Option τ} {f:τ->Option ρ} {r:ρ} {T0:Type} {T1:Type} (n:Nat) (is js:List Nat) (F:Fr N a sl) (H:St w0 w ls) (hm:ot.bind f=some r) (h1:pkS is sl=some s1) (h2:pmL n js ls=some l1)
  (S:τ->T0->T1->List (Nat×Value)->List (Nat×Value)) (L:τ->T0->T1->List HP->List HP)
  (hx:∀ t,ot=some t->x.wp P (Exit.then (fun a w=>∃ x0,∃ x1,Fr N a (S t x0 x1 s1)/\St w0 w (L t x0 x1 l1)) Q) a w)
  (hy:∀ t a w,f t=some r->∀ x0 x1,Fr N a (S t x0 x1 s1)->St w0 w (L t x0 x1 l1)->Q .normal a w):x.wp P Q a w:=by
 obtain ⟨t,h3,h4⟩:=ob hm
 grind [fQ]
theorem xr2 {x:Code} {τ υ ρ:Type} {ot:Option (τ ⊕ υ)} {f:τ->Option ρ} {g:υ->Option ρ} {r:ρ} {T0:Type} {T1:Type} (n:Nat) (is js:List Nat) (F:Fr N a sl) (H:St w0 w ls) (hm:(ot.bind fun z=>Sum.elim f g z)=some r) (h1:pkS is sl=some s1) (h2:pmL n js ls=some l1)
  (S:τ->T0->T1->List (Nat×Value)->List (Nat×Value)) (L:τ->T0->T1->List HP->List HP)
  (hx:∀ z,ot=some z->Sum.elim f g z=some r->x.wp P (Exit.then (fun a w=>∃ t,z=.inl t/\∃ x0,∃ x1,Fr N a (S t x0 x1 s1)/\St w0 w (L t x0 x1 l1)) Q) a w)
  (hy:∀ t a w,f t=some r->∀ x0 x1,Fr N a (S t x0 x1 s1)->St w0 w (L t x0 x1 l1)->Q .normal a w):x.wp P Q a w:=by
 obtain ⟨z,h3,h4⟩:=ob hm
 grind [fQ]
theorem xl2 {c:Code} {σ ρ:Type} {f:σ->Option (σ ⊕ ρ)} {g0:σ} {r:ρ} {T0:Type} {T1:Type} (n:Nat) (is js:List Nat) (F:Fr N a sl) (H:St w0 w ls) (hm:aH f g0=some r) (h1:pkS is sl=some s1) (h2:pmL n js ls=some l1)
  (S:σ->T0->T1->List (Nat×Value)->List (Nat×Value)) (L:σ->T0->T1->List HP->List HP)
  (h0:∃ x0,∃ x1,Fr N a (S g0 x0 x1 s1)/\St w0 w (L g0 x0 x1 l1))
  (hk:∀ s a w o,∀ x0 x1,Fr N a (S s x0 x1 s1)->St w0 w (L s x0 x1 l1)->f s=some o->c.wp P (Exit.then (fun a' w'=>∃ s',o=.inl s'/\∃ x0,∃ x1,Fr N a' (S s' x0 x1 s1)/\St w0 w' (L s' x0 x1 l1)) (fun e a' w'=>∃ r',o=.inr r'/\(r'=r->Q e a' w'))) a w):(Code.loop c).wp P Q a w:=by
 refine jC f (fun s a w=>∃ x0,∃ x1,Fr N a (S s x0 x1 s1)/\St w0 w (L s x0 x1 l1)) hm h0 ?_
 grind
theorem xm4 {x:Code} {τ ρ:Type} {ot:Option τ} {f:τ->Option ρ} {r:ρ} {T0:Type} {T1:Type} {T2:Type} {T3:Type} (n:Nat) (is js:List Nat) (F:Fr N a sl) (H:St w0 w ls) (hm:ot.bind f=some r) (h1:pkS is sl=some s1) (h2:pmL n js ls=some l1)
  (S:τ->T0->T1->T2->T3->List (Nat×Value)->List (Nat×Value)) (L:τ->T0->T1->T2->T3->List HP->List HP)
  (hx:∀ t,ot=some t->x.wp P (Exit.then (fun a w=>∃ x0,∃ x1,∃ x2,∃ x3,Fr N a (S t x0 x1 x2 x3 s1)/\St w0 w (L t x0 x1 x2 x3 l1)) Q) a w)
  (hy:∀ t a w,f t=some r->∀ x0 x1 x2 x3,Fr N a (S t x0 x1 x2 x3 s1)->St w0 w (L t x0 x1 x2 x3 l1)->Q .normal a w):x.wp P Q a w:=by
 obtain ⟨t,h3,h4⟩:=ob hm
 grind [fQ]
theorem xr4 {x:Code} {τ υ ρ:Type} {ot:Option (τ ⊕ υ)} {f:τ->Option ρ} {g:υ->Option ρ} {r:ρ} {T0:Type} {T1:Type} {T2:Type} {T3:Type} (n:Nat) (is js:List Nat) (F:Fr N a sl) (H:St w0 w ls) (hm:(ot.bind fun z=>Sum.elim f g z)=some r) (h1:pkS is sl=some s1) (h2:pmL n js ls=some l1)
  (S:τ->T0->T1->T2->T3->List (Nat×Value)->List (Nat×Value)) (L:τ->T0->T1->T2->T3->List HP->List HP)
  (hx:∀ z,ot=some z->Sum.elim f g z=some r->x.wp P (Exit.then (fun a w=>∃ t,z=.inl t/\∃ x0,∃ x1,∃ x2,∃ x3,Fr N a (S t x0 x1 x2 x3 s1)/\St w0 w (L t x0 x1 x2 x3 l1)) Q) a w)
  (hy:∀ t a w,f t=some r->∀ x0 x1 x2 x3,Fr N a (S t x0 x1 x2 x3 s1)->St w0 w (L t x0 x1 x2 x3 l1)->Q .normal a w):x.wp P Q a w:=by
 obtain ⟨z,h3,h4⟩:=ob hm
 grind [fQ]
end
section
variable {α:Type} {R:Rp α} {p:Option Addr} {cap:Nat} {xs:List α} {x:α} {w0 w:World} {l:List HP}
theorem St.slF (H:St w0 w l) (i:Nat) (hi:l[i]?=some (HP.sl R p cap xs)) {b off:Nat} (hp:p=some ⟨b,off,none⟩) {q:Int} (hx:aD xs q=some x):∃ cs,St w0 w (HP.row b (off+q.toNat*R.n) cs::HP.rc R cs x::l):=by
 obtain ⟨cs,_,h⟩:=H.sE i hi hp (eR hx).2
 grind
theorem St.slE (H:St w0 w l) (i:Nat) (hi:l[i]?=some (HP.sl R p cap xs)) {q:Int} (hx:aD xs q=some x):∃ b off,p=some ⟨b,off,none⟩/\∃ cs,St w0 w (HP.row b (off+q.toNat*R.n) cs::HP.rc R cs x::l):=by
 obtain ⟨b,off,hp⟩:=H.slP i hi (eR hx).2
 exact ⟨b,off,hp,H.slF i hi hp hx⟩
end
def scL:List Nat->Sc
 | []=>.done
 | n::r=>.step (n / 1000) (n % 1000) (scL r)
def pkH:List Nat->List HP->Option (List HP)
 | [],_=>some []
 | i::r,l=>match atL i l with
  | some A=>match pkH r l with
   | some L=>some (A::L)
   | none=>none
  | none=>none
theorem aG1 {l:List HP}:∀ {is:List Nat} {L:List HP},pkH is l=some L->is.map (fun i=>l[i]?)=L.map some
 | [],L,h=>by cases h;rfl
 | i::r,L,h=>by
  simp only [pkH] at h
  split at h
  ·rename_i A hA
   rw [cU] at hA
   split at h
   ·rename_i L' hL
    cases h
    rw [List.map_cons,List.map_cons,hA,aG1 hL]
   ·cases h
  ·cases h
def tZ:List Nat->Bool
 | []=>true
 | i::r=>match lM i r with
  | true=>false
  | false=>tZ r
theorem aG4:∀ {is:List Nat},tZ is=true->is.Nodup
 | [],_=>by simp
 | i::r,h=>by
  simp only [tZ] at h
  split at h
  ·grind
  ·exact List.nodup_cons.2 ⟨(fun hi=>by grind [xC]),aG4 h⟩
section
variable {P:Program} {id:Nat} {ro:Option Nat} {Q:Exit->Act->World->Prop} {a:Act} {w0 w:World} {l:List Oper} {ls L:List HP}
theorem eT (hs hz:List Nat) (s:Sc) (is:List Nat) (H:St w0 w ls) (hp:pkH is ls=some L) (hn:tZ is=true) (hm:P.follows .mixedOrders=true)
  (hB:(Region.noSelect l.toArray&&dL .any l.toArray (fun i=>hs.contains i) (fun i=>hz.contains i) s (Array.replicate l.toArray.size false)&&(s.len==l.toArray.size))=true)
  (h:∀ w,St w0 w ls->aW P l.toArray (fun u=>∃ r,St w0 u (L++r)) (Q .normal) s a w):(Code.region id l.toArray true).wp P Q a w :=
 iK hs hz s _ hm hB ⟨[],by rw [List.append_nil];exact H.drew.pick is (aG4 hn) (aG1 hp)⟩ (h _ H.drew)
end
section
variable {w0 w:World} {l:List HP} {p:Option Addr} {cap:Nat} {e:TypeId}
end
theorem set_self {α:Type}:∀ {l:List α} {i:Nat} {A:α},l[i]?=some A->l.set i A=l
 | [],_,_,_=>rfl
 | _::_,0,_,h=>by cases h;rfl
 | _::l,i+1,A,h=>by
  have:l[i]?=some A:=by simpa using h
  simp [set_self this]
def HP.mo (p:Option Nat) (raw:Array MapEntry) (c:Nat):HP :=
 HP.of (fun _ w S=>match p with
  | none=>raw=#[]
  | some b=>w.heap[b]?=some (.map raw c)/\S b)
  (fun {B w w' S} h hS=>by
   cases p with
   | none=>exact h
   | some b=>exact ⟨by rw [hS _ h.2];exact h.1,h.2⟩)
  (fun h _=>h)
def mit (p:Option Nat) (c:Nat) (seen:Array Nat):Obj:=match p with
 | none=>.mapIter none 0 #[] 0
 | some b=>.mapIter (some b) c seen c
section
variable {κ β:Type} [DecidableEq κ]
def HP.es (R:Rp β) (ok:κ->Prop) (es:List (κ×(List Value×β))) (m:κ->Option β):HP:=HP.pe (fun B=>EsOk R ok B es m) (fun h hl=>h.mono hl)
structure MRaw (ek:κ->Value) (agg:Bool) (es:List (κ×(List Value×β))) (raw:Array MapEntry) (c:Nat):Prop where
 ent:raw.toList.map (fun e=>(e.key,e.val))=cZ ek agg es
 nd:(raw.toList.map (·.born)).Nodup
 lt:∀ e∈raw.toList,e.born<c
def prs (es:List (κ×(List Value×β))):List (κ×β):=es.map fun p=>(p.1,p.2.2)
def pv (es:List (κ×(List Value×β))) (vis:List Nat):List (κ×β):=vis.filterMap fun i=>(prs es)[i]?
def bL (raw:Array MapEntry) (vis:List Nat):Array Nat:=(vis.map fun i=>(raw[i]?.map (·.born)).getD 0).toArray
def VisOk (n:Nat) (vis:List Nat):Prop:=vis.Nodup/\∀ i∈vis,i<n
theorem VisOk.nil (n:Nat):VisOk n []:=⟨by simp,by simp⟩
theorem VisOk.snoc {n:Nat} {vis:List Nat} (h:VisOk n vis) {q:Nat} (hq:q<n) (hn:q ∉ vis):VisOk n (vis++[q]):=by
 refine ⟨?_,fun i hi=>?_⟩
 ·rw [List.nodup_append];exact ⟨h.1,by simp,fun x hx y hy=>by simp at hy;subst hy;exact fun e=>hn (e▸hx)⟩
 ·rcases List.mem_append.1 hi with hi | hi
  ·exact h.2 i hi
  ·simp at hi;omega
omit [DecidableEq κ] in
theorem MRaw.len {ek:κ->Value} {agg:Bool} {es:List (κ×(List Value×β))} {raw:Array MapEntry} {c:Nat} (h:MRaw ek agg es raw c):raw.size=es.length:=by
 have:=congrArg List.length h.ent;simpa [cZ,mkv] using this
omit [DecidableEq κ] in
theorem MRaw.at {ek:κ->Value} {agg:Bool} {es:List (κ×(List Value×β))} {raw:Array MapEntry} {c:Nat} (h:MRaw ek agg es raw c) {q:Nat} {k:κ} {cs:List Value} {v:β} (hq:es[q]?=some (k,cs,v)):∃ e,raw[q]?=some e/\e.key=ek k/\e.val=mkV agg cs:=by
 have hl:=h.len
 have hlt:=(List.getElem?_eq_some_iff.1 hq).1
 obtain ⟨e,he⟩:∃ e,raw[q]?=some e:=⟨raw[q]'(by omega),Array.getElem?_eq_getElem (by omega)⟩
 have h1:=congrArg (fun l=>l[q]?) h.ent
 have he':raw.toList[q]?=some e:=by simpa using he
 simp only [List.getElem?_map,he',cZ,mkv,hq,Option.map_some,Option.some.injEq,Prod.mk.injEq] at h1
 exact ⟨e,he,h1.1,h1.2⟩
theorem aEj (raw:Array MapEntry) (vis:List Nat) {q:Nat} {e:MapEntry} (he:raw[q]?=some e):(bL raw vis).push e.born=bL raw (vis++[q]):=by
 simp [bL,he]
omit [DecidableEq κ] in
theorem aCz {ek:κ->Value} {agg:Bool} {es:List (κ×(List Value×β))} {raw:Array MapEntry} {c:Nat} (h:MRaw ek agg es raw c) {vis:List Nat} (hv:VisOk es.length vis) {q:Nat} {e:MapEntry} (he:raw[q]?=some e):(bL raw vis).contains e.born=true↔q∈vis:=by
 have hl:=h.len
 simp only [bL,List.contains_toArray,List.contains_eq_mem,decide_eq_true_eq,List.mem_map]
 constructor
 ·rintro ⟨i,hi,hb⟩
  have hil:=hv.2 i hi
  have e2:raw[i]?=some (raw[i]'(by omega)):=Array.getElem?_eq_getElem (by omega)
  rw [e2] at hb
  simp only [Option.map_some,Option.getD_some] at hb
  have hq:=(Array.getElem?_eq_some_iff.1 he)
  obtain ⟨hql,hqe⟩:=hq
  have:i=q:=by
   rcases Nat.lt_trichotomy i q with hlt | hlt | hlt
   ·exfalso
    have:=List.pairwise_iff_getElem.1 h.nd i q (by simp;omega) (by simp;omega) hlt
    apply this;simp [hb,<- hqe]
   ·exact hlt
   ·exfalso
    have:=List.pairwise_iff_getElem.1 h.nd q i (by simp;omega) (by simp;omega) hlt
    apply this;simp [hb,<- hqe]
  exact this▸hi
 ·intro hq;exact ⟨q,hq,by rw [he];rfl⟩
end
section
variable {κ β:Type} [DecidableEq κ] {R:Rp β} {ek:κ->Value} {agg:Bool} {ok:κ->Prop} {P:Program} {w0 w:World} {ls:List HP} {m:κ->Option β} {p:Option Nat} {es:List (κ×(List Value×β))} {raw:Array MapEntry} {c:Nat} {ops:Array Oper} {rest:List Oper} {o:Oper} {a:Act} {W:List Oper->Act->World->Prop} {N:Fs} {sl:List (Nat×Value)} {d:Nat} {x:Operand} {T K E:TypeId} {vis:List Nat}
theorem St.moOpen (H:St w0 w ls) (i:Nat) (hi:ls[i]?=some (HP.mm p ek agg R ok m)):∃ raw c es,MRaw ek agg es raw c/\Enum m (prs es)/\St w0 w (HP.es R ok es m::ls.set i (HP.mo p raw c)):=by
 obtain ⟨es,H⟩:=H.mmOpen i hi
 have hil:i<ls.length:=(List.getElem?_eq_some_iff.1 hi).1
 have hi':(ls.set i (HP.mx p ek agg R ok es m))[i]?=some (HP.mx p ek agg R ok es m):=by simp [hil]
 have key:∃ raw c,MRaw ek agg es raw c/\St w0 w ((ls.set i (HP.mx p ek agg R ok es m)).set i (HP.mo p raw c)):=by
  cases p with
  | none =>
   obtain ⟨B,_,h1,h2⟩:=H.mxOk i hi'
   simp only at h2
   subst h2
   exact ⟨#[],0,⟨rfl,by simp,by simp⟩,H.convAt i hi' fun S _=>rfl⟩
  | some b =>
   obtain ⟨B,_,h1,raw,c,h3,h4,h5,h6⟩:=H.mxOk i hi'
   refine ⟨raw,c,⟨h4,h5,h6⟩,H.convAt i hi' fun S h=>⟨h3,h.2.2⟩⟩
 obtain ⟨raw,c,hM,H2⟩:=key
 obtain ⟨B,S,hs,h1,_⟩:=H.get i hi'
 refine ⟨raw,c,es,hM,h1.1.enum,?_⟩
 rw [List.set_set] at H2
 have H3:St w0 w (HP.es R ok es m::ls.set i (HP.mx p ek agg R ok es m)):=H.more fun B hB hp=>by
  obtain ⟨S,hS⟩:=hp i _ hi'
  exact hS.1
 have:=H3.upd (w':=w) (i+1) (A:=HP.mx p ek agg R ok es m) (A':=HP.mo p raw c) (by simpa using hi') (fun {B} S hA hb=>⟨S,by
  cases p with
  | none =>
   obtain ⟨h1,h2⟩:=hA
   simp only at h2
   subst h2
   have:=hM.len
   exact Array.eq_empty_of_size_eq_zero (by simpa using this)
  | some b =>
   obtain ⟨h1,h2,h3⟩:=hA
   refine ⟨?_,h3⟩
   have:=H2.get i (A:=HP.mo (some b) raw c) (by simp [hil])
   obtain ⟨_,_,_,h7,_⟩:=this
   exact h7.1,fun b h=>.inl h,fun b h=>(hb b h).1,fun _ _ _=>rfl⟩) rfl rfl rfl (Nat.le_refl _)
 simpa using this
theorem St.moMx (H:St w0 w ls) (i j:Nat) (hM:MRaw ek agg es raw c) (hi:ls[i]?=some (HP.mo p raw c)) (hj:ls[j]?=some (HP.es R ok es m)):St w0 w (ls.set i (HP.mx p ek agg R ok es m)):=by
 obtain ⟨hv,B,f,hs,h1,h2,h3⟩:=H
 have hil:i<ls.length:=(List.getElem?_eq_some_iff.1 hi).1
 refine ⟨hv,B,f,hs,fun q A hA=>?_,by simpa using h2,by simpa using h3⟩
 rw [List.getElem?_set] at hA
 split at hA
 ·rename_i e
  subst e
  cases hA
  refine ⟨h1 j _ hj,?_⟩
  have:=h1 i _ hi
  cases p with
  | none =>
   simp only at this ⊢
   have hl:=hM.len
   have h0:raw=#[]:=this
   rw [h0] at hl
   exact List.eq_nil_of_length_eq_zero (by simpa using hl.symm)
  | some b=>exact ⟨⟨raw,c,this.1,hM.ent,hM.nd,hM.lt⟩,this.2⟩
 ·exact h1 q A hA
theorem St.moMm (H:St w0 w ls) (i j:Nat) (hM:MRaw ek agg es raw c) (hi:ls[i]?=some (HP.mo p raw c)) (hj:ls[j]?=some (HP.es R ok es m)):St w0 w (ls.set i (HP.mm p ek agg R ok m)):=by
 have hil:i<ls.length:=(List.getElem?_eq_some_iff.1 hi).1
 have h1:=H.moMx i j hM hi hj
 have h2:(ls.set i (HP.mx p ek agg R ok es m))[i]?=some (HP.mx p ek agg R ok es m):=by simp [hil]
 have:=h1.mxShut i h2
 rwa [List.set_set] at this
theorem St.esEl (H:St w0 w ls) (i:Nat) (hi:ls[i]?=some (HP.es R ok es m)) {q:Nat} {k:κ} {cs:List Value} {v:β} (hq:es[q]?=some (k,cs,v)):ok k/\St w0 w (HP.rc R cs v::ls):=by
 obtain ⟨B,S,hs,h,_⟩:=H.get i hi
 have hm:=List.mem_of_getElem? hq
 refine ⟨h.ok _ hm,H.more fun B hB hp=>?_⟩
 obtain ⟨S,hS⟩:=hp i _ hi
 exact hS.rd _ hm
theorem St.esLook (H:St w0 w ls) (i:Nat) (hi:ls[i]?=some (HP.es R ok es m)) (k:κ) {zc:List Value} {z0:β} (hz:∀ B,R.rd B zc z0):∃ cs,eO es k zc=cs/\St w0 w (HP.rc R cs ((m k).getD z0)::ls):=by
 refine ⟨_,rfl,H.more fun B hB hp=>?_⟩
 obtain ⟨S,hS⟩:=hp i _ hi
 have hg:=hS.get k
 show R.rd B (eO es k zc) ((m k).getD z0)
 unfold eO
 cases hx:aZ k es with
 | none=>rw [hx] at hg;rw [hg];exact hz B
 | some p=>rw [hx] at hg;rw [hg];exact hS.rd (k,p) (dT hx)
theorem wR (kw:bN P ops W) (F:Fr N a sl) (hg:o.guard=none) (hd:o.dst=some d) (hN:Nat.blt d N.n=true) (hT:P.underlying T=some (.map K E)) (ho:o.op=.range T x) (H:St w0 w ls) (i:Nat) (hi:ls[i]?=some (HP.mo p raw c)) (hx:ev sl x=some (.map p))
  (hk:∀ r w' a',St w0 w' (HP.obj r (mit p c (bL raw []))::ls)->Fr N a' ((d,.pointer (some ⟨r,0,none⟩))::sl)->W rest a' w'):W (o::rest) a w:=by
 cases p with
 | none =>
  refine bD kw F hg hd hN (by rw [ho];rfl) (v:=.pointer (some ⟨w.heap.size,0,none⟩)) (w':=w.alloc (.mapIter none 0 #[] 0)) ?_ fun a' F'=>hk _ _ a' (H.newObj _) F'
  unfold execOp
  simp [ho,F.eval hx,Instr.range,Go.run_underlying hT,newObj,Sem.run]
 | some b =>
  refine bD kw F hg hd hN (by rw [ho];rfl) (v:=.pointer (some ⟨w.heap.size,0,none⟩)) (w':=w.alloc (.mapIter (some b) c #[] c)) ?_ fun a' F'=>hk _ _ a' (H.newObj _) F'
  have hh:w.heap[b]?=some (.map raw c):=by obtain ⟨_,_,_,h,_⟩:=H.get i hi;exact h.1
  unfold execOp
  have hg:=kE (P:=P) w b raw c hh
  simp [ho,F.eval hx,Instr.range,Go.run_underlying hT,hg,newObj,Sem.run]
theorem St.moObj {b:Nat} (H:St w0 w ls) (i:Nat) (hi:ls[i]?=some (HP.mo (some b) raw c)):St w0 w (ls.set i (HP.obj b (.map raw c))):=H.convAt i hi fun S h=>h
theorem St.objMo {b:Nat} (H:St w0 w ls) (i:Nat) (hi:ls[i]?=some (HP.obj b (.map raw c))):St w0 w (ls.set i (HP.mo (some b) raw c)):=H.convAt i hi fun S h=>h
omit [DecidableEq κ] in
theorem xL (kw:bN P ops W) (F:Fr N a sl) (hg:o.guard=none) (hd:o.dst=some d) (hN:Nat.blt d N.n=true) (ho:o.op=.next x false) {r:Nat} (hx:ev sl x=some (.pointer (some ⟨r,0,none⟩))) (hM:MRaw ek agg es raw c) (hv:VisOk es.length vis) (H:St w0 w ls) (i j:Nat) (hi:ls[i]?=some (HP.mo p raw c)) (hj:ls[j]?=some (HP.obj r (mit p c (bL raw vis)))) (hij:Nat.beq i j=false)
  (h0:(∀ q,q<es.length->q∈vis)->∀ w' a',St w0 w' ls->Fr N a' ((d,.tuple [.bool false].toArray)::sl)->W rest a' w')
  (h1:∀ q k cs v,es[q]?=some (k,cs,v)->q ∉ vis->∀ w' a',St w0 w' (ls.set j (HP.obj r (mit p c (bL raw (vis++[q])))))->Fr N a' ((d,.tuple [.bool true,ek k,mkV agg cs].toArray)::sl)->W rest a' w'):W (o::rest) a w:=by
 have hl:=hM.len
 have hne:i≠j:=Nat.ne_of_beq_eq_false hij
 have hil:i<ls.length:=(List.getElem?_eq_some_iff.1 hi).1
 cases p with
 | none =>
  have h00:raw=#[]:=by obtain ⟨_,_,_,h,_⟩:=H.get i hi;exact h
  have hz:es.length=0:=by rw [<- hl,h00];rfl
  refine bD kw F hg hd hN (by rw [ho];rfl) (v:=.tuple [.bool false].toArray) (w':=w) ?_ fun a' F'=>h0 (fun q hq=>by omega) _ a' H F'
  have hr:=H.objAt j hj
  have g1:(getObj r).run P w=.ok (.mapIter none 0 #[] 0) w:=by unfold getObj Sem.run;rw [hr];rfl
  unfold execOp
  simp only [ho,F.eval hx]
  unfold Instr.next
  simp only
  rw [Sem.run_bind,Sem.run_bind,g1]
  rfl
 | some b =>
  have H2:=H.moObj i hi
  have hi2:(ls.set i (HP.obj b (.map raw c)))[i]?=some (HP.obj b (.map raw c)):=by simp [hil]
  have hj2:(ls.set i (HP.obj b (.map raw c)))[j]?=some (HP.obj r (.mapIter (some b) c (bL raw vis) c)):=by rw [List.getElem?_set_ne hne];exact hj
  refine aJm kw F hg hd hN ho hx H2 i j hi2 hj2 hM.lt (fun hall w' a' H' F'=>?_) (fun e he hnot w' a' H' F'=>?_)
  ·have H3:=H'.objMo i hi2
   have e3:(ls.set i (HP.obj b (.map raw c))).set i (HP.mo (some b) raw c)=ls:=by
    rw [List.set_set];exact set_self hi
   rw [e3] at H3
   refine h0 (fun q hq=>?_) w' a' H3 F'
   have e2:raw[q]?=some (raw[q]'(by omega)):=Array.getElem?_eq_getElem (by omega)
   exact (aCz hM hv e2).1 (hall _ (by simp))
  ·obtain ⟨q,hq,rfl⟩:=List.getElem_of_mem he
   have hql:q<es.length:=by rw [<- hl];simpa using hq
   obtain ⟨k,cs,v,hes⟩:∃ k cs v,es[q]?=some (k,cs,v):=⟨_,_,_,List.getElem?_eq_getElem hql⟩
   obtain ⟨e',he',hk',hv'⟩:=hM.at hes
   have hee:raw.toList[q]=e':=by
    have:raw[q]?=some raw.toList[q]:=by simp [Array.getElem?_eq_getElem (show q<raw.size by omega)]
    rw [this] at he';exact Option.some.inj he'
   rw [hee] at hnot H' F'
   have hnv:q ∉ vis:=fun hin=>by rw [(aCz hM hv he').2 hin] at hnot;cases hnot
   rw [hk',hv'] at F'
   rw [aEj raw vis he'] at H'
   have H3:=H'.objMo i (by rw [List.getElem?_set_ne (Ne.symm hne)];exact hi2)
   have e3:((ls.set i (HP.obj b (.map raw c))).set j (HP.obj r (.mapIter (some b) c (bL raw (vis++[q])) c))).set i (HP.mo (some b) raw c)=ls.set j (HP.obj r (mit (some b) c (bL raw (vis++[q])))):=by
    have e4:=List.set_comm (l:=ls) (HP.obj b (.map raw c)) (HP.obj r (.mapIter (some b) c (bL raw (vis++[q])) c)) hne
    rw [e4,List.set_set]
    exact set_self (by rw [List.getElem?_set_ne (Ne.symm hne)];exact hi)
   rw [e3] at H3
   exact h1 q k cs v hes hnv w' a' H3 F'
omit [DecidableEq κ] in
theorem uU (F:Fr N a sl) (ho:o.op=.entry x) {r:Nat} (hx:ev sl x=some (.pointer (some ⟨r,0,none⟩))) (hM:MRaw ek agg es raw c) {q:Nat} {k:κ} {cs:List Value} {v:β} (hq:es[q]?=some (k,cs,v)) (H:St w0 w ls) (i j:Nat) (hi:ls[i]?=some (HP.mo p raw c)) (hj:ls[j]?=some (HP.obj r (mit p c (bL raw (vis++[q]))))) (hij:Nat.beq i j=false) :
  (execOp a.eval o).run P w=.ok (.value (.tuple [ek k,mkV agg cs].toArray)) w:=by
 have hne:i≠j:=Nat.ne_of_beq_eq_false hij
 have hil:i<ls.length:=(List.getElem?_eq_some_iff.1 hi).1
 obtain ⟨e,he,hk',hv'⟩:=hM.at hq
 have hem:e∈raw.toList:=by simpa using Array.mem_of_getElem? he
 cases p with
 | none =>
  have h00:raw=#[]:=by obtain ⟨_,_,_,h,_⟩:=H.get i hi;exact h
  rw [h00] at hem;simp at hem
 | some b =>
  have H2:=H.moObj i hi
  have hi2:(ls.set i (HP.obj b (.map raw c)))[i]?=some (HP.obj b (.map raw c)):=by simp [hil]
  have hj2:(ls.set i (HP.obj b (.map raw c)))[j]?=some (HP.obj r (.mapIter (some b) c ((bL raw vis).push e.born) c)):=by rw [List.getElem?_set_ne hne,aEj raw vis he];exact hj
  have:=aKp (P:=P) F ho hx H2 i j hi2 hj2 hem hM.nd
  rwa [hk',hv'] at this
end
section
variable {κ β σ ρ τ:Type} [DecidableEq κ] {m:κ->Option β} {es:List (κ×(List Value×β))} {f:σ->κ×β->Option (σ ⊕ ρ)} {s0 s:σ} {K:σ ⊕ ρ->Option τ} {R:τ} {vis:List Nat}
structure Rng (es:List (κ×(List Value×β))) (f:σ->κ×β->Option (σ ⊕ ρ)) (s0:σ) (vis:List Nat) (s:σ):Prop where
 ok:VisOk es.length vis
 st:bW f s0 (pv es vis)=some (.inl s)
omit [DecidableEq κ] in
theorem Rng.start (es:List (κ×(List Value×β))) (f:σ->κ×β->Option (σ ⊕ ρ)) (s0:σ):Rng es f s0 [] s0:=⟨VisOk.nil _,rfl⟩
theorem wG {α:Type} (f:σ->α->Option (σ ⊕ ρ)):∀ (xs ys:List α) (s0 s:σ),bW f s0 xs=some (.inl s)->bW f s0 (xs++ys)=bW f s ys
 | [],ys,s0,s,h=>by cases h;rfl
 | x::xs,ys,s0,s,h=>by
  simp only [bW] at h
  show (f s0 x).bind _=_
  obtain ⟨o,ho,h⟩:=ob h
  rw [ho]
  cases o with
  | inl s'=>exact wG f xs ys s' s h
  | inr r=>cases h
omit [DecidableEq κ] in
theorem aDg (es:List (κ×(List Value×β))) {l:List Nat} (h:l.Perm (List.range es.length)):(pv es l).Perm (prs es):=by
 have h1:(pv es l).Perm (pv es (List.range es.length)):=List.Perm.filterMap _ h
 have h2:pv es (List.range es.length)=prs es:=by
  have hl:es.length=(prs es).length:=by simp [prs]
  unfold pv
  rw [hl]
  generalize prs es=l
  induction l with
  | nil=>rfl
  | cons a r ih =>
   rw [List.length_cons,List.range_succ_eq_map]
   simp only [List.filterMap_cons,List.getElem?_cons_zero,List.filterMap_map]
   congr 1
 rw [h2] at h1;exact h1
theorem aP0 {l l':List (κ×β)} (h:l.Perm l') (hn:(l.map (·.1)).Nodup) (k:κ):aZ k l=aZ k l':=by
 have hn':(l'.map (·.1)).Nodup:=(h.map _).nodup_iff.1 hn
 cases hx:aZ k l with
 | some v=>exact (cO hn' (h.mem_iff.1 (dT hx))).symm
 | none =>
  cases hy:aZ k l' with
  | none=>rfl
  | some v=>rw [cO hn (h.mem_iff.2 (dT hy))] at hx;cases hx
theorem Enum.ofPerm {l l':List (κ×β)} (h:Enum m l) (hp:l'.Perm l):Enum m l':=by
 have hn:(l'.map (·.1)).Nodup:=(hp.map _).nodup_iff.2 h.1
 exact ⟨hn,fun k=>by rw [h.2 k];exact (aP0 hp hn k).symm⟩
theorem aCq:∀ {vis:List Nat} {n:Nat},VisOk n vis->∃ r,(vis++r).Perm (List.range n)
 | vis,n,h=>by
  refine ⟨(List.range n).filter (fun i=>!decide (i∈vis)),?_⟩
  have hnd:(vis++(List.range n).filter (fun i=>!decide (i∈vis))).Nodup:=by
   rw [List.nodup_append]
   exact ⟨h.1,List.nodup_range.filter _,fun a ha b hb e=>by subst e;simp at hb;exact hb.2 ha⟩
  refine (List.perm_ext_iff_of_nodup hnd List.nodup_range).2 fun a=>?_
  simp only [List.mem_append,List.mem_filter,List.mem_range,Bool.not_eq_true',decide_eq_false_iff_not]
  constructor
  ·rintro (ha | ha)
   ·exact h.2 a ha
   ·exact ha.1
  ·intro ha
   by_cases hv:a∈vis
   ·exact .inl hv
   ·exact .inr ⟨ha,hv⟩
theorem Rng.done (hE:Enum m (prs es)) (h:Rng es f s0 vis s) (hall:∀ q,q<es.length->q∈vis) (hm:dX m (fun l=>(bW f s0 l).bind K)=some R):K (.inl s)=some R:=by
 have hp:vis.Perm (List.range es.length):=by
  refine (List.perm_ext_iff_of_nodup h.ok.1 List.nodup_range).2 fun a=>?_
  rw [List.mem_range];exact ⟨h.ok.2 a,hall a⟩
 have:=(aB7 hm).2 _ (hE.ofPerm (aDg es hp))
 rw [h.st] at this;exact this
theorem Rng.step (hE:Enum m (prs es)) (h:Rng es f s0 vis s) {q:Nat} {k:κ} {cs:List Value} {v:β} (hq:es[q]?=some (k,cs,v)) (hn:q ∉ vis) (hm:dX m (fun l=>(bW f s0 l).bind K)=some R) :
  ∃ o,f s (k,v)=some o/\(∀ s',o=.inl s'->Rng es f s0 (vis++[q]) s')/\(∀ r,o=.inr r->K (.inr r)=some R):=by
 have hql:=(List.getElem?_eq_some_iff.1 hq).1
 have hv2:=h.ok.snoc hql hn
 obtain ⟨r,hr⟩:=aCq hv2
 have hk:=(aB7 hm).2 _ (hE.ofPerm (aDg es hr))
 have hpq:(prs es)[q]?=some (k,v):=by simp [prs,hq]
 have e1:pv es (vis++[q]++r)=pv es vis++(k,v)::pv es r:=by simp [pv,hpq]
 rw [e1,wG f _ _ _ _ h.st] at hk
 simp only [bW] at hk
 obtain ⟨o',ho',hk⟩:=ob hk
 obtain ⟨o,ho,hk2⟩:=ob ho'
 refine ⟨o,ho,fun s' e=>⟨hv2,?_⟩,fun r' e=>?_⟩
 ·have e2:pv es (vis++[q])=pv es vis++[(k,v)]:=by simp [pv,hpq]
  rw [e2,wG f _ _ _ _ h.st]
  simp only [bW,ho,obS,e]
 ·subst e
  cases hk2
  exact hk
end
section
variable {P:Program} {κ β σ ρ:Type} [DecidableEq κ] {es:List (κ×(List Value×β))} {f:σ->κ×β->Option (σ ⊕ ρ)} {s0:σ} {Q:Exit->Act->World->Prop} {a:Act} {w:World} {ro:Option Nat}
theorem aQh {n:Nat} {vis:List Nat} (h:VisOk n vis):vis.length<=n:=by
 obtain ⟨r,hr⟩:=aCq h
 have:=hr.length_eq
 simp at this;omega
theorem tP {τ:Type} {m:κ->Option β} {K:σ ⊕ ρ->Option τ} {R:τ} {c:Code} (es:List (κ×(List Value×β))) (hm:dX m (fun l=>(bW f s0 l).bind K)=some R) (J:σ->List Nat->Act->World->Prop) (h0:J s0 [] a w)
  (round:∀ s vis a w,Rng es f s0 vis s->J s vis a w->c.wp P (Exit.then (fun a' w'=>∃ s' q,Rng es f s0 (vis++[q]) s'/\J s' (vis++[q]) a' w') Q) a w):(Code.loop c).wp P Q a w:=by
 refine aBe (fun (g:σ×List Nat) a w=>Rng es f s0 g.2 g.1/\J g.1 g.2 a w) (fun g=>es.length-g.2.length) (s0,[]) ⟨Rng.start es f s0,h0⟩ fun g a w hI=>?_
 refine wp_mono (round g.1 g.2 a w hI.1 hI.2) fun e a' w' h=>?_
 cases e with
 | normal =>
  obtain ⟨s',q,hr,hj⟩:=h
  refine ⟨(s',g.2++[q]),⟨hr,hj⟩,?_⟩
  have h1:=aQh hr.ok
  simp only [List.length_append,List.length_cons,List.length_nil] at h1 ⊢
  omega
 | _=>exact h
end
end Go.Tri
namespace Go.Tri
open Go.RowKit Go.ChangeShapes Go.WideShapes Go.ChangeAt Go.Deep
def eB (w:World):Base:=fun b=>w.heap[b]?
theorem aHy {w w':World} {b off:Nat} {cs:List Value} (hs:Sub (eB w) w') (h:Row w b off cs):Row w' b off cs:=by
 intro j v hj
 have h1:=h j v hj
 unfold World.cell? at h1 ⊢
 simp only at h1 ⊢
 cases hb:w.heap[b]? with
 | none=>rw [hb] at h1;cases h1
 | some o=>rw [hs b o hb];rw [hb] at h1;exact h1
theorem aKt {w w':World} {v:Value} {n:Nat} {cs:List Value} (hs:Sub (eB w) w') (h:Sl w v n cs):Sl w' v n cs:=by
 rcases h with h | h | ⟨b,off,cap,h1,h2,h3⟩
 ·exact .inl h
 ·exact .inr (.inl h)
 ·exact .inr (.inr ⟨b,off,cap,h1,h2,aHy hs h3⟩)
section
variable {α H:Type} (enc:TypeId×Value->H) (P:Program) (w:World) (base:Nat) (spare:Nat->Bool) (held:Bool)
def Opn (R:Rp α) (e:TypeId):Prop:=∀ (fuel:Nat) (cs:List Value) (x:DataW H×List MemPlace),DataW.trod enc P w base spare held fuel e cs=some x->∃ y,R.rd (eB w) cs y
end
section
variable {α H:Type} {enc:TypeId×Value->H} {P:Program} {w:World} {base:Nat} {spare:Nat->Bool} {held:Bool} {R:Rp α} {e t:TypeId}
theorem gO {k:IntKind} (ht:P.underlying t=some (.int k)):Opn enc P w base spare held (dC k) t:=fun fuel cs x h=>by
 obtain ⟨n0,g0,_,w0⟩:=DataW.trod_int ht h
 exact ⟨n0,g0⟩
theorem kM (ht:P.underlying t=some (.int .u8)):Opn enc P w base spare held rByte t:=fun fuel cs x h=>by
 obtain ⟨n0,g0,_,w0⟩:=DataW.trod_int ht h
 have hb:0<=n0/\n0<=255:=by
  simp [Lit.wf,IntKind.min,IntKind.max,IntKind.signed,IntKind.bits] at w0;omega
 refine ⟨UInt8.ofNat n0.toNat,?_⟩
 show cs=[.int .u8 ((UInt8.ofNat n0.toNat).toNat:Int)]
 rw [g0]
 have:((UInt8.ofNat n0.toNat).toNat:Int)=n0:=by simp;omega
 rw [this]
end
def HP.all (w0:World):HP:=HP.pe (fun B=>∀ b o,w0.heap[b]?=some o->B b=some o)
  (fun h hl b o hb=>hl b o (h b o hb))
theorem St.start0 (w0:World) (l:List HP) (h:∀ A∈l,A.pr (eB w0) w0 (fun _=>False)):St w0 w0 l :=
 ⟨⟨rfl,rfl,rfl,Nat.le_refl _⟩,eB w0,fun _ _=>False,fun b o h=>h,fun i A hi=>h A (List.mem_of_getElem? hi),fun _ _ _ _ _ hf=>hf.elim,fun _ _ _ hf=>hf.elim⟩
theorem all_start (w0 w:World) (S:Nat->Prop):(HP.all w0).pr (eB w0) w S:=fun b o h=>h
theorem St.finish {w0 w:World} (H:St w0 w [HP.all w0]):Below w0.heap.size w0 w:=by
 obtain ⟨⟨h1,h2,h3,h4⟩,B,f,hs,ha,_⟩:=H
 refine ⟨h1,h2,h3,h4,fun k hk=>?_⟩
 have:=hs k _ (ha 0 _ rfl k _ (Array.getElem?_eq_getElem hk))
 rw [this,Array.getElem?_eq_getElem hk]
end Go.Tri
namespace Go.Tri
open Go.RowKit
def Base.ge (B:Base) (n:Nat):Base:=fun b=>if n<=b then B b else none
theorem Base.ge_mono {B B':Base} (h:B.le B') (n:Nat):(B.ge n).le (B'.ge n):=fun b o hb=>by
 unfold Base.ge at hb ⊢
 split at hb
 ·rename_i hn;rw [if_pos hn];exact h b o hb
 ·cases hb
section
variable {α:Type} {R:Rp α} {w0 w w':World} {l:List HP} {p:Option Addr} {cap n0:Nat} {xs:List α} {e:TypeId}
def HP.nsl (n0:Nat) (R:Rp α) (p:Option Addr) (cap:Nat) (xs:List α):HP :=
 HP.pe (fun B=>(HP.sl R p cap xs).pr (B.ge n0) default (fun _=>False)/\(0<xs.length->∃ b cur e,p=some ⟨b,0,none⟩/\(B.ge n0) b=some (.cells cur e (0,0))/\xs.length<=maxLen))
  (fun h hl=>⟨HP.mono (HP.sl R p cap xs) h.1 (Base.ge_mono hl n0),fun h0=>by obtain ⟨b,cur,e,h1,h2,h3⟩:=h.2 h0;exact ⟨b,cur,e,h1,Base.ge_mono hl n0 _ _ h2,h3⟩⟩)
def rSlN (n0:Nat) (R:Rp α):Rp (List α):=⟨1,fun B cs xs=>∃ p cap,cs=[.slice p xs.length cap]/\(HP.nsl n0 R p cap xs).pr B default (fun _=>False),fun ⟨p,cap,h,k⟩ hl=>⟨p,cap,h,HP.mono _ k hl⟩,fun ⟨p,cap,h,k⟩=>by rw [h];rfl,fun ⟨p,cap,h,k⟩=>by rw [h];intro v hv;simp at hv;subst hv;rfl⟩
def Sealed (w:World) (L:List HP):Prop:=∀ A∈L,A.pr (eB w) w (fun _=>False)
theorem Sealed.st {L:List HP} (h:Sealed w L):St w w L:=St.start0 w L h
end
section
variable {κ β:Type} [DecidableEq κ] {w0 w w':World} {l:List HP} {p:Option Nat} {ek:κ->Value} {agg:Bool} {R R':Rp β} {ok:κ->Prop} {m:κ->Option β}
end
section
variable {α:Type} {R R':Rp α} {B B':Base} {n0:Nat}
abbrev rP2:Rp (List UInt8×List UInt8):=bP (rSl rByte) (rSl rByte)
abbrev rP2N (n0:Nat):Rp (List UInt8×List UInt8):=bP (rSlN n0 rByte) (rSlN n0 rByte)
end
section
variable {w0 w w':World} {l:List HP} {p:Option Addr} {cap n0:Nat} {xs:List (List UInt8×List UInt8)}
def HP.box (p:Option Addr) (cap:Nat) (xs:List (List UInt8×List UInt8)):HP :=
 HP.of (fun _ w S=>∃ B:Base,(∀ b o,B b=some o->S b/\w.heap[b]?=some o)/\(HP.nsl 0 (rP2N 0) p cap xs).pr B default (fun _=>False))
  (fun ⟨B,h1,h2⟩ hS=>⟨B,fun b o hb=>⟨(h1 b o hb).1,by rw [hS b (h1 b o hb).1];exact (h1 b o hb).2⟩,h2⟩)
  (fun h _=>h)
end
section
variable {P:Program} {c:Code} {Q:Exit->Act->World->Prop}
end
section
variable {P:Program} {o:Oper} {a:Act} {w:World} {N:Fs} {sl:List (Nat×Value)} {t e:TypeId} {x y:Operand} {k:IntKind} {zz A X C:List Value}
end
section
variable {κ β:Type} [DecidableEq κ] {R:Rp β} {ek:κ->Value} {ok:κ->Prop} {agg:Bool} {w0 w:World} {p:Option Nat} {m:κ->Option β} {l:List HP}
end
theorem St.blkEq {w0 w:World} {l:List HP} {b u:Nat} {cs:List Value} (H:St w0 w l) (j:Nat) (hj:l[j]?=some (HP.blk b cs u)) (cs':List Value) (he:cs=cs'):St w0 w (l.set j (HP.blk b cs' u)):=by
 subst he
 have:l.set j (HP.blk b cs u)=l:=by
  apply List.ext_getElem?
  intro i
  rw [List.getElem?_set]
  split
  ·rename_i e;subst e;split
   ·exact hj.symm
   ·rename_i h;rw [List.getElem?_eq_none (by omega)]
  ·rfl
 rw [this];exact H
theorem flA {A B:List Value} (h:Flat A) (k:Flat B):Flat (A++B):=fun v hv=>(List.mem_append.1 hv).elim (h v) (k v)
section
variable {P:Program} {t:TypeId} {ops:Array Oper} {rest:List Oper} {o:Oper} {a:Act} {W:List Oper->Act->World->Prop} {N:Fs} {l:List (Nat×Value)} {x y:Operand} {w w0:World} {ls:List HP}
end
section
variable {P:Program} {fn:Func} {a:Act} {w:World} {l:List (Nat×Value)} {r s t q:ResultVar} {v u x y:Value}
end
instance capStr:Cap (List UInt8):=⟨8796093022208,by decide,by decide⟩
theorem aB8 {xs ys:List (List UInt8)} (h:xs.length+ys.length<=8796093022208):aL xs ys=some (xs++ys):=if_pos h
section
variable {α:Type} {w0 w:World} {l:List HP}
def cW (R:Rp α) (n:Nat):Rp (List α):=⟨n*R.n,fun B cs xs=>xs.length=n/\∃ css,RdL R B css xs/\cs=css.flatten,fun ⟨h,css,h1,h2⟩ hl=>⟨h,css,h1.mono hl,h2⟩,fun ⟨h,css,h1,h2⟩=>by rw [h2,h1.flen,h],fun ⟨h,css,h1,h2⟩=>by rw [h2];exact h1.flat⟩
theorem zY {R:Rp α} {n:Nat} {B:Base} {cs:List Value} {xs:List α} (h:(cW R n).rd B cs xs) {i:Int} {x:α} (hi:aD xs i=some x) :
  ∃ A X C,cs=A++(X++C)/\A.length=i.toNat*R.n/\R.rd B X x/\∀ {Y:List Value} {y:α},R.rd B Y y->(cW R n).rd B (A++(Y++C)) (xs.set i.toNat y):=by
 obtain ⟨hn,css,h1,rfl⟩:=h
 have hx:=(eR hi).2
 obtain ⟨c,hc,hr⟩:=h1.at hx
 have hlt:i.toNat<css.length:=(List.getElem?_eq_some_iff.1 hc).1
 have hlx:i.toNat<xs.length:=(List.getElem?_eq_some_iff.1 hx).1
 have e:css=css.take i.toNat++(c::css.drop (i.toNat+1)):=by
  have hc':css[i.toNat]=c:=(List.getElem?_eq_some_iff.1 hc).2
  rw [<- hc',<- List.drop_eq_getElem_cons hlt,List.take_append_drop]
 refine ⟨(css.take i.toNat).flatten,c,(css.drop (i.toNat+1)).flatten,?_,?_,hr,fun {Y y} hy=>⟨by simpa using hn,css.take i.toNat++(Y::css.drop (i.toNat+1)),?_,by simp⟩⟩
 ·conv=>lhs;rw [e]
  simp
 ·rw [(h1.take i.toNat).flen,List.length_take,Nat.min_eq_left (by omega)]
 ·rw [List.set_eq_take_append_cons_drop,if_pos hlx]
  exact (h1.take _).append ⟨hy,h1.drop _⟩
theorem St.arrLen {R:Rp α} {n:Nat} (H:St w0 w l) (j:Nat) {cs:List Value} {xs:List α} (hj:l[j]?=some (HP.rc (cW R n) cs xs)):xs.length=n:=by
 obtain ⟨B,S,_,h,_⟩:=H.get j hj
 exact h.1
theorem St.arrAt {R:Rp α} {n:Nat} (H:St w0 w l) (j:Nat) {cs:List Value} {xs:List α} (hj:l[j]?=some (HP.rc (cW R n) cs xs)) {i:Int} {x:α} (hi:aD xs i=some x):∃ A X C,cs=A++(X++C)/\A.length=i.toNat*R.n/\St w0 w (HP.rc R X x::l):=by
 obtain ⟨B,H⟩:=H.out
 obtain ⟨S,h⟩:=H.at hj
 obtain ⟨A,X,C,h1,h2,h3,_⟩:=zY h hi
 exact ⟨A,X,C,h1,h2,(H.more (A:=HP.rc R X x) h3).st⟩
theorem St.arrPut {R:Rp α} {n:Nat} (H:St w0 w l) (j:Nat) {cs:List Value} {xs:List α} (hj:l[j]?=some (HP.rc (cW R n) cs xs)) {i:Int} {x:α} (hi:aD xs i=some x) (k:Nat) {Y:List Value} {y:α} (hk:l[k]?=some (HP.rc R Y y)) :
  ∃ A X C D,cs=A++(X++C)/\A.length=i.toNat*R.n/\X.length=R.n/\A++(Y++C)=D/\St w0 w (HP.rc (cW R n) D (xs.set i.toNat y)::l):=by
 obtain ⟨B,H⟩:=H.out
 obtain ⟨S,h⟩:=H.at hj
 obtain ⟨S2,h'⟩:=H.at hk
 obtain ⟨A,X,C,h1,h2,h3,h4⟩:=zY h hi
 exact ⟨A,X,C,_,h1,h2,R.len h3,rfl,(H.more (A:=HP.rc (cW R n) _ _) (h4 h')).st⟩
theorem St.arrRep {R:Rp α} (n:Nat) (H:St w0 w l) (k:Nat) {Y:List Value} {y:α} (hk:l[k]?=some (HP.rc R Y y)):St w0 w (HP.rc (cW R n) (List.replicate n Y).flatten (List.replicate n y)::l):=by
 obtain ⟨B,H⟩:=H.out
 obtain ⟨S2,h'⟩:=H.at hk
 refine (H.more (A:=HP.rc (cW R n) _ _) ⟨by simp,List.replicate n Y,?_,rfl⟩).st
 clear H
 induction n with
 | zero=>exact trivial
 | succ n ih=>exact ⟨h',ih⟩
theorem aJ7 {b o n k:Nat} {cs A X C E D:List Value} (h:Row w b o (E++(cs++D))) (he:cs=A++(X++C)) (hE:E.length=n) (hA:A.length=k):Row w b (o+n+k) X:=by
 subst he
 have h:=iL (n:=n) h hE
 exact iL h hA
theorem wF {b o n k:Nat} {cs A X C E:List Value} (h:Row w b o (E++cs)) (he:cs=A++(X++C)) (hE:E.length=n) (hA:A.length=k):Row w b (o+n+k) X:=aJ7 (D:=[]) (by rw [List.append_nil];exact h) he hE hA
end
section
variable {P:Program} {t:TypeId} {ops:Array Oper} {rest:List Oper} {o:Oper} {a:Act} {w0 w:World} {W:List Oper->Act->World->Prop} {N:Fs} {l:List (Nat×Value)} {x y:Operand} {ls:List HP}
theorem aGj {m:Nat} {zz:List Value} (kk:bN P ops W) (F:Fr N a l) (hg:o.guard=none) (hd:o.dst=none) (hA:AggT P t m zz) (ho:o.op=.store t x y) {b n k:Nat} (hx:ev l x=some (.pointer (some ⟨b,0+n+k,none⟩))) {old Y:List Value} {u:TypeId} (hy:ev l y=some (.agg Y.toArray))
  (H:St w0 w ls) (i:Nat) (hi:ls[i]?=some (HP.blk b old u)) {E A X C D cs cs':List Value} (ho':old=E++(cs++D)) (he:cs=A++(X++C)) (hE:E.length=n) (hk:A.length=k) (hX:X.length=m) (hn:Y.length=m) (hf:Flat Y) (hc:A++(Y++C)=cs')
  (k':∀ w',St w0 w' (ls.set i (HP.blk b (E++(cs'++D)) u))->W rest a w'):W (o::rest) a w:=by
 refine aPu kk F hg hd hA ho hx hy H i hi (A:=E++A) (X:=X) (C:=C++D) (by rw [ho',he];simp) (by simp [hE,hk]) hX hn hf ?_
 intro w' h
 have e:E++A++(Y++(C++D))=E++(cs'++D):=by rw [<- hc];simp
 rw [e] at h
 exact k' w' h
end
end Go.Tri
