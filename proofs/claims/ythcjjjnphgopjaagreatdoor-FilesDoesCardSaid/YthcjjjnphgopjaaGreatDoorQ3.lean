/- Texts A5, N, S, K. -/
import Derived.Test.YthcjjjnphgopjaaGreatDoorQ2
import Derived.Laws.IdiomStrings
import Derived.Shelf.SlSortCmp.WholeK
set_option linter.unusedSimpArgs false
set_option linter.unusedVariables false
/- Data: lists whose elements are owned slices of bytes;bytes copied over an owned slice. -/
namespace Go.Tri
open Go.RowKit
theorem St.split {w0 w:World} {A:HP} {l:List HP} (H:St w0 w (A::l)) {ι:Type} {C D:ι→HP} (hS:∀ {B:Base} {S:Nat→Prop},A.pr B w S→∃ i S1 S2,(C i).pr B w S1∧(D i).pr B w S2∧(∀ b,S1 b→S2 b→False)∧(∀ b,S1 b→S b)∧(∀ b,S2 b→S b)):∃ i,St w0 w (C i::D i::l):=by
 obtain ⟨hv,B,f,hs,h1,h2,h3⟩:=H
 obtain ⟨i,S1,S2,hC,hD,hd,s1,s2⟩:=hS (h1 0 A rfl)
 refine ⟨i,hv,B,fun j=>match j with | 0=>S1 | 1=>S2 | j+2=>f (j+1),hs,?_,?_,?_⟩
 ·intro j E hj
  match j with
  | 0=>simp at hj;subst hj;exact hC
  | 1=>simp at hj;subst hj;exact hD
  | j+2=>exact h1 (j+1) E (by simpa using hj)
 ·intro j k b hj hk hfj hfk
  simp only [List.length_cons] at hj hk
  match j,k with
  | 0,0=>rfl
  | 0,1=>exact (hd b hfj hfk).elim
  | 0,k+2=>have:=h2 0 (k+1) b (by simp) (by simp;omega) (s1 b hfj) hfk;omega
  | 1,0=>exact (hd b hfk hfj).elim
  | 1,1=>rfl
  | 1,k+2=>have:=h2 0 (k+1) b (by simp) (by simp;omega) (s2 b hfj) hfk;omega
  | j+2,0=>have:=h2 0 (j+1) b (by simp) (by simp;omega) (s1 b hfk) hfj;omega
  | j+2,1=>have:=h2 0 (j+1) b (by simp) (by simp;omega) (s2 b hfk) hfj;omega
  | j+2,k+2=>have:=h2 (j+1) (k+1) b (by simp;omega) (by simp;omega) hfj hfk;omega
 ·intro j b hj hf
  simp only [List.length_cons] at hj
  match j with
  | 0=>exact h3 0 b (by simp) (s1 b hf)
  | 1=>exact h3 0 b (by simp) (s2 b hf)
  | j+2=>exact h3 (j+1) b (by simp;omega) hf
def HP.os (e1:TypeId) (css:List (List Value)) (xs:List (List UInt8)) (h:Nat→Prop):HP :=
 HP.of (fun B w S=>∃ f:Nat→Nat→Prop,css.length=xs.length∧(∀ (i:Nat) (cs:List Value) (x:List UInt8),css[i]?=some cs→xs[i]?=some x→∃ q c,cs=[.slice q x.length c]∧(¬ h i→(HP.ow rByte e1 q c x).pr B w (f i)))∧(∀ i j b,f i b→f j b→i=j)∧(∀ i b,f i b→S b))
  (fun ⟨f,h0,h1,h2,h3⟩ hS=>⟨f,h0,fun i cs x hc hx=>by
   obtain ⟨q,c,e,ho⟩:=h1 i cs x hc hx
   exact ⟨q,c,e,fun hn=>HP.loc _ (ho hn) fun b hb=>hS b (h3 i b hb)⟩,h2,h3⟩)
  (fun ⟨f,h0,h1,h2⟩ hl=>⟨f,h0,fun i cs x hc hx=>by
   obtain ⟨q,c,e,ho⟩:=h1 i cs x hc hx
   exact ⟨q,c,e,fun hn=>HP.mono _ (ho hn) hl⟩,h2⟩)
section
variable {w0 w:World} {l:List HP} {e1:TypeId} {css:List (List Value)} {xs:List (List UInt8)}
end
section
variable {P:Program} {t e:TypeId} {w0 w:World} {ls:List HP} {ops:Array Oper} {rest:List Oper} {o:Oper} {a:Act} {W:List Oper→Act→World→Prop} {N:Fs} {l:List (Nat×Value)} {d:Nat} {x y:Operand}
theorem run_copyOw {t' ty:TypeId} {bytes:Nat} {z:Value} (hE:ElemT P t e 1 bytes z) (H:St w0 w ls) (i:Nat) {p:Option Addr} {cap:Nat} {xs zs:List UInt8} {e0:TypeId} (hi:ls[i]?=some (HP.ow rByte e0 p cap xs)) {dp:Option Addr} {q dn dc:Nat} (hdp:0<dn→∃ b,p=some ⟨b,0,none⟩∧dp=some ⟨b,q,none⟩) (hfit:q+dn≤xs.length) {p2:Option Addr} {c2:Nat} (hs:Sl w (.slice p2 zs.length c2) zs.length (bcells zs)) :
  ∃ w',(Builtin.copy_ #[t,t'] ty #[.slice dp dn dc,.slice p2 zs.length c2]).run P w=.ok (.int .i64 ((min zs.length dn:Nat):Int)) w'∧St w0 w' (ls.set i (HP.ow rByte e0 p cap (putAt xs q (zs.take dn)))):=by
 by_cases h0:dn=0
 ·subst h0
  have hfc:(Builtin.firstCells 1 0 (.slice p2 zs.length c2)).run P w=.ok #[] w:=by
   cases p2 with
   | none=>rfl
   | some ad =>
    have:=run_firstCells_some (P:=P) (w:=w) 1 0 ad zs.length c2 [] rfl (by simp)
    simpa using this
  refine ⟨w,?_,?_⟩
  ·unfold Builtin.copy_
   cases dp with
   | none=>simp [Go.run_underlying hE.ht,Builtin.lenOf,hE.run_size,hfc,goInt]
   | some ad =>
    have hst:(storeCells ad []).run P w=.ok () w:=rfl
    simp [Go.run_underlying hE.ht,Builtin.lenOf,hE.run_size,hfc,goInt,hst]
  ·have:putAt xs q (zs.take 0)=xs:=by simp [putAt]
   rw [this,set_same hi];exact H
 ·obtain ⟨b,rfl,rfl⟩:=hdp (by omega)
  obtain ⟨B,HB⟩:=H.out
  obtain ⟨S0,css0,c0,⟨hl0,⟨h,h'⟩ | ⟨g,cap',cur,h,hb0,hg,hnc,hm,hsz,ht⟩⟩,hS⟩:=HB.at hi
  ·cases h
  ·cases h
   have e1:rByte.n=1:=rfl
   rw [rdl_bytes_flat c0] at ht hl0
   rw [e1,Nat.mul_one] at ht hsz hl0
   have hb:Blk w b cur.toList e0:=by unfold Blk;simpa using hg
   have hflat:Flat (bcells zs):=bcells_flat _
   have hszl:cur.toList.length=cap:=by simpa using hsz
   have hr:=run_copyBlk (P:=P) (t':=t') (ty:=ty) (dc:=dc) hE hb hs (bcells_length _) (d:=q) (dn:=dn) (by omega) hflat
   refine ⟨_,hr,(HB.chg (A':=HP.ow rByte e0 (some ⟨b,0,none⟩) cap (putAt xs q (zs.take dn))) i hi (g:=b) (fun S hA=>by obtain ⟨_,_,_,h⟩:=hA;exact h b rfl) (Chg.setRow w b _) (fun S hA=>?_)).st⟩
   have hSb:S b:=by obtain ⟨_,_,_,h⟩:=hA;exact h b rfl
   have hlen:(putAt xs q (zs.take dn)).length=xs.length:=putAt_len _ _ _ (by simp;omega)
   refine ⟨_,rdl_bytes B (putAt xs q (zs.take dn)),⟨?_,.inr ⟨b,cap,_,by rw [hlen],Nat.zero_le _,hb.set_same _,by rw [hlen];exact hnc,hm,?_,?_⟩⟩,fun b' hb'=>by simp [Value.ownBlock] at hb';subst hb';exact hSb⟩
   ·rw [rdl_bytes_flat (rdl_bytes B _),bcells_length,e1,Nat.mul_one]
   ·simp only [List.size_toArray,List.length_append,List.length_take,List.length_drop,hszl,bcells_length,e1,Nat.mul_one];omega
   ·rw [rdl_bytes_flat (rdl_bytes B _),e1,Nat.mul_one,hlen]
    have hx:bcells xs=cur.toList.take xs.length:=ht.symm
    have h1:bcells (putAt xs q (zs.take dn))=(bcells xs).take q++(bcells zs).take dn++(bcells xs).drop (q+((bcells zs).take dn).length):=by
     simp only [putAt,bcells,List.map_append,List.map_take,List.map_drop,List.length_take,List.length_map]
    rw [h1,hx]
    have h2:(List.take dn (bcells zs)).length≤dn:=by rw [List.length_take];exact Nat.min_le_left _ _
    simp only [List.toList_toArray]
    rw [List.take_append,List.take_append,List.take_take,List.length_take,hszl,List.drop_take,List.length_append,List.length_take,hszl]
    have e2:min q cap=q:=by omega
    simp only [e2]
    have e3:List.take (xs.length - q) (List.take dn (bcells zs))=List.take dn (bcells zs):=List.take_of_length_le (by omega)
    rw [e3,List.take_take,Nat.min_eq_left (show q≤xs.length by omega)]
    rw [Nat.min_eq_right (show q≤xs.length by omega)]
theorem s_cpyO (k:Walk P ops W) (F:Fr N a l) (hg:o.guard=none) (hd:o.dst=some d) (hN:Nat.blt d N.n=true) {t':TypeId} {bytes:Nat} {z:Value} (hE:ElemT P t e 1 bytes z) (ho:o.op=.call { callee:=.builtin .copy,args:=#[x,y],argTypes:=#[t,t'] })
  (H:St w0 w ls) (i j:Nat) {p:Option Addr} {cap:Nat} {xs zs:List UInt8} {e0:TypeId} (hi:ls[i]?=some (HP.ow rByte e0 p cap xs)) {dp:Option Addr} {q dn dc:Nat} (hx:ev l x=some (.slice dp dn dc)) (hdp:0<dn→∃ b,p=some ⟨b,0,none⟩∧dp=some ⟨b,q,none⟩) (hfit:q+dn≤xs.length) {p2:Option Addr} {c2:Nat} (hy:ev l y=some (.slice p2 zs.length c2)) (hj:ls[j]?=some (HP.sl rByte p2 c2 zs))
  (hk:∀ w' a',St w0 w' (ls.set i (HP.ow rByte e0 p cap (putAt xs q (zs.take dn))))→Fr N a' ((d,.int .i64 ((min zs.length dn:Nat):Int))::l)→W rest a' w'):W (o::rest) a w:=by
 obtain ⟨B,S,hs,⟨css,c1,c2'⟩,_⟩:=H.get j hj
 have hsl:=c2' w hs
 rw [rdl_bytes_flat c1] at hsl
 obtain ⟨w',hr,H'⟩:=run_copyOw (P:=P) (t':=t') (ty:=o.type) (dc:=dc) hE H i hi hdp hfit hsl
 refine s_val (v:=.int .i64 ((min zs.length dn:Nat):Int)) (w':=w') k F hg hd hN (by rw [ho];rfl) ?_ fun a' F'=>hk w' a' H' F'
 unfold execOp
 simp [ho,resolve,invoke,builtin,F.eval hx,F.eval hy,hr]
theorem ow_sub {p:Option Addr} {cap:Nat} {xs zs:List UInt8} {e0:TypeId} (H:St w0 w ls) (i:Nat) (hi:ls[i]?=some (HP.ow rByte e0 p cap xs)) {lo hi':Int} (hz:slcO xs lo hi'=some zs):(0<zs.length→∃ b,p=some ⟨b,0,none⟩∧shp p cap lo.toNat 1=some ⟨b,lo.toNat,none⟩)∧lo.toNat+zs.length≤xs.length:=by
 obtain ⟨h1,rfl,h2⟩:=slcO_some hz
 have hcap:=H.owForm i hi
 have hlen:((xs.take hi'.toNat).drop lo.toNat).length=hi'.toNat - lo.toNat:=by simp;omega
 refine ⟨fun h0=>?_,by rw [hlen];omega⟩
 rw [hlen] at h0
 have hx:0<xs.length:=by omega
 obtain ⟨b,rfl⟩:=H.owP i hi (List.getElem?_eq_getElem hx)
 refine ⟨b,rfl,?_⟩
 rw [shp_ne (by omega)]
 simp
end
section
variable {P:Program} {t e e1:TypeId} {w0 w:World} {ls:List HP} {ops:Array Oper} {rest:List Oper} {o:Oper} {a:Act} {W:List Oper→Act→World→Prop} {N:Fs} {l:List (Nat×Value)} {d:Nat} {x y:Operand}
end
theorem run_convB {P:Program} {w:World} {t t' e:TypeId} {p:Option Addr} {cap:Nat} {l:List UInt8} (hs:P.underlying t=some (.slice e)) (he:P.underlying e=some (.int .u8)) (hd:P.underlying t'=some .string)
  (h:Sl w (.slice p l.length cap) l.length (bcells l)):(convert t t' (.slice p l.length cap)).run P w=.ok (.string (txb l)) w:=by
 generalize hv:(Value.slice p l.length cap)=v at h ⊢
 rcases h with ⟨h,hn,_⟩ | ⟨ad,c,h,hn,_⟩ | ⟨b,off,c,h,_,hr⟩
 ·subst h
  obtain rfl:l=[]:=by cases l<;>simp_all
  injection hv with h1 h2 h3
  rw [run_convert_bytes_string w t t' e _ _ _ hs he hd];rfl
 ·subst h
  obtain rfl:l=[]:=by cases l<;>simp_all
  injection hv with h1 h2 h3
  rw [run_convert_bytes_string w t t' e _ _ _ hs he hd]
  rw [run_bytesToString w _ 0 c [] (run_loadCells_list (P:=P) w _ [] (fun j v hj=>by simp at hj))];rfl
 ·subst h
  exact run_convert_bytes_back w t t' e ⟨b,off,none⟩ c l hs he hd fun j hj=>by
   rw [add_none];exact hr j _ (by simp [bcells,hj])
theorem y_b2s {P:Program} {o:Oper} {a:Act} {w w0:World} {N:Fs} {sl:List (Nat×Value)} {x:Operand} {t t' e:TypeId} {p:Option Addr} {cap:Nat} {xs:List UInt8} {ls:List HP} (F:Fr N a sl) (hs:P.underlying t=some (.slice e)) (hd:P.underlying t'=some .string) (he:P.underlying e=some (.int .u8)) (ho:o.op=.convert t t' x) (hx:ev sl x=some (.slice p xs.length cap))
  (H:St w0 w ls) (i:Nat) (hi:ls[i]?=some (HP.sl rByte p cap xs)):(execOp a.eval o).run P w=.ok (.value (.string (txb xs))) w:=by
 obtain ⟨B,S,hw,⟨css,h1,h2⟩,_⟩:=H.get i hi
 have h3:=h2 w hw
 rw [rdl_bytes_flat h1] at h3
 unfold execOp
 simp only [ho,F.eval hx]
 rw [Sem.run_bind,run_convB hs he hd h3]
 rfl
def lssB (l m:List UInt8):Bool:=Op.bytesLess l m
def leqB (l m:List UInt8):Bool:=lssB l m || l==m
def gtrB (l m:List UInt8):Bool:=!(lssB l m || l==m)
def geqB (l m:List UInt8):Bool:=!lssB l m
section
variable {P:Program} {o:Oper} {a:Act} {w:World} {N:Fs} {sl:List (Nat×Value)} {x y:Operand} {t t':TypeId} {l m:List UInt8}
theorem y_lssT (F:Fr N a sl) (ho:o.op=.binOp .lss t x y t') (hx:ev sl x=some (.string (txb l))) (hy:ev sl y=some (.string (txb m))):(execOp a.eval o).run P w=.ok (.value (.bool (lssB l m))) w:=by
 unfold execOp
 simp [ho,F.eval hx,F.eval hy,eqGuard,binOp,Op.stringOp,txb_toList,lssB]
theorem y_leqT (F:Fr N a sl) (ho:o.op=.binOp .leq t x y t') (hx:ev sl x=some (.string (txb l))) (hy:ev sl y=some (.string (txb m))):(execOp a.eval o).run P w=.ok (.value (.bool (leqB l m))) w:=by
 unfold execOp
 simp [ho,F.eval hx,F.eval hy,eqGuard,binOp,Op.stringOp,txb_toList,lssB,leqB]
theorem y_gtrT (F:Fr N a sl) (ho:o.op=.binOp .gtr t x y t') (hx:ev sl x=some (.string (txb l))) (hy:ev sl y=some (.string (txb m))):(execOp a.eval o).run P w=.ok (.value (.bool (gtrB l m))) w:=by
 unfold execOp
 simp [ho,F.eval hx,F.eval hy,eqGuard,binOp,Op.stringOp,txb_toList,lssB,gtrB]
theorem y_geqT (F:Fr N a sl) (ho:o.op=.binOp .geq t x y t') (hx:ev sl x=some (.string (txb l))) (hy:ev sl y=some (.string (txb m))):(execOp a.eval o).run P w=.ok (.value (.bool (geqB l m))) w:=by
 unfold execOp
 simp [ho,F.eval hx,F.eval hy,eqGuard,binOp,Op.stringOp,txb_toList,lssB,geqB]
theorem y_idxT (F:Fr N a sl) (ho:o.op=.index t x y) (ht:P.underlying t=some .string) (hx:ev sl x=some (.string (txb l))) {k:IntKind} {i:Int} (hy:ev sl y=some (.int k i)) {c:UInt8} (hc:idxO l i=some c):(execOp a.eval o).run P w=.ok (.value (.int .u8 ((c.toNat:Nat):Int))) w:=by
 obtain ⟨h0,h1⟩:=idxO_some hc
 have e:((i.toNat:Nat):Int)=i:=by omega
 exact y_indexT (i:=i.toNat) F ho ht hx (by rw [e];exact hy) h1
theorem y_slTLH (F:Fr N a sl) {lo hi:Operand} {k k':IntKind} {i j:Int} (ho:o.op=.slice t x (some lo) (some hi) none) (ht:P.underlying t=some .string) (hx:ev sl x=some (.string (txb l))) (hl:ev sl lo=some (.int k i)) (hh:ev sl hi=some (.int k' j)) {z:List UInt8} (hz:slcO l i j=some z):(execOp a.eval o).run P w=.ok (.value (.string (txb z))) w:=by
 obtain ⟨⟨h0,h1,h2⟩,rfl,_⟩:=slcO_some hz
 have e1:((i.toNat:Nat):Int)=i:=by omega
 have e2:((j.toNat:Nat):Int)=j:=by omega
 exact y_sliceT (i:=i.toNat) (j:=j.toNat) F ho ht hx (by rw [e1];exact hl) (by rw [e2];exact hh) (by omega) (by omega)
theorem y_slTL (F:Fr N a sl) {lo:Operand} {k:IntKind} {i:Int} (ho:o.op=.slice t x (some lo) none none) (ht:P.underlying t=some .string) (hx:ev sl x=some (.string (txb l))) (hl:ev sl lo=some (.int k i)) {z:List UInt8} (hz:slcO l i ((l.length:Nat):Int)=some z):(execOp a.eval o).run P w=.ok (.value (.string (txb z))) w:=by
 obtain ⟨⟨h0,h1,h2⟩,rfl,_⟩:=slcO_some hz
 have e1:((i.toNat:Nat):Int)=i:=by omega
 have:=y_sliceTlo (P:=P) (w:=w) (i:=i.toNat) F ho ht hx (by rw [e1];exact hl) (by omega)
 rw [Int.toNat_natCast,List.take_length];exact this
theorem y_slTH (F:Fr N a sl) {hi:Operand} {k:IntKind} {j:Int} (ho:o.op=.slice t x none (some hi) none) (ht:P.underlying t=some .string) (hx:ev sl x=some (.string (txb l))) (hh:ev sl hi=some (.int k j)) {z:List UInt8} (hz:slcO l 0 j=some z):(execOp a.eval o).run P w=.ok (.value (.string (txb z))) w:=by
 obtain ⟨⟨h0,h1,h2⟩,rfl,_⟩:=slcO_some hz
 have e1:((j.toNat:Nat):Int)=j:=by omega
 have:=y_sliceThi (P:=P) (w:=w) (j:=j.toNat) F ho ht hx (by rw [e1];exact hh) (by omega)
 rw [show ((0:Int)).toNat=0 from rfl,List.drop_zero];exact this
theorem y_addO (F:Fr N a sl) (ho:o.op=.binOp .add t x y t') (hx:ev sl x=some (.string (txb l))) (hy:ev sl y=some (.string (txb m))) {z:List UInt8} (hz:appO l m=some z):(execOp a.eval o).run P w=.ok (.value (.string (txb z))) w:=by
 obtain ⟨h,rfl⟩:=appO_some hz
 exact y_addT F ho hx hy (by have:=Cap.lt (α:=UInt8);omega)
end
def atL {α:Type}:Nat→List α→Option α
 | _,[]=>none
 | 0,a::_=>some a
 | n+1,_::l=>atL n l
theorem atL_eq {α:Type}:∀ (n:Nat) (l:List α),atL n l=l[n]?
 | _,[]=>by cases ‹Nat›<;>rfl
 | 0,a::_=>rfl
 | n+1,_::l=>by simpa [atL] using atL_eq n l
def nfL {α:Type}:Nat→List α→Option (List α)
 | 0,l=>some l
 | n+1,l=>match l with
  | []=>none
  | a::r=>match nfL n r with
   | some r'=>some (a::r')
   | none=>none
theorem nfL_eq {α:Type}:∀ {n:Nat} {l l':List α},nfL n l=some l'→l'=l
 | 0,l,l',h=>by cases h;rfl
 | n+1,[],l',h=>by cases h
 | n+1,a::r,l',h=>by
  simp only [nfL] at h
  split at h
  ·rename_i r' e;cases h;rw [nfL_eq e]
  ·cases h
theorem St.nf {w0 w:World} {l l':List HP} (H:St w0 w l) (n:Nat) (h:nfL n l=some l'):St w0 w l':=nfL_eq h▸H
def IsSlT (P:Program) (t:TypeId):Prop:=∃ e,P.underlying t=some (.slice e)
def AggN (P:Program) (t n:Nat):Prop:=∃ z,AggT P t n z
theorem aggn {P:Program} {t n m:Nat} {z:List Value} (h:AggT P t n z) (e:m=n):AggN P t m:=⟨z,e▸h⟩
def qconv (P:Program) (t':TypeId) (n:Int) (p:Prop):Nat→Option (Value×List Prop)
 | 0=>some (.int .i64 (IntKind.i64.wrap n),[p,P.underlying t'=some (.int .i64)])
 | 1=>some (.int .u8 (IntKind.u8.wrap n),[p,P.underlying t'=some (.int .u8)])
 | 2=>some (.int .u64 (IntKind.u64.wrap n),[p,P.underlying t'=some (.int .u64)])
 | 3=>some (.int .u32 (IntKind.u32.wrap n),[p,P.underlying t'=some (.int .u32)])
 | 4=>some (.int .i32 (IntKind.i32.wrap n),[p,P.underlying t'=some (.int .i32)])
 | 5=>some (.int .u16 (IntKind.u16.wrap n),[p,P.underlying t'=some (.int .u16)])
 | 6=>some (.int .i16 (IntKind.i16.wrap n),[p,P.underlying t'=some (.int .i16)])
 | _=>some (.int .i8 (IntKind.i8.wrap n),[p,P.underlying t'=some (.int .i8)])
theorem qconv_ok {P:Program} {t':TypeId} {n:Int} {p:Prop} {h:Nat} {v:Value} {ob:List Prop} (e:qconv P t' n p h=some (v,ob)):∃ k',v=.int k' (k'.wrap n)∧ob=[p,P.underlying t'=some (.int k')]:=by
 unfold qconv at e
 split at e<;>cases e<;>exact ⟨_,rfl,rfl⟩
def qbin (k:IntKind) (m n:Int):BinOp→Option Value
 | .lss=>some (.bool (decide (m<n)))
 | .leq=>some (.bool (decide (m≤n)))
 | .gtr=>some (.bool (decide (n<m)))
 | .geq=>some (.bool (decide (n≤m)))
 | .eql=>some (.bool (decide (m=n)))
 | .neq=>some (.bool (!decide (m=n)))
 | .add=>some (.int k (k.wrap (m+n)))
 | .sub=>some (.int k (k.wrap (m - n)))
 | .mul=>some (.int k (k.wrap (m * n)))
 | .and=>some (.int k (andI k m n))
 | .or=>some (.int k (orI k m n))
 | .xor=>some (.int k (xorI k m n))
 | _=>none
def qlen (ts:List TypeId) (n:Nat):Option (Value×(Program→List Prop)):=match ts with
 | [t]=>some (.int .i64 n,fun P=>[IsSlT P t])
 | _=>none
def qval (P:Program) (ls:List HP) (sl:List (Nat×Value)) (h:Nat):Op→Option (Value×List Prop)
 | .move x=>match ev sl x with
  | some v=>some (v,[])
  | none=>none
 | .assign x=>match ev sl x with
  | some v=>some (v,[])
  | none=>none
 | .pick x y z=>match ev sl x with
  | some (.bool b)=>match b with
   | true=>match ev sl y with
    | some v=>some (v,[])
    | none=>none
   | false=>match ev sl z with
    | some v=>some (v,[])
    | none=>none
  | _=>none
 | .nilCheck x=>match ev sl x with
  | some (.pointer p)=>match p with
   | some ad=>some (.pointer (some ad),[])
   | none=>none
  | _=>none
 | .unOp u _ x=>match ev sl x with
  | some (.bool b)=>match u with
   | .not=>some (.bool (!b),[])
   | _=>none
  | some (.int k m)=>match u with
   | .xor=>some (.int k (notI k m),[])
   | .neg=>some (.int k (k.wrap (0 - m)),[])
   | _=>none
  | _=>none
 | .binOp op _ x y _=>match ev sl x with
  | some (.int k m)=>match ev sl y with
   | some (.int k' n)=>match decide (k'=k) with
    | true=>match qbin k m n op with
     | some v=>some (v,[])
     | none=>none
    | false=>none
   | _=>none
  | _=>none
 | .extract x i=>match ev sl x with
  | some (.tuple vs)=>match atL i vs.toList with
   | some v=>some (v,[])
   | none=>none
  | _=>none
 | .fieldAddr t x f=>match ev sl x with
  | some (.pointer (some ⟨b,k,sp⟩))=>match sp with
   | none=>some (.pointer (some ⟨b,k+h,none⟩),[FieldT P t f h])
   | some _=>none
  | _=>none
 | .load t x=>match ev sl x with
  | some (.pointer (some ad))=>match atL (h / 1000) ls with
   | some A=>match A.tag with
    | some (b,o,cs)=>match Nat.beq (h % 1000) 999 with
     | true=>some (.agg cs.toArray,[ad=⟨b,o,none⟩,AggN P t cs.length])
     | false=>match atL (h % 1000) cs with
      | some v=>some (v,[ad=⟨b,o+h % 1000,none⟩,Plain P t])
      | none=>none
    | none=>none
   | none=>none
  | _=>none
 | .convert t t' x=>match ev sl x with
  | some (.int k n)=>qconv P t' n (P.underlying t=some (.int k)) h
  | _=>none
 | .call c=>match c.callee with
  | .builtin b=>match b with
   | .len=>match c.args.toList with
    | [x]=>match ev sl x with
     | some (.slice _ n _)=>match qlen c.argTypes.toList n with
      | some (v,o)=>some (v,o P)
      | none=>none
     | _=>none
    | _=>none
   | _=>none
  | _=>none
 | _=>none
def AllP:List Prop→Prop
 | []=>True
 | p::r=>p∧AllP r
theorem AllP.app:∀ {l r:List Prop},AllP (l++r)→AllP l∧AllP r
 | [],_,h=>⟨trivial,h⟩
 | _::_,_,h=>⟨⟨h.1,(AllP.app h.2).1⟩,(AllP.app h.2).2⟩
section
variable {P:Program} {o:Oper} {a:Act} {N:Fs} {sl:List (Nat×Value)} {w0 w:World} {ls:List HP} {v:Value} {h:Nat} {ob:List Prop}
theorem St.tagRow (H:St w0 w ls) {i:Nat} {A:HP} (hi:ls[i]?=some A) {b off:Nat} {cs:List Value} (ht:A.tag=some (b,off,cs)):Row w b off cs:=by
 obtain ⟨_,B,f,hs,h1,_⟩:=H
 exact A.tok ht hs (h1 i A hi)
theorem qbin_ok (F:Fr N a sl) {k:IntKind} {m n:Int} {op:BinOp} {t t':TypeId} {x y:Operand} (ho:o.op=.binOp op t x y t') (hx:ev sl x=some (.int k m)) (hy:ev sl y=some (.int k n)) (hq:qbin k m n op=some v):(execOp a.eval o).run P w=.ok (.value v) w:=by
 cases op<;>simp only [qbin,Option.some.injEq,reduceCtorEq] at hq<;>subst hq
 case add=>exact i_add F ho hx hy
 case sub=>exact i_sub F ho hx hy
 case mul=>exact i_mul F ho hx hy
 case and=>exact i_and F ho hx hy
 case or=>exact i_or F ho hx hy
 case xor=>exact i_xor F ho hx hy
 case lss=>exact y_lss F ho hx hy
 case leq=>exact y_leq F ho hx hy
 case gtr=>exact y_gtr F ho hx hy
 case geq=>exact y_geq F ho hx hy
 case eql=>exact y_eql F ho hx hy
 case neq=>exact y_neq F ho hx hy
theorem qval_ok (F:Fr N a sl) (H:St w0 w ls) (hq:qval P ls sl h o.op=some (v,ob)) (hob:AllP ob):(execOp a.eval o).run P w=.ok (.value v) w:=by
 generalize ho:o.op=op at hq
 cases op<;>simp only [qval,reduceCtorEq] at hq
 case move x=>split at hq<;>cases hq;rename_i e;exact y_move F ho e
 case assign x=>split at hq<;>cases hq;rename_i e;exact y_assign F ho e
 case pick x y z =>
  split at hq
  ·rename_i b e
   cases b<;>(simp only at hq;split at hq<;>cases hq;rename_i e2)
   ·exact y_pickF F ho e e2
   ·exact y_pickT F ho e e2
  ·cases hq
 case nilCheck x =>
  split at hq
  ·rename_i p e
   cases p<;>cases hq
   exact y_nilCheck F ho e
  ·cases hq
 case unOp u t x =>
  split at hq
  ·rename_i b e
   cases u<;>cases hq
   exact y_not F ho e
  ·rename_i k m e
   cases u<;>cases hq
   ·exact i_neg F ho e
   ·exact i_not F ho e
  ·cases hq
 case binOp op t x y t' =>
  split at hq
  ·rename_i k m e
   split at hq
   ·rename_i k' n e2
    by_cases hk:k'=k
    ·subst hk
     simp only [decide_true] at hq
     split at hq<;>cases hq
     rename_i e3
     exact qbin_ok F ho e e2 e3
    ·simp [hk] at hq
   ·cases hq
  ·cases hq
 case extract x i =>
  split at hq
  ·rename_i vs e
   split at hq<;>cases hq
   rename_i e2
   rw [atL_eq] at e2
   obtain ⟨vs⟩:=vs
   exact y_extract F ho e e2
  ·cases hq
 case fieldAddr t x f =>
  split at hq
  ·rename_i b k sp e
   cases sp<;>cases hq
   exact y_fieldAddr F hob.1 ho e
  ·cases hq
 case load t x =>
  split at hq
  ·rename_i ad e
   split at hq
   ·rename_i A e2
    rw [atL_eq] at e2
    split at hq
    ·rename_i b off cs e3
     have hr:=H.tagRow e2 e3
     cases hb:Nat.beq (h % 1000) 999<;>rw [hb] at hq<;>simp only at hq
     ·split at hq<;>cases hq
      rename_i e4
      rw [atL_eq] at e4
      obtain ⟨h1,h2,_⟩:=hob
      subst h1
      exact y_load1 F h2 ho e (hr _ _ e4)
     ·cases hq
      obtain ⟨h1,⟨z,h2⟩,_⟩:=hob
      subst h1
      exact y_loadA F h2 ho e hr rfl
    ·cases hq
   ·cases hq
  ·cases hq
 case convert t t' x =>
  split at hq
  ·rename_i e
   obtain ⟨k',rfl,rfl⟩:=qconv_ok hq
   obtain ⟨h1,h2,_⟩:=hob
   exact i_conv F h1 h2 ho e
  ·cases hq
 case call c =>
  split at hq
  ·rename_i b e1
   cases b<;>simp only [reduceCtorEq] at hq
   split at hq
   ·rename_i x e2
    split at hq
    ·rename_i p n cap e3
     split at hq
     ·rename_i v' o' e4
      cases hq
      unfold qlen at e4
      split at e4
      ·rename_i t e5
       cases e4
       obtain ⟨⟨e,h1⟩,_⟩:=hob
       obtain ⟨cc,ca,ct⟩:=c
       obtain ⟨ca⟩:=ca
       obtain ⟨ct⟩:=ct
       simp only at e1 e2 e5
       subst e1 e2 e5
       exact y_lenS F ho h1 e3
      ·cases e4
     ·cases hq
    ·cases hq
   ·cases hq
  ·cases hq
def qwant (ops:List Oper) (sl:List (Nat×Value)):Option (Nat×Bool)→Option Bool
 | none=>some true
 | some (g,bb)=>match atL g ops with
  | some og=>match og.dst with
   | some s=>match lk s sl with
    | some (.bool c)=>match bb with
     | true=>some c
     | false=>some (!c)
    | some (.tuple vs)=>match vs.toList with
     | []=>some false
     | _::_=>none
    | _=>none
   | none=>none
  | none=>none
theorem qwant_ok {ops:List Oper} (F:Fr N a sl) {b:Bool} (h:qwant ops sl o.guard=some b):Region.wanted o (yielded ops.toArray a.tmps)=b:=by
 cases hg:o.guard with
 | none=>rw [hg] at h;cases h;exact want0 hg
 | some p =>
  obtain ⟨g,bb⟩:=p
  rw [hg] at h
  simp only [qwant] at h
  split at h
  ·rename_i og e
   rw [atL_eq] at e
   have hog:ops.toArray[g]?=some og:=by simpa using e
   split at h
   ·rename_i s e2
    split at h
    ·rename_i c e3
     cases bb<;>cases c<;>cases b<;>first | cases h | skip
     ·exact want_on F hg hog e2 e3
     ·exact want_off F hg hog e2 e3 rfl
     ·exact want_off F hg hog e2 e3 rfl
     ·exact want_on F hg hog e2 e3
    ·rename_i vs e3
     obtain ⟨vs⟩:=vs
     cases vs with
     | nil=>cases h;exact want_offU F hg hog e2 e3
     | cons _ _=>cases h
    ·cases h
   ·cases h
  ·cases h
def qrun (P:Program) (n:Nat) (ops:List Oper) (ls:List HP):List Nat→List (Nat×Value)→List Oper→Option (List (Nat×Value)×List Oper×List Prop)
 | [],sl,l=>some (sl,l,[])
 | _::_,_,[]=>none
 | h::hs,sl,o::l=>match o.dst with
  | none=>none
  | some d=>match Nat.blt d n with
   | false=>none
   | true=>match qwant ops sl o.guard with
    | none=>none
    | some true=>match qval P ls sl h o.op with
     | none=>none
     | some (v,ob)=>match qrun P n ops ls hs ((d,v)::sl) l with
      | some (sl',l',ob')=>some (sl',l',ob++ob')
      | none=>none
    | some false=>match qrun P n ops ls hs ((d,undef)::sl) l with
     | some (sl',l',ob')=>some (sl',l',ob')
     | none=>none
theorem qval_nd {op:Op} (h':qval P ls sl h op=some (v,ob)):notDefer op=true:=by
 cases op<;>first | rfl | (simp only [qval,reduceCtorEq] at h')
theorem bulk {ops:List Oper} {W:List Oper→Act→World→Prop} (k:Walk P ops.toArray W) (H:St w0 w ls):∀ {hs:List Nat} {sl sl':List (Nat×Value)} {l l':List Oper} {ob:List Prop} {a:Act},Fr N a sl→qrun P N.n ops ls hs sl l=some (sl',l',ob)→AllP ob→(∀ a',Fr N a' sl'→W l' a' w)→W l a w
 | [],sl,sl',l,l',ob,a,F,h,_,kk=>by cases h;exact kk a F
 | _::_,_,_,[],_,_,_,_,h,_,_=>by cases h
 | h0::hs,sl,sl',o::l,l',ob,a,F,h,hob,kk=>by
  simp only [qrun] at h
  split at h
  ·cases h
  ·rename_i d hd
   split at h
   ·cases h
   ·rename_i hN
    split at h
    ·cases h
    ·rename_i hw
     split at h
     ·cases h
     ·rename_i v ob1 hv
      split at h
      ·rename_i s2 l2 ob2 hr
       cases h
       obtain ⟨q1,q2⟩:=hob.app
       exact k.val (qwant_ok F hw) (qval_nd hv) (qval_ok F H hv q1) (by rw [hd];exact bulk k H (F.put hN v) hr q2 kk)
      ·cases h
    ·rename_i hw
     split at h
     ·rename_i s2 l2 ob2 hr
      cases h
      exact k.off (qwant_ok F hw) (by rw [hd];exact bulk k H (F.put hN _) hr hob kk)
     ·cases h
end
section
variable {P:Program} {a:Act} {N:Fs} {sl sl':List (Nat×Value)} {w0 w:World} {ls:List HP} {ob:List Prop} {Q:Exit→Act→World→Prop} {ops l l':List Oper} {ro:Option Nat}
theorem bk (hs:List Nat) (F:Fr N a sl) (H:St w0 w ls) (h:qrun P N.n ops ls hs sl l=some (sl',l',ob)) (hob:AllP ob) (k:∀ a',Fr N a' sl'→wpList P ops.toArray Q l' a' w):wpList P ops.toArray Q l a w:=bulk wkP H F h hob k
theorem bki (hs:List Nat) (F:Fr N a sl) (H:St w0 w ls) (h:qrun P N.n ops ls hs sl l=some (sl',l',ob)) (hob:AllP ob) (k:∀ a',Fr N a' sl'→wpListIn (FN ro) 0 P ops.toArray Q l' a' w):wpListIn (FN ro) 0 P ops.toArray Q l a w:=bulk wkI H F h hob k
theorem wpQuiet_val {P:Program} {ops:Array Oper} {rest:List Oper} {o:Oper} {a:Act} {Q:Act→Prop} {C:World→Prop} {v:Value} (hw:Region.wanted o (yielded ops a.tmps)=true) (hr:∀ w,C w→(execOp a.eval o).run P w=.ok (.value v) w) (hk:wpQuiet P ops C Q rest (a.put o.dst v)):wpQuiet P ops C Q (o::rest) a:=by
 unfold wpQuiet
 rw [if_pos hw]
 refine ⟨v,fun w hw=>?_,hk⟩
 unfold Oper.quietAt
 rw [hr w hw]
 exact ⟨rfl,rfl⟩
theorem wpQuiet_off {P:Program} {ops:Array Oper} {rest:List Oper} {o:Oper} {a:Act} {Q:Act→Prop} {C:World→Prop} (hw:Region.wanted o (yielded ops a.tmps)=false) (hk:wpQuiet P ops C Q rest (a.put o.dst undef)):wpQuiet P ops C Q (o::rest) a:=by
 unfold wpQuiet
 rw [if_neg (by rw [hw];simp)]
 exact hk
theorem qbulk {C:World→Prop} {Q:Act→Prop} (hC:∀ w,C w→∃ w0,St w0 w ls):∀ {hs:List Nat} {sl sl':List (Nat×Value)} {l l':List Oper} {ob:List Prop} {a:Act},Fr N a sl→qrun P N.n ops ls hs sl l=some (sl',l',ob)→AllP ob→(∀ a',Fr N a' sl'→wpQuiet P ops.toArray C Q l' a')→wpQuiet P ops.toArray C Q l a
 | [],sl,sl',l,l',ob,a,F,h,_,kk=>by cases h;exact kk a F
 | _::_,_,_,[],_,_,_,_,h,_,_=>by cases h
 | h0::hs,sl,sl',o::l,l',ob,a,F,h,hob,kk=>by
  simp only [qrun] at h
  split at h
  ·cases h
  ·rename_i d hd
   split at h
   ·cases h
   ·rename_i hN
    split at h
    ·cases h
    ·rename_i hw
     split at h
     ·cases h
     ·rename_i v ob1 hv
      split at h
      ·rename_i s2 l2 ob2 hr
       cases h
       obtain ⟨q1,q2⟩:=hob.app
       exact wpQuiet_val (qwant_ok F hw) (fun w hw=>by obtain ⟨w0,H⟩:=hC w hw;exact qval_ok F H hv q1) (by rw [hd];exact qbulk hC (F.put hN v) hr q2 kk)
      ·cases h
    ·rename_i hw
     split at h
     ·rename_i s2 l2 ob2 hr
      cases h
      exact wpQuiet_off (qwant_ok F hw) (by rw [hd];exact qbulk hC (F.put hN _) hr hob kk)
     ·cases h
theorem qbk {Q:Act→Prop} (hs:List Nat) (F:Fr N a sl) (h:qrun P N.n ops ls hs sl l=some (sl',l',ob)) (hob:AllP ob) (k:∀ a',Fr N a' sl'→wpQuiet P ops.toArray (fun u=>St w0 u ls) Q l' a'):wpQuiet P ops.toArray (fun u=>St w0 u ls) Q l a:=qbulk (fun _ h=>⟨_,h⟩) F h hob k
theorem qr {id:Nat} {Q:Exit→Act→World→Prop} (H:St w0 w ls) (hm:P.follows .mixedOrders=true) (hB:Region.lexB .any l.toArray=true) (h:wpQuiet P l.toArray (fun u=>St w0 u ls) (fun a'=>∀ w',St w0 w' ls→Q .normal a' w') l a):(Code.region id l.toArray true).wp P Q a w:=q_region _ hm hB H.drew h
def mrun (P:Program) (n:Nat) (ops:List Oper) (ls:List HP):List Nat→List (Nat×Value)→Sc→Option (List (Nat×Value)×Sc×List Prop)
 | [],sl,s=>some (sl,s,[])
 | _::_,_,.done=>none
 | _::_,_,.fork _ _ _ _=>none
 | _::_,_,.fork3 _ _ _ _ _ _=>none
 | h::hs,sl,.step k i r=>match atL i ops with
  | none=>none
  | some o=>match o.dst with
   | none=>none
   | some d=>match Nat.blt d n with
    | false=>none
    | true=>match qwant ops sl o.guard with
     | none=>none
     | some true=>match Nat.ble k 1 with
      | false=>none
      | true=>match qval P (match k with | 0=>[] | _=>ls) sl h o.op with
       | none=>none
       | some (v,ob)=>match mrun P n ops ls hs ((d,v)::sl) r with
        | some (sl',l',ob')=>some (sl',l',ob++ob')
        | none=>none
     | some false=>match mrun P n ops ls hs ((d,undef)::sl) r with
      | some (sl',l',ob')=>some (sl',l',ob')
      | none=>none
theorem mbulk {C:World→Prop} {K:Act→World→Prop} (H:St w0 w ls):∀ {hs:List Nat} {sl sl':List (Nat×Value)} {s s':Sc} {ob:List Prop} {a:Act},Fr N a sl→mrun P N.n ops ls hs sl s=some (sl',s',ob)→AllP ob→(∀ a',Fr N a' sl'→wpMix P ops.toArray C K s' a' w)→wpMix P ops.toArray C K s a w
 | [],sl,sl',s,s',ob,a,F,h,_,kk=>by cases h;exact kk a F
 | _::_,_,_,.done,_,_,_,_,h,_,_=>by cases h
 | _::_,_,_,.fork _ _ _ _,_,_,_,_,h,_,_=>by cases h
 | _::_,_,_,.fork3 _ _ _ _ _ _,_,_,_,_,h,_,_=>by cases h
 | h0::hs,sl,sl',.step k i r,s',ob,a,F,h,hob,kk=>by
  simp only [mrun] at h
  split at h
  ·cases h
  ·rename_i o ho
   rw [atL_eq] at ho
   have ho':ops.toArray[i]?=some o:=by simpa using ho
   split at h
   ·cases h
   ·rename_i d hd
    split at h
    ·cases h
    ·rename_i hN
     split at h
     ·cases h
     ·rename_i hw
      split at h
      ·cases h
      ·rename_i hk1
       split at h
       ·cases h
       ·rename_i v ob1 hv
        split at h
        ·rename_i s2 l2 ob2 hr
         cases h
         obtain ⟨q1,q2⟩:=hob.app
         have hw':=qwant_ok F hw
         refine ⟨o,ho',fun _=>?_,fun e=>by rw [hw'] at e;cases e⟩
         have hk2:k=0∨k=1:=by have:=Nat.le_of_ble_eq_true hk1;omega
         rcases hk2 with rfl | rfl
         ·exact ⟨v,fun u _=>qval_ok F (St.start u) hv q1,by rw [hd];exact mbulk H (F.put hN v) hr q2 kk⟩
         ·exact ⟨v,qval_ok F H hv q1,by rw [hd];exact mbulk H (F.put hN v) hr q2 kk⟩
        ·cases h
     ·rename_i hw
      split at h
      ·rename_i s2 l2 ob2 hr
       cases h
       have hw':=qwant_ok F hw
       exact ⟨o,ho',(fun e=>by rw [hw'] at e;cases e),fun _=>by rw [hd];exact mbulk H (F.put hN _) hr hob kk⟩
      ·cases h
theorem mbk {C:World→Prop} {K:Act→World→Prop} {s s':Sc} (hs:List Nat) (F:Fr N a sl) (H:St w0 w ls) (h:mrun P N.n ops ls hs sl s=some (sl',s',ob)) (hob:AllP ob) (k:∀ a',Fr N a' sl'→wpMix P ops.toArray C K s' a' w):wpMix P ops.toArray C K s a w:=mbulk H F h hob k
def setL {α:Type}:Nat→List α→α→Option (List α)
 | _,[],_=>none
 | 0,_::r,v=>some (v::r)
 | n+1,a::r,v=>match setL n r v with
  | some r'=>some (a::r')
  | none=>none
theorem setL_eq {α:Type}:∀ {n:Nat} {l l':List α} {v:α},setL n l v=some l'→l.set n v=l'∧n<l.length
 | _,[],_,_,h=>by cases ‹Nat›<;>cases h
 | 0,_::r,_,_,h=>by cases h;exact ⟨rfl,by simp⟩
 | n+1,a::r,l',v,h=>by
  simp only [setL] at h
  split at h
  ·rename_i r' e
   cases h
   obtain ⟨h1,h2⟩:=setL_eq e
   exact ⟨by simp [h1],by simpa using h2⟩
  ·cases h
section
variable {rest:List Oper} {o:Oper} {W:List Oper→Act→World→Prop} {l:List (Nat×Value)} {x y:Operand} {t u:TypeId} {ops:Array Oper} {v:Value}
theorem s_st1 (k:Walk P ops W) (F:Fr N a l) (hg:o.guard=none) (hd:o.dst=none) {z1:Value} (hz:Zero1 P t z1) (ho:o.op=.store t x y) {b off:Nat} (hx:ev l x=some (.pointer (some ⟨b,off,none⟩))) {old old':List Value} (hy:ev l y=some v) (hv:v.cells=#[v]) (h1:v.oneCell'=true)
  (H:St w0 w ls) (i:Nat) (hi:ls[i]?=some (HP.blk b old u)) (hs:setL off old v=some old') (hk:∀ w',St w0 w' (ls.set i (HP.blk b old' u))→W rest a w'):W (o::rest) a w :=
 s_store1 k F hg hd hz ho hx hy hv h1 H i hi (setL_eq hs).2 fun w' H'=>hk w' ((setL_eq hs).1▸H')
end
theorem St.slSubN {α:Type} {R:Rp α} {p:Option Addr} {cap:Nat} {xs:List α} {l:List HP} (H:St w0 w l) (m:Nat) (hm:R.n=m) (n:Nat) (hn:l[n]?=some (HP.sl R p cap xs)) {i j:Int} {zs:List α} (hz:slcO xs i j=some zs):St w0 w (HP.sl R (shp p cap i.toNat m) (cap - i.toNat) zs::l):=hm▸H.slSub n hn hz
theorem sr {y:Code} {id:Nat} (h:wpList P l.toArray (Exit.then (fun a w=>y.wp P Q a w) Q) l a w):(Code.seq (.region id l.toArray false) y).wp P Q a w:=wp_seq (r_lit h)
theorem nl {K:Act→World→Prop} {ops:Array Oper} (h:K a w):wpList P ops (Exit.then K Q) [] a w:=wpList_nil (c_then h)
end
section
variable {α:Type} {R:Rp α} {P:Program} {o:Oper} {a:Act} {w0 w:World} {N:Fs} {sl:List (Nat×Value)} {x y:Operand} {t e:TypeId} {l:List HP} {p:Option Addr} {cap:Nat} {xs:List α} {size bytes:Nat} {z0:Value} {k k' k'':IntKind}
theorem y_slLHM (F:Fr N a sl) (hE:ElemT P t e size bytes z0) {lo hi mx:Operand} (ho:o.op=.slice t x (some lo) (some hi) (some mx)) {i j:Int} {zs:List α} (hx:ev sl x=some (.slice p xs.length cap)) (hl:ev sl lo=some (.int k i)) (hh:ev sl hi=some (.int k' j)) (hm:ev sl mx=some (.int k'' j)) (hz:slcO xs i j=some zs) (hc:xs.length≤cap) :
  (execOp a.eval o).run P w=.ok (.value (.slice (shp p j.toNat i.toNat size) zs.length (j.toNat - i.toNat))) w:=by
 obtain ⟨h1,_,h2⟩:=slcO_some hz
 have hb:(Instr.sliceBounds true xs.length cap (some (.int k i)) (some (.int k' j)) (some (.int k'' j))).run P w=.ok (i.toNat,j.toNat,j.toNat) w:=by
  unfold Instr.sliceBounds
  simp [bound_okI (show 0≤j by omega) (show j≤cap by omega),bound_okI (show 0≤j by omega) (show j≤((j.toNat:Nat):Int) by omega),bound_okI (show 0≤i by omega) (show i≤((j.toNat:Nat):Int) by omega)]
 have hr:(Instr.sliceAt t (.slice p xs.length cap) (some (.int k i)) (some (.int k' j)) (some (.int k'' j))).run P w=.ok (.slice (shp p j.toNat i.toNat size) (j.toNat - i.toNat) (j.toNat - i.toNat)) w:=by
  unfold Instr.sliceAt
  rw [Sem.run_bind,Go.run_underlying hE.ht]
  simp only [Result.andThen_ok]
  unfold Instr.slice
  rw [Sem.run_bind,Go.run_underlying hE.ht]
  simp only [Result.andThen_ok]
  rw [Sem.run_bind,hb]
  simp only [Result.andThen_ok]
  rw [Sem.run_bind,hE.run_size]
  simp [shp]
 unfold execOp
 rw [h2]
 simp [ho,F.eval hx,F.eval hl,F.eval hh,F.eval hm,hr]
theorem St.slNar (H:St w0 w l) (n:Nat) (hn:l[n]?=some (HP.sl R p cap xs)) {j:Nat} (hj:j≤xs.length):St w0 w (HP.sl R p j (xs.take j)::l):=by
 obtain ⟨B,H⟩:=H.out
 obtain ⟨S,css,c1,c2⟩:=H.at hn
 refine (H.more (A:=HP.sl R _ _ _) ⟨css.take j,c1.take _,fun w hw=>?_⟩).st
 have h:=(c2 w hw).sub (v:=.nilFunc) (i:=0) (j:=j) (size:=R.n) (by omega) hj c1.flen
 rw [flat_take _ c1,List.length_take,Nat.min_eq_left hj]
 rcases c2 w hw with ⟨h1,h2,h3⟩ | ⟨ad,c,h1,h2,h3⟩ | ⟨b,off,c,h1,h2,h3⟩
 ·obtain ⟨rfl,_,rfl⟩:=Value.slice.inj h1
  obtain rfl:j=0:=by omega
  exact .inl ⟨rfl,rfl,by simp⟩
 ·obtain ⟨rfl,_,_⟩:=Value.slice.inj h1
  obtain rfl:j=0:=by omega
  exact .inr (.inl ⟨ad,0,rfl,rfl,by simp⟩)
 ·obtain ⟨rfl,_,_⟩:=Value.slice.inj h1
  refine .inr (.inr ⟨b,off,j,rfl,Nat.le_refl _,?_⟩)
  have:=h3.sub 0 (j * R.n)
  simpa using this
theorem St.slSubM (H:St w0 w l) (m:Nat) (hm:R.n=m) (n:Nat) (hn:l[n]?=some (HP.sl R p cap xs)) {i j:Int} {zs:List α} (hz:slcO xs i j=some zs):St w0 w (HP.sl R (shp p j.toNat i.toNat m) (j.toNat - i.toNat) zs::l):=by
 obtain ⟨h1,h2,h3⟩:=slcO_some hz
 have hj:j.toNat≤xs.length:=by omega
 have H1:=H.slNar n hn hj
 have hz':slcO (xs.take j.toNat) i j=some zs:=by
  unfold slcO
  rw [if_pos (by rw [List.length_take,Nat.min_eq_left hj];omega),h2,List.take_take,Nat.min_self]
 have H2:=H1.slSubN m hm 0 rfl hz'
 exact H2.dp 1 rfl
end
def chunkN (n:Int) (len:Nat):Option Nat:=if 0<n∧n≤9223372036854775807∧len≤1152921504606846976 then some n.toNat else none
theorem chunkN_some {n:Int} {len m:Nat} (h:chunkN n len=some m):n=((m:Nat):Int)∧0<m∧m≤9223372036854775807∧len≤1152921504606846976:=by
 unfold chunkN at h
 split at h
 ·cases h;omega
 ·cases h
def chunkC (n len:Nat):Nat:=(len+n - 1) / n
def chunkZ {γ:Type} (n:Nat) (xs:List γ):List (Nat×List γ):=(List.range (chunkC n xs.length)).map fun k=>(k * n,(xs.drop (k * n)).take n)
def chunkL {γ:Type} (n:Nat) (xs:List γ):List (List γ):=(chunkZ n xs).map (·.2)
theorem chunkC_lt {n len k:Nat} (hn:0<n):k<chunkC n len↔k * n<len:=by
 unfold chunkC
 rw [Nat.lt_div_iff_mul_lt hn]
 constructor<;>intro h<;>omega
theorem chunkZ_at {γ:Type} {n:Nat} {xs:List γ} (hn:0<n) {k:Nat} (hk:k * n<xs.length):(chunkZ n xs)[k]?=some (k * n,(xs.drop (k * n)).take n):=by
 unfold chunkZ
 rw [List.getElem?_map,List.getElem?_range ((chunkC_lt hn).2 hk)];rfl
theorem chunkZ_all {γ:Type} {n:Nat} {xs:List γ} (hn:0<n) {k:Nat} (hk:¬ k * n<xs.length):(chunkZ n xs).take k=chunkZ n xs:=by
 refine List.take_of_length_le ?_
 unfold chunkZ
 rw [List.length_map,List.length_range]
 have:=(not_congr (chunkC_lt (n:=n) (len:=xs.length) (k:=k) hn)).2 hk
 omega
theorem chunkZ_mem {γ:Type} {n:Nat} {xs:List γ} (hn:0<n) {i:Nat} {y:List γ} (h:(i,y)∈chunkZ n xs):i<xs.length∧y=(xs.drop i).take n:=by
 unfold chunkZ at h
 obtain ⟨k,hk,e⟩:=List.mem_map.1 h
 rw [List.mem_range,chunkC_lt hn] at hk
 simp only [Prod.mk.injEq] at e
 obtain ⟨rfl,rfl⟩:=e
 exact ⟨hk,rfl⟩
theorem chunk_slc {γ:Type} {n i:Nat} {xs y:List γ} (hi:i<xs.length) (hy:y=(xs.drop i).take n):slcO xs ((i:Nat):Int) (((i+y.length:Nat)):Int)=some y:=by
 have hl:y.length=min n (xs.length - i):=by rw [hy];simp
 unfold slcO
 rw [if_pos (by omega),Int.toNat_natCast,Int.toNat_natCast,List.drop_take,hy]
 have:(List.take n (List.drop i xs)).length=min n (xs.length - i):=by simp
 congr 1
 rw [this,show i+min n (xs.length - i) - i=min n (xs.length - i) by omega]
 by_cases h:n≤xs.length - i
 ·rw [Nat.min_eq_left h]
 ·rw [Nat.min_eq_right (by omega),List.take_of_length_le (by simp),List.take_of_length_le (by simp;omega)]
theorem St.chunkEl {α:Type} {R:Rp α} {w0 w:World} {l:List HP} {p:Option Addr} {cap:Nat} {xs:List α} (H:St w0 w l) (m:Nat) (hm:R.n=m) (j:Nat) (hj:l[j]?=some (HP.sl R p cap xs)) {n:Nat} (hn:0<n) {i:Nat} {y:List α} (h:(i,y)∈chunkZ n xs):St w0 w (HP.sl R (shp p (i+y.length) i m) y.length y::l):=by
 obtain ⟨h1,h2⟩:=chunkZ_mem hn h
 have:=H.slSubM m hm j hj (chunk_slc h1 h2)
 rw [Int.toNat_natCast,Int.toNat_natCast,Nat.add_sub_cancel_left] at this
 exact this
structure KeyS (P:Program) (K:TypeId) {κ:Type} (cells:κ→List Value) (lits:κ→List Lit) (ok:κ→Prop):Prop where
 key:P.keyTypeAt 3 K=true
 wide:∃ fs,P.underlying K=some (.struct fs)
 form:∀ k,ok k→(Value.agg (cells k).toArray).formed P K=true
 lit:∀ k,ok k→P.keyLits 3 K (cells k)=some (lits k)
 inj:∀ k k',lits k=lits k'→k=k'
 int:∀ k,∀ c∈cells k,∃ q n,c=Value.int q n
def i64Ok (n:Int):Prop:=-9223372036854775808≤n∧n≤9223372036854775807
instance (n:Int):Decidable (i64Ok n):=by unfold i64Ok;exact inferInstance
theorem qri {P:Program} {ro:Option Nat} {id:Nat} {Q:Exit→Act→World→Prop} {a:Act} {w0 w:World} {ls:List HP} {l:List Oper} (H:St w0 w ls) (hm:P.follows .mixedOrders=true) (hB:(l.all (fun o=>notDefer o.op)&&Region.lexB .any l.toArray)=true)
  (h:wpQuiet P l.toArray (fun u=>St w0 u ls) (fun a'=>∀ w',St w0 w' ls→Q .normal a' w') l a):(Code.region id l.toArray true).wpIn (FN ro) 0 P Q a w:=by
 simp only [Bool.and_eq_true] at hB
 obtain ⟨h0,hB⟩:=hB
 have hnd:∀ (i:Nat) (o:Oper),l.toArray[i]?=some o→notDefer o.op=true:=by
  intro i o ho
  refine List.all_eq_true.1 h0 o ?_
  simp at ho
  exact List.mem_of_getElem? ho
 refine Go.wpIn_mono (Q:=fun e a w=>match e with | .normal=>Q .normal a w | _=>False) (wpIn_region_any hm ?_) fun e a w h=>by cases e<;>first | exact h | exact h.elim
 simp only [Region.lexB,Bool.and_eq_true] at hB
 have h2:=wpAnyQ_lex (C:=fun u=>St w0 u ls) (md:=.any) hB.1 l.toArray.toList 0 (Array.replicate l.toArray.size false) a (by simp) (by simpa using hB.2) (by simpa using h)
 have:=wpAny_of_quiet (Q:=fun a'=>∀ w',St w0 w' ls→Q .normal a' w') (Q':=fun e a w=>match e with | .normal=>Q .normal a w | _=>False) (fun _ w' hw' h=>h w' hw') _ _ _ _ H.drew (by simpa using h2)
 exact any_in ro (fun _ _ h=>h) hnd _ _ _ _ this
section
variable {w0 w:World} {ls:List HP}
end
section
variable {P:Program} {o:Oper} {a:Act} {w:World} {N:Fs} {l:List (Nat×Value)} {x y z:Operand} {t:TypeId}
theorem y_field1 (F:Fr N a l) {f:Nat} {fs:Array Field} {fd:Field} (hu:P.underlying t=some (.struct fs)) (hf:fs[f]?=some fd) (hP:Plain P fd.type) (ho:o.op=.field t x f) {cs:List Value} (hx:ev l x=some (.agg cs.toArray)) {v:Value} (hc:cs[fd.offset]?=some v):(execOp a.eval o).run P w=.ok (.value v) w:=by
 have:(Instr.field t (.agg cs.toArray) f).run P w=.ok v w:=by
  unfold Instr.field
  rw [Sem.run_bind,Go.run_underlying hu]
  simp only [Result.andThen_ok,hf]
  simp [asAgg,Sem.run_bind,part,hP.run_isAgg,hc]
 unfold execOp
 simp [ho,F.eval hx,this]
theorem y_min3 (F:Fr N a l) {k:IntKind} {m n q r:Int} {ts:Array TypeId} (ho:o.op=.call { callee:=.builtin .min,args:=#[x,y,z],argTypes:=ts }) (hx:ev l x=some (.int k m)) (hy:ev l y=some (.int k n)) (hz:ev l z=some (.int k q)) (hr:min (min m n) q=r):(execOp a.eval o).run P w=.ok (.value (.int k r)) w:=by
 have e:(if q<(if n<m then n else m) then q else (if n<m then n else m))=r:=by rw [← hr];split<;>split at *<;>omega
 unfold execOp
 simp [ho,resolve,invoke,builtin,F.eval hx,F.eval hy,F.eval hz,Builtin.min_,Builtin.min2]
 exact e
end
theorem OwnR.mono:∀ {l:List HP} {B:Base} {w:World} {S S':Nat→Prop},OwnR l B w S→(∀ b,S b→S' b)→OwnR l B w S'
 | [],_,_,_,_,_,_=>trivial
 | _::_,_,_,_,_,⟨S1,S2,h1,h2,h3,h4,h5⟩,hs=>⟨S1,S2,h1,h2,h3,fun b hb=>hs b (h4 b hb),fun b hb=>hs b (h5 b hb)⟩
theorem OwnR.loc:∀ {l:List HP} {B:Base} {w w':World} {S:Nat→Prop},OwnR l B w S→(∀ b,S b→w'.heap[b]?=w.heap[b]?)→OwnR l B w' S
 | [],_,_,_,_,_,_=>trivial
 | A::_,_,_,_,_,⟨S1,S2,h1,h2,h3,h4,h5⟩,hs=>⟨S1,S2,A.loc h1 fun b hb=>hs b (h4 b hb),OwnR.loc h2 fun b hb=>hs b (h5 b hb),h3,h4,h5⟩
theorem OwnR.base:∀ {l:List HP} {B B':Base} {w:World} {S:Nat→Prop},OwnR l B w S→B.le B'→OwnR l B' w S
 | [],_,_,_,_,_,_=>trivial
 | A::_,_,_,_,_,⟨S1,S2,h1,h2,h3,h4,h5⟩,hs=>⟨S1,S2,A.mono h1 hs,OwnR.base h2 hs,h3,h4,h5⟩
theorem OwnR.app:∀ {m l:List HP} {B:Base} {w:World} {S S1 S2:Nat→Prop},OwnR m B w S1→OwnR l B w S2→(∀ b,S1 b→S2 b→False)→(∀ b,S1 b→S b)→(∀ b,S2 b→S b)→OwnR (m++l) B w S
 | [],_,_,_,_,_,_,_,h2,_,_,h5=>h2.mono h5
 | _::_,_,_,_,_,_,S2,⟨T1,T2,k1,k2,k3,k4,k5⟩,h2,h3,h4,h5=>⟨T1,fun b=>T2 b∨S2 b,k1,OwnR.app k2 h2 (fun b x y=>h3 b (k5 b x) y) (fun _ x=>.inl x) (fun _ x=>.inr x),fun b x y=>y.elim (k3 b x) (h3 b (k4 b x)),fun b x=>h4 b (k4 b x),fun b x=>x.elim (fun y=>h4 b (k5 b y)) (h5 b)⟩
theorem OwnR.unapp:∀ {m l:List HP} {B:Base} {w:World} {S:Nat→Prop},OwnR (m++l) B w S→∃ S1 S2:Nat→Prop,OwnR m B w S1∧OwnR l B w S2∧(∀ b,S1 b→S2 b→False)∧(∀ b,S1 b→S b)∧(∀ b,S2 b→S b)
 | [],_,_,_,S,h=>⟨fun _=>False,S,trivial,h,fun _ x=>x.elim,fun _ x=>x.elim,fun _ x=>x⟩
 | _::m,_,_,_,_,⟨T1,T2,k1,k2,k3,k4,k5⟩=>by
  obtain ⟨S1,S2,j1,j2,j3,j4,j5⟩:=OwnR.unapp (m:=m) k2
  exact ⟨fun b=>T1 b∨S1 b,S2,⟨T1,S1,k1,j1,fun b x y=>k3 b x (j4 b y),fun _ x=>.inl x,fun _ x=>.inr x⟩,j2,fun b x y=>x.elim (fun z=>k3 b z (j5 b y)) (fun z=>j3 b z y),fun b x=>x.elim (k4 b) fun z=>k5 b (j4 b z),fun b x=>k5 b (j5 b x)⟩
def HP.ex {ι:Type} (f:ι→List HP):HP :=
 HP.of (fun B w S=>∃ i,OwnR (f i) B w S) (fun ⟨i,h⟩ hs=>⟨i,h.loc hs⟩) (fun ⟨i,h⟩ hl=>⟨i,h.base hl⟩)
section
variable {w0 w:World} {l:List HP}
theorem St.ownR (H:St w0 w l):(w.os=w0.os∧w.tape=w0.tape∧w.output=w0.output∧w0.heap.size≤w.heap.size)∧∃ B,Sub B w∧OwnR l B w (fun b=>b<w.heap.size∧B b=none∧w0.heap.size≤b):=by
 obtain ⟨hv,B,f,hs,h1,h2,h3⟩:=H
 exact ⟨hv,B,hs,OwnR.of ⟨f,h1,h2,h3⟩⟩
theorem St.ofOwnR {B:Base} (hv:w.os=w0.os∧w.tape=w0.tape∧w.output=w0.output∧w0.heap.size≤w.heap.size) (hs:Sub B w) (h:OwnR l B w (fun b=>b<w.heap.size∧B b=none∧w0.heap.size≤b)):St w0 w l:=by
 obtain ⟨f,h1,h2,h3⟩:=OwnR.to h
 exact ⟨hv,B,f,hs,h1,h2,h3⟩
theorem St.exOpen {ι:Type} {f:ι→List HP} (H:St w0 w (HP.ex f::l)):∃ i,St w0 w (f i++l):=by
 obtain ⟨hv,B,hs,S1,S2,⟨i,h1⟩,h2,h3,h4,h5⟩:=H.ownR
 exact ⟨i,St.ofOwnR hv hs (h1.app h2 h3 h4 h5)⟩
theorem St.exShut {ι:Type} {f:ι→List HP} (i:ι) (H:St w0 w (f i++l)):St w0 w (HP.ex f::l):=by
 obtain ⟨hv,B,hs,h⟩:=H.ownR
 obtain ⟨S1,S2,h1,h2,h3,h4,h5⟩:=h.unapp
 exact St.ofOwnR hv hs ⟨S1,S2,⟨i,h1⟩,h2,h3,h4,h5⟩
def pkL {α:Type}:Nat→List α→Option (α×List α)
 | _,[]=>none
 | 0,a::r=>some (a,r)
 | n+1,a::r=>match pkL n r with
  | some (x,r')=>some (x,a::r')
  | none=>none
theorem pkL_eq {α:Type}:∀ {n:Nat} {l r:List α} {a:α},pkL n l=some (a,r)→l[n]?=some a∧l.eraseIdx n=r
 | _,[],_,_,h=>by cases ‹Nat›<;>cases h
 | 0,_::_,_,_,h=>by cases h;exact ⟨rfl,rfl⟩
 | n+1,b::r,r2,a,h=>by
  simp only [pkL] at h
  split at h
  ·rename_i x r' e
   cases h
   obtain ⟨h1,h2⟩:=pkL_eq e
   exact ⟨by simpa using h1,by simp [h2]⟩
  ·cases h
theorem St.pk (H:St w0 w l) (n:Nat) {A:HP} {r:List HP} (h:pkL n l=some (A,r)):St w0 w (A::r):=by
 obtain ⟨h1,h2⟩:=pkL_eq h
 rw [← h2];exact H.mv n h1
def spL {α:Type}:Nat→List α→Option (List α×List α)
 | 0,l=>some ([],l)
 | _+1,[]=>none
 | n+1,a::r=>match spL n r with
  | some (f,t)=>some (a::f,t)
  | none=>none
theorem spL_eq {α:Type}:∀ {n:Nat} {l f t:List α},spL n l=some (f,t)→l=f++t∧f.length=n
 | 0,l,f,t,h=>by cases h;exact ⟨rfl,rfl⟩
 | n+1,[],_,_,h=>by cases h
 | n+1,a::r,f,t,h=>by
  simp only [spL] at h
  split at h
  ·rename_i f' t' e
   cases h
   obtain ⟨h1,h2⟩:=spL_eq e
   exact ⟨by rw [h1];rfl,by simp [h2]⟩
  ·cases h
def memN:Nat→List Nat→Bool
 | _,[]=>false
 | i,j::r=>match Nat.beq i j with
  | true=>true
  | false=>memN i r
theorem memN_eq (i:Nat):∀ l:List Nat,memN i l=true↔i∈l
 | []=>by simp [memN]
 | j::r=>by
  simp only [memN]
  cases h:Nat.beq i j
  ·have:i≠j:=Nat.ne_of_beq_eq_false h
   simp [this,memN_eq i r]
  ·have:=Nat.eq_of_beq_eq_true h
   simp [this]
def pmG (front tail:List HP):List Nat→Option (List HP)
 | []=>some tail
 | i::r=>match atL i front with
  | some A=>match pmG front tail r with
   | some L=>match memN i r with
    | false=>some (A::L)
    | true=>match A.ps with
     | true=>some (A::L)
     | false=>none
   | none=>none
  | none=>none
def pmL (n:Nat) (is:List Nat) (L:List HP):Option (List HP):=match spL n L with
 | some (f,t)=>pmG f t is
 | none=>none
theorem pmG_at {front tail:List HP}:∀ {is:List Nat} {L:List HP},pmG front tail is=some L→L.length=is.length+tail.length∧(∀ q A,L[q]?=some A→(∃ i,is[q]?=some i∧front[i]?=some A∧(i∈is.drop (q+1)→A.ps=true))∨(is.length≤q∧tail[q - is.length]?=some A))
 | [],L,h=>by cases h;exact ⟨by simp,fun q A hq=>.inr ⟨Nat.zero_le _,by simpa using hq⟩⟩
 | i::r,L,h=>by
  simp only [pmG] at h
  split at h
  ·rename_i A hA
   rw [atL_eq] at hA
   split at h
   ·rename_i L' hL
    obtain ⟨h1,h2⟩:=pmG_at hL
    have key:L=A::L'∧(i∈r→A.ps=true):=by
     split at h
     ·rename_i hm;cases h;exact ⟨rfl,fun hi=>by rw [(memN_eq i r).2 hi] at hm;cases hm⟩
     ·split at h
      ·rename_i hp;cases h;exact ⟨rfl,fun _=>hp⟩
      ·cases h
    obtain ⟨rfl,hp⟩:=key
    refine ⟨by simp [h1];omega,fun q C hq=>?_⟩
    cases q with
    | zero=>simp at hq;subst hq;exact .inl ⟨i,rfl,hA,by simpa using hp⟩
    | succ q =>
     rcases h2 q C (by simpa using hq) with ⟨j,j1,j2,j3⟩ | ⟨j1,j2⟩
     ·exact .inl ⟨j,by simpa using j1,j2,by simpa using j3⟩
     ·exact .inr ⟨by simp;omega,by simpa using j2⟩
   ·cases h
  ·cases h
theorem St.pm (H:St w0 w l) (n:Nat) (is:List Nat) {L:List HP} (h:pmL n is l=some L):St w0 w L:=by
 unfold pmL at h
 split at h
 ·rename_i front tail e
  obtain ⟨rfl,hn⟩:=spL_eq e
  obtain ⟨hl,hat⟩:=pmG_at h
  obtain ⟨hv,B,f,hs,h1,h2,h3⟩:=H
  let dup:Nat→Prop:=fun q=>∃ i,is[q]?=some i∧i∈is.drop (q+1)
  let ix:Nat→Nat:=fun q=>(is[q]?).getD (n+(q - is.length))
  have hix:∀ q,q<L.length→ix q<(front++tail).length:=by
   intro q hq
   obtain ⟨A,hA⟩:∃ A,L[q]?=some A:=⟨_,List.getElem?_eq_getElem hq⟩
   rcases hat q A hA with ⟨i,i1,i2,_⟩ | ⟨j1,j2⟩
   ·have:=(List.getElem?_eq_some_iff.1 i2).1
    simp only [ix,i1,Option.getD_some,List.length_append];omega
   ·have:=(List.getElem?_eq_some_iff.1 j2).1
    have e2:is[q]?=none:=List.getElem?_eq_none j1
    simp only [ix,e2,Option.getD_none,List.length_append];omega
  have hixA:∀ q A,L[q]?=some A→(front++tail)[ix q]?=some A:=by
   intro q A hA
   rcases hat q A hA with ⟨i,i1,i2,_⟩ | ⟨j1,j2⟩
   ·have:=(List.getElem?_eq_some_iff.1 i2).1
    simp only [ix,i1,Option.getD_some]
    rw [List.getElem?_append_left this];exact i2
   ·have e2:is[q]?=none:=List.getElem?_eq_none j1
    simp only [ix,e2,Option.getD_none]
    rw [List.getElem?_append_right (by omega),← j2]
    congr 1;omega
  have inj:∀ p q,p<L.length→q<L.length→¬ dup p→¬ dup q→ix p=ix q→p=q:=by
   intro p q hp hq hdp hdq he
   rcases Nat.lt_trichotomy p q with hlt | hlt | hlt
   ·exfalso
    obtain ⟨A,hA⟩:∃ A,L[p]?=some A:=⟨_,List.getElem?_eq_getElem hp⟩
    obtain ⟨C,hC⟩:∃ A,L[q]?=some A:=⟨_,List.getElem?_eq_getElem hq⟩
    rcases hat p A hA with ⟨i,i1,i2,_⟩ | ⟨j1,j2⟩
    ·rcases hat q C hC with ⟨k,k1,k2,_⟩ | ⟨m1,m2⟩
     ·simp only [ix,i1,k1,Option.getD_some] at he
      subst he
      refine hdp ⟨i,i1,?_⟩
      have:(is.drop (p+1))[q - (p+1)]?=some i:=by rw [List.getElem?_drop,show p+1+(q - (p+1))=q by omega];exact k1
      exact List.mem_of_getElem? this
     ·have:=(List.getElem?_eq_some_iff.1 i2).1
      simp only [ix,i1,List.getElem?_eq_none m1,Option.getD_some,Option.getD_none] at he;omega
    ·have e2:is[q]?=none:=List.getElem?_eq_none (by omega)
     simp only [ix,List.getElem?_eq_none j1,e2,Option.getD_none] at he;omega
   ·exact hlt
   ·exfalso
    obtain ⟨A,hA⟩:∃ A,L[q]?=some A:=⟨_,List.getElem?_eq_getElem hq⟩
    obtain ⟨C,hC⟩:∃ A,L[p]?=some A:=⟨_,List.getElem?_eq_getElem hp⟩
    rcases hat q A hA with ⟨i,i1,i2,_⟩ | ⟨j1,j2⟩
    ·rcases hat p C hC with ⟨k,k1,k2,_⟩ | ⟨m1,m2⟩
     ·simp only [ix,i1,k1,Option.getD_some] at he
      subst he
      refine hdq ⟨k,i1,?_⟩
      have:(is.drop (q+1))[p - (q+1)]?=some k:=by rw [List.getElem?_drop,show q+1+(p - (q+1))=p by omega];exact k1
      exact List.mem_of_getElem? this
     ·have:=(List.getElem?_eq_some_iff.1 i2).1
      simp only [ix,i1,List.getElem?_eq_none m1,Option.getD_some,Option.getD_none] at he;omega
    ·have e2:is[p]?=none:=List.getElem?_eq_none (by omega)
     simp only [ix,List.getElem?_eq_none j1,e2,Option.getD_none] at he;omega
  refine ⟨hv,B,fun q b=>¬ dup q∧f (ix q) b,hs,fun q A hA=>?_,fun p q b hp hq hfp hfq=>?_,fun q b hq hf=>h3 _ b (hix q hq) hf.2⟩
  ·have h4:=h1 _ A (hixA q A hA)
   by_cases hd:dup q
   ·obtain ⟨i,i1,i2⟩:=hd
    rcases hat q A hA with ⟨k,k1,_,k3⟩ | ⟨j1,_⟩
    ·rw [i1] at k1;cases k1
     exact A.pok (k3 i2) h4
    ·rw [List.getElem?_eq_none j1] at i1;cases i1
   ·have e:(fun b=>¬ dup q∧f (ix q) b)=f (ix q):=by funext b;simp [hd]
    show A.pr B w (fun b=>¬ dup q∧f (ix q) b)
    rw [e];exact h4
  ·exact inj p q hp hq hfp.1 hfq.1 (h2 _ _ b (hix p hp) (hix q hq) hfp.2 hfq.2)
 ·cases h
def selL:List (Nat×Value)→List (Nat×Value)→Option (List (Nat×Value))
 | [],_=>some []
 | (k,_)::r,l=>match lk k l with
  | some v=>match selL r l with
   | some r'=>some ((k,v)::r')
   | none=>none
  | none=>none
theorem selL_ok {l:List (Nat×Value)}:∀ {ks l':List (Nat×Value)},selL ks l=some l'→AllLk l l'
 | [],_,h=>by cases h;trivial
 | (k,_)::r,l',h=>by
  simp only [selL] at h
  split at h
  ·rename_i v e
   split at h
   ·rename_i r' e2;cases h;exact ⟨e,selL_ok e2⟩
   ·cases h
  ·cases h
theorem Fr.sl {N:Fs} {a:Act} {l l':List (Nat×Value)} (F:Fr N a l) (h:selL l' l=some l'):Fr N a l':=F.cut _ (selL_ok h)
theorem Fr.bT {N:Fs} {a:Act} {l:List (Nat×Value)} (F:Fr N a l) (k:Nat) {p:Prop} [Decidable p] (h:p) (hk:lk k l=some (.bool (decide p))):Fr N a ((k,.bool true)::l):=F.bool hk (by rw [decide_eq_true h])
theorem Fr.bF {N:Fs} {a:Act} {l:List (Nat×Value)} (F:Fr N a l) (k:Nat) {p:Prop} [Decidable p] (h:¬ p) (hk:lk k l=some (.bool (decide p))):Fr N a ((k,.bool false)::l):=F.bool hk (by rw [decide_eq_false h])
theorem Fr.nT {N:Fs} {a:Act} {l:List (Nat×Value)} (F:Fr N a l) (k:Nat) {p:Prop} [Decidable p] (h:p) (hk:lk k l=some (.bool (!decide p))):Fr N a ((k,.bool false)::l):=F.bool hk (by rw [decide_eq_true h];rfl)
theorem Fr.nF {N:Fs} {a:Act} {l:List (Nat×Value)} (F:Fr N a l) (k:Nat) {p:Prop} [Decidable p] (h:¬ p) (hk:lk k l=some (.bool (!decide p))):Fr N a ((k,.bool true)::l):=F.bool hk (by rw [decide_eq_false h];rfl)
theorem Fr.vT {N:Fs} {a:Act} {l:List (Nat×Value)} (F:Fr N a l) (k:Nat) {b:Bool} (h:b=true) (hk:lk k l=some (.bool b)):Fr N a ((k,.bool true)::l):=F.bool hk (by rw [h])
theorem Fr.vF {N:Fs} {a:Act} {l:List (Nat×Value)} (F:Fr N a l) (k:Nat) {b:Bool} (h:¬ b=true) (hk:lk k l=some (.bool b)):Fr N a ((k,.bool false)::l):=F.bool hk (by rw [eq_false_of_ne_true h])
def opC (n:Nat) (sl:List (Nat×Value)) (o:Oper):Option (Nat×FuncId×List Value):=match o.guard with
 | some _=>none
 | none=>match o.dst with
  | none=>none
  | some d=>match Nat.blt d n with
   | false=>none
   | true=>match o.op with
    | .call c=>match c.callee with
     | .value (.func f)=>match evs sl c.args.toList with
      | some vs=>some (d,f,vs)
      | none=>none
     | _=>none
    | _=>none
theorem opC_ok {n d:Nat} {f:FuncId} {vs:List Value} {sl:List (Nat×Value)} {o:Oper} (h:opC n sl o=some (d,f,vs)):o.guard=none∧o.dst=some d∧Nat.blt d n=true∧∃ xs ts,o.op=.call { callee:=.value (.func f),args:=List.toArray xs,argTypes:=ts }∧evs sl xs=some vs:=by
 unfold opC at h
 split at h
 ·cases h
 ·rename_i hg
  split at h
  ·cases h
  ·rename_i d' hd
   split at h
   ·cases h
   ·rename_i hN
    split at h
    ·rename_i c ho
     split at h
     ·rename_i f' hc
      split at h
      ·rename_i vs' hv
       cases h
       obtain ⟨cc,⟨ca⟩,ct⟩:=c
       simp only at hc hv
       subst hc
       exact ⟨hg,hd,hN,ca,ct,ho,hv⟩
      ·cases h
     ·cases h
    ·cases h
theorem sc {P:Program} {ops:Array Oper} {W:List Oper→Act→World→Prop} {rest:List Oper} {o:Oper} {a:Act} {N:Fs} {sl:List (Nat×Value)} {d:Nat} {f:FuncId} {vs:List Value} {R:Value→World→Prop} (kw:Walk P ops W) (F:Fr N a sl) (h:opC N.n sl o=some (d,f,vs)) (he:∀ args w,(callFunc f args).run P w=.ok (.enter f args) w)
  (hc:Calls P f vs.toArray w fun e w'=>∃ v,e=.returned v∧R v w') (hk:∀ v w' a',R v w'→Fr N a' ((d,v)::sl)→W rest a' w'):W (o::rest) a w:=by
 obtain ⟨hg,hd,hN,xs,ts,ho,hv⟩:=opC_ok h
 exact s_call kw F hg hd hN (by rw [ho];rfl) (y_call F ho hv he) hc hk
theorem St.mkRc {α:Type} {R:Rp α} (H:St w0 w l) {cs:List Value} {x:α} (hrd:∀ {B:Base},(∀ (j:Nat) (C:HP),l[j]?=some C→∃ S,C.pr B w S)→R.rd B cs x):St w0 w (HP.rc R cs x::l) :=
 H.more fun B _ hp=>hrd fun j C hj=>hp j C hj
theorem St.rcLen {α:Type} {R:Rp α} (H:St w0 w l) (i:Nat) {cs:List Value} {x:α} (hi:l[i]?=some (HP.rc R cs x)):cs.length=R.n:=by
 obtain ⟨B,S,_,h,_⟩:=H.get i hi
 exact R.len h
theorem St.rcFlat {α:Type} {R:Rp α} (H:St w0 w l) (i:Nat) {cs:List Value} {x:α} (hi:l[i]?=some (HP.rc R cs x)):Flat cs:=by
 obtain ⟨B,S,_,h,_⟩:=H.get i hi
 exact R.flat h
end
theorem sq:type_of% @wp_seq:=@wp_seq
theorem bl:type_of% @wp_block:=@wp_block
theorem ct:type_of% @c_then:=@c_then
theorem bn:type_of% @c_blkN:=@c_blkN
theorem cx:type_of% @c_thenX:=@c_thenX
theorem ch:type_of% @c_hit:=@c_hit
theorem lz:type_of% @wpList_nil:=@wpList_nil
theorem sk:type_of% @wp_skip:=@wp_skip
theorem ex:type_of% @wp_exit:=@wp_exit
theorem wr:type_of% @wp_ret:=@wp_ret
theorem br:type_of% @c_blkR:=@c_blkR
theorem tr:type_of% @c_thenR:=@c_thenR
theorem rl:type_of% @r_lit:=@r_lit
theorem sqi:type_of% @wpIn_seq:=@wpIn_seq
theorem bli:type_of% @wpIn_block:=@wpIn_block
theorem lzi:type_of% @wpListIn_nil:=@wpListIn_nil
theorem rli:type_of% @ri_lit:=@ri_lit
theorem cB:type_of% @x_cond:=@x_cond
theorem cT:type_of% @x_condT:=@x_condT
theorem cF:type_of% @x_condF:=@x_condF
abbrev En (P:Program) (f:FuncId):Prop:=∀ args w,(callFunc f args).run P w=.ok (.enter f args) w
theorem fl {cs:List Value} (h:cs.all Value.oneCell'=true):Flat cs:=fun v hv=>List.all_eq_true.1 h v hv
def pkS:List Nat→List (Nat×Value)→Option (List (Nat×Value))
 | [],_=>some []
 | k::r,l=>match lk k l with
  | some v=>match pkS r l with
   | some r'=>some ((k,v)::r')
   | none=>none
  | none=>none
def opV (n:Nat) (o:Oper):Option Nat:=match o.guard with
 | some _=>none
 | none=>match o.dst with
  | none=>none
  | some d=>match Nat.blt d n with
   | true=>match notDefer o.op with
    | true=>some d
    | false=>none
   | false=>none
theorem opV_ok {n d:Nat} {o:Oper} (h:opV n o=some d):o.guard=none∧o.dst=some d∧Nat.blt d n=true∧notDefer o.op=true:=by
 unfold opV at h
 split at h
 ·cases h
 ·rename_i hg
  split at h
  ·cases h
  ·rename_i d' hd
   split at h
   ·rename_i hb
    split at h
    ·rename_i hn;cases h;exact ⟨hg,hd,hb,hn⟩
    ·cases h
   ·cases h
section
variable {P:Program} {ops:Array Oper} {Q:Exit→Act→World→Prop} {a:Act} {w w0 w':World} {N:Fs} {sl sl' s1:List (Nat×Value)} {ls l1:List HP} {o:Oper} {rest l l':List Oper} {d:Nat} {v:Value}
theorem sv (F:Fr N a sl) (h:opV N.n o=some d) (hr:(execOp a.eval o).run P w=.ok (.value v) w') (hk:∀ a',Fr N a' ((d,v)::sl)→wpList P ops Q rest a' w'):wpList P ops Q (o::rest) a w :=
 s_val wkP F (opV_ok h).1 (opV_ok h).2.1 (opV_ok h).2.2.1 (opV_ok h).2.2.2 hr hk
theorem qv {C:World→Prop} {Q:Act→Prop} (F:Fr N a sl) (h:opV N.n o=some d) (hr:∀ w,C w→(execOp a.eval o).run P w=.ok (.value v) w) (hk:∀ a',Fr N a' ((d,v)::sl)→wpQuiet P ops C Q rest a'):wpQuiet P ops C Q (o::rest) a :=
 q_val F (opV_ok h).1 (opV_ok h).2.1 (opV_ok h).2.2.1 hr hk
theorem bb {ops:List Oper} (hs:List Nat) (F:Fr N a sl) (H:St w0 w ls) (h:qrun P N.n ops ls hs sl l=some (sl',l',[])) (k:∀ a',Fr N a' sl'→wpList P ops.toArray Q l' a' w):wpList P ops.toArray Q l a w:=bk hs F H h trivial k
theorem qb {ops:List Oper} {Q:Act→Prop} (hs:List Nat) (F:Fr N a sl) (h:qrun P N.n ops ls hs sl l=some (sl',l',[])) (k:∀ a',Fr N a' sl'→wpQuiet P ops.toArray (fun u=>St w0 u ls) Q l' a'):wpQuiet P ops.toArray (fun u=>St w0 u ls) Q l a:=qbk hs F h trivial k
theorem mb {ops:List Oper} {C:World→Prop} {K:Act→World→Prop} {s s':Sc} (hs:List Nat) (F:Fr N a sl) (H:St w0 w ls) (h:mrun P N.n ops ls hs sl s=some (sl',s',[])) (k:∀ a',Fr N a' sl'→wpMix P ops.toArray C K s' a' w):wpMix P ops.toArray C K s a w:=mbk hs F H h trivial k
theorem sb {y:Code} {id:Nat} (hs:List Nat) (F:Fr N a sl) (H:St w0 w ls) (h:qrun P N.n l ls hs sl l=some (sl',l',[])) (k:∀ a',Fr N a' sl'→wpList P l.toArray (Exit.then (fun a w=>y.wp P Q a w) Q) l' a' w):(Code.seq (.region id l.toArray false) y).wp P Q a w:=sr (bk hs F H h trivial k)
theorem nb {y:Code} {id:Nat} {ops:Array Oper} {Q':Exit→Act→World→Prop} (hs:List Nat) (F:Fr N a sl) (H:St w0 w ls) (h:qrun P N.n l ls hs sl l=some (sl',l',[])) (k:∀ a',Fr N a' sl'→wpList P l.toArray (Exit.then (fun a w=>y.wp P Q a w) Q) l' a' w):wpList P ops (Exit.then (fun a w=>(Code.seq (.region id l.toArray false) y).wp P Q a w) Q') [] a w:=nl (sr (bk hs F H h trivial k))
theorem sd {f:FuncId} {vs:List Value} {R:Value→World→Prop} (F:Fr N a sl) (h:opC N.n sl o=some (d,f,vs)) (he:En P f)
  (hc:Calls P f vs.toArray w fun e w'=>∃ v,e=.returned v∧R v w') (hk:∀ v w' a',R v w'→Fr N a' ((d,v)::sl)→wpList P ops Q rest a' w'):wpList P ops Q (o::rest) a w:=sc wkP F h he hc hk
theorem cPm {c:Operand} {x y:Code} {p:Prop} {i1 i2:Decidable p} {α:Type} {A B r:α} (F:Fr N a sl) (hc:ev sl c=some (.bool (@decide p i1))) (hm:(@ite α p i2 A B)=r) (ht:p→A=r→x.wp P Q a w) (hf:¬ p→B=r→y.wp P Q a w):(Code.cond c x y).wp P Q a w :=
 @x_condP P Q a w N sl F c x y p i1 hc (fun h=>ht h (@ifT p i2 α A B r h hm)) (fun h=>hf h (@ifF p i2 α A B r h hm))
theorem cNm {c:Operand} {x y:Code} {p:Prop} {i1 i2:Decidable p} {α:Type} {A B r:α} (F:Fr N a sl) (hc:ev sl c=some (.bool (!@decide p i1))) (hm:(@ite α p i2 A B)=r) (hf:¬ p→B=r→x.wp P Q a w) (ht:p→A=r→y.wp P Q a w):(Code.cond c x y).wp P Q a w :=
 @x_condN P Q a w N sl F c x y p i1 hc (fun h=>hf h (@ifF p i2 α A B r h hm)) (fun h=>ht h (@ifT p i2 α A B r h hm))
theorem spP {p:Prop} {i1 i2:Decidable p} {α:Type} {A B r:α} (k:Nat) (F:Fr N a sl) (hk:lk k sl=some (.bool (@decide p i1))) (hm:(@ite α p i2 A B)=r):(p∧A=r∧Fr N a ((k,.bool true)::sl))∨(¬ p∧B=r∧Fr N a ((k,.bool false)::sl)):=by
 by_cases h:p
 ·exact .inl ⟨h,@ifT p i2 α A B r h hm,@Fr.bT N a sl F k p i1 h hk⟩
 ·exact .inr ⟨h,@ifF p i2 α A B r h hm,@Fr.bF N a sl F k p i1 h hk⟩
theorem spN {p:Prop} {i1 i2:Decidable p} {α:Type} {A B r:α} (k:Nat) (F:Fr N a sl) (hk:lk k sl=some (.bool (!@decide p i1))) (hm:(@ite α p i2 A B)=r):(p∧A=r∧Fr N a ((k,.bool false)::sl))∨(¬ p∧B=r∧Fr N a ((k,.bool true)::sl)):=by
 by_cases h:p
 ·exact .inl ⟨h,@ifT p i2 α A B r h hm,@Fr.nT N a sl F k p i1 h hk⟩
 ·exact .inr ⟨h,@ifF p i2 α A B r h hm,@Fr.nF N a sl F k p i1 h hk⟩
theorem xm0 {x:Code} {τ ρ:Type} {ot:Option τ} {f:τ→Option ρ} {r:ρ}  (n:Nat) (is js:List Nat) (F:Fr N a sl) (H:St w0 w ls) (hm:ot.bind f=some r) (h1:pkS is sl=some s1) (h2:pmL n js ls=some l1)
  (S:τ→List (Nat×Value)→List (Nat×Value)) (L:τ→List HP→List HP)
  (hx:∀ t,ot=some t→x.wp P (Exit.then (fun a w=>Fr N a (S t s1)∧St w0 w (L t l1)) Q) a w)
  (hy:∀ t a w,f t=some r→Fr N a (S t s1)→St w0 w (L t l1)→Q .normal a w):x.wp P Q a w:=by
 obtain ⟨t,h3,h4⟩:=ob hm
 refine x_mid _ (hx t h3) ?_
 rintro a w ⟨F,H⟩
 exact hy t a w h4  F H
theorem xr0 {x:Code} {τ υ ρ:Type} {ot:Option (τ ⊕ υ)} {f:τ→Option ρ} {g:υ→Option ρ} {r:ρ}  (n:Nat) (is js:List Nat) (F:Fr N a sl) (H:St w0 w ls) (hm:(ot.bind fun z=>Sum.elim f g z)=some r) (h1:pkS is sl=some s1) (h2:pmL n js ls=some l1)
  (S:τ→List (Nat×Value)→List (Nat×Value)) (L:τ→List HP→List HP)
  (hx:∀ z,ot=some z→Sum.elim f g z=some r→x.wp P (Exit.then (fun a w=>∃ t,z=.inl t∧Fr N a (S t s1)∧St w0 w (L t l1)) Q) a w)
  (hy:∀ t a w,f t=some r→Fr N a (S t s1)→St w0 w (L t l1)→Q .normal a w):x.wp P Q a w:=by
 obtain ⟨z,h3,h4⟩:=ob hm
 refine x_mid _ (hx z h3 h4) ?_
 rintro a w ⟨t,e,F,H⟩
 cases e
 exact hy t a w h4  F H
theorem xl0 {c:Code} {σ ρ:Type} {f:σ→Option (σ ⊕ ρ)} {g0:σ} {r:ρ}  (n:Nat) (is js:List Nat) (F:Fr N a sl) (H:St w0 w ls) (hm:loopO f g0=some r) (h1:pkS is sl=some s1) (h2:pmL n js ls=some l1)
  (S:σ→List (Nat×Value)→List (Nat×Value)) (L:σ→List HP→List HP)
  (h0:Fr N a (S g0 s1)∧St w0 w (L g0 l1))
  (hk:∀ s a w o,Fr N a (S s s1)→St w0 w (L s l1)→f s=some o→c.wp P (Exit.then (fun a' w'=>∃ s',o=.inl s'∧Fr N a' (S s' s1)∧St w0 w' (L s' l1)) (fun e a' w'=>∃ r',o=.inr r'∧(r'=r→Q e a' w'))) a w):(Code.loop c).wp P Q a w:=by
 refine x_loopO f (fun s a w=>Fr N a (S s s1)∧St w0 w (L s l1)) hm h0 ?_
 rintro s a w o ⟨F,H⟩ h
 exact hk s a w o  F H h
theorem xm1 {x:Code} {τ ρ:Type} {ot:Option τ} {f:τ→Option ρ} {r:ρ} {T0:Type} (n:Nat) (is js:List Nat) (F:Fr N a sl) (H:St w0 w ls) (hm:ot.bind f=some r) (h1:pkS is sl=some s1) (h2:pmL n js ls=some l1)
  (S:τ→T0→List (Nat×Value)→List (Nat×Value)) (L:τ→T0→List HP→List HP)
  (hx:∀ t,ot=some t→x.wp P (Exit.then (fun a w=>∃ x0,Fr N a (S t x0 s1)∧St w0 w (L t x0 l1)) Q) a w)
  (hy:∀ t a w,f t=some r→∀ x0,Fr N a (S t x0 s1)→St w0 w (L t x0 l1)→Q .normal a w):x.wp P Q a w:=by
 obtain ⟨t,h3,h4⟩:=ob hm
 refine x_mid _ (hx t h3) ?_
 rintro a w ⟨x0,F,H⟩
 exact hy t a w h4 x0 F H
theorem xm2 {x:Code} {τ ρ:Type} {ot:Option τ} {f:τ→Option ρ} {r:ρ} {T0:Type} {T1:Type} (n:Nat) (is js:List Nat) (F:Fr N a sl) (H:St w0 w ls) (hm:ot.bind f=some r) (h1:pkS is sl=some s1) (h2:pmL n js ls=some l1)
  (S:τ→T0→T1→List (Nat×Value)→List (Nat×Value)) (L:τ→T0→T1→List HP→List HP)
  (hx:∀ t,ot=some t→x.wp P (Exit.then (fun a w=>∃ x0,∃ x1,Fr N a (S t x0 x1 s1)∧St w0 w (L t x0 x1 l1)) Q) a w)
  (hy:∀ t a w,f t=some r→∀ x0 x1,Fr N a (S t x0 x1 s1)→St w0 w (L t x0 x1 l1)→Q .normal a w):x.wp P Q a w:=by
 obtain ⟨t,h3,h4⟩:=ob hm
 refine x_mid _ (hx t h3) ?_
 rintro a w ⟨x0,x1,F,H⟩
 exact hy t a w h4 x0 x1 F H
theorem xr2 {x:Code} {τ υ ρ:Type} {ot:Option (τ ⊕ υ)} {f:τ→Option ρ} {g:υ→Option ρ} {r:ρ} {T0:Type} {T1:Type} (n:Nat) (is js:List Nat) (F:Fr N a sl) (H:St w0 w ls) (hm:(ot.bind fun z=>Sum.elim f g z)=some r) (h1:pkS is sl=some s1) (h2:pmL n js ls=some l1)
  (S:τ→T0→T1→List (Nat×Value)→List (Nat×Value)) (L:τ→T0→T1→List HP→List HP)
  (hx:∀ z,ot=some z→Sum.elim f g z=some r→x.wp P (Exit.then (fun a w=>∃ t,z=.inl t∧∃ x0,∃ x1,Fr N a (S t x0 x1 s1)∧St w0 w (L t x0 x1 l1)) Q) a w)
  (hy:∀ t a w,f t=some r→∀ x0 x1,Fr N a (S t x0 x1 s1)→St w0 w (L t x0 x1 l1)→Q .normal a w):x.wp P Q a w:=by
 obtain ⟨z,h3,h4⟩:=ob hm
 refine x_mid _ (hx z h3 h4) ?_
 rintro a w ⟨t,e,x0,x1,F,H⟩
 cases e
 exact hy t a w h4 x0 x1 F H
theorem xl2 {c:Code} {σ ρ:Type} {f:σ→Option (σ ⊕ ρ)} {g0:σ} {r:ρ} {T0:Type} {T1:Type} (n:Nat) (is js:List Nat) (F:Fr N a sl) (H:St w0 w ls) (hm:loopO f g0=some r) (h1:pkS is sl=some s1) (h2:pmL n js ls=some l1)
  (S:σ→T0→T1→List (Nat×Value)→List (Nat×Value)) (L:σ→T0→T1→List HP→List HP)
  (h0:∃ x0,∃ x1,Fr N a (S g0 x0 x1 s1)∧St w0 w (L g0 x0 x1 l1))
  (hk:∀ s a w o,∀ x0 x1,Fr N a (S s x0 x1 s1)→St w0 w (L s x0 x1 l1)→f s=some o→c.wp P (Exit.then (fun a' w'=>∃ s',o=.inl s'∧∃ x0,∃ x1,Fr N a' (S s' x0 x1 s1)∧St w0 w' (L s' x0 x1 l1)) (fun e a' w'=>∃ r',o=.inr r'∧(r'=r→Q e a' w'))) a w):(Code.loop c).wp P Q a w:=by
 refine x_loopO f (fun s a w=>∃ x0,∃ x1,Fr N a (S s x0 x1 s1)∧St w0 w (L s x0 x1 l1)) hm h0 ?_
 rintro s a w o ⟨x0,x1,F,H⟩ h
 exact hk s a w o x0 x1 F H h
theorem xm3 {x:Code} {τ ρ:Type} {ot:Option τ} {f:τ→Option ρ} {r:ρ} {T0:Type} {T1:Type} {T2:Type} (n:Nat) (is js:List Nat) (F:Fr N a sl) (H:St w0 w ls) (hm:ot.bind f=some r) (h1:pkS is sl=some s1) (h2:pmL n js ls=some l1)
  (S:τ→T0→T1→T2→List (Nat×Value)→List (Nat×Value)) (L:τ→T0→T1→T2→List HP→List HP)
  (hx:∀ t,ot=some t→x.wp P (Exit.then (fun a w=>∃ x0,∃ x1,∃ x2,Fr N a (S t x0 x1 x2 s1)∧St w0 w (L t x0 x1 x2 l1)) Q) a w)
  (hy:∀ t a w,f t=some r→∀ x0 x1 x2,Fr N a (S t x0 x1 x2 s1)→St w0 w (L t x0 x1 x2 l1)→Q .normal a w):x.wp P Q a w:=by
 obtain ⟨t,h3,h4⟩:=ob hm
 refine x_mid _ (hx t h3) ?_
 rintro a w ⟨x0,x1,x2,F,H⟩
 exact hy t a w h4 x0 x1 x2 F H
theorem xm4 {x:Code} {τ ρ:Type} {ot:Option τ} {f:τ→Option ρ} {r:ρ} {T0:Type} {T1:Type} {T2:Type} {T3:Type} (n:Nat) (is js:List Nat) (F:Fr N a sl) (H:St w0 w ls) (hm:ot.bind f=some r) (h1:pkS is sl=some s1) (h2:pmL n js ls=some l1)
  (S:τ→T0→T1→T2→T3→List (Nat×Value)→List (Nat×Value)) (L:τ→T0→T1→T2→T3→List HP→List HP)
  (hx:∀ t,ot=some t→x.wp P (Exit.then (fun a w=>∃ x0,∃ x1,∃ x2,∃ x3,Fr N a (S t x0 x1 x2 x3 s1)∧St w0 w (L t x0 x1 x2 x3 l1)) Q) a w)
  (hy:∀ t a w,f t=some r→∀ x0 x1 x2 x3,Fr N a (S t x0 x1 x2 x3 s1)→St w0 w (L t x0 x1 x2 x3 l1)→Q .normal a w):x.wp P Q a w:=by
 obtain ⟨t,h3,h4⟩:=ob hm
 refine x_mid _ (hx t h3) ?_
 rintro a w ⟨x0,x1,x2,x3,F,H⟩
 exact hy t a w h4 x0 x1 x2 x3 F H
theorem xr4 {x:Code} {τ υ ρ:Type} {ot:Option (τ ⊕ υ)} {f:τ→Option ρ} {g:υ→Option ρ} {r:ρ} {T0:Type} {T1:Type} {T2:Type} {T3:Type} (n:Nat) (is js:List Nat) (F:Fr N a sl) (H:St w0 w ls) (hm:(ot.bind fun z=>Sum.elim f g z)=some r) (h1:pkS is sl=some s1) (h2:pmL n js ls=some l1)
  (S:τ→T0→T1→T2→T3→List (Nat×Value)→List (Nat×Value)) (L:τ→T0→T1→T2→T3→List HP→List HP)
  (hx:∀ z,ot=some z→Sum.elim f g z=some r→x.wp P (Exit.then (fun a w=>∃ t,z=.inl t∧∃ x0,∃ x1,∃ x2,∃ x3,Fr N a (S t x0 x1 x2 x3 s1)∧St w0 w (L t x0 x1 x2 x3 l1)) Q) a w)
  (hy:∀ t a w,f t=some r→∀ x0 x1 x2 x3,Fr N a (S t x0 x1 x2 x3 s1)→St w0 w (L t x0 x1 x2 x3 l1)→Q .normal a w):x.wp P Q a w:=by
 obtain ⟨z,h3,h4⟩:=ob hm
 refine x_mid _ (hx z h3 h4) ?_
 rintro a w ⟨t,e,x0,x1,x2,x3,F,H⟩
 cases e
 exact hy t a w h4 x0 x1 x2 x3 F H
end
section
variable {α:Type} {R:Rp α} {p:Option Addr} {cap:Nat} {xs:List α} {x:α} {w0 w:World} {l:List HP}
theorem St.slF (H:St w0 w l) (i:Nat) (hi:l[i]?=some (HP.sl R p cap xs)) {b off:Nat} (hp:p=some ⟨b,off,none⟩) {q:Int} (hx:idxO xs q=some x):∃ cs,St w0 w (HP.row b (off+q.toNat * R.n) cs::HP.rc R cs x::l):=by
 obtain ⟨cs,_,h⟩:=H.slEl i hi hp (idxO_some hx).2
 exact ⟨cs,h⟩
theorem St.slE (H:St w0 w l) (i:Nat) (hi:l[i]?=some (HP.sl R p cap xs)) {q:Int} (hx:idxO xs q=some x):∃ b off,p=some ⟨b,off,none⟩∧∃ cs,St w0 w (HP.row b (off+q.toNat * R.n) cs::HP.rc R cs x::l):=by
 obtain ⟨b,off,hp⟩:=H.slP i hi (idxO_some hx).2
 exact ⟨b,off,hp,H.slF i hi hp hx⟩
end
def scL:List Nat→Sc
 | []=>.done
 | n::r=>.step (n / 1000) (n % 1000) (scL r)
def pkH:List Nat→List HP→Option (List HP)
 | [],_=>some []
 | i::r,l=>match atL i l with
  | some A=>match pkH r l with
   | some L=>some (A::L)
   | none=>none
  | none=>none
theorem pkH_at {l:List HP}:∀ {is:List Nat} {L:List HP},pkH is l=some L→is.map (fun i=>l[i]?)=L.map some
 | [],L,h=>by cases h;rfl
 | i::r,L,h=>by
  simp only [pkH] at h
  split at h
  ·rename_i A hA
   rw [atL_eq] at hA
   split at h
   ·rename_i L' hL
    cases h
    rw [List.map_cons,List.map_cons,hA,pkH_at hL]
   ·cases h
  ·cases h
def nodN:List Nat→Bool
 | []=>true
 | i::r=>match memN i r with
  | true=>false
  | false=>nodN r
theorem nodN_ok:∀ {is:List Nat},nodN is=true→is.Nodup
 | [],_=>List.nodup_nil
 | i::r,h=>by
  simp only [nodN] at h
  split at h
  ·cases h
  ·rename_i hm
   exact List.nodup_cons.2 ⟨(fun hi=>by rw [(memN_eq i r).2 hi] at hm;cases hm),nodN_ok h⟩
section
variable {P:Program} {id:Nat} {ro:Option Nat} {Q:Exit→Act→World→Prop} {a:Act} {w0 w:World} {l:List Oper} {ls L:List HP}
theorem mix_regionK (hs hz:List Nat) (s:Sc) (is:List Nat) (H:St w0 w ls) (hp:pkH is ls=some L) (hn:nodN is=true) (hm:P.follows .mixedOrders=true)
  (hB:(Region.noSelect l.toArray&&schedB .any l.toArray (fun i=>hs.contains i) (fun i=>hz.contains i) s (Array.replicate l.toArray.size false)&&(s.len==l.toArray.size))=true)
  (h:∀ w,St w0 w ls→wpMix P l.toArray (fun u=>∃ r,St w0 u (L++r)) (Q .normal) s a w):(Code.region id l.toArray true).wp P Q a w :=
 mix_region hs hz s _ hm hB ⟨[],by rw [List.append_nil];exact H.drew.pick is (nodN_ok hn) (pkH_at hp)⟩ (h _ H.drew)
end
section
variable {w0 w:World} {l:List HP} {p:Option Addr} {cap:Nat} {e:TypeId}
theorem St.owStr {xs:List (List UInt8)} (H:St w0 w l) (i:Nat) (hi:l[i]?=some (HP.ow rStr e p cap xs)) {b:Nat} (hp:p=some ⟨b,0,none⟩) {j:Int} {x:List UInt8} (hx:idxO xs j=some x):w.cell? ⟨b,0+j.toNat * 1,none⟩=some (.string (txb x)):=by
 obtain ⟨B,cs,hr,hrow⟩:=H.owCell i hi hp (idxO_some hx).2
 have:cs=[.string (txb x)]:=hr
 subst this;exact hrow 0 _ rfl
end
theorem set_self {α:Type}:∀ {l:List α} {i:Nat} {A:α},l[i]?=some A→l.set i A=l
 | [],_,_,_=>rfl
 | _::_,0,_,h=>by cases h;rfl
 | _::l,i+1,A,h=>by
  have:l[i]?=some A:=by simpa using h
  simp [set_self this]
def HP.mo (p:Option Nat) (raw:Array MapEntry) (c:Nat):HP :=
 HP.of (fun _ w S=>match p with
  | none=>raw=#[]
  | some b=>w.heap[b]?=some (.map raw c)∧S b)
  (fun {B w w' S} h hS=>by
   cases p with
   | none=>exact h
   | some b=>exact ⟨by rw [hS _ h.2];exact h.1,h.2⟩)
  (fun h _=>h)
def mit (p:Option Nat) (c:Nat) (seen:Array Nat):Obj:=match p with
 | none=>.mapIter none 0 #[] 0
 | some b=>.mapIter (some b) c seen c
section
variable {κ β:Type} [DecidableEq κ]
def HP.es (R:Rp β) (ok:κ→Prop) (es:List (κ×(List Value×β))) (m:κ→Option β):HP:=HP.pe (fun B=>EsOk R ok B es m) (fun h hl=>h.mono hl)
structure MRaw (ek:κ→Value) (agg:Bool) (es:List (κ×(List Value×β))) (raw:Array MapEntry) (c:Nat):Prop where
 ent:raw.toList.map (fun e=>(e.key,e.val))=ment ek agg es
 nd:(raw.toList.map (·.born)).Nodup
 lt:∀ e∈raw.toList,e.born<c
def prs (es:List (κ×(List Value×β))):List (κ×β):=es.map fun p=>(p.1,p.2.2)
def pv (es:List (κ×(List Value×β))) (vis:List Nat):List (κ×β):=vis.filterMap fun i=>(prs es)[i]?
def bornsOf (raw:Array MapEntry) (vis:List Nat):Array Nat:=(vis.map fun i=>(raw[i]?.map (·.born)).getD 0).toArray
def VisOk (n:Nat) (vis:List Nat):Prop:=vis.Nodup∧∀ i∈vis,i<n
theorem VisOk.nil (n:Nat):VisOk n []:=⟨by simp,by simp⟩
theorem VisOk.snoc {n:Nat} {vis:List Nat} (h:VisOk n vis) {q:Nat} (hq:q<n) (hn:q ∉ vis):VisOk n (vis++[q]):=by
 refine ⟨?_,fun i hi=>?_⟩
 ·rw [List.nodup_append];exact ⟨h.1,by simp,fun x hx y hy=>by simp at hy;subst hy;exact fun e=>hn (e▸hx)⟩
 ·rcases List.mem_append.1 hi with hi | hi
  ·exact h.2 i hi
  ·simp at hi;omega
omit [DecidableEq κ] in
theorem MRaw.len {ek:κ→Value} {agg:Bool} {es:List (κ×(List Value×β))} {raw:Array MapEntry} {c:Nat} (h:MRaw ek agg es raw c):raw.size=es.length:=by
 have:=congrArg List.length h.ent;simpa [ment,mkv] using this
omit [DecidableEq κ] in
theorem MRaw.at {ek:κ→Value} {agg:Bool} {es:List (κ×(List Value×β))} {raw:Array MapEntry} {c:Nat} (h:MRaw ek agg es raw c) {q:Nat} {k:κ} {cs:List Value} {v:β} (hq:es[q]?=some (k,cs,v)):∃ e,raw[q]?=some e∧e.key=ek k∧e.val=mkV agg cs:=by
 have hl:=h.len
 have hlt:=(List.getElem?_eq_some_iff.1 hq).1
 obtain ⟨e,he⟩:∃ e,raw[q]?=some e:=⟨raw[q]'(by omega),Array.getElem?_eq_getElem (by omega)⟩
 have h1:=congrArg (fun l=>l[q]?) h.ent
 have he':raw.toList[q]?=some e:=by simpa using he
 simp only [List.getElem?_map,he',ment,mkv,hq,Option.map_some,Option.some.injEq,Prod.mk.injEq] at h1
 exact ⟨e,he,h1.1,h1.2⟩
theorem bornsOf_push (raw:Array MapEntry) (vis:List Nat) {q:Nat} {e:MapEntry} (he:raw[q]?=some e):(bornsOf raw vis).push e.born=bornsOf raw (vis++[q]):=by
 simp [bornsOf,he]
omit [DecidableEq κ] in
theorem bornsOf_has {ek:κ→Value} {agg:Bool} {es:List (κ×(List Value×β))} {raw:Array MapEntry} {c:Nat} (h:MRaw ek agg es raw c) {vis:List Nat} (hv:VisOk es.length vis) {q:Nat} {e:MapEntry} (he:raw[q]?=some e):(bornsOf raw vis).contains e.born=true↔q∈vis:=by
 have hl:=h.len
 simp only [bornsOf,List.contains_toArray,List.contains_eq_mem,decide_eq_true_eq,List.mem_map]
 constructor
 ·rintro ⟨i,hi,hb⟩
  have hil:=hv.2 i hi
  have e2:raw[i]?=some (raw[i]'(by omega)):=Array.getElem?_eq_getElem (by omega)
  rw [e2] at hb
  simp only [Option.map_some,Option.getD_some] at hb
  have hq:=(Array.getElem?_eq_some_iff.1 he)
  obtain ⟨hql,hqe⟩:=hq
  have:i=q:=by
   rcases Nat.lt_trichotomy i q with hlt | hlt | hlt
   ·exfalso
    have:=List.pairwise_iff_getElem.1 h.nd i q (by simp;omega) (by simp;omega) hlt
    apply this;simp [hb,← hqe]
   ·exact hlt
   ·exfalso
    have:=List.pairwise_iff_getElem.1 h.nd q i (by simp;omega) (by simp;omega) hlt
    apply this;simp [hb,← hqe]
  exact this▸hi
 ·intro hq;exact ⟨q,hq,by rw [he];rfl⟩
end
section
variable {κ β:Type} [DecidableEq κ] {R:Rp β} {ek:κ→Value} {agg:Bool} {ok:κ→Prop} {P:Program} {w0 w:World} {ls:List HP} {m:κ→Option β} {p:Option Nat} {es:List (κ×(List Value×β))} {raw:Array MapEntry} {c:Nat} {ops:Array Oper} {rest:List Oper} {o:Oper} {a:Act} {W:List Oper→Act→World→Prop} {N:Fs} {sl:List (Nat×Value)} {d:Nat} {x:Operand} {T K E:TypeId} {vis:List Nat}
theorem St.moOpen (H:St w0 w ls) (i:Nat) (hi:ls[i]?=some (HP.mm p ek agg R ok m)):∃ raw c es,MRaw ek agg es raw c∧Enum m (prs es)∧St w0 w (HP.es R ok es m::ls.set i (HP.mo p raw c)):=by
 obtain ⟨es,H⟩:=H.mmOpen i hi
 have hil:i<ls.length:=(List.getElem?_eq_some_iff.1 hi).1
 have hi':(ls.set i (HP.mx p ek agg R ok es m))[i]?=some (HP.mx p ek agg R ok es m):=by simp [hil]
 have key:∃ raw c,MRaw ek agg es raw c∧St w0 w ((ls.set i (HP.mx p ek agg R ok es m)).set i (HP.mo p raw c)):=by
  cases p with
  | none =>
   obtain ⟨B,_,h1,h2⟩:=H.mxOk i hi'
   simp only at h2
   subst h2
   exact ⟨#[],0,⟨rfl,by simp,by simp⟩,H.convAt i hi' fun S _=>rfl⟩
  | some b =>
   obtain ⟨B,_,h1,raw,c,h3,h4,h5,h6⟩:=H.mxOk i hi'
   refine ⟨raw,c,⟨h4,h5,h6⟩,H.convAt i hi' fun S h=>⟨h3,h.2.2⟩⟩
 obtain ⟨raw,c,hM,H2⟩:=key
 obtain ⟨B,S,hs,h1,_⟩:=H.get i hi'
 refine ⟨raw,c,es,hM,h1.1.enum,?_⟩
 rw [List.set_set] at H2
 have H3:St w0 w (HP.es R ok es m::ls.set i (HP.mx p ek agg R ok es m)):=H.more fun B hB hp=>by
  obtain ⟨S,hS⟩:=hp i _ hi'
  exact hS.1
 have:=H3.upd (w':=w) (i+1) (A:=HP.mx p ek agg R ok es m) (A':=HP.mo p raw c) (by simpa using hi') (fun {B} S hA hb=>⟨S,by
  cases p with
  | none =>
   obtain ⟨h1,h2⟩:=hA
   simp only at h2
   subst h2
   have:=hM.len
   exact Array.eq_empty_of_size_eq_zero (by simpa using this)
  | some b =>
   obtain ⟨h1,h2,h3⟩:=hA
   refine ⟨?_,h3⟩
   have:=H2.get i (A:=HP.mo (some b) raw c) (by simp [hil])
   obtain ⟨_,_,_,h7,_⟩:=this
   exact h7.1,fun b h=>.inl h,fun b h=>(hb b h).1,fun _ _ _=>rfl⟩) rfl rfl rfl (Nat.le_refl _)
 simpa using this
theorem St.moMx (H:St w0 w ls) (i j:Nat) (hM:MRaw ek agg es raw c) (hi:ls[i]?=some (HP.mo p raw c)) (hj:ls[j]?=some (HP.es R ok es m)):St w0 w (ls.set i (HP.mx p ek agg R ok es m)):=by
 obtain ⟨hv,B,f,hs,h1,h2,h3⟩:=H
 have hil:i<ls.length:=(List.getElem?_eq_some_iff.1 hi).1
 refine ⟨hv,B,f,hs,fun q A hA=>?_,by simpa using h2,by simpa using h3⟩
 rw [List.getElem?_set] at hA
 split at hA
 ·rename_i e
  subst e
  cases hA
  refine ⟨h1 j _ hj,?_⟩
  have:=h1 i _ hi
  cases p with
  | none =>
   simp only at this ⊢
   have hl:=hM.len
   have h0:raw=#[]:=this
   rw [h0] at hl
   exact List.eq_nil_of_length_eq_zero (by simpa using hl.symm)
  | some b=>exact ⟨⟨raw,c,this.1,hM.ent,hM.nd,hM.lt⟩,this.2⟩
 ·exact h1 q A hA
theorem St.moMm (H:St w0 w ls) (i j:Nat) (hM:MRaw ek agg es raw c) (hi:ls[i]?=some (HP.mo p raw c)) (hj:ls[j]?=some (HP.es R ok es m)):St w0 w (ls.set i (HP.mm p ek agg R ok m)):=by
 have hil:i<ls.length:=(List.getElem?_eq_some_iff.1 hi).1
 have h1:=H.moMx i j hM hi hj
 have h2:(ls.set i (HP.mx p ek agg R ok es m))[i]?=some (HP.mx p ek agg R ok es m):=by simp [hil]
 have:=h1.mxShut i h2
 rwa [List.set_set] at this
theorem St.esEl (H:St w0 w ls) (i:Nat) (hi:ls[i]?=some (HP.es R ok es m)) {q:Nat} {k:κ} {cs:List Value} {v:β} (hq:es[q]?=some (k,cs,v)):ok k∧St w0 w (HP.rc R cs v::ls):=by
 obtain ⟨B,S,hs,h,_⟩:=H.get i hi
 have hm:=List.mem_of_getElem? hq
 refine ⟨h.ok _ hm,H.more fun B hB hp=>?_⟩
 obtain ⟨S,hS⟩:=hp i _ hi
 exact hS.rd _ hm
theorem St.esLook (H:St w0 w ls) (i:Nat) (hi:ls[i]?=some (HP.es R ok es m)) (k:κ) {zc:List Value} {z0:β} (hz:∀ B,R.rd B zc z0):∃ cs,esGet es k zc=cs∧St w0 w (HP.rc R cs ((m k).getD z0)::ls):=by
 refine ⟨_,rfl,H.more fun B hB hp=>?_⟩
 obtain ⟨S,hS⟩:=hp i _ hi
 have hg:=hS.get k
 show R.rd B (esGet es k zc) ((m k).getD z0)
 unfold esGet
 cases hx:aget k es with
 | none=>rw [hx] at hg;rw [hg];exact hz B
 | some p=>rw [hx] at hg;rw [hg];exact hS.rd (k,p) (aget_mem' hx)
theorem s_rngM (kw:Walk P ops W) (F:Fr N a sl) (hg:o.guard=none) (hd:o.dst=some d) (hN:Nat.blt d N.n=true) (hT:P.underlying T=some (.map K E)) (ho:o.op=.range T x) (H:St w0 w ls) (i:Nat) (hi:ls[i]?=some (HP.mo p raw c)) (hx:ev sl x=some (.map p))
  (hk:∀ r w' a',St w0 w' (HP.obj r (mit p c (bornsOf raw []))::ls)→Fr N a' ((d,.pointer (some ⟨r,0,none⟩))::sl)→W rest a' w'):W (o::rest) a w:=by
 cases p with
 | none =>
  refine s_val kw F hg hd hN (by rw [ho];rfl) (v:=.pointer (some ⟨w.heap.size,0,none⟩)) (w':=w.alloc (.mapIter none 0 #[] 0)) ?_ fun a' F'=>hk _ _ a' (H.newObj _) F'
  unfold execOp
  simp [ho,F.eval hx,Instr.range,Go.run_underlying hT,newObj,Sem.run]
 | some b =>
  refine s_val kw F hg hd hN (by rw [ho];rfl) (v:=.pointer (some ⟨w.heap.size,0,none⟩)) (w':=w.alloc (.mapIter (some b) c #[] c)) ?_ fun a' F'=>hk _ _ a' (H.newObj _) F'
  have hh:w.heap[b]?=some (.map raw c):=by obtain ⟨_,_,_,h,_⟩:=H.get i hi;exact h.1
  unfold execOp
  have hg:=run_getObj (P:=P) w b raw c hh
  simp [ho,F.eval hx,Instr.range,Go.run_underlying hT,hg,newObj,Sem.run]
theorem St.moObj {b:Nat} (H:St w0 w ls) (i:Nat) (hi:ls[i]?=some (HP.mo (some b) raw c)):St w0 w (ls.set i (HP.obj b (.map raw c))):=H.convAt i hi fun S h=>h
theorem St.objMo {b:Nat} (H:St w0 w ls) (i:Nat) (hi:ls[i]?=some (HP.obj b (.map raw c))):St w0 w (ls.set i (HP.mo (some b) raw c)):=H.convAt i hi fun S h=>h
omit [DecidableEq κ] in
theorem s_nxtM (kw:Walk P ops W) (F:Fr N a sl) (hg:o.guard=none) (hd:o.dst=some d) (hN:Nat.blt d N.n=true) (ho:o.op=.next x false) {r:Nat} (hx:ev sl x=some (.pointer (some ⟨r,0,none⟩))) (hM:MRaw ek agg es raw c) (hv:VisOk es.length vis) (H:St w0 w ls) (i j:Nat) (hi:ls[i]?=some (HP.mo p raw c)) (hj:ls[j]?=some (HP.obj r (mit p c (bornsOf raw vis)))) (hij:Nat.beq i j=false)
  (h0:(∀ q,q<es.length→q∈vis)→∀ w' a',St w0 w' ls→Fr N a' ((d,.tuple [.bool false].toArray)::sl)→W rest a' w')
  (h1:∀ q k cs v,es[q]?=some (k,cs,v)→q ∉ vis→∀ w' a',St w0 w' (ls.set j (HP.obj r (mit p c (bornsOf raw (vis++[q])))))→Fr N a' ((d,.tuple [.bool true,ek k,mkV agg cs].toArray)::sl)→W rest a' w'):W (o::rest) a w:=by
 have hl:=hM.len
 have hne:i≠j:=Nat.ne_of_beq_eq_false hij
 have hil:i<ls.length:=(List.getElem?_eq_some_iff.1 hi).1
 cases p with
 | none =>
  have h00:raw=#[]:=by obtain ⟨_,_,_,h,_⟩:=H.get i hi;exact h
  have hz:es.length=0:=by rw [← hl,h00];rfl
  refine s_val kw F hg hd hN (by rw [ho];rfl) (v:=.tuple [.bool false].toArray) (w':=w) ?_ fun a' F'=>h0 (fun q hq=>by omega) _ a' H F'
  have hr:=H.objAt j hj
  have g1:(getObj r).run P w=.ok (.mapIter none 0 #[] 0) w:=by unfold getObj Sem.run;rw [hr];rfl
  unfold execOp
  simp only [ho,F.eval hx]
  unfold Instr.next
  simp only
  rw [Sem.run_bind,Sem.run_bind,g1]
  rfl
 | some b =>
  have H2:=H.moObj i hi
  have hi2:(ls.set i (HP.obj b (.map raw c)))[i]?=some (HP.obj b (.map raw c)):=by simp [hil]
  have hj2:(ls.set i (HP.obj b (.map raw c)))[j]?=some (HP.obj r (.mapIter (some b) c (bornsOf raw vis) c)):=by rw [List.getElem?_set_ne hne];exact hj
  refine s_next kw F hg hd hN ho hx H2 i j hi2 hj2 hM.lt (fun hall w' a' H' F'=>?_) (fun e he hnot w' a' H' F'=>?_)
  ·have H3:=H'.objMo i hi2
   have e3:(ls.set i (HP.obj b (.map raw c))).set i (HP.mo (some b) raw c)=ls:=by
    rw [List.set_set];exact set_self hi
   rw [e3] at H3
   refine h0 (fun q hq=>?_) w' a' H3 F'
   have e2:raw[q]?=some (raw[q]'(by omega)):=Array.getElem?_eq_getElem (by omega)
   exact (bornsOf_has hM hv e2).1 (hall _ (by simp))
  ·obtain ⟨q,hq,rfl⟩:=List.getElem_of_mem he
   have hql:q<es.length:=by rw [← hl];simpa using hq
   obtain ⟨k,cs,v,hes⟩:∃ k cs v,es[q]?=some (k,cs,v):=⟨_,_,_,List.getElem?_eq_getElem hql⟩
   obtain ⟨e',he',hk',hv'⟩:=hM.at hes
   have hee:raw.toList[q]=e':=by
    have:raw[q]?=some raw.toList[q]:=by simp [Array.getElem?_eq_getElem (show q<raw.size by omega)]
    rw [this] at he';exact Option.some.inj he'
   rw [hee] at hnot H' F'
   have hnv:q ∉ vis:=fun hin=>by rw [(bornsOf_has hM hv he').2 hin] at hnot;cases hnot
   rw [hk',hv'] at F'
   rw [bornsOf_push raw vis he'] at H'
   have H3:=H'.objMo i (by rw [List.getElem?_set_ne (Ne.symm hne)];exact hi2)
   have e3:((ls.set i (HP.obj b (.map raw c))).set j (HP.obj r (.mapIter (some b) c (bornsOf raw (vis++[q])) c))).set i (HP.mo (some b) raw c)=ls.set j (HP.obj r (mit (some b) c (bornsOf raw (vis++[q])))):=by
    have e4:=List.set_comm (l:=ls) (HP.obj b (.map raw c)) (HP.obj r (.mapIter (some b) c (bornsOf raw (vis++[q])) c)) hne
    rw [e4,List.set_set]
    exact set_self (by rw [List.getElem?_set_ne (Ne.symm hne)];exact hi)
   rw [e3] at H3
   exact h1 q k cs v hes hnv w' a' H3 F'
omit [DecidableEq κ] in
theorem y_entM (F:Fr N a sl) (ho:o.op=.entry x) {r:Nat} (hx:ev sl x=some (.pointer (some ⟨r,0,none⟩))) (hM:MRaw ek agg es raw c) {q:Nat} {k:κ} {cs:List Value} {v:β} (hq:es[q]?=some (k,cs,v)) (H:St w0 w ls) (i j:Nat) (hi:ls[i]?=some (HP.mo p raw c)) (hj:ls[j]?=some (HP.obj r (mit p c (bornsOf raw (vis++[q]))))) (hij:Nat.beq i j=false) :
  (execOp a.eval o).run P w=.ok (.value (.tuple [ek k,mkV agg cs].toArray)) w:=by
 have hne:i≠j:=Nat.ne_of_beq_eq_false hij
 have hil:i<ls.length:=(List.getElem?_eq_some_iff.1 hi).1
 obtain ⟨e,he,hk',hv'⟩:=hM.at hq
 have hem:e∈raw.toList:=by simpa using Array.mem_of_getElem? he
 cases p with
 | none =>
  have h00:raw=#[]:=by obtain ⟨_,_,_,h,_⟩:=H.get i hi;exact h
  rw [h00] at hem;simp at hem
 | some b =>
  have H2:=H.moObj i hi
  have hi2:(ls.set i (HP.obj b (.map raw c)))[i]?=some (HP.obj b (.map raw c)):=by simp [hil]
  have hj2:(ls.set i (HP.obj b (.map raw c)))[j]?=some (HP.obj r (.mapIter (some b) c ((bornsOf raw vis).push e.born) c)):=by rw [List.getElem?_set_ne hne,bornsOf_push raw vis he];exact hj
  have:=y_entry (P:=P) F ho hx H2 i j hi2 hj2 hem hM.nd
  rwa [hk',hv'] at this
end
section
variable {κ β σ ρ τ:Type} [DecidableEq κ] {m:κ→Option β} {es:List (κ×(List Value×β))} {f:σ→κ×β→Option (σ ⊕ ρ)} {s0 s:σ} {K:σ ⊕ ρ→Option τ} {R:τ} {vis:List Nat}
structure Rng (es:List (κ×(List Value×β))) (f:σ→κ×β→Option (σ ⊕ ρ)) (s0:σ) (vis:List Nat) (s:σ):Prop where
 ok:VisOk es.length vis
 st:foldO f s0 (pv es vis)=some (.inl s)
omit [DecidableEq κ] in
theorem Rng.start (es:List (κ×(List Value×β))) (f:σ→κ×β→Option (σ ⊕ ρ)) (s0:σ):Rng es f s0 [] s0:=⟨VisOk.nil _,rfl⟩
theorem foldO_app {α:Type} (f:σ→α→Option (σ ⊕ ρ)):∀ (xs ys:List α) (s0 s:σ),foldO f s0 xs=some (.inl s)→foldO f s0 (xs++ys)=foldO f s ys
 | [],ys,s0,s,h=>by cases h;rfl
 | x::xs,ys,s0,s,h=>by
  simp only [foldO] at h
  show (f s0 x).bind _=_
  obtain ⟨o,ho,h⟩:=ob h
  rw [ho]
  cases o with
  | inl s'=>exact foldO_app f xs ys s' s h
  | inr r=>cases h
omit [DecidableEq κ] in
theorem pv_perm (es:List (κ×(List Value×β))) {l:List Nat} (h:l.Perm (List.range es.length)):(pv es l).Perm (prs es):=by
 have h1:(pv es l).Perm (pv es (List.range es.length)):=List.Perm.filterMap _ h
 have h2:pv es (List.range es.length)=prs es:=by
  have hl:es.length=(prs es).length:=by simp [prs]
  unfold pv
  rw [hl]
  generalize prs es=l
  induction l with
  | nil=>rfl
  | cons a r ih =>
   rw [List.length_cons,List.range_succ_eq_map]
   simp only [List.filterMap_cons,List.getElem?_cons_zero,List.filterMap_map]
   congr 1
 rw [h2] at h1;exact h1
theorem aget_perm {l l':List (κ×β)} (h:l.Perm l') (hn:(l.map (·.1)).Nodup) (k:κ):aget k l=aget k l':=by
 have hn':(l'.map (·.1)).Nodup:=(h.map _).nodup_iff.1 hn
 cases hx:aget k l with
 | some v=>exact (aget_of_mem hn' (h.mem_iff.1 (aget_mem' hx))).symm
 | none =>
  cases hy:aget k l' with
  | none=>rfl
  | some v=>rw [aget_of_mem hn (h.mem_iff.2 (aget_mem' hy))] at hx;cases hx
theorem Enum.ofPerm {l l':List (κ×β)} (h:Enum m l) (hp:l'.Perm l):Enum m l':=by
 have hn:(l'.map (·.1)).Nodup:=(hp.map _).nodup_iff.2 h.1
 exact ⟨hn,fun k=>by rw [h.2 k];exact (aget_perm hp hn k).symm⟩
theorem sub_range:∀ {vis:List Nat} {n:Nat},VisOk n vis→∃ r,(vis++r).Perm (List.range n)
 | vis,n,h=>by
  refine ⟨(List.range n).filter (fun i=>!decide (i∈vis)),?_⟩
  have hnd:(vis++(List.range n).filter (fun i=>!decide (i∈vis))).Nodup:=by
   rw [List.nodup_append]
   exact ⟨h.1,List.nodup_range.filter _,fun a ha b hb e=>by subst e;simp at hb;exact hb.2 ha⟩
  refine (List.perm_ext_iff_of_nodup hnd List.nodup_range).2 fun a=>?_
  simp only [List.mem_append,List.mem_filter,List.mem_range,Bool.not_eq_true',decide_eq_false_iff_not]
  constructor
  ·rintro (ha | ha)
   ·exact h.2 a ha
   ·exact ha.1
  ·intro ha
   by_cases hv:a∈vis
   ·exact .inl hv
   ·exact .inr ⟨ha,hv⟩
theorem Rng.done (hE:Enum m (prs es)) (h:Rng es f s0 vis s) (hall:∀ q,q<es.length→q∈vis) (hm:detM m (fun l=>(foldO f s0 l).bind K)=some R):K (.inl s)=some R:=by
 have hp:vis.Perm (List.range es.length):=by
  refine (List.perm_ext_iff_of_nodup h.ok.1 List.nodup_range).2 fun a=>?_
  rw [List.mem_range];exact ⟨h.ok.2 a,hall a⟩
 have:=(detM_some hm).2 _ (hE.ofPerm (pv_perm es hp))
 rw [h.st] at this;exact this
theorem Rng.step (hE:Enum m (prs es)) (h:Rng es f s0 vis s) {q:Nat} {k:κ} {cs:List Value} {v:β} (hq:es[q]?=some (k,cs,v)) (hn:q ∉ vis) (hm:detM m (fun l=>(foldO f s0 l).bind K)=some R) :
  ∃ o,f s (k,v)=some o∧(∀ s',o=.inl s'→Rng es f s0 (vis++[q]) s')∧(∀ r,o=.inr r→K (.inr r)=some R):=by
 have hql:=(List.getElem?_eq_some_iff.1 hq).1
 have hv2:=h.ok.snoc hql hn
 obtain ⟨r,hr⟩:=sub_range hv2
 have hk:=(detM_some hm).2 _ (hE.ofPerm (pv_perm es hr))
 have hpq:(prs es)[q]?=some (k,v):=by simp [prs,hq]
 have e1:pv es (vis++[q]++r)=pv es vis++(k,v)::pv es r:=by simp [pv,hpq]
 rw [e1,foldO_app f _ _ _ _ h.st] at hk
 simp only [foldO] at hk
 obtain ⟨o',ho',hk⟩:=ob hk
 obtain ⟨o,ho,hk2⟩:=ob ho'
 refine ⟨o,ho,fun s' e=>⟨hv2,?_⟩,fun r' e=>?_⟩
 ·have e2:pv es (vis++[q])=pv es vis++[(k,v)]:=by simp [pv,hpq]
  rw [e2,foldO_app f _ _ _ _ h.st]
  simp only [foldO,ho,Option.bind_some,e]
 ·subst e
  cases hk2
  exact hk
end
section
variable {P:Program} {κ β σ ρ:Type} [DecidableEq κ] {es:List (κ×(List Value×β))} {f:σ→κ×β→Option (σ ⊕ ρ)} {s0:σ} {Q:Exit→Act→World→Prop} {a:Act} {w:World} {ro:Option Nat}
theorem vis_le {n:Nat} {vis:List Nat} (h:VisOk n vis):vis.length≤n:=by
 obtain ⟨r,hr⟩:=sub_range h
 have:=hr.length_eq
 simp at this;omega
theorem x_loopM {τ:Type} {m:κ→Option β} {K:σ ⊕ ρ→Option τ} {R:τ} {c:Code} (es:List (κ×(List Value×β))) (hm:detM m (fun l=>(foldO f s0 l).bind K)=some R) (J:σ→List Nat→Act→World→Prop) (h0:J s0 [] a w)
  (round:∀ s vis a w,Rng es f s0 vis s→J s vis a w→c.wp P (Exit.then (fun a' w'=>∃ s' q,Rng es f s0 (vis++[q]) s'∧J s' (vis++[q]) a' w') Q) a w):(Code.loop c).wp P Q a w:=by
 refine x_loop (fun (g:σ×List Nat) a w=>Rng es f s0 g.2 g.1∧J g.1 g.2 a w) (fun g=>es.length - g.2.length) (s0,[]) ⟨Rng.start es f s0,h0⟩ fun g a w hI=>?_
 refine wp_mono (round g.1 g.2 a w hI.1 hI.2) fun e a' w' h=>?_
 cases e with
 | normal =>
  obtain ⟨s',q,hr,hj⟩:=h
  refine ⟨(s',g.2++[q]),⟨hr,hj⟩,?_⟩
  have h1:=vis_le hr.ok
  simp only [List.length_append,List.length_cons,List.length_nil] at h1 ⊢
  omega
 | _=>exact h
theorem elimS {σ τ:Type} {f:σ→Option τ} {a r:τ} (h:Sum.elim f some (Sum.inr a)=some r):a=r:=Option.some.inj h
end
end Go.Tri
namespace Go.Tri
open Go.RowKit Go.Sort Go.Proofs
theorem cmp_self:∀ a:List UInt8,Lib.compareBytes a a=0
 | []=>rfl
 | a::as'=>by simp [Lib.compareBytes,cmp_self as']
theorem cmp_zero:∀ a b:List UInt8,Lib.compareBytes a b=0→a=b
 | [],[],_=>rfl
 | [],_::_,h=>by simp [Lib.compareBytes] at h
 | _::_,[],h=>by simp [Lib.compareBytes] at h
 | a::as',b::bs,h=>by
  simp only [Lib.compareBytes] at h
  split at h
  ·simp at h
  ·split at h
   ·simp at h
   ·rename_i h1 h2
    have:a=b:=UInt8.le_antisymm (UInt8.not_lt.1 h2) (UInt8.not_lt.1 h1)
    rw [this,cmp_zero as' bs h]
theorem cmp_swap:∀ a b:List UInt8,Lib.compareBytes b a=- Lib.compareBytes a b
 | [],[]=>rfl
 | [],_::_=>rfl
 | _::_,[]=>rfl
 | a::as',b::bs=>by
  simp only [Lib.compareBytes]
  by_cases h1:a<b
  ·have h2:¬ b<a:=UInt8.not_lt.2 (UInt8.le_of_lt h1)
   simp [h1,h2]
  ·by_cases h2:b<a
   ·simp [h1,h2]
   ·simp [h1,h2,cmp_swap as' bs]
theorem cmp_trans:∀ a b c:List UInt8,Lib.compareBytes a b<0→Lib.compareBytes b c<0→Lib.compareBytes a c<0
 | [],[],c,h,_=>by simp [Lib.compareBytes] at h
 | [],_::_,[],_,h=>by simp [Lib.compareBytes] at h
 | [],_::_,_::_,_,_=>by simp [Lib.compareBytes]
 | _::_,[],_,h,_=>by simp [Lib.compareBytes] at h
 | _::_,_::_,[],_,h=>by simp [Lib.compareBytes] at h
 | a::as',b::bs,c::cs,h1,h2=>by
  simp only [Lib.compareBytes] at *
  by_cases ab:a<b
  ·by_cases bc:b<c
   ·simp [UInt8.lt_trans ab bc]
   ·by_cases cb:c<b
    ·simp [bc,cb] at h2
    ·have:b=c:=UInt8.le_antisymm (UInt8.not_lt.1 cb) (UInt8.not_lt.1 bc)
     subst this;simp [ab]
  ·by_cases ba:b<a
   ·simp [ab,ba] at h1
   ·have:a=b:=UInt8.le_antisymm (UInt8.not_lt.1 ba) (UInt8.not_lt.1 ab)
    subst this
    simp only [UInt8.lt_irrefl,if_false] at h1
    by_cases bc:a<c
    ·simp [bc]
    ·by_cases cb:c<a
     ·simp [bc,cb] at h2
     ·simp only [bc,cb,if_false] at h2 ⊢
      exact cmp_trans as' bs cs h1 h2
def ltK (a b:List UInt8):Prop:=Lib.compareBytes a b<0
abbrev H32:={l:List UInt8 // l.length=32}
instance:Inhabited H32:=⟨⟨List.replicate 32 0,by simp⟩⟩
section
variable {w0 w:World} {ls:List HP} {e:TypeId} {b cap:Nat} {xs:List (List UInt8)}
end
theorem y_ext {P:Program} {N:Fs} {a:Act} {l:List (Nat×Value)} {o:Oper} {w:World} {v:Value} (F:Fr N a l) {f:FuncId} {xs:List Operand} {ts:Array TypeId} (ho:o.op=.call { callee:=.value (.func f),args:=xs.toArray,argTypes:=ts }) {vs:List Value} (hv:evs l xs=some vs)
  (he:(callFunc f vs.toArray).run P w=.ok (.value v) w):(execOp a.eval o).run P w=.ok (.value v) w:=by
 have:=F.evals hv
 unfold execOp
 simp [ho,resolve,Act.eval,Deferred.ofValue,invoke,he,this]
theorem aget_isSome {κ β:Type} [DecidableEq κ] (k:κ):∀ l:List (κ×β),(aget k l).isSome=true↔k∈l.map (·.1)
 | []=>by simp [aget]
 | (k',v)::l=>by
  simp only [aget]
  split
  ·rename_i h;simp [h]
  ·rename_i h
   rw [aget_isSome k l];simp [Ne.symm h]
theorem St.owCase {α:Type} {R:Rp α} {w0 w:World} {ls:List HP} {e:TypeId} {p:Option Addr} {cap:Nat} {xs:List α} (H:St w0 w ls) (i:Nat) (hi:ls[i]?=some (HP.ow R e p cap xs)):(p=none∧cap=0∧xs=[])∨∃ b,p=some ⟨b,0,none⟩:=by
 obtain ⟨B,H⟩:=H.out
 obtain ⟨S0,css,c0,⟨hl0,⟨h,h'⟩ | ⟨g,cap',cur,h,hb0,hg,hnc,hm,hsz,ht⟩⟩,hS⟩:=H.at hi
 ·injection h with h1 h2 h3
  exact .inl ⟨h1,h3,List.eq_nil_of_length_eq_zero h2⟩
 ·injection h with h1
  exact .inr ⟨g,h1⟩
theorem AggT.run_szOf {P:Program} {t:TypeId} {n:Nat} {z:List Value} (h:AggT P t n z) (w:World):(Go.sizeOf t).run P w=.ok n w:=by
 obtain ⟨i,hi,he⟩:=Option.map_eq_some_iff.1 h.info
 injection he with h1 _
 subst h1
 simp [Go.sizeOf,typeInfo,Sem.run,hi]
def leK (a b:List UInt8):Bool:=decide (Lib.compareBytes a b≤0)
theorem leK_trans (a b c:List UInt8) (h1:leK a b=true) (h2:leK b c=true):leK a c=true:=by
 have h1:Lib.compareBytes a b≤0:=of_decide_eq_true h1
 have h2:Lib.compareBytes b c≤0:=of_decide_eq_true h2
 refine decide_eq_true ?_
 by_cases e1:Lib.compareBytes a b=0
 ·rw [cmp_zero _ _ e1];exact h2
 ·by_cases e2:Lib.compareBytes b c=0
  ·rw [← cmp_zero _ _ e2];exact h1
  ·have:=cmp_trans a b c (by omega) (by omega)
   omega
theorem leK_total (a b:List UInt8):(leK a b || leK b a)=true:=by
 have:=cmp_swap a b
 unfold leK
 by_cases h:Lib.compareBytes a b≤0
 ·simp [h]
 ·have:Lib.compareBytes b a≤0:=by omega
  simp [this]
theorem enum_of {β:Type} {m:List UInt8→Option β}:∀ (ks:List (List UInt8)) (m:List UInt8→Option β),ks.Nodup→(∀ k,k∈ks↔(m k).isSome=true)→∃ kv,Enum m kv∧kv.map (·.1)=ks
 | ks,m,hn,hk=>by
  have key:∀ l:List (List UInt8),(∀ k∈l,(m k).isSome=true)→∃ kv:List (List UInt8×β),kv.map (·.1)=l∧∀ k v,(k,v)∈kv→m k=some v:=by
   intro l
   induction l with
   | nil=>intro _;exact ⟨[],rfl,fun k v h=>by cases h⟩
   | cons a l ih =>
    intro h
    obtain ⟨kv,h1,h2⟩:=ih fun k hk=>h k (List.mem_cons_of_mem _ hk)
    obtain ⟨v,hv⟩:=Option.isSome_iff_exists.1 (h a (by simp))
    refine ⟨(a,v)::kv,by simp [h1],fun k v' hm=>?_⟩
    rcases List.mem_cons.1 hm with e | e
    ·cases e;exact hv
    ·exact h2 k v' e
  obtain ⟨kv,h1,h2⟩:=key ks fun k h=>(hk k).1 h
  refine ⟨kv,⟨by rw [h1];exact hn,fun k=>?_⟩,h1⟩
  by_cases hi:k∈ks
  ·have h3:=(aget_isSome k kv).2 (by rw [h1];exact hi)
   obtain ⟨v,hv⟩:=Option.isSome_iff_exists.1 h3
   rw [hv];exact h2 k v (aget_mem' hv)
  ·have h3:(aget k kv)=none:=by
    rcases hx:aget k kv with _ | v
    ·rfl
    ·exact absurd (by rw [← h1];exact (aget_isSome k kv).1 (by rw [hx];rfl)) hi
   have h4:m k=none:=by
    rcases hx:m k with _ | v
    ·rfl
    ·exact absurd ((hk k).2 (by rw [hx];rfl)) hi
   rw [h3,h4]
end Go.Tri
