/- Texts Cv, Str, Op, Seal, Srt. -/
import Derived.Test.YthcjjjnphgopjaaGreatDoorQ3
import Derived.ArgAppend
import Derived.Lib.SplitLaws
import Derived.Lib.Join
import Derived.Below
import Derived.Test.YthcjjjnphgopjaaGreatDoorQ0
import Derived.Shelf.SlicesE.DeleteFunc
import Derived.Sort.EncStr
import Derived.Shelf.SlSortCmp.NoneTotal
set_option linter.unusedSimpArgs false
set_option linter.unusedVariables false
namespace Go.Tri
open Go.RowKit
theorem setCells_chg (b:Nat):∀ (vs:List Value) (o:Nat) (w:World),Chg b w (w.setCells b o vs)
 | [],o,w=>⟨rfl,rfl,rfl,rfl,fun _ _=>rfl⟩
 | v::r,o,w=>by
  have ih:=setCells_chg b r (o+1) (w.setCell ⟨b,o,none⟩ v)
  have h1:(w.setCell ⟨b,o,none⟩ v).heap.size=w.heap.size:=by simp [World.setCell]
  refine ⟨ih.os,ih.tape,ih.output,ih.size.trans h1,fun k hk=>(ih.oth k hk).trans ?_⟩
  simp [World.setCell,Array.getElem?_modify,Ne.symm hk]
theorem setCells_at (b:Nat) {e:TypeId} {fr:Nat×Nat}:∀ (vs:List Value) (o:Nat) (w:World) (cur:Array Value),w.heap[b]?=some (.cells cur e fr)→o+vs.length≤cur.size →
  ∃ cur':Array Value,(w.setCells b o vs).heap[b]?=some (.cells cur' e fr)∧cur'.size=cur.size∧cur'.toList=cur.toList.take o++vs++cur.toList.drop (o+vs.length)
 | [],o,w,cur,h,_=>⟨cur,h,rfl,by simp⟩
 | v::r,o,w,cur,h,hl=>by
  simp only [List.length_cons] at hl
  have h1:(w.setCell ⟨b,o,none⟩ v).heap[b]?=some (.cells (cur.setIfInBounds o v) e fr):=by
   simp [World.setCell,Array.getElem?_modify,h]
  obtain ⟨cur',h2,h3,h4⟩:=setCells_at b r (o+1) _ _ h1 (by simp;omega)
  refine ⟨cur',h2,by simpa using h3,?_⟩
  rw [h4]
  have hlt:o<cur.toList.length:=by simp;omega
  simp only [Array.toList_setIfInBounds,List.length_cons]
  rw [List.take_set,List.take_add_one,List.getElem?_eq_getElem hlt,List.drop_set_of_lt (by omega),show o+1+r.length=o+(r.length+1) by omega]
  simp only [Option.toList_some]
  rw [List.set_append_right _ _ (by simp;omega),List.length_take,Nat.min_eq_left (by omega),Nat.sub_self,List.set_cons_zero]
  simp
def HP.cv (e:TypeId) (b c:Nat) (xs:List UInt8):HP :=
 HP.of (fun _ w S=>(∃ cur:Array Value,w.heap[b]?=some (.cells cur e (cur.size,cur.size+1))∧cur.size=c∧xs.length≤c∧cur.toList.take xs.length=bcells xs)∧S b)
  (fun {_ w w' S} ⟨⟨cur,h1,h2⟩,hS⟩ hw=>⟨⟨cur,by rw [hw b hS];exact h1,h2⟩,hS⟩) (fun h _=>h)
section
variable {P:Program} {w0 w:World} {ls:List HP} {e:TypeId} {b c:Nat} {xs ys:List UInt8}
theorem cv_row {B:Base} {S:Nat→Prop} (h:(HP.cv e b c xs).pr B w S):Row w b 0 (bcells xs):=by
 obtain ⟨⟨cur,h1,h2,h3,h4⟩,_⟩:=h
 intro j v hj
 have hj':j<xs.length:=by have:=(List.getElem?_eq_some_iff.1 hj).1;rwa [bcells_length] at this
 rw [← h4,List.getElem?_take_of_lt hj'] at hj
 unfold World.cell?
 simp only [h1]
 simpa using hj
theorem St.cvFrz (H:St w0 w ls) (i:Nat) (hi:ls[i]?=some (HP.cv e b c xs)):St w0 w (HP.sl rByte (some ⟨b,0,none⟩) c xs::ls.eraseIdx i) :=
 (H.mv i hi).freezeH fun {B B'} S h hle hw=>⟨_,rdl_bytes B' xs,fun w' hw'=>by
  have h':=HP.loc _ h (w':=w') (fun b hb=>hw w' hw' b hb)
  rw [flat_bytes];exact .inr (.inr ⟨b,0,c,rfl,by obtain ⟨⟨cur,_,_,h3,_⟩,_⟩:=h;exact h3,cv_row h'⟩)⟩
variable {ops:Array Oper} {rest:List Oper} {o:Oper} {a:Act} {W:List Oper→Act→World→Prop} {N:Fs} {sl:List (Nat×Value)} {d:Nat} {x y:Operand} {t t':TypeId}
theorem s_cvT (k:Walk P ops W) (F:Fr N a sl) (hg:o.guard=none) (hd:o.dst=some d) (hN:Nat.blt d N.n=true) (hs:P.underlying t=some .string) (hD:P.underlying t'=some (.slice e)) (he:P.underlying e=some (.int .u8)) (ho:o.op=.convert t t' x) (hx:ev sl x=some (.string (txb xs))) (H:St w0 w ls)
  (hk:∀ b c w' a',St w0 w' (HP.cv e b c xs::ls)→Fr N a' ((d,.slice (some ⟨b,0,none⟩) xs.length c)::sl)→W rest a' w'):W (o::rest) a w:=by
 have hr:=run_bytes_of_string (P:=P) w t t' e (txb xs) hs hD he
 have hge:=grownCap_ge w (txb xs).size 0 e
 generalize hc:grownCap w (txb xs).size 0 e=c at hr hge
 rw [txb_size] at hge
 have hsz:(bytesRow (txb xs) c).size=c:=by simp [bytesRow,txb,ByteArray.size];omega
 have hlist:(bytesRow (txb xs) c).toList.take xs.length=bcells xs:=by
  have h1:(bytesRow (txb xs) c).toList=bcells xs++List.replicate (c - (txb xs).size) (Value.int .u8 0):=by simp [bytesRow,txb,bcells]
  rw [h1,List.take_left' (bcells_length _)]
 have H1:=H.drew.add (.cells (bytesRow (txb xs) c) e ((bytesRow (txb xs) c).size,(bytesRow (txb xs) c).size+1)) (HP.cv e w.heap.size c xs) fun S hS=>⟨⟨_,heapNew w.drew _,hsz,hge,hlist⟩,hS⟩
 refine s_val (v:=.slice (some ⟨w.heap.size,0,none⟩) (txb xs).size c) (w':=w.drew.alloc (.cells (bytesRow (txb xs) c) e ((bytesRow (txb xs) c).size,(bytesRow (txb xs) c).size+1))) k F hg hd hN (by rw [ho];rfl) ?_ fun a' F'=>hk w.heap.size c _ a' H1 (by rw [txb_size] at F';exact F')
 unfold execOp
 simp only [ho,F.eval hx]
 rw [Sem.run_bind,hr]
 rfl
theorem s_appCv (k:Walk P ops W) (F:Fr N a sl) (hg:o.guard=none) (hd:o.dst=some d) (hN:Nat.blt d N.n=true) (ho:o.op=.call { callee:=.builtin .append,args:=#[x,y],argTypes:=#[t,t] }) {q:Option Addr} {cc:Nat} (hx:ev sl x=some (.slice (some ⟨b,0,none⟩) xs.length c)) (hy:ev sl y=some (.slice q ys.length cc))
  {bytes:Nat} {z:Value} (hE:ElemT P t e 1 bytes z) (hb:Nat.ble (Cap.cap UInt8 * bytes) 140737488355328=true) {zs:List UInt8} (hz:appO xs ys=some zs) (hpos:Nat.blt 0 ys.length=true) (H:St w0 w ls) (i j:Nat) (hi:ls[i]?=some (HP.cv e b c xs)) (hj:ls[j]?=some (HP.sl rByte q cc ys))
  (hk:∀ p' c' w' a',St w0 w' (HP.sl rByte p' c' zs::ls.eraseIdx i)→Fr N a' ((d,.slice p' zs.length c')::sl)→W rest a' w'):W (o::rest) a w:=by
 obtain ⟨hr,rfl⟩:=appO_some hz
 have hcl:=Cap.lt (α:=UInt8)
 have hbb:=Nat.le_of_ble_eq_true hb
 have h0:0<ys.length:=by simpa using hpos
 have hmul:(xs.length+ys.length) * bytes≤140737488355328:=Nat.le_trans (Nat.mul_le_mul_right _ hr) hbb
 obtain ⟨ti,hj1,hz0,hs1,hs2⟩:=info_parts hE.hi
 obtain ⟨B,f,hs,h1,h2,h3⟩:=H.own
 have hil:i<ls.length:=(List.getElem?_eq_some_iff.1 hi).1
 have hcv:=h1 i _ hi
 have hrow:=cv_row hcv
 obtain ⟨⟨cur,c1,c2,c3,c4⟩,c5⟩:=hcv
 obtain ⟨css,d1,d2⟩:=h1 j _ hj
 have hsl:=d2 w hs
 rw [rdl_bytes_flat d1] at hsl
 obtain ⟨b2,off,hq,hrow2⟩:=hsl.rowAt (c:=0) rfl h0
 subst hq
 have holds:∀ (j:Nat) u,(bcells xs)[j]?=some u→w.cell? ((⟨b,0,none⟩:Addr).add j)=some u:=fun j u hj=>by rw [add_none];exact hrow j u hj
 have hnews:∀ (j:Nat) u,(bcells ys)[j]?=some u→w.cell? ((⟨b2,off,none⟩:Addr).add j)=some u:=fun j u hj=>by rw [add_none];exact hrow2 j u hj
 have hone:∀ u∈bcells ys,u.oneCell'=true:=bcells_flat ys
 have hlx:(bcells xs).length=xs.length * 1:=by rw [bcells_length,Nat.mul_one]
 have hly:(bcells ys).length=ys.length * 1:=by rw [bcells_length,Nat.mul_one]
 by_cases hroom:xs.length+ys.length≤c
 ·have hcell:∀ j,j<(bcells ys).length→(w.cell? ⟨b,0+xs.length * ti.size+j,none⟩).isSome=true:=fun j hj=>by
   rw [bcells_length] at hj
   unfold World.cell?
   simp only [c1,hs1,Nat.mul_one,Nat.zero_add]
   rw [Array.getElem?_eq_getElem (by omega)];rfl
  have hfz:∀ j,j<(bcells ys).length→w.frozen? ⟨b,0+xs.length * ti.size+j,none⟩=false:=fun j hj=>by
   rw [bcells_length] at hj
   unfold World.frozen?
   simp only [c1,hs1,Nat.mul_one,Nat.zero_add]
   simp;omega
  have hrun:=run_append_room_cells (P:=P) w t o.type e ti hE.ht hj1 b 0 xs.length c ⟨b2,off,none⟩ ys.length cc (bcells ys) (by rw [hs1];exact hly) hnews hone hroom hcell hfz
  rw [hs1,Nat.mul_one,Nat.zero_add] at hrun
  obtain ⟨cur',e1,e2,e3⟩:=setCells_at b (bcells ys) xs.length w cur c1 (by rw [bcells_length];omega)
  have hbc:bcells (xs++ys)=bcells xs++bcells ys:=by simp [bcells]
  have h5:cur'.toList.take (xs++ys).length=bcells (xs++ys):=by
   rw [e3,c4,hbc,List.take_left' (by simp [bcells_length])]
  have H1:=H.chg i hi (A':=HP.cv e b c (xs++ys)) (g:=b) (fun S hA=>hA.2) (setCells_chg b (bcells ys) xs.length w) fun S hA=>⟨⟨cur',by rw [e2];exact e1,by omega,by simpa using hroom,h5⟩,hA.2⟩
  have H2:=H1.cvFrz i (e:=e) (b:=b) (c:=c) (xs:=xs++ys) (by simp [List.getElem?_set,hil])
  rw [List.eraseIdx_set_eq] at H2
  refine s_val (v:=.slice (some ⟨b,0,none⟩) (xs.length+ys.length) c) (w':=_) k F hg hd hN (by rw [ho];rfl) ?_ fun a' F'=>hk (some ⟨b,0,none⟩) c _ a' H2 (by rw [List.length_append];exact F')
  unfold execOp
  simp [ho,resolve,invoke,builtin,F.eval hx,F.eval hy,hrun]
 ·have hrun:=run_append_grow (P:=P) w t o.type e ti z hE.ht hj1 hz0 ⟨b,0,none⟩ xs.length c (bcells xs) (by rw [hs1];exact hlx) holds ⟨b2,off,none⟩ ys.length cc (bcells ys) (by rw [hs1];exact hly) hnews (by omega) (by omega) (growslice_fits (by omega) (by rw [hs2];exact hmul))
  have hge:=grownCap_ge w (xs.length+ys.length) c e
  have hcm:=grownCap_le_maxLen w (xs.length+ys.length) c e (by unfold maxLen;omega)
  have hlen:(bcells xs++bcells ys).length=xs.length+ys.length:=by simp [bcells_length]
  have hbc:bcells (xs++ys)=bcells xs++bcells ys:=by simp [bcells]
  generalize hX:(Obj.cells _ e:Obj)=X at hrun
  have H1:=H.upd i hi (w':=w.drew.alloc X) (A':=HP.ow rByte e (some ⟨w.heap.size,0,none⟩) (grownCap w (xs.length+ys.length) c e) (xs++ys)) (fun {B} S hA hS=>⟨fun b=>b=w.heap.size,⟨_,rdl_bytes B (xs++ys),⟨by rw [flat_bytes,bcells_length];show _=(xs++ys).length * 1;rw [Nat.mul_one],.inr ⟨w.heap.size,_,_,by rw [List.length_append],Nat.zero_le _,by rw [← hX];exact heap_alloc_new w.drew _,by rw [List.length_append];exact hge,hcm,by
    simp only [Array.size_append,List.size_toArray,size_zeroCells,hE.hz,bcells_length,List.length_append,rByte,Rp.enc]
    omega,by
    rw [flat_bytes,hbc]
    simp only [Array.toList_append,List.append_assoc]
    rw [← List.append_assoc,List.take_left' (by simp [bcells_length,rByte,Rp.enc])]⟩⟩,fun b hb=>by simp [Value.ownBlock] at hb;exact hb.symm⟩,fun b hb=>.inr (by omega),fun b hb=>by rw [hb];simp,fun b hb _=>heapOld w.drew _ b hb⟩) rfl rfl rfl (by simp)
  have H2:=H1.frz i (R:=rByte) (e:=e) (xs:=xs++ys) (p:=some ⟨w.heap.size,0,none⟩) (cap:=grownCap w (xs.length+ys.length) c e) (by simp [List.getElem?_set,hil])
  rw [List.eraseIdx_set_eq] at H2
  refine s_val (v:=.slice (some ⟨w.heap.size,0,none⟩) (xs.length+ys.length) (grownCap w (xs.length+ys.length) c e)) (w':=w.drew.alloc X) k F hg hd hN (by rw [ho];rfl) ?_ fun a' F'=>hk (some ⟨w.heap.size,0,none⟩) _ _ a' H2 (by rw [List.length_append];exact F')
  unfold execOp
  simp [ho,resolve,invoke,builtin,F.eval hx,F.eval hy,hrun]
end
def sp:List UInt8→List (List UInt8)
 | []=>[[]]
 | c::r=>if c=47 then []::sp r else match sp r with | h::t=>(c::h)::t | []=>[[c]]
theorem split_sp:∀ s:List UInt8,Lib.splitK [47] 0 (Lib.count s [47]) s=sp s
 | []=>by rw [Lib.count_miss (by simp [Lib.index])];rfl
 | c::r=>by
  have ih:=split_sp r
  by_cases h:c=47
  ·subst h
   rw [Lib.count_cons_eq,Nat.add_comm,Lib.splitK]
   have hix:Lib.index (47::r) [47]=0:=by rw [Lib.index];simp [List.isPrefixOf]
   rw [hix]
   simp only [sp,if_true]
   rw [if_neg (by decide)]
   simpa using ih
  ·have hp:([47]:List UInt8).isPrefixOf (c::r)=false:=by simp [List.isPrefixOf,Ne.symm h]
   have hix:Lib.index (c::r) [47]=if Lib.index r [47]==-1 then -1 else Lib.index r [47]+1:=by rw [Lib.index,hp];simp
   rw [Lib.count_cons_ne c 47 r h]
   simp only [sp,h,if_false]
   by_cases hm:Lib.index r [47]=-1
   ·rw [Lib.count_miss hm] at ih ⊢
    rw [← ih];rfl
   ·have hge:=Lib.index_ge r [47]
    obtain ⟨j,hj⟩:∃ j:Nat,Lib.index r [47]=j:=⟨(Lib.index r [47]).toNat,by omega⟩
    rw [Lib.count_hit (by simp) hj,Nat.add_comm] at ih ⊢
    rw [Lib.splitK,hj,if_neg (by simp)] at ih
    rw [Lib.splitK,hix,hj,if_neg (show ¬ (((j:Int)==-1)=true) by simp),if_neg (by simp;omega),← ih]
    simp only [Int.toNat_natCast,Nat.add_zero]
    rw [show ((j:Int)+1).toNat=j+1 by omega]
    rfl
def jn (xs:List (List UInt8)):List UInt8:=Lib.join xs [47]
def splitO (s sep:List UInt8) (sv n:Int):Option (List (List UInt8)):=if sep=[47]∧sv=0∧n=-1∧s.length≤2000000000 then some (sp s) else none
theorem splitO_some {s sep:List UInt8} {sv n:Int} {r:List (List UInt8)} (h:splitO s sep sv n=some r):sep=[47]∧sv=0∧n=-1∧s.length≤2000000000∧r=sp s:=by
 unfold splitO at h
 split at h
 ·rename_i h0;cases h;exact ⟨h0.1,h0.2.1,h0.2.2.1,h0.2.2.2,rfl⟩
 ·cases h
def joinO (xs:List (List UInt8)) (sep:List UInt8):Option (List UInt8):=if sep=[47]∧xs.length≤2000000000∧(jn xs).length≤2000000000 then some (jn xs) else none
theorem joinO_some {xs:List (List UInt8)} {sep r:List UInt8} (h:joinO xs sep=some r):sep=[47]∧xs.length≤2000000000∧(jn xs).length≤2000000000∧r=jn xs:=by
 unfold joinO at h
 split at h
 ·rename_i h0;cases h;exact ⟨h0.1,h0.2.1,h0.2.2,rfl⟩
 ·cases h
def indexO (s sub:List UInt8):Option Int:=match sub with
 | [c]=>some (Lib.indexByte s c)
 | _=>none
theorem indexO_some {s sub:List UInt8} {r:Int} (h:indexO s sub=some r):∃ c,sub=[c]∧r=Lib.indexByte s c:=by
 unfold indexO at h
 split at h
 ·rename_i c;cases h;exact ⟨c,rfl,rfl⟩
 ·cases h
theorem St.below {w0 w w':World} {l:List HP} (H:St w0 w l) (hb:Below w.heap.size w w'):St w0 w' l:=by
 obtain ⟨hv,B,f,hs,h1,h2,h3⟩:=H
 have hold:∀ b,b<w.heap.size→w'.heap[b]?=w.heap[b]?:=fun b hlt=>hb.block b hlt
 refine ⟨⟨hb.os.trans hv.1,hb.tape.trans hv.2.1,hb.output.trans hv.2.2.1,Nat.le_trans hv.2.2.2 hb.size⟩,B,f,fun b o h=>?_,fun i A hi=>A.loc (h1 i A hi) fun b hf=>hold b (h3 i b (List.getElem?_eq_some_iff.1 hi).1 hf).1,h2,fun i b hi hf=>?_⟩
 ·rw [hold b (hs.lt h)];exact hs b o h
 ·have:=h3 i b hi hf
  exact ⟨Nat.lt_of_lt_of_le this.1 hb.size,this.2⟩
theorem St.newTexts {w0 w:World} {l:List HP} (H:St w0 w l) (e:TypeId) (xs:List (List UInt8)) (hm:xs.length≤maxLen):St w0 (w.alloc (.cells (xs.map fun x=>Value.string (txb x)).toArray e)) (HP.ow rStr e (some ⟨w.heap.size,0,none⟩) xs.length xs::l):=by
 have hf:(xs.map fun x=>[Value.string (txb x)]).flatten=xs.map fun x=>Value.string (txb x):=by
  induction xs with
  | nil=>rfl
  | cons x xs ih=>simp only [List.length_cons] at hm;simp [ih (by omega)]
 have hr:∀ B:Base,RdL rStr B (xs.map fun x=>[Value.string (txb x)]) xs:=fun B=>by
  clear hm hf
  induction xs with
  | nil=>trivial
  | cons x xs ih=>exact ⟨rfl,ih⟩
 refine H.add _ _ fun {B} S hS=>⟨_,hr B,?_⟩
 rw [hf]
 exact ⟨⟨by simp [rStr,Rp.enc],.inr ⟨_,xs.length,_,rfl,Nat.zero_le _,heapNew w _,Nat.le_refl _,hm,by simp [rStr,Rp.enc],by simp only [rStr,Rp.enc,Nat.mul_one];rw [List.take_of_length_le];simp⟩⟩,fun b hb=>by simp [Value.ownBlock] at hb;exact hb▸hS⟩
end Go.Tri
namespace Go.Tri
open Go.RowKit Go.ChangeShapes Go.WideShapes Go.ChangeAt Go.Deep
def baseOf (w:World):Base:=fun b=>w.heap[b]?
theorem sub_row {w w':World} {b off:Nat} {cs:List Value} (hs:Sub (baseOf w) w') (h:Row w b off cs):Row w' b off cs:=by
 intro j v hj
 have h1:=h j v hj
 unfold World.cell? at h1 ⊢
 simp only at h1 ⊢
 cases hb:w.heap[b]? with
 | none=>rw [hb] at h1;cases h1
 | some o=>rw [hs b o hb];rw [hb] at h1;exact h1
theorem sub_sl {w w':World} {v:Value} {n:Nat} {cs:List Value} (hs:Sub (baseOf w) w') (h:Sl w v n cs):Sl w' v n cs:=by
 rcases h with h | h | ⟨b,off,cap,h1,h2,h3⟩
 ·exact .inl h
 ·exact .inr (.inl h)
 ·exact .inr (.inr ⟨b,off,cap,h1,h2,sub_row hs h3⟩)
section
variable {α H:Type} (enc:TypeId×Value→H) (P:Program) (w:World) (base:Nat) (spare:Nat→Bool) (held:Bool)
def Opn (R:Rp α) (e:TypeId):Prop:=∀ (fuel:Nat) (cs:List Value) (x:DataW H×List MemPlace),DataW.trod enc P w base spare held fuel e cs=some x→∃ y,R.rd (baseOf w) cs y
end
section
variable {α H:Type} {enc:TypeId×Value→H} {P:Program} {w:World} {base:Nat} {spare:Nat→Bool} {held:Bool} {R:Rp α} {e t:TypeId}
theorem opn_int {k:IntKind} (ht:P.underlying t=some (.int k)):Opn enc P w base spare held (rInt k) t:=fun fuel cs x h=>by
 obtain ⟨n0,g0,_,w0⟩:=DataW.trod_int ht h
 exact ⟨n0,g0⟩
theorem opn_byte (ht:P.underlying t=some (.int .u8)):Opn enc P w base spare held rByte t:=fun fuel cs x h=>by
 obtain ⟨n0,g0,_,w0⟩:=DataW.trod_int ht h
 have hb:0≤n0∧n0≤255:=by
  simp [Lit.wf,IntKind.min,IntKind.max,IntKind.signed,IntKind.bits] at w0;omega
 refine ⟨UInt8.ofNat n0.toNat,?_⟩
 show cs=[.int .u8 ((UInt8.ofNat n0.toNat).toNat:Int)]
 rw [g0]
 have:((UInt8.ofNat n0.toNat).toNat:Int)=n0:=by simp;omega
 rw [this]
end
def HP.all (w0:World):HP:=HP.pe (fun B=>∀ b o,w0.heap[b]?=some o→B b=some o)
  (fun h hl b o hb=>hl b o (h b o hb))
theorem St.start0 (w0:World) (l:List HP) (h:∀ A∈l,A.pr (baseOf w0) w0 (fun _=>False)):St w0 w0 l :=
 ⟨⟨rfl,rfl,rfl,Nat.le_refl _⟩,baseOf w0,fun _ _=>False,fun b o h=>h,fun i A hi=>h A (List.mem_of_getElem? hi),fun _ _ _ _ _ hf=>hf.elim,fun _ _ _ hf=>hf.elim⟩
theorem all_start (w0 w:World) (S:Nat→Prop):(HP.all w0).pr (baseOf w0) w S:=fun b o h=>h
theorem St.finish {w0 w:World} (H:St w0 w [HP.all w0]):Below w0.heap.size w0 w:=by
 obtain ⟨⟨h1,h2,h3,h4⟩,B,f,hs,ha,_⟩:=H
 refine ⟨h1,h2,h3,h4,fun k hk=>?_⟩
 have:=hs k _ (ha 0 _ rfl k _ (Array.getElem?_eq_getElem hk))
 rw [this,Array.getElem?_eq_getElem hk]
end Go.Tri
namespace Go.Tri
open Go.RowKit
def Base.ge (B:Base) (n:Nat):Base:=fun b=>if n≤b then B b else none
theorem Base.ge_le (B:Base) (n:Nat):(B.ge n).le B:=fun b o h=>by
 unfold Base.ge at h
 split at h
 ·exact h
 ·cases h
theorem Base.ge_mono {B B':Base} (h:B.le B') (n:Nat):(B.ge n).le (B'.ge n):=fun b o hb=>by
 unfold Base.ge at hb ⊢
 split at hb
 ·rename_i hn;rw [if_pos hn];exact h b o hb
 ·cases hb
section
variable {α:Type} {R:Rp α} {w0 w w':World} {l:List HP} {p:Option Addr} {cap n0:Nat} {xs:List α} {e:TypeId}
def HP.nsl (n0:Nat) (R:Rp α) (p:Option Addr) (cap:Nat) (xs:List α):HP :=
 HP.pe (fun B=>(HP.sl R p cap xs).pr (B.ge n0) default (fun _=>False)∧(0<xs.length→∃ b cur e,p=some ⟨b,0,none⟩∧(B.ge n0) b=some (.cells cur e (0,0))∧xs.length≤maxLen))
  (fun h hl=>⟨HP.mono (HP.sl R p cap xs) h.1 (Base.ge_mono hl n0),fun h0=>by obtain ⟨b,cur,e,h1,h2,h3⟩:=h.2 h0;exact ⟨b,cur,e,h1,Base.ge_mono hl n0 _ _ h2,h3⟩⟩)
def rSlN (n0:Nat) (R:Rp α):Rp (List α):=⟨1,fun B cs xs=>∃ p cap,cs=[.slice p xs.length cap]∧(HP.nsl n0 R p cap xs).pr B default (fun _=>False),fun ⟨p,cap,h,k⟩ hl=>⟨p,cap,h,HP.mono _ k hl⟩,fun ⟨p,cap,h,k⟩=>by rw [h];rfl,fun ⟨p,cap,h,k⟩=>by rw [h];intro v hv;simp at hv;subst hv;rfl⟩
theorem rSlN_weak {B:Base} {cs:List Value} (h:(rSlN n0 R).rd B cs xs):(rSl R).rd B cs xs:=by
 obtain ⟨p,cap,h1,h2⟩:=h
 exact ⟨p,cap,h1,HP.mono (HP.sl R p cap xs) h2.1 (Base.ge_le B n0)⟩
theorem rSlN_nil (n0:Nat) (R:Rp α) (B:Base):(rSlN n0 R).rd B [.slice none 0 0] []:=⟨none,0,rfl,⟨[],trivial,fun w _=>.inl ⟨rfl,rfl,rfl⟩⟩,fun h=>absurd h (by simp)⟩
theorem rSlN_ge {B:Base} {cs:List Value} (h:(rSlN n0 R).rd B cs xs):(rSl R).rd (B.ge n0) cs xs:=by
 obtain ⟨p,cap,h1,h2⟩:=h
 exact ⟨p,cap,h1,h2.1⟩
theorem St.frzN (H:St w0 w l) (i:Nat) (hR:∀ {B B':Base} {css:List (List Value)},RdL R B css xs→B.le B'→RdL R (B'.ge w0.heap.size) css xs) (hi:l[i]?=some (HP.ow R e p cap xs)):St w0 w (HP.nsl w0.heap.size R p cap xs::l.eraseIdx i):=by
 have H1:=H.mv i hi
 have hn:∀ {B:Base} (S:Nat→Prop),(∀ b,S b→w0.heap.size≤b)→True:=fun _ _=>trivial
 classical
 obtain ⟨hv,B,f,hs,h1,h2,h3⟩:=H1
 let B':Base:=fun b=>if f 0 b then w.heap[b]? else B b
 have hle:B.le B':=by
  intro b o hb
  have:¬ f 0 b:=fun hf=>by have:=(h3 0 b (by simp) hf).2.1;rw [hb] at this;cases this
  show (if f 0 b then _ else _)=_
  rw [if_neg this];exact hb
 have hsub:Sub B' w:=by
  intro b o hb
  have hb':(if f 0 b then w.heap[b]? else B b)=some o:=hb
  split at hb'
  ·exact hb'
  ·exact hs b o hb'
 refine ⟨hv,B',fun i=>match i with | 0=>fun _=>False | i+1=>f (i+1),hsub,?_,?_,?_⟩
 ·intro i D hi
  cases i with
  | zero =>
   simp at hi;subst hi
   obtain ⟨css,c1,c2⟩:=h1 0 _ rfl
   have hin:∀ b,f 0 b→(B'.ge w0.heap.size) b=w.heap[b]?:=fun b hf=>by
    have hge:=(h3 0 b (by simp) hf).2.2
    unfold Base.ge
    rw [if_pos hge]
    show (if f 0 b then _ else _)=_
    rw [if_pos hf]
   refine ⟨⟨css,hR c1 hle,fun w' hw'=>?_⟩,fun h0=>?_⟩
   ·refine ownsRow_sl (HP.loc _ c2 (w':=w') fun b hf=>?_).1
    have hlt:=(h3 0 b (by simp) hf).1
    have:(B'.ge w0.heap.size) b=some w.heap[b]:=by rw [hin b hf];exact Array.getElem?_eq_getElem hlt
    rw [hw' b _ this];exact (Array.getElem?_eq_getElem hlt).symm
   ·obtain ⟨⟨_,⟨hx,hx0⟩ | ⟨g,cap',cur,hx,_,hheap,hm1,hm2,_⟩⟩,hS⟩:=c2
    ·omega
    ·obtain ⟨rfl,_,_⟩:=Value.slice.inj hx
     exact ⟨g,cur,e,rfl,by rw [hin g (hS g rfl)];exact hheap,Nat.le_trans hm1 hm2⟩
  | succ i=>exact D.mono (h1 (i+1) D (by simpa using hi)) hle
 ·intro i j b hi hj hfi hfj
  cases i with
  | zero=>exact hfi.elim
  | succ i =>
   cases j with
   | zero=>exact hfj.elim
   | succ j=>exact h2 (i+1) (j+1) b hi hj hfi hfj
 ·intro i b hi hf
  cases i with
  | zero=>exact hf.elim
  | succ i =>
   have h4:=h3 (i+1) b hi hf
   refine ⟨h4.1,?_,h4.2.2⟩
   show (if f 0 b then _ else _)=_
   rw [if_neg (fun h0=>by have:=h2 0 (i+1) b (by simp) hi h0 hf;omega)]
   exact h4.2.1
def Sealed (w:World) (L:List HP):Prop:=∀ A∈L,A.pr (baseOf w) w (fun _=>False)
theorem sealN (w:World):Sealed w [HP.all w]:=by
 intro A hA
 simp only [List.mem_cons,List.not_mem_nil,or_false] at hA
 subst hA;exact all_start _ _ _
theorem sealC {A:HP} {L:List HP} (h:A.pr (baseOf w) w (fun _=>False)) (hL:Sealed w L):Sealed w (A::L):=by
 intro C hC
 rcases List.mem_cons.1 hC with rfl | hC
 ·exact h
 ·exact hL C hC
theorem Sealed.st {L:List HP} (h:Sealed w L):St w w L:=St.start0 w L h
theorem sub_le {B:Base} (h:Sub B w):B.le (baseOf w):=fun b o hb=>h b o hb
theorem St.sealP (H:St w0 w l) (i:Nat) {A:HP} (hi:l[i]?=some A) (hp:A.ps=true):A.pr (baseOf w) w (fun _=>False):=by
 obtain ⟨B,S,hs,h,_⟩:=H.get i hi
 exact A.mono (A.pok hp h) (sub_le hs)
theorem St.unseal (H:St w0 w l) {rs rs':List HP} (hl:rs'.length=rs.length) (hT:∀ (i:Nat) (A A':HP),rs[i]?=some A→rs'[i]?=some A'→∀ {B:Base} {S:Nat→Prop},A.pr B w' S→A'.pr (B.ge w.heap.size) w' S) (H':St w w' (rs++[HP.all w])):St w0 w' (rs'++l):=by
 obtain ⟨hv,B,f,hs,h1,h2,h3⟩:=H
 obtain ⟨hv',B2,f2,hs2,k1,k2,k3⟩:=H'
 have hall:∀ b o,w.heap[b]?=some o→B2 b=some o:=k1 rs.length (HP.all w) (by simp)
 have hold:∀ b,b<w.heap.size→w'.heap[b]?=w.heap[b]?:=fun b hb=>by
  rw [Array.getElem?_eq_getElem hb];exact hs2 b _ (hall b _ (Array.getElem?_eq_getElem hb))
 let Bn:Base:=fun b=>if b<w.heap.size then B b else B2 b
 have hle:B.le Bn:=fun b o hb=>by
  show (if b<w.heap.size then B b else B2 b)=_
  rw [if_pos (hs.lt hb)];exact hb
 have hge:(B2.ge w.heap.size).le Bn:=fun b o hb=>by
  unfold Base.ge at hb
  split at hb
  ·show (if b<w.heap.size then B b else B2 b)=_
   rw [if_neg (by omega)];exact hb
  ·cases hb
 refine ⟨⟨hv'.1.trans hv.1,hv'.2.1.trans hv.2.1,hv'.2.2.1.trans hv.2.2.1,Nat.le_trans hv.2.2.2 hv'.2.2.2⟩,Bn,fun i=>if i<rs'.length then f2 i else f (i - rs'.length),?_,?_,?_,?_⟩
 ·intro b o hb
  have hb':(if b<w.heap.size then B b else B2 b)=some o:=hb
  split at hb'
  ·rename_i hlt;rw [hold b hlt];exact hs b o hb'
  ·exact hs2 b o hb'
 ·intro i A hi
  rw [List.getElem?_append] at hi
  by_cases e:i<rs'.length
  ·rw [if_pos e] at hi
   simp only [if_pos e]
   have hA:rs[i]?=some rs[i]:=List.getElem?_eq_getElem (by omega)
   exact A.mono (hT i _ A hA hi (k1 i _ (by rw [List.getElem?_append,if_pos (by omega)];exact hA))) hge
  ·rw [if_neg e] at hi
   simp only [if_neg e]
   exact A.mono (A.loc (h1 _ A hi) fun b hb=>hold b (h3 _ b (List.getElem?_eq_some_iff.1 hi).1 hb).1) hle
 ·intro i j b hi hj hfi hfj
  rw [List.length_append] at hi hj
  by_cases e1:i<rs'.length
  ·by_cases e2:j<rs'.length
   ·simp only [if_pos e1,if_pos e2] at hfi hfj
    exact k2 i j b (by simp;omega) (by simp;omega) hfi hfj
   ·simp only [if_pos e1,if_neg e2] at hfi hfj
    have:=(k3 i b (by simp;omega) hfi).2.2
    have:=(h3 _ b (by omega) hfj).1
    omega
  ·by_cases e2:j<rs'.length
   ·simp only [if_neg e1,if_pos e2] at hfi hfj
    have:=(k3 j b (by simp;omega) hfj).2.2
    have:=(h3 _ b (by omega) hfi).1
    omega
   ·simp only [if_neg e1,if_neg e2] at hfi hfj
    have:=h2 _ _ b (by omega) (by omega) hfi hfj
    omega
 ·intro i b hi hf
  rw [List.length_append] at hi
  by_cases e1:i<rs'.length
  ·simp only [if_pos e1] at hf
   have h4:=k3 i b (by simp;omega) hf
   refine ⟨h4.1,?_,Nat.le_trans hv.2.2.2 h4.2.2⟩
   show (if b<w.heap.size then B b else B2 b)=none
   rw [if_neg (by omega)];exact h4.2.1
  ·simp only [if_neg e1] at hf
   have h4:=h3 _ b (by omega) hf
   refine ⟨Nat.lt_of_lt_of_le h4.1 hv'.2.2.2,?_,h4.2.2⟩
   show (if b<w.heap.size then B b else B2 b)=none
   rw [if_pos h4.1];exact h4.2.1
theorem St.unseal0 (H:St w0 w l) (H':St w w' [HP.all w]):St w0 w' l:=H.unseal (rs:=[]) (rs':=[]) rfl (fun i A A' h=>by simp at h) H'
theorem St.unseal1 (H:St w0 w l) {A A':HP} (hT:∀ {B:Base} {S:Nat→Prop},A.pr B w' S→A'.pr (B.ge w.heap.size) w' S) (H':St w w' [A,HP.all w]):St w0 w' (A'::l) :=
 H.unseal (rs:=[A]) (rs':=[A']) rfl (fun i C C' h h'=>by
  cases i with
  | zero=>simp at h h';subst h;subst h';exact hT
  | succ i=>simp at h) H'
end
section
variable {κ β:Type} [DecidableEq κ] {w0 w w':World} {l:List HP} {p:Option Nat} {ek:κ→Value} {agg:Bool} {R R':Rp β} {ok:κ→Prop} {m:κ→Option β}
theorem EsOk.conv {B B':Base} {es:List (κ×(List Value×β))} (hR:∀ {cs:List Value} {x:β},R.rd B cs x→R'.rd B' cs x) (h:EsOk R ok B es m):EsOk R' ok B' es m:=⟨h.nodup,h.ok,fun p hp=>hR (h.rd p hp),h.get⟩
theorem mm_conv {B B':Base} {S:Nat→Prop} (hR:∀ {cs:List Value} {x:β},R.rd B cs x→R'.rd B' cs x) (h:(HP.mm p ek agg R ok m).pr B w S):(HP.mm p ek agg R' ok m).pr B' w S:=by
 obtain ⟨es,h1,h2⟩:=h
 exact ⟨es,h1.conv hR,h2⟩
end
section
variable {α:Type} {R R':Rp α} {B B':Base} {n0:Nat}
theorem rdl_conv (h:∀ {cs:List Value} {x:α},R.rd B cs x→R'.rd B' cs x):∀ {css:List (List Value)} {xs:List α},RdL R B css xs→RdL R' B' css xs
 | [],[],_=>trivial
 | [],_::_,h'=>h'.elim
 | _::_,[],h'=>h'.elim
 | _::_,_::_,⟨h1,h2⟩=>⟨h h1,rdl_conv h h2⟩
theorem sl_conv {p:Option Addr} {cap:Nat} {xs:List α} (hB:B.le B') (h:∀ {cs:List Value} {x:α},R.rd B cs x→R'.rd B' cs x) (hs:(HP.sl R p cap xs).pr B default (fun _=>False)):(HP.sl R' p cap xs).pr B' default (fun _=>False):=by
 obtain ⟨css,h1,h2⟩:=hs
 exact ⟨css,rdl_conv h h1,fun w hw=>h2 w (hw.mono hB)⟩
theorem ge_ge {B B':Base} (h:B.le B') (n:Nat):(B.ge n).le ((B'.ge n).ge n):=fun b o hb=>by
 unfold Base.ge at hb ⊢
 split at hb
 ·rename_i hn;simp only [if_pos hn];exact h b o hb
 ·cases hb
theorem rSlN_up {cs:List Value} {xs:List α} (h:(rSlN n0 R).rd B cs xs) (hl:B.le B'):(rSlN n0 R).rd (B'.ge n0) cs xs:=by
 obtain ⟨p,cap,h1,h2⟩:=h
 exact ⟨p,cap,h1,HP.mono (HP.sl R p cap xs) (w:=default) (S:=fun _=>False) h2.1 (ge_ge hl n0),fun h0=>by obtain ⟨b,cur,e,h3,h4,h5⟩:=h2.2 h0;exact ⟨b,cur,e,h3,ge_ge hl n0 _ _ h4,h5⟩⟩
abbrev rP2:Rp (List UInt8×List UInt8):=rPair (rSl rByte) (rSl rByte)
abbrev rP2N (n0:Nat):Rp (List UInt8×List UInt8):=rPair (rSlN n0 rByte) (rSlN n0 rByte)
theorem p2N_up {cs:List Value} {x:List UInt8×List UInt8} (hl:B.le B') (h:(rP2N n0).rd B cs x):(rP2N n0).rd (B'.ge n0) cs x:=by
 obtain ⟨c,d,h1,h2,h3⟩:=h
 exact ⟨c,d,h1,rSlN_up h2 hl,rSlN_up h3 hl⟩
theorem p2N_weak {cs:List Value} {x:List UInt8×List UInt8} (h:(rP2N n0).rd B cs x):rP2.rd B cs x:=by
 obtain ⟨c,d,h1,h2,h3⟩:=h
 exact ⟨c,d,h1,rSlN_weak h2,rSlN_weak h3⟩
theorem St.frzP2 {w0 w:World} {l:List HP} {p:Option Addr} {cap:Nat} {xs:List (List UInt8×List UInt8)} {e:TypeId} (H:St w0 w l) (i:Nat) (hi:l[i]?=some (HP.ow (rP2N w0.heap.size) e p cap xs)):St w0 w (HP.nsl w0.heap.size (rP2N w0.heap.size) p cap xs::l.eraseIdx i) :=
 H.frzN i (fun h hl=>rdl_conv (fun h=>p2N_up hl h) h) hi
theorem St.frzNB {w0 w:World} {l:List HP} {p:Option Addr} {cap:Nat} {xs:List UInt8} {e:TypeId} (H:St w0 w l) (i:Nat) (hi:l[i]?=some (HP.ow rByte e p cap xs)):St w0 w (HP.nsl w0.heap.size rByte p cap xs::l.eraseIdx i) :=
 H.frzN i (fun {B B' css} h hl=>rdl_conv (R:=rByte) (R':=rByte) (B:=B) (B':=B'.ge w0.heap.size) (fun h=>h) h) hi
end
section
variable {w0 w w':World} {l:List HP} {p:Option Addr} {cap n0:Nat} {xs:List (List UInt8×List UInt8)}
theorem Base.ge_zero (B:Base):B.ge 0=B:=by funext b;unfold Base.ge;rw [if_pos (Nat.zero_le _)]
theorem rSlN_zero {α:Type} {R:Rp α} {B:Base} {cs:List Value} {xs:List α} (h:(rSlN n0 R).rd B cs xs):(rSlN 0 R).rd (B.ge n0) cs xs:=by
 obtain ⟨p,cap,h1,h2,h3⟩:=h
 refine ⟨p,cap,h1,?_,?_⟩
 ·rw [Base.ge_zero];exact h2
 ·rw [Base.ge_zero];exact h3
theorem nsl_zero {B:Base} {w:World} {S:Nat→Prop} (h:(HP.nsl n0 (rP2N n0) p cap xs).pr B w S):(HP.nsl 0 (rP2N 0) p cap xs).pr (B.ge n0) default (fun _=>False):=by
 obtain ⟨h1,h2⟩:=h
 refine ⟨?_,?_⟩
 ·rw [Base.ge_zero]
  refine sl_conv (fun _ _ h=>h) (fun {cs x} h=>?_) h1
  obtain ⟨c,d,e1,e2,e3⟩:=h
  have e4:=rSlN_zero e2
  have e5:=rSlN_zero e3
  exact ⟨c,d,e1,(rSlN 0 rByte).mono e4 (Base.ge_le _ _),(rSlN 0 rByte).mono e5 (Base.ge_le _ _)⟩
 ·rw [Base.ge_zero];exact h2
def HP.box (p:Option Addr) (cap:Nat) (xs:List (List UInt8×List UInt8)):HP :=
 HP.of (fun _ w S=>∃ B:Base,(∀ b o,B b=some o→S b∧w.heap[b]?=some o)∧(HP.nsl 0 (rP2N 0) p cap xs).pr B default (fun _=>False))
  (fun ⟨B,h1,h2⟩ hS=>⟨B,fun b o hb=>⟨(h1 b o hb).1,by rw [hS b (h1 b o hb).1];exact (h1 b o hb).2⟩,h2⟩)
  (fun h _=>h)
theorem St.sealB (H:St w0 w l) (i:Nat) (hi:l[i]?=some (HP.box p cap xs)):(HP.sl rP2 p cap xs).pr (baseOf w) w (fun _=>False):=by
 obtain ⟨_,S,_,⟨B,h1,h2⟩,_⟩:=H.get i hi
 have h3:=h2.1
 rw [Base.ge_zero] at h3
 exact sl_conv (B':=baseOf w) (fun b o hb=>(h1 b o hb).2) (fun h=>rP2.mono (p2N_weak h) fun b o hb=>(h1 b o hb).2) h3
theorem St.unsealP2 (H:St w0 w l) (H':St w w' [HP.nsl w.heap.size (rP2N w.heap.size) p cap xs,HP.all w]):St w0 w' (HP.box p cap xs::l):=by
 obtain ⟨hv,B,f,hs,h1,h2,h3⟩:=H
 obtain ⟨hv',B2,f2,hs2,k1,k2,k3⟩:=H'
 have hall:∀ b o,w.heap[b]?=some o→B2 b=some o:=k1 1 (HP.all w) rfl
 have hold:∀ b,b<w.heap.size→w'.heap[b]?=w.heap[b]?:=fun b hb=>by
  rw [Array.getElem?_eq_getElem hb];exact hs2 b _ (hall b _ (Array.getElem?_eq_getElem hb))
 have hgb:∀ b o,(B2.ge w.heap.size) b=some o→w.heap.size≤b∧B2 b=some o:=fun b o hb=>by
  unfold Base.ge at hb
  split at hb
  ·rename_i h;exact ⟨h,hb⟩
  ·cases hb
 refine ⟨⟨hv'.1.trans hv.1,hv'.2.1.trans hv.2.1,hv'.2.2.1.trans hv.2.2.1,Nat.le_trans hv.2.2.2 hv'.2.2.2⟩,B,fun i=>match i with | 0=>fun b=>∃ o,(B2.ge w.heap.size) b=some o | i+1=>f i,?_,?_,?_,?_⟩
 ·intro b o hb
  rw [hold b (hs.lt hb)];exact hs b o hb
 ·intro i A hi
  cases i with
  | zero =>
   simp at hi;subst hi
   exact ⟨B2.ge w.heap.size,fun b o hb=>⟨⟨o,hb⟩,hs2 b o (hgb b o hb).2⟩,nsl_zero (k1 0 _ rfl)⟩
  | succ i=>exact A.loc (h1 i A (by simpa using hi)) fun b hb=>hold b (h3 i b (List.getElem?_eq_some_iff.1 (by simpa using hi)).1 hb).1
 ·intro i j b hi hj hfi hfj
  cases i with
  | zero =>
   cases j with
   | zero=>rfl
   | succ j =>
    obtain ⟨o,ho⟩:=hfi
    have:=(hgb b o ho).1
    have:=(h3 j b (by simpa using hj) hfj).1
    omega
  | succ i =>
   cases j with
   | zero =>
    obtain ⟨o,ho⟩:=hfj
    have:=(hgb b o ho).1
    have:=(h3 i b (by simpa using hi) hfi).1
    omega
   | succ j=>have:=h2 i j b (by simpa using hi) (by simpa using hj) hfi hfj;omega
 ·intro i b hi hf
  cases i with
  | zero =>
   obtain ⟨o,ho⟩:=hf
   obtain ⟨g1,g2⟩:=hgb b o ho
   refine ⟨hs2.lt g2,?_,Nat.le_trans hv.2.2.2 g1⟩
   cases e:B b with
   | none=>rfl
   | some o'=>have:=hs.lt e;omega
  | succ i =>
   have h4:=h3 i b (by simpa using hi) hf
   exact ⟨Nat.lt_of_lt_of_le h4.1 hv'.2.2.2,h4.2⟩
end
end Go.Tri
namespace Go.Tri
open Go.RowKit Go.Sort Go.Proofs
theorem rdl_str {B:Base}:∀ {css:List (List Value)} {xs:List (List UInt8)},RdL rStr B css xs→css.flatten=xs.map encStr
 | [],[],_=>rfl
 | [],_::_,h=>h.elim
 | _::_,[],h=>h.elim
 | c::css,x::xs,⟨h1,h2⟩=>by
  have h1:c=[.string (txb x)]:=h1
  rw [List.flatten_cons,rdl_str h2,h1];rfl
theorem rdl_str' {B:Base}:∀ xs:List (List UInt8),RdL rStr B (xs.map fun x=>[encStr x]) xs
 | []=>trivial
 | x::xs=>⟨rfl,rdl_str' xs⟩
theorem flat_str (xs:List (List UInt8)):(xs.map fun x=>[encStr x]).flatten=xs.map encStr:=by
 induction xs with
 | nil=>rfl
 | cons x xs ih=>simp [ih]
section
variable {w0 w:World} {ls:List HP} {e:TypeId} {b cap:Nat} {xs:List (List UInt8)}
theorem St.putStr (H:St w0 w ls) (i:Nat) (hi:ls[i]?=some (HP.ow rStr e (some ⟨b,0,none⟩) cap xs)):Holds encStr w b 0 xs.toArray∧b<w.heap.size∧xs.length≤cap ∧
  ∀ (d':List (List UInt8)) (k n:Nat) (os:Array Obj),d'.length=xs.length→k≤d'.length→St w0 (grow (putRow encStr (Sort.ahead w n) b 0 d'.toArray) os) (ls.set i (HP.ow rStr e (some ⟨b,0,none⟩) cap (d'.take k))):=by
 obtain ⟨B,H⟩:=H.out
 obtain ⟨S0,css,c0,⟨hl0,⟨h,h'⟩ | ⟨g,cap',cur,h,hb0,hg,hnc,hm,hsz,ht⟩⟩,hS⟩:=H.at hi
 ·cases h
 cases h
 have h1:rStr.n=1:=rfl
 have hbl:b<w.heap.size:=(Array.getElem?_eq_some_iff.1 hg).1
 rw [rdl_str c0,h1,Nat.mul_one] at ht
 have hF:∀ t (hx:t<xs.length),cur[t]?=some (encStr xs[t]):=by
  intro t hx
  have e3:(xs.map encStr)[t]?=some (encStr xs[t]):=by simp [hx]
  rw [← ht,List.getElem?_take_of_lt hx] at e3
  simpa using e3
 refine ⟨fun t h5=>?_,hbl,hnc,fun d' k n os hd hk=>?_⟩
 ·have h2:t<xs.length:=by simpa using h5
  refine ⟨?_,?_⟩
  ·unfold World.cell?
   simp only [hg,Nat.zero_add]
   rw [hF t h2]
   simp [getElem!_pos,h2]
  ·unfold World.frozen?
   simp only [hg]
   simp
 ·have hw:(grow (putRow encStr (Sort.ahead w n) b 0 d'.toArray) os).heap=(w.heap.modify b (onCells (putCells encStr 0 d'.toArray)))++os:=rfl
  have hold:∀ k,k<w.heap.size→k≠b→(grow (putRow encStr (Sort.ahead w n) b 0 d'.toArray) os).heap[k]?=w.heap[k]?:=by
   intro k hk hne
   rw [hw,Array.getElem?_append_left (by simpa using hk),Array.getElem?_modify,if_neg (Ne.symm hne)]
  have hnew:(grow (putRow encStr (Sort.ahead w n) b 0 d'.toArray) os).heap[b]?=some (.cells (putCells encStr 0 d'.toArray cur) e (0,0)):=by
   rw [hw,Array.getElem?_append_left (by simpa using hbl),Array.getElem?_modify,if_pos rfl,hg];rfl
  have hsz2:w.heap.size≤(grow (putRow encStr (Sort.ahead w n) b 0 d'.toArray) os).heap.size:=by rw [hw];simp
  have hpc:((putCells encStr 0 d'.toArray cur).toList).take k=(d'.take k).map encStr:=by
   apply List.ext_getElem?
   intro t
   by_cases h:t<k
   ·have hts:t<cur.size:=by rw [hsz,h1];omega
    have hfs:t<d'.length:=by omega
    rw [List.getElem?_take_of_lt h]
    simp only [Array.getElem?_toList,List.getElem?_map,List.getElem?_take_of_lt h]
    unfold putCells
    rw [Array.getElem?_mapIdx,Array.getElem?_eq_getElem hts,Option.map_some,if_pos ⟨Nat.zero_le _,by simpa using hfs⟩,List.getElem?_eq_getElem hfs]
    simp [getElem!_pos,hfs]
   ·rw [List.getElem?_eq_none (by simp;omega),List.getElem?_eq_none (by simp;omega)]
  refine (H.st).upd i hi (fun {B} S hA hb=>?_) rfl rfl rfl hsz2
  obtain ⟨css1,c1,hA1,hA2⟩:=hA
  have hSb:S b:=hA2 b rfl
  have hkl:(d'.take k).length=k:=by rw [List.length_take,Nat.min_eq_left hk]
  refine ⟨S,⟨_,rdl_str' (d'.take k),⟨?_,.inr ⟨b,cap,_,rfl,Nat.zero_le _,hnew,?_,hm,?_,?_⟩⟩,fun b' hb'=>hA2 b' hb'⟩,fun k hk=>.inl hk,fun k hk=>Nat.lt_of_lt_of_le (hb k hk).1 hsz2,fun k hk hn=>hold k hk (fun e=>hn (e▸hSb))⟩
  ·rw [flat_str];simp [h1]
  ·rw [hkl];omega
  ·rw [← hsz];simp [putCells]
  ·rw [flat_str,hkl,h1,Nat.mul_one];exact hpc
end
abbrev PE (B:Base):={p:List Value×(List UInt8×List UInt8) // rP2.rd B p.1 p.2}
instance (B:Base):Inhabited (PE B):=⟨⟨([.slice none 0 0,.slice none 0 0],([],[])),⟨[.slice none 0 0],[.slice none 0 0],rfl,rSl_nil _ _,rSl_nil _ _⟩⟩⟩
def encP {B:Base} (x:PE B):List Value:=x.1.1
def cmpP {B:Base} (x y:PE B):Int:=Lib.compareBytes x.1.2.1 y.1.2.1
theorem encP_len {B:Base} (x:PE B):(encP x).length=2:=rP2.len x.2
theorem encP_one {B:Base} (x:PE B):∀ v∈encP x,v.oneCell'=true:=fun v hv=>rP2.flat x.2 v hv
theorem cmpP_swo {B:Base}:SWO (ltOf (cmpP (B:=B))) where
 irrefl x:=by simp [ltOf,cmpP,cmp_self]
 trans x y z h1 h2:=decide_eq_true (cmp_trans _ _ _ (of_decide_eq_true h1) (of_decide_eq_true h2))
 ntrans x y z h1 h2:=by
  replace h1:¬ Lib.compareBytes x.1.2.1 y.1.2.1<0:=of_decide_eq_false h1
  replace h2:¬ Lib.compareBytes y.1.2.1 z.1.2.1<0:=of_decide_eq_false h2
  refine decide_eq_false fun h3=>?_
  replace h3:Lib.compareBytes x.1.2.1 z.1.2.1<0:=h3
  by_cases hz:Lib.compareBytes y.1.2.1 x.1.2.1=0
  ·rw [cmp_zero _ _ hz] at h2;exact h2 h3
  ·have:Lib.compareBytes y.1.2.1 x.1.2.1<0:=by rw [cmp_swap];rw [cmp_swap] at hz;omega
   exact h2 (cmp_trans _ _ _ this h3)
theorem rdl_pe {B:Base}:∀ {css:List (List Value)} {xs:List (List UInt8×List UInt8)},RdL rP2 B css xs→∃ d:List (PE B),d.map (·.1.2)=xs∧css=d.map encP
 | [],[],_=>⟨[],rfl,rfl⟩
 | c::css,x::xs,h=>by
  obtain ⟨d,h1,h2⟩:=rdl_pe h.2
  exact ⟨⟨(c,x),h.1⟩::d,by simp [h1],by simp [h2,encP]⟩
 | [],_::_,h=>h.elim
 | _::_,[],h=>h.elim
theorem rdl_pe' {B:Base}:∀ d:List (PE B),RdL rP2 B (d.map encP) (d.map (·.1.2))
 | []=>trivial
 | x::d=>⟨x.2,rdl_pe' d⟩
theorem pflat_len {B:Base} (d:List (PE B)):(d.map encP).flatten.length=d.length * 2:=by
 induction d with
 | nil=>rfl
 | cons x d ih=>simp only [List.map_cons,List.flatten_cons,List.length_append,encP_len,ih,List.length_cons];omega
theorem pflat_get {B:Base} (d:List (PE B)) (t:Nat) (h:t<d.length * 2):(d.map encP).flatten[t]?=(encP ((d.toArray)[t / 2]!))[t % 2]?:=by
 have hj:t / 2<d.length:=by omega
 have hc:(d.map encP)[t / 2]?=some (encP (d[t / 2]'hj)):=by simp [List.getElem?_eq_getElem hj]
 have h1:=flatK_at (K:=2) (css:=d.map encP) (fun c hc=>by obtain ⟨x,_,rfl⟩:=List.mem_map.1 hc;exact encP_len x) hc
 have e1:(d.toArray)[t / 2]! = d[t / 2]'hj:=by simp [getElem!_pos,hj]
 rw [e1,← h1,List.getElem?_take_of_lt (by omega),List.getElem?_drop]
 congr 1;omega
theorem pflat_list {B:Base} (d:List (PE B)):(flatK encP 2 d.toArray).toList=(d.map encP).flatten:=by
 apply List.ext_getElem?
 intro t
 by_cases h:t<d.length * 2
 ·have e2:t<(flatK encP 2 d.toArray).size:=by simpa using h
  rw [pflat_get d t h]
  have e3:=get_flatK encP 2 d.toArray t (by simpa using h)
  rw [getElem!_pos (flatK encP 2 d.toArray) t e2] at e3
  rw [Array.getElem?_toList,Array.getElem?_eq_getElem e2,e3]
  have e4:t % 2<(encP (d.toArray[t / 2]!)).length:=by rw [encP_len];omega
  rw [List.getElem?_eq_getElem e4,getElem!_pos (encP (d.toArray[t / 2]!)) _ e4]
 ·rw [List.getElem?_eq_none (by simpa using h),List.getElem?_eq_none (by rw [pflat_len];omega)]
section
variable {w0 w:World} {ls:List HP} {e:TypeId} {b cap:Nat} {xs:List (List UInt8×List UInt8)}
theorem St.sortP (H:St w0 w ls) (i:Nat) (hi:ls[i]?=some (HP.ow rP2 e (some ⟨b,0,none⟩) cap xs)):∃ (B:Base) (d:List (PE B)),d.map (·.1.2)=xs∧HoldsK encP 2 w b 0 d.toArray∧b<w.heap.size ∧
  (∀ (d':Array (PE B)) (n:Nat) (os:Array Obj),Sub B (sortWorldK encP 2 w b 0 n d' os)) ∧
  ∀ (d':Array (PE B)) (n:Nat) (os:Array Obj),d'.size=d.length→St w0 (sortWorldK encP 2 w b 0 n d' os) (ls.set i (HP.ow rP2 e (some ⟨b,0,none⟩) cap (d'.toList.map (·.1.2)))):=by
 obtain ⟨hv,B,f,hs,g1,g2,g3⟩:=H
 obtain ⟨css,c0,⟨hl0,⟨h,h'⟩ | ⟨g,cap',cur,h,hb0,hg,hnc,hm,hsz,ht⟩⟩,hS⟩:=g1 i _ hi
 ·cases h
 cases h
 have hil:i<ls.length:=(List.getElem?_eq_some_iff.1 hi).1
 obtain ⟨d,hd,rfl⟩:=rdl_pe c0
 have hlen:d.length=xs.length:=by rw [← hd];simp
 have hn2:rP2.n=2:=rfl
 have hbl:b<w.heap.size:=(Array.getElem?_eq_some_iff.1 hg).1
 have hBb:B b=none:=(g3 i b hil (hS b rfl)).2.1
 have hF:∀ t,t<d.length * 2→cur[t]?=some ((flatK encP 2 d.toArray)[t]!):=by
  intro t h1
  have e2:t<(flatK encP 2 d.toArray).size:=by simpa using h1
  have e3:(flatK encP 2 d.toArray).toList[t]?=some ((flatK encP 2 d.toArray)[t]!):=by
   rw [Array.getElem?_toList,Array.getElem?_eq_getElem e2,getElem!_pos _ t e2]
  rw [pflat_list,← ht,List.getElem?_take_of_lt (by rw [hn2,← hlen];exact h1)] at e3
  simpa using e3
 have hold:∀ (d':Array (PE B)) (n:Nat) (os:Array Obj) k,k<w.heap.size→k≠b→(sortWorldK encP 2 w b 0 n d' os).heap[k]?=w.heap[k]?:=by
  intro d' n os k hk hne
  have hw:(sortWorldK encP 2 w b 0 n d' os).heap=(w.heap.modify b (onCells (putCells id 0 (flatK encP 2 d'))))++os:=rfl
  rw [hw,Array.getElem?_append_left (by simpa using hk),Array.getElem?_modify,if_neg (Ne.symm hne)]
 refine ⟨B,d,hd,fun t h1=>?_,hbl,fun d' n os b' o hb'=>?_,fun d' n os hs2=>?_⟩
 ·have h2:=hF t (by simpa using h1)
  refine ⟨?_,?_⟩
  ·unfold World.cell?
   simp only [hg,Nat.zero_add]
   exact h2
  ·unfold World.frozen?
   simp only [hg]
   simp
 ·rw [hold d' n os b' (hs.lt hb') (fun e=>by rw [e,hBb] at hb';cases hb')];exact hs b' o hb'
 ·have hw:(sortWorldK encP 2 w b 0 n d' os).heap=(w.heap.modify b (onCells (putCells id 0 (flatK encP 2 d'))))++os:=rfl
  have hnew:(sortWorldK encP 2 w b 0 n d' os).heap[b]?=some (.cells (putCells id 0 (flatK encP 2 d') cur) e (0,0)):=by
   rw [hw,Array.getElem?_append_left (by simpa using hbl),Array.getElem?_modify,if_pos rfl,hg];rfl
  have hsz2:w.heap.size≤(sortWorldK encP 2 w b 0 n d' os).heap.size:=by rw [hw];simp
  have hcap:xs.length * 2≤cap * 2:=Nat.mul_le_mul_right _ hnc
  have hpc:((putCells id 0 (flatK encP 2 d') cur).toList).take (xs.length * 2)=(d'.toList.map encP).flatten:=by
   rw [← pflat_list,Array.toArray_toList]
   apply List.ext_getElem?
   intro t
   by_cases h:t<xs.length * 2
   ·have hts:t<cur.size:=by rw [hsz,hn2];omega
    have hfs:t<(flatK encP 2 d').size:=by simp;rw [hs2,hlen];exact h
    rw [List.getElem?_take_of_lt h]
    simp only [Array.getElem?_toList]
    unfold putCells
    rw [Array.getElem?_mapIdx,Array.getElem?_eq_getElem hts,Option.map_some,if_pos ⟨Nat.zero_le _,by omega⟩,Array.getElem?_eq_getElem hfs]
    rw [Nat.sub_zero,getElem!_pos (flatK encP 2 d') t hfs];rfl
   ·rw [List.getElem?_eq_none (by simp;omega),List.getElem?_eq_none (by simp;rw [hs2,hlen];omega)]
  have hSb:f i b:=hS b rfl
  have hA':(HP.ow rP2 e (some ⟨b,0,none⟩) cap (d'.toList.map (·.1.2))).pr B (sortWorldK encP 2 w b 0 n d' os) (f i):=by
   refine ⟨d'.toList.map encP,rdl_pe' _,⟨?_,.inr ⟨b,cap,_,?_,Nat.zero_le _,hnew,?_,hm,?_,?_⟩⟩,fun b' hb'=>hS b' hb'⟩
   ·rw [pflat_len];simp [hn2]
   ·simp [hs2,hlen]
   ·simp [hs2,hlen];exact hnc
   ·rw [← hsz];simp [putCells]
   ·rw [hn2,show (d'.toList.map (·.1.2)).length=xs.length by simp [hs2,hlen]];exact hpc
  refine ⟨⟨hv.1,hv.2.1,hv.2.2.1,Nat.le_trans hv.2.2.2 hsz2⟩,B,f,fun b' o hb'=>?_,fun j C hj=>?_,fun j k b' hj hk=>g2 j k b' (by simpa using hj) (by simpa using hk),fun j b' hj hf=>?_⟩
  ·rw [hold d' n os b' (hs.lt hb') (fun e=>by rw [e,hBb] at hb';cases hb')];exact hs b' o hb'
  ·rw [List.getElem?_set] at hj
   by_cases e1:i=j
   ·subst e1;rw [if_pos rfl,if_pos hil] at hj;cases hj;exact hA'
   ·rw [if_neg e1] at hj
    have hjl:=(List.getElem?_eq_some_iff.1 hj).1
    exact C.loc (g1 j C hj) fun b' hb'=>hold d' n os b' (g3 j b' hjl hb').1 fun e=>e1 (g2 i j b hil hjl hSb (e▸hb'))
  ·have:=g3 j b' (by simpa using hj) hf
   exact ⟨Nat.lt_of_lt_of_le this.1 hsz2,this.2⟩
end
theorem pe_key {B:Base} {w:World} (hs:Sub B w) (x:PE B):∃ q c v,x.1.1=[.slice q x.1.2.1.length c,v]∧Sl w (.slice q x.1.2.1.length c) x.1.2.1.length (bcells x.1.2.1):=by
 obtain ⟨c1,d1,h1,⟨q,c,h2,css,h3,h4⟩,⟨q2,c2,h5,_⟩⟩:=x.2
 refine ⟨q,c,.slice q2 x.1.2.2.length c2,by rw [h1,h2,h5];rfl,?_⟩
 have:=h4 w hs
 rwa [rdl_bytes_flat h3] at this
abbrev P2:=List UInt8×List UInt8
def leP (a b:P2):Bool:=decide (Lib.compareBytes a.1 b.1≤0)
def sortPairs (xs:List P2):List P2:=xs.mergeSort leP
def sortPO (xs:List P2):Option (List P2):=if (xs.map (·.1)).Nodup∧xs.length≤100000000 then some (sortPairs xs) else none
theorem sortPO_some {xs r:List P2} (h:sortPO xs=some r):(xs.map (·.1)).Nodup∧xs.length≤100000000∧r=sortPairs xs:=by
 unfold sortPO at h
 split at h
 ·rename_i h0;cases h;exact ⟨h0.1,h0.2,rfl⟩
 ·cases h
def ltP (a b:P2):Prop:=ltK a.1 b.1
theorem pairs_same:∀ {l l':List P2},l.Pairwise ltP→l'.Pairwise ltP→(∀ k,k∈l↔k∈l')→l=l'
 | [],[],_,_,_=>rfl
 | [],b::l',_,_,h=>absurd ((h b).2 (by simp)) (by simp)
 | a::l,[],_,_,h=>absurd ((h a).1 (by simp)) (by simp)
 | a::l,b::l',h1,h2,h=>by
  obtain ⟨h3,h4⟩:=List.pairwise_cons.1 h1
  obtain ⟨h5,h6⟩:=List.pairwise_cons.1 h2
  have hirr:∀ x,¬ ltP x x:=fun x hx=>by unfold ltP ltK at hx;rw [cmp_self] at hx;omega
  have hab:a=b:=by
   rcases List.mem_cons.1 ((h a).1 (by simp)) with e | e
   ·exact e
   ·rcases List.mem_cons.1 ((h b).2 (by simp)) with e2 | e2
    ·exact e2.symm
    ·exact absurd (show ltP a a from cmp_trans _ _ _ (h3 b e2) (h5 a e)) (hirr a)
  subst hab
  rw [pairs_same h4 h6 fun k=>?_]
  constructor
  ·intro hk
   rcases List.mem_cons.1 ((h k).1 (List.mem_cons_of_mem _ hk)) with e | e
   ·subst e;exact absurd (h3 k hk) (hirr k)
   ·exact e
  ·intro hk
   rcases List.mem_cons.1 ((h k).2 (List.mem_cons_of_mem _ hk)) with e | e
   ·subst e;exact absurd (h5 k hk) (hirr k)
   ·exact e
theorem strict_of {l:List P2} (hn:(l.map (·.1)).Nodup) (h:l.Pairwise (fun a b=>¬ ltK b.1 a.1)):l.Pairwise ltP:=by
 have hn':l.Pairwise (fun a b=>a.1≠b.1):=by rw [List.nodup_iff_pairwise_ne,List.pairwise_map] at hn;exact hn
 refine (h.and hn').imp fun {a b} h=>?_
 obtain ⟨h1,h2⟩:=h
 unfold ltP
 unfold ltK at *
 have h3:=cmp_zero a.1 b.1
 have h4:=cmp_swap a.1 b.1
 have:Lib.compareBytes a.1 b.1≠0:=fun e=>h2 (h3 e)
 omega
theorem leP_trans (a b c:P2) (h1:leP a b=true) (h2:leP b c=true):leP a c=true:=leK_trans a.1 b.1 c.1 h1 h2
theorem leP_total (a b:P2):(leP a b || leP b a)=true:=leK_total a.1 b.1
theorem sortPairs_strict {xs:List P2} (hn:(xs.map (·.1)).Nodup):(sortPairs xs).Pairwise ltP:=by
 have hp:=List.mergeSort_perm xs leP
 refine strict_of ((hp.map _).nodup_iff.2 hn) ?_
 refine (List.pairwise_mergeSort (fun a b c=>leP_trans a b c) (fun a b=>leP_total a b) xs).imp fun {a b} h=>?_
 have h:Lib.compareBytes a.1 b.1≤0:=of_decide_eq_true h
 have:=cmp_swap a.1 b.1
 unfold ltK;omega
theorem sortPairs_eq {xs ks:List P2} (hn:(xs.map (·.1)).Nodup) (hp:ks.Perm xs) (hs:ks.Pairwise (fun a b=>¬ ltK b.1 a.1)):ks=sortPairs xs :=
 pairs_same (strict_of ((hp.map _).nodup_iff.2 hn) hs) (sortPairs_strict hn) fun k=>(hp.trans (List.mergeSort_perm xs leP).symm).mem_iff
theorem sort_pairs {B:Base} {d:List (PE B)} {d':Array (PE B)} (hp:PermIn 0 d.toArray.size d.toArray d') (hs:SortedIn (ltOf cmpP) 0 d.toArray.size d'):d'.size=d.length∧(d'.toList.map (·.1.2)).Perm (d.map (·.1.2))∧(d'.toList.map (·.1.2)).Pairwise (fun a b=>¬ ltK b.1 a.1):=by
 obtain ⟨h1,_,h2⟩:=hp
 have hsz:d'.size=d.length:=by simpa using h1
 have e1:(d'.extract 0 d.toArray.size).toList=d'.toList:=by simp [← hsz]
 have e2:(d.toArray.extract 0 d.toArray.size).toList=d:=by simp
 rw [e1,e2] at h2
 refine ⟨hsz,h2.map _,?_⟩
 rw [List.pairwise_map,List.pairwise_iff_getElem]
 intro i j hi hj hij
 have hi':i<d'.size:=by simpa using hi
 have hj':j<d'.size:=by simpa using hj
 have:=hs i j (Nat.zero_le _) hij (by simpa [hsz] using hj')
 rw [getElem!_pos d' j hj',getElem!_pos d' i hi'] at this
 have h5:¬ (Lib.compareBytes (d'[j]).1.2.1 (d'[i]).1.2.1<0):=of_decide_eq_false this
 show ¬ ltK _ _
 simpa [ltK] using h5
def sortTO (xs:List (List UInt8)):Option (List (List UInt8)):=if xs.length≤100000000 then some (xs.mergeSort fun x y=>decide (x≤y)) else none
theorem sortTO_some {xs r:List (List UInt8)} (h:sortTO xs=some r):xs.length≤100000000∧r=xs.mergeSort fun x y=>decide (x≤y):=by
 unfold sortTO at h
 split at h
 ·rename_i h0;cases h;exact ⟨h0,rfl⟩
 ·cases h
def delO (xs:List (List UInt8)) (tgt:List UInt8):Option (List (List UInt8)):=if xs.length≤100000000 then some (xs.filter fun x=>!leqB x tgt) else none
theorem delO_some {xs r:List (List UInt8)} {tgt:List UInt8} (h:delO xs tgt=some r):xs.length≤100000000∧r=xs.filter fun x=>!leqB x tgt:=by
 unfold delO at h
 split at h
 ·rename_i h0;cases h;exact ⟨h0,rfl⟩
 ·cases h
theorem St.apart {w0 w:World} {ls:List HP} {e:TypeId} {b b3 cap:Nat} {xs:List (List UInt8)} {cs:List Value} {t:TypeId} (H:St w0 w ls) (i j:Nat) (hi:ls[i]?=some (HP.ow rStr e (some ⟨b,0,none⟩) cap xs)) (hj:ls[j]?=some (HP.blk b3 cs t)) (hij:i≠j):Blk w b3 cs t∧b3<w.heap.size∧b3≠b:=by
 obtain ⟨_,B,f,hs,g1,g2,g3⟩:=H
 have hil:=(List.getElem?_eq_some_iff.1 hi).1
 have hjl:=(List.getElem?_eq_some_iff.1 hj).1
 obtain ⟨css,c0,_,hS⟩:=g1 i _ hi
 obtain ⟨k1,k2⟩:=g1 j _ hj
 exact ⟨k1,(g3 j b3 hjl k2).1,fun e=>hij (g2 i j b hil hjl (hS b rfl) (e▸k2))⟩
end Go.Tri
