/- Texts A1. -/
import Derived.WalkKit
import Derived.ProofKit
import Derived.OpenShut
import Derived.Deep.QuietTactic
import Derived.BigQuiet
import Derived.Lib.Hide
import Derived.StillTailTactics
import Derived.Lib.Bytealg
import Derived.Laws.AppendOwnNone
import Derived.DeepKeys
import Derived.Lib.Overlaps
import Derived.Deep.Slices
import Derived.ChangeOld
set_option linter.unusedSimpArgs false
set_option linter.unusedVariables false
/- Laws on rows of cells,aggregates by value and boxes,over any program: what a load,a store,an allocation of a struct or an array does,in terms of its list of cells. -/
namespace Go.Tri
open Go.RowKit
theorem obS {α β:Type _} (a:α) (f:α->Option β):(some a).bind f=f a:=rfl
theorem snocInd {α:Type} {p:List α->Prop} (nil:p []) (snoc:∀ l a,p l->p (l++[a])) (l:List α):p l:=by
 have:∀ m:List α,p m.reverse:=by
  intro m
  induction m with
  | nil=>exact nil
  | cons a m ih=>rw [List.reverse_cons];exact snoc _ _ ih
 have h:=this l.reverse
 grind
theorem iR (w:World) (o:Obj):(w.alloc o).heap[w.heap.size]?=some o:=by
 show (w.heap.push o)[w.heap.size]?=some o
 simp
theorem gZ (w:World) (o:Obj) (k:Nat) (h:k<w.heap.size):(w.alloc o).heap[k]?=w.heap[k]?:=by
 show (w.heap.push o)[k]?=w.heap[k]?
 grind
theorem aK3 {w:World} {b off:Nat} {v:Value} (h:w.cell? ⟨b,off,none⟩=some v):b<w.heap.size:=by grind [World.cell?]
theorem dQ (b off j:Nat):(⟨b,off,none⟩:Addr).add j=⟨b,off+j,none⟩:=by simp [Addr.add]
def Row (w:World) (b off:Nat) (cs:List Value):Prop:=∀ j v,cs[j]?=some v->w.cell? ⟨b,off+j,none⟩=some v
theorem Row.alloc {w:World} {b off:Nat} {cs:List Value} (h:Row w b off cs) (o:Obj):Row (w.alloc o) b off cs:=by
 intro j v hj
 have:=h j v hj
 grind [World.cell?,gZ]
theorem Row.new (w:World) (cs:List Value) (t:TypeId) (fr:Nat×Nat):Row (w.alloc (.cells cs.toArray t fr)) w.heap.size 0 cs:=by
 intro j v hj
 grind [World.cell?,iR]
theorem _root_.Go.RowKit.Below.drewN {B:Nat} {a w:World} (h:Below B a w) (n:Nat):Below B a (w.drewN n):=h.trans ⟨rfl,rfl,rfl,Nat.le_refl _,fun _ _=>rfl⟩
theorem Row.below {w w':World} {B b off:Nat} {cs:List Value} (h:Row w b off cs) (hb:Below B w w') (hB:b<B):Row w' b off cs:=by
 intro j v hj;rw [hb.cell (p:=⟨b,off+j,none⟩) hB];exact h j v hj
theorem Row.sub {w:World} {b off:Nat} {cs:List Value} (h:Row w b off cs) (k n:Nat):Row w b (off+k) ((cs.drop k).take n):=by
 intro j v hj
 rw [Nat.add_assoc]
 refine h (k+j) v ?_
 grind
theorem Row.nil (w:World) (b off:Nat):Row w b off []:=by intro j v h;grind
theorem Row.app {w:World} {b off:Nat} {xs ys:List Value} (h:Row w b off xs) (k:Row w b (off+xs.length) ys):Row w b off (xs++ys):=by
 intro j v hj
 rw [List.getElem?_append] at hj;split at hj
 ·exact h j v hj
 ·have:=k (j-xs.length) v hj
  grind
theorem Row.left {w:World} {b off:Nat} {xs ys:List Value} (h:Row w b off (xs++ys)):Row w b off xs:=by
 intro j v hj
 exact h j v (by grind)
theorem Row.right {w:World} {b off:Nat} {xs ys:List Value} (h:Row w b off (xs++ys)):Row w b (off+xs.length) ys:=by
 intro j v hj
 rw [Nat.add_assoc]
 exact h (xs.length+j) v (by grind)
def Blk (w:World) (b:Nat) (cs:List Value) (t:TypeId):Prop:=w.heap[b]?=some (.cells cs.toArray t (0,0))
theorem Blk.lt {w:World} {b:Nat} {cs:List Value} {t:TypeId} (h:Blk w b cs t):b<w.heap.size:=(Array.getElem?_eq_some_iff.1 h).1
theorem Blk.row {w:World} {b:Nat} {cs:List Value} {t:TypeId} (h:Blk w b cs t):Row w b 0 cs:=by
 intro j v hj;unfold Blk at h;simp [World.cell?,h,hj]
theorem Blk.cell {w:World} {b:Nat} {cs:List Value} {t:TypeId} (h:Blk w b cs t) (j:Nat):w.cell? ⟨b,j,none⟩=cs[j]?:=by grind [Blk,World.cell?]
theorem Blk.frozen {w:World} {b:Nat} {cs:List Value} {t:TypeId} (h:Blk w b cs t) (j:Nat):w.frozen? ⟨b,j,none⟩=false:=by grind [Blk,World.frozen?]
theorem Blk.alloc {w:World} {b:Nat} {cs:List Value} {t:TypeId} (h:Blk w b cs t) (o:Obj):Blk (w.alloc o) b cs t:=by grind [Blk,gZ]
theorem Blk.new (w:World) (cs:List Value) (t:TypeId):Blk (w.alloc (.cells cs.toArray t)) w.heap.size cs t:=iR w _
theorem Blk.below {w w':World} {B b:Nat} {cs:List Value} {t:TypeId} (h:Blk w b cs t) (hb:Below B w w') (hB:b<B):Blk w' b cs t:=by
 unfold Blk;rw [hb.block b hB];exact h
theorem Blk.grow {w w':World} {b:Nat} {cs:List Value} {t:TypeId} (h:Blk w b cs t) (hb:Below w.heap.size w w'):Blk w' b cs t:=h.below hb h.lt
theorem Blk.set_same {w:World} {b:Nat} {cs:List Value} {t:TypeId} (h:Blk w b cs t) (cs':List Value):Blk (w.setRow b cs'.toArray) b cs' t:=setRow_heap w b _ _ t _ h
theorem aB3 (w:World) (g k:Nat) (cs:Array Value) (h:k≠g):(w.setRow g cs).heap[k]?=w.heap[k]?:=by grind [World.setRow]
theorem _root_.Go.RowKit.Below.setRow {B:Nat} {a w:World} (h:Below B a w) {g:Nat} (hg:B<=g) (cs:Array Value):Below B a (w.setRow g cs) :=
 ⟨h.os,h.tape,h.output,by rw [size_setRow];exact h.size,fun k hk=>by rw [aB3 _ _ _ _ (by omega)];exact h.block k hk⟩
structure AggT (P:Program) (t:TypeId) (n:Nat) (z:List Value):Prop where
 desc:(P.underlying t).map (fun d=>match d with | .struct _ | .array _ _=>true | _=>false)=some true
 info:(P.info? t).map (fun i=>(i.size,i.zero))=some (n,some (.agg z.toArray))
 len:z.length=n
section
variable {P:Program} {t:TypeId} {n:Nat} {z:List Value}
theorem run_underlying {d:TypeDesc} (hu:P.underlying t=some d) (w:World):(underlying t).run P w=.ok d w:=by
 show (match P.underlying t with | some d => (pure d : Sem TypeDesc) | none => stuck "no such type").run P w = _
 simp_all
theorem run_typeInfo {i:TypeInfo} (hu:P.info? t=some i) (w:World):(typeInfo t).run P w=.ok i w:=by
 show (match P.info? t with | some i => (pure i : Sem TypeInfo) | none => stuck "no such type").run P w = _
 simp_all
theorem AggT.run_isAgg (h:AggT P t n z) (w:World):(isAgg t).run P w=.ok true w:=by
 have:=h.desc
 cases hu:P.underlying t with
 | none=>simp [hu] at this
 | some d =>
  rw [hu] at this
  unfold isAgg
  rw [Sem.run_bind,run_underlying hu]
  cases d<;>first | rfl | (simp at this)
theorem AggT.run_size (h:AggT P t n z) (w:World):(sizeOf t).run P w=.ok n w:=by
 have:=h.info
 cases hu:P.info? t with
 | none=>simp [hu] at this
 | some d =>
  unfold sizeOf
  simp_all [run_typeInfo]
theorem AggT.run_zero (h:AggT P t n z) (w:World):(zeroValue t).run P w=.ok (.agg z.toArray) w:=by
 have:=h.info
 cases hu:P.info? t with
 | none=>simp [hu] at this
 | some d =>
  unfold zeroValue
  simp_all [run_typeInfo]
theorem AggT.run_load (h:AggT P t n z) {w:World} {b off:Nat} {cs:List Value} (hr:Row w b off cs) (hn:cs.length=n) :
  (loadVar t ⟨b,off,none⟩).run P w=.ok (.agg cs.toArray) w:=by
 have hl:=run_loadCells_list (P:=P) w ⟨b,off,none⟩ cs (fun j v hj=>by rw [dQ];exact hr j v hj)
 unfold loadVar
 simp only [Sem.run_bind,h.run_isAgg,Result.andThen_ok,if_true,h.run_size,<- hn,hl,Sem.run_pure]
def Flat (cs:List Value):Prop:=∀ v∈cs,v.oneCell'=true
theorem AggT.run_store (h:AggT P t n z) {w:World} {b off:Nat} {old cs:List Value} {u:TypeId} (hb:Blk w b old u) (hn:cs.length=n) (ho:off+n<=old.length) (hf:Flat cs) :
  (storeVar t ⟨b,off,none⟩ (.agg cs.toArray)).run P w=.ok () (w.setRow b (old.take off++cs++old.drop (off+n)).toArray):=by
 have e:=run_storeCells_at (P:=P) b off u cs 0 old.toArray w hb (by grind) hf
 simp only [hn] at e
 unfold storeVar
 simp only [Sem.run_bind,h.run_size,Result.andThen_ok,Value.cells,List.size_toArray,hn,ne_eq]
 exact e
theorem AggT.run_store0 (h:AggT P t n z) {w:World} {b:Nat} {old cs:List Value} {u:TypeId} (hb:Blk w b old u) (hn:cs.length=n) (ho:old.length=n) (hf:Flat cs) :
  (storeVar t ⟨b,0,none⟩ (.agg cs.toArray)).run P w=.ok () (w.setRow b cs.toArray):=by
 have e:=h.run_store (off:=0) hb hn (by omega) hf
 grind
variable {ops:Array Oper} {rest:List Oper} {o:Oper} {a:Act} {w:World} {Q:Exit->Act->World->Prop}
theorem wl_alloc (h:AggT P t n z) (ho:o.op=.alloc t) (hgd:Region.wanted o (yielded ops a.tmps)=true)
  (hk:wpList P ops Q rest (a.put o.dst (.pointer (some ⟨w.heap.size,0,none⟩))) (w.alloc (.cells z.toArray t))):wpList P ops Q (o::rest) a w:=by
 refine BigFrame.wpList_want hgd fun K hK=>?_
 unfold Oper.wp execOp
 simp only [ho,Instr.alloc,Sem.run_bind,h.run_zero,newVar,newRow,newObj]
 exact hK _ _ hk
theorem wl_load (h:AggT P t n z) {x:Operand} (ho:o.op=.load t x) (hgd:Region.wanted o (yielded ops a.tmps)=true) {b off:Nat} (hx:a.eval x=.pointer (some ⟨b,off,none⟩))
  {cs:List Value} (hr:Row w b off cs) (hn:cs.length=n)
  (hk:wpList P ops Q rest (a.put o.dst (.agg cs.toArray)) w):wpList P ops Q (o::rest) a w:=by
 refine BigFrame.wpList_want hgd fun K hK=>?_
 unfold Oper.wp execOp
 simp only [ho,hx,Instr.loadAt,Instr.sureAddr,Sem.run_bind,Sem.run_pure,Result.andThen_ok,h.run_load hr hn]
 exact hK _ _ hk
end
end Go.Tri
namespace Go.Tri
section
variable {P:Program} {md:Region.Mode} {ops:Array Oper} {C:World->Prop}
def oM (P:Program) (md:Region.Mode) (ops:Array Oper) (C:World->Prop) (n:Nat) (L:Array Bool->Act->Prop):Nat->Array Bool->Act->Prop
 | 0,listed,a=>L listed a
 | f+1,listed,a=>Region.ready md ops listed≠[]/\∀ i∈Region.ready md ops listed,i<n/\qOp P ops C i (oM P md ops C n L f (listed.setIfInBounds i true)) a
theorem aG7 {n g:Nat} {L:Array Bool->Act->Prop} {Q:Exit->Act->World->Prop} (hL:∀ listed a w,C w->L listed a->wpAny P md ops Q g listed a w) :
  ∀ (f:Nat) (listed:Array Bool) (a:Act) (w:World),C w->oM P md ops C n L f listed a->wpAny P md ops Q (f+g) listed a w
 | 0,listed,a,w,hw,h=>by rw [Nat.zero_add];exact hL _ _ _ hw h
 | f+1,listed,a,w,hw,h=>by
  rw [show f+1+g=(f+g)+1 by omega]
  exact ⟨fun h0=>absurd h0 h.1,fun i hi=>wpOp_of_qOp hw (fun a' w' hw' h'=>aG7 hL f _ a' w' hw' h') (h.2 i hi).2⟩
theorem aMb {n i:Nat} {oi:Oper} {v:Value} {L:Array Bool->Act->Prop} (hi:ops[i]?=some oi) (hsel:∀ (j:Nat) (o:Oper) cs b,ops[j]?=some o->o.op≠.select cs b)
  (hs:Region.sinkB md ops n=true) (hc:Region.chainB md ops n=true) (hn:n<ops.size) (hin:i<n)
  (hdone:∀ listed a,L listed a->∀ j∈Region.ready md ops listed,n<=j) :
  ∀ (f:Nat) (listed:Array Bool) (a:Act),HeadInv md ops n listed ->
   (∀ j oj,ops[j]?=some oj->j≠i->listed.getD j true=false->(∀ e∈oj.after,Region.binds md e=true->e.on≠i)->oi.apart ops oj=true) ->
   i∈Region.ready md ops listed->YieldsIn P ops C oi v a ->
   oM P md ops C n L f (listed.setIfInBounds i true) (a.put oi.dst v)->oM P md ops C n L (f+1) listed a:=by
 intro f
 induction f with
 | zero =>
  intro listed a inv _ hr hy H
  have hun:=(mem_ready.1 hr).1
  refine ⟨fun h=>(by rw [h] at hr;cases hr),fun j hj=>?_⟩
  have hjn:j<n:=by
   rcases Nat.lt_or_ge j n with h | h
   ·exact h
   ·exact absurd hj (tail_waits hs hc hn inv _ i rfl hin hun j h)
  refine ⟨hjn,?_⟩
  by_cases hji:j=i
  ·subst hji;exact hy.qOp hi H
  ·have:=hdone _ _ H j (ready_mono hj hji)
   omega
 | succ f ih =>
  intro listed a inv hfree hr hy H
  have hun:=(mem_ready.1 hr).1
  refine ⟨fun h=>(by rw [h] at hr;cases hr),fun j hj=>?_⟩
  have hjn:j<n:=by
   rcases Nat.lt_or_ge j n with h | h
   ·exact h
   ·exact absurd hj (tail_waits hs hc hn inv _ i rfl hin hun j h)
  refine ⟨hjn,?_⟩
  by_cases hji:j=i
  ·subst hji;exact hy.qOp hi H
  ·have h1:=(H.2 j (ready_mono hj hji)).2
   obtain ⟨hjun,oj,hoj,hall⟩:=mem_ready.1 hj
   have hnot:∀ e∈oj.after,Region.binds md e=true->e.on≠i:=fun e he hb heq=>by
    have h1:=hall e he hb
    rw [heq,getD_both hun] at h1
    cases h1
   have h2:=qOp_put hoj (hfree j oj hoj hji hjun hnot) (fun cs b=>hsel i oi cs b hi) (fun cs b=>hsel j oj cs b hoj) hy h1
   have hfree':∀ k ok,ops[k]?=some ok->k≠i->(listed.setIfInBounds j true).getD k true=false ->
     (∀ e∈ok.after,Region.binds md e=true->e.on≠i)->oi.apart ops ok=true:=fun k ok hk hki hun hno=>by
    refine hfree k ok hk hki ?_ hno
    by_cases hjk:j=k
    ·subst hjk;exact hjun
    ·rw [getD_set_ne true hjk] at hun;exact hun
   refine qOp_mono (fun a' h3=>ih (listed.setIfInBounds j true) a' (inv.set hj hjn) hfree' (ready_mono hr (Ne.symm hji)) h3.1 ?_) h2
   rw [Array.setIfInBounds_comm _ _ hji]
   exact h3.2
theorem aEm {n g:Nat} {Lq:Act->Prop} (hsel:Region.noSelect ops=true) (hs:Region.sinkB md ops n=true) (hc:Region.chainB md ops n=true) (hn:n<ops.size) :
  ∀ (l:List Oper) (k:Nat) (listed:Array Bool) (a:Act),(∀ j,j<l.length->l[j]?=ops[k+j]?)->k+l.length=n->HeadInv md ops n listed ->
  Region.lexHead md ops g l.length k listed=true->wpQuiet P ops C Lq l a ->
  oM P md ops C n (fun listed' a'=>Region.seqB md ops g n listed'=true/\Lq a') l.length listed a
 | [],k,listed,a,_,hk,_,hB,h=>by
  have:k=n:=by simpa using hk
  subst this
  exact ⟨by simpa [Region.lexHead] using hB,h⟩
 | o::l,k,listed,a,hl,hk,inv,hB,h=>by
  have h0:ops[k]?=some o:=by simpa using (hl 0 (by simp)).symm
  simp only [List.length_cons,Region.lexHead,Bool.and_eq_true] at hB
  obtain ⟨⟨hr,hf⟩,hB'⟩:=hB
  have hkn:k<n:=by simp only [List.length_cons] at hk;omega
  have hr':k∈Region.ready md ops listed:=by simpa using hr
  have hst:qOp P ops C k (wpQuiet P ops C Lq l) a:=by unfold qOp;simp only [h0];exact h
  obtain ⟨v,hy,hK⟩:=yieldsIn_of_qOp h0 hst
  exact aMb h0 (Region.noSelect_spec hsel) hs hc hn hkn (fun listed' a' hL=>seqB_ready hL.1) l.length listed a inv (Region.free_spec h0 hf) hr' hy
   (aEm hsel hs hc hn l (k+1) _ _ (fun j hj=>by have:=hl (j+1) (by simp;omega);simpa [Nat.add_assoc,Nat.add_comm 1 j] using this) (by simp only [List.length_cons] at hk;omega) (inv.set hr' hkn) hB' hK)
theorem pO {id:Nat} {Q:Exit->Act->World->Prop} {a:Act} {w:World} {l:List Oper} (n:Nat) (hm:P.follows .mixedOrders=true) (hB:Region.lexTailB .any l.toArray n=true)
  (h:wpQuiet P l.toArray (fun w'=>∃ n,w'=w.drewN n) (fun a'=>∀ w',(∃ n,w'=w.drewN n)->wpList P l.toArray Q (l.drop n) a' w') (l.take n) a):(Code.region id l.toArray true).wp P Q a w:=by
 simp only [Region.lexTailB,Bool.and_eq_true,decide_eq_true_eq] at hB
 obtain ⟨⟨⟨⟨hsel,hn⟩,hs⟩,hc⟩,hlex⟩:=hB
 have hn':n<l.length:=by simpa using hn
 have htl:(l.take n).length=n:=by simp;omega
 have hdl:(l.drop n).length=l.toArray.size-n:=by simp
 have inv0:HeadInv .any l.toArray n (Array.replicate l.toArray.size false) :=
  ⟨by simp,fun j oj _ hl=>(by rw [getD_replicate_false] at hl;cases hl),fun t _ ht=>getD_in (by simpa using ht) (getD_replicate_false _ _)⟩
 have H:=aEm (md:=.any) (g:=l.toArray.size-n) hsel hs hc hn (l.take n) 0 _ a (fun j hj=>by
  have hj':j<n:=by rw [htl] at hj;exact hj
  simp [hj']) (by simpa using htl) inv0 (by rw [htl];exact hlex) h
 refine wp_region_any hm ?_
 have:=aG7 (Q:=Q) (g:=l.toArray.size-n) (fun listed a' w' hw' hL=>by
  have:=wpAny_of_seq (md:=.any) (Q':=Q) (l.drop n) n listed a' w' (fun j=>by simp [List.getElem?_drop]) (by rw [hdl];exact hL.1) (hL.2 w' hw')
  rwa [hdl] at this) _ _ _ { w with drawn:=w.drawn+1 } ⟨1,rfl⟩ H
 rw [htl,show n+(l.toArray.size-n)=l.toArray.size by omega] at this
 exact this
end
section
variable {P:Program} {ops:Array Oper} {rest:List Oper} {o:Oper} {a:Act} {Q:Act->Prop} {C:World->Prop}
end
end Go.Tri
namespace Go.Tri
open Go.RowKit
structure Chg (b:Nat) (w w':World):Prop where
 os:w'.os=w.os
 tape:w'.tape=w.tape
 output:w'.output=w.output
 size:w'.heap.size=w.heap.size
 oth:∀ k,k≠b->w'.heap[k]?=w.heap[k]?
theorem Blk.chg {w w':World} {b g:Nat} {cs:List Value} {t:TypeId} (h:Blk w b cs t) (hc:Chg g w w') (hne:b≠g):Blk w' b cs t:=by
 unfold Blk;rw [hc.oth b hne];exact h
theorem Row.chg {w w':World} {b g off:Nat} {cs:List Value} (h:Row w b off cs) (hc:Chg g w w') (hne:b≠g):Row w' b off cs:=by
 intro j v hj
 have:=h j v hj
 unfold World.cell? at this ⊢
 rw [hc.oth b hne];exact this
theorem _root_.Go.RowKit.Below.chg {B:Nat} {a w w':World} (h:Below B a w) {g:Nat} (hc:Chg g w w') (hg:B<=g):Below B a w' :=
 ⟨hc.os.trans h.os,hc.tape.trans h.tape,hc.output.trans h.output,by rw [hc.size];exact h.size,fun k hk=>by rw [hc.oth k (by omega)];exact h.block k hk⟩
theorem Chg.setRow (w:World) (b:Nat) (cs:Array Value):Chg b w (w.setRow b cs):=⟨rfl,rfl,rfl,size_setRow w b cs,fun k hk=>aB3 w b k cs hk⟩
def MapB (w:World) (b:Nat) (kv:List (Value×Value)):Prop :=
 ∃ es clock,w.heap[b]?=some (.map es clock)/\es.toList.map (fun e=>(e.key,e.val))=kv
theorem MapB.lt {w:World} {b:Nat} {kv:List (Value×Value)} (h:MapB w b kv):b<w.heap.size:=by
 obtain ⟨es,c,h,_⟩:=h;exact (Array.getElem?_eq_some_iff.1 h).1
theorem MapB.new (w:World):MapB (w.alloc (.map #[] 0)) w.heap.size []:=⟨#[],0,iR w _,rfl⟩
theorem MapB.alloc {w:World} {b:Nat} {kv:List (Value×Value)} (h:MapB w b kv) (o:Obj):MapB (w.alloc o) b kv:=by
 obtain ⟨es,c,h,e⟩:=h;exact ⟨es,c,by grind [gZ],e⟩
theorem MapB.below {w w':World} {B b:Nat} {kv:List (Value×Value)} (h:MapB w b kv) (hb:Below B w w') (hB:b<B):MapB w' b kv:=by
 obtain ⟨es,c,h,e⟩:=h;exact ⟨es,c,by rw [hb.block b hB];grind,e⟩
theorem MapB.grow {w w':World} {b:Nat} {kv:List (Value×Value)} (h:MapB w b kv) (hb:Below w.heap.size w w'):MapB w' b kv:=h.below hb h.lt
theorem MapB.chg {w w':World} {b g:Nat} {kv:List (Value×Value)} (h:MapB w b kv) (hc:Chg g w w') (hne:b≠g):MapB w' b kv:=by
 obtain ⟨es,c,h,e⟩:=h;exact ⟨es,c,by rw [hc.oth b hne];grind,e⟩
def bV {K V:Type} [DecidableEq K] (k:K) (v:V):List (K×V)->List (K×V)
 | []=>[(k,v)]
 | (k',v')::r=>if k'=k then (k,v)::r else (k',v')::bV k v r
def aZ {K V:Type} [DecidableEq K] (k:K):List (K×V)->Option V
 | []=>none
 | (k',v')::r=>if k'=k then some v' else aZ k r
def ikv (q:IntKind) (l:List (Int×Value)):List (Value×Value):=l.map fun p=>(.int q p.1,p.2)
theorem aLv (q q':IntKind) (k:Int):∀ (es:List MapEntry) (l:List (Int×Value)) (i:Nat),es.map (fun e=>(e.key,e.val))=ikv q l ->
  (aZ k l=none->Instr.findNow (.int q') (.int q k) es i=some none) /\
  (∀ v,aZ k l=some v->∃ j,Instr.findNow (.int q') (.int q k) es i=some (some (i+j,v))/\(es[j]?).map (·.key)=some (.int q k)/\∀ x,((es.modify j fun e=>{ e with key:=.int q k,val:=x }).map fun e=>(e.key,e.val))=ikv q (bV k x l))
 | [],l,i,h=>by
  cases l with
  | nil=>exact ⟨fun _=>rfl,fun v hv=>by cases hv⟩
  | cons p l=>simp [ikv] at h
 | e::es,l,i,h=>by
  cases l with
  | nil=>simp [ikv] at h
  | cons p l =>
   obtain ⟨k',v'⟩:=p
   simp only [ikv,List.map_cons,List.cons.injEq,Prod.mk.injEq] at h
   obtain ⟨⟨hk,hv⟩,ht⟩:=h
   have ih:=aLv q q' k es l (i+1) ht
   by_cases hkk:k'=k
   ·subst hkk
    refine ⟨fun hn=>by simp [aZ] at hn,fun v hv'=>⟨0,?_,?_,?_⟩⟩
    ·simp only [aZ,if_true,Option.some.injEq] at hv'
     subst hv'
     simp [Instr.findNow,Instr.sameNow,hk,hv]
    ·simp [hk]
    ·intro x
     simp only [List.modify_cons,bV,ikv,List.map_cons,if_true]
     rw [ht]
   ·have hne:(k==k')=false:=by simp;exact fun hh=>hkk hh.symm
    have hs:Instr.findNow (.int q') (.int q k) (e::es) i=Instr.findNow (.int q') (.int q k) es (i+1):=by
     simp [Instr.findNow,Instr.sameNow,hk,hne]
    rw [hs]
    refine ⟨fun hn=>ih.1 (by simpa [aZ,hkk] using hn),fun v hv'=>?_⟩
    obtain ⟨j,h1,h2,h3⟩:=ih.2 v (by simpa [aZ,hkk] using hv')
    refine ⟨j+1,?_,by simpa using h2,fun x=>?_⟩
    ·rw [h1];congr 3;omega
    ·simp only [List.modify_cons,Nat.add_eq_zero_iff,Nat.add_sub_cancel,bV,hkk,if_false,ikv,List.map_cons]
     have:=h3 x
     simp only [ikv] at this
     simp [this,hk,hv]
theorem aBa {K V:Type} [DecidableEq K] (k:K) (v:V):∀ l:List (K×V),aZ k l=none->bV k v l=l++[(k,v)]
 | [],_=>rfl
 | (k',v')::r,h=>by
  by_cases hk:k'=k
  ·grind [aZ]
  ·simp only [bV,hk,if_false,List.cons_append]
   rw [aBa k v r (by grind [aZ])]
section
variable {P:Program} {T K E:TypeId} {q:IntKind} {w:World} {b:Nat} {l:List (Int×Value)}
theorem run_findKey (hK:P.underlying K=some (.int q)) (k:Int) (es:List MapEntry) (r:Option (Nat×Value)) (w:World) (h:Instr.findNow (.int q) (.int q k) es 0=some r) :
  (Instr.findKey K (.int q k) es).run P w=.ok r w:=by simp_all [Instr.findKey,run_underlying]
theorem run_checkKey (hK:P.underlying K=some (.int q)) (e:Bool) (n:Nat) (k:Int) (w:World):(Instr.checkKey e (n+1) K (.int q k)).run P w=.ok () w:=by simp_all [Instr.checkKey,run_underlying]
theorem kE (w:World) (b:Nat) (es:Array MapEntry) (c:Nat) (h:w.heap[b]?=some (.map es c)):(getObj b).run P w=.ok (.map es c) w:=by
 unfold getObj Sem.run
 simp_all
theorem qD (w:World) (b:Nat) (es:Array MapEntry) (c:Nat) (o:Obj) (h:w.heap[b]?=some (.map es c)):(setObj b o).run P w=.ok () { w with heap:=w.heap.setIfInBounds b o }:=by
 unfold setObj Sem.run
 simp_all
variable {ops:Array Oper} {rest:List Oper} {o:Oper} {a:Act} {Q:Exit->Act->World->Prop}
end
def aQ (l:List UInt8):List Value:=l.map fun c=>.int .u8 c.toNat
theorem aR (l:List UInt8):(aQ l).length=l.length:=by simp [aQ]
theorem wT (l:List UInt8):Flat (aQ l):=by
 intro v hv;simp only [aQ,List.mem_map] at hv;obtain ⟨c,_,rfl⟩:=hv;rfl
def Sl (w:World) (v:Value) (n:Nat) (cs:List Value):Prop :=
 (v=.slice none 0 0/\n=0/\cs=[])\/(∃ a cap,v=.slice (some a) 0 cap/\n=0/\cs=[])\/∃ b off cap,v=.slice (some ⟨b,off,none⟩) n cap/\n<=cap/\Row w b off cs
theorem Row.grow {w w':World} {b off:Nat} {cs:List Value} (h:Row w b off cs) (hb:Below w.heap.size w w'):Row w' b off cs:=by
 intro j v hj
 have:=h j v hj
 rw [hb.cell (p:=⟨b,off+j,none⟩) (aK3 this)];exact this
theorem Sl.grow {w w':World} {v:Value} {n:Nat} {cs:List Value} (h:Sl w v n cs) (hb:Below w.heap.size w w'):Sl w' v n cs:=by
 rcases h with h | h | ⟨b,off,cap,h1,h2,h3⟩
 ·exact .inl h
 ·exact .inr (.inl h)
 ·exact .inr (.inr ⟨b,off,cap,h1,h2,h3.grow hb⟩)
theorem Sl.alloc {w:World} {v:Value} {n:Nat} {cs:List Value} (h:Sl w v n cs) (o:Obj):Sl (w.alloc o) v n cs:=by
 rcases h with h | h | ⟨b,off,cap,h1,h2,h3⟩
 ·exact .inl h
 ·exact .inr (.inl h)
 ·exact .inr (.inr ⟨b,off,cap,h1,h2,h3.alloc o⟩)
structure ElemT (P:Program) (t e:TypeId) (size bytes:Nat) (z:Value):Prop where
 ht:P.underlying t=some (.slice e)
 hi:(P.info? e).map (fun i=>(i.zero,i.size,i.bytes))=some (some z,size,bytes)
 hz:z.cells.size=size
 hs:0<size
theorem rQ {w:World} {base:Nat} {e:TypeId} {size:Nat} {v:Value} {n:Nat} {xs:List Value} (h:w.ownsRow base e size v n xs):Sl w v n xs:=by
 obtain ⟨hl,⟨rfl,rfl⟩ | ⟨g,cap,cur,rfl,hb,hg,hc,hm,hs,ht⟩⟩:=h
 ·refine .inl ⟨rfl,rfl,?_⟩
  grind
 ·refine .inr (.inr ⟨g,0,cap,rfl,hc,?_⟩)
  intro j u hj
  grind [World.cell?]
theorem Blk.grown {w w':World} {b:Nat} {cs:List Value} {t:TypeId} {row:Option Nat} (h:Blk w b cs t) (hg:w.grownBy w' row) (hne:some b≠row):Blk w' b cs t:=by
 unfold Blk;rw [hg.block b h.lt hne];exact h
theorem run_loadBytes {P:Program} (w:World) (b:Nat):∀ (l:List UInt8) (off:Nat) (acc:ByteArray),Row w b off (aQ l) ->
  (Extern.Bytes.loadBytes ⟨b,off,none⟩ l.length acc).run P w=.ok ⟨(acc.data.toList++l).toArray⟩ w:=by
 intro l
 induction l with
 | nil=>intro off acc _;simp [Extern.Bytes.loadBytes]
 | cons c l ih =>
  intro off acc h
  have h0:=h 0 (.int .u8 c.toNat) rfl
  rw [Nat.add_zero] at h0
  have hr:Row w b (off+1) (aQ l):=by
   intro j v hj
   have:=h (j+1) v (by simpa [aQ] using hj)
   rw [show off+1+j=off+(j+1) from by omega];exact this
  have hl:(Go.load (⟨b,off,none⟩:Addr)).run P w=.ok (.int .u8 c.toNat) w:=by rw [run_load,h0]
  simp only [List.length_cons,Extern.Bytes.loadBytes]
  rw [Sem.run_bind,hl]
  simp only [Result.andThen_ok,dQ]
  rw [ih (off+1) _ hr]
  have hc:(c.toNat:Int).toNat.toUInt8=c:=by simp
  rw [hc]
  simp [ByteArray.push]
theorem aHi {P:Program} {w:World} {v:Value} {l:List UInt8} (h:Sl w v l.length (aQ l)) :
  (Extern.Bytes.bytesOf v).run P w=.ok ⟨l.toArray⟩ w:=by
 rcases h with ⟨rfl,hn,_⟩ | ⟨ad,cap,rfl,hn,_⟩ | ⟨b,off,cap,rfl,_,hr⟩
 ·obtain rfl:l=[]:=by grind
  rfl
 ·obtain rfl:l=[]:=by grind
  rfl
 simp_all [run_loadBytes,Extern.Bytes.bytesOf]
theorem aIx {P:Program} {w:World} {v u:Value} {l m:List UInt8} (h:Sl w v l.length (aQ l)) (k:Sl w u m.length (aQ m)) :
  (Extern.BytealgCompare.compare #[v,u]).run P w=.ok (.int .i64 (Lib.compareBytes l m)) w:=by
 show Sem.run P (do pure (goInt (Extern.BytealgCompare.cmp (<- Extern.Bytes.bytesOf v) (<- Extern.Bytes.bytesOf u)))) w=_
 simp only [Sem.run_bind,aHi h,aHi k,Result.andThen_ok,Lib.cmp_eq,Sem.run_pure,goInt]
theorem mapM_some {α β:Type} {f:α->Option β} {g:α->β}:∀ (l:List α),(∀ i∈l,f i=some (g i))->l.mapM f=some (l.map g)
 | [],_=>rfl
 | a::l,h=>by
  rw [List.mapM_cons,h a (by simp),mapM_some l (fun i hi=>h i (by grind))]
  rfl
section
variable {P:Program}
theorem keyLits_int {t:TypeId} {q:IntKind} (h:P.underlying t=some (.int q)) (D:Nat) (n:Int) (hw:(Lit.int q n).wf=true):P.keyLits (D+1) t [.int q n]=some [.int q n]:=by simp_all [Program.keyLits]
theorem aPn (c:UInt8):(Lit.int .u8 c.toNat).wf=true:=by
 have:=c.toNat_lt
 grind [Lit.wf,IntKind.min,IntKind.max,IntKind.signed,IntKind.bits]
theorem aC6 {t e:TypeId} {n:Nat} (h:P.underlying t=some (.array n e)) (he:P.underlying e=some (.int .u8)) (hc:P.cellsOf e=1) (hC:P.cellsOf t=n) (D:Nat) (l:List UInt8) (hl:l.length=n) :
  P.keyLits (D+2) t (aQ l)=some (l.map fun c=>.int .u8 c.toNat):=by
 unfold Program.keyLits
 simp only [h]
 rw [if_pos (by rw [aR,hC,hl]),hc]
 rw [mapM_some (g:=fun i=>[Lit.int .u8 (l.getD i 0).toNat])]
 ·simp only [Option.map_some,Option.some.injEq]
  apply List.ext_getElem?
  intro i
  rw [<- hl]
  have:((List.range l.length).map fun i=>[Lit.int .u8 (l.getD i 0).toNat]).flatten=l.map fun c=>Lit.int .u8 c.toNat:=by
   clear hl
   induction l with
   | nil=>rfl
   | cons c l ih =>
    rw [List.length_cons,List.range_succ_eq_map,List.map_cons,List.flatten_cons,List.map_map]
    simpa [Function.comp_def] using ih
  rw [this]
 ·intro i hi
  have hi':i<l.length:=by rw [hl];simpa using hi
  have:((aQ l).drop (i*1)).take 1=[Value.int .u8 (l.getD i 0).toNat]:=by
   rw [Nat.mul_one,List.take_one]
   simp [aQ,List.head?_drop,hi',List.getD]
  rw [this]
  exact keyLits_int he D _ (aPn _)
theorem zN:∀ (l m:List UInt8),(l.map fun c=>Lit.int .u8 c.toNat)=(m.map fun c=>Lit.int .u8 c.toNat)->l=m
 | [],[],_=>rfl
 | [],_::_,h=>by grind
 | _::_,[],h=>by simp at h
 | a::l,b::m,h=>by
  simp only [List.map_cons,List.cons.injEq] at h
  rw [zN l m h.2]
  grind [UInt8.toNat_inj]
theorem aJ6 {t:TypeId} {m:Nat} (hm:m<=10000) (hk:P.keyTypeAt m t=true) {cs ds:List Value} (hc:(Value.agg cs.toArray).formed P t=true) (hd:(Value.agg ds.toArray).formed P t=true)
  {D D':Nat} {la lb:List Lit} (ha:P.keyLits D t cs=some la) (hb:P.keyLits D' t ds=some lb) (hg:P.eqGuardType P.depth t=false) (w:World) (x y:Operand) (c:Bool) (hcc:c=true↔la=lb) :
  (do eqGuard .eql t x y (.agg cs.toArray) (.agg ds.toArray);binOp .eql t (.agg cs.toArray) (.agg ds.toArray)).run P w=.ok (.bool c) w /\
  (do eqGuard .neq t x y (.agg cs.toArray) (.agg ds.toArray);binOp .neq t (.agg cs.toArray) (.agg ds.toArray)).run P w=.ok (.bool (!c)) w:=by
 have E:=run_equalIn_deep (P:=P) (10000-m) m t hk
 rw [Nat.sub_add_cancel hm] at E
 obtain ⟨r,hr,hi⟩:=E w D D' _ _ la lb hc hd (by simpa [Value.cells] using ha) (by simpa [Value.cells] using hb)
 have:r=c:=by
  rw [Bool.eq_iff_iff];exact hi.trans hcc.symm
 subst this
 constructor
 ·rw [Sem.run_bind,run_eqGuard_agg w _ _ _ _ _ _ hg,Result.andThen_ok,run_eql_struct,hr];rfl
 ·rw [Sem.run_bind,run_eqGuard_agg w _ _ _ _ _ _ hg,Result.andThen_ok,run_neq_struct,hr];rfl
variable {ops:Array Oper} {rest:List Oper} {o:Oper} {a:Act} {w:World} {Q:Exit->Act->World->Prop}
end
theorem aFq (xs cs rs:List Value) (a b c L:Nat) (hx:xs.length=b) (hb:b+c<=L) (ha:a<=b) (hc:cs.length=c) (hl:(xs.take a).length+rs.length=L) :
  let D0:=xs.take a++rs
  let D1:=D0.take a++cs++D0.drop (a+cs.length)
  let D2:=D1.take (a+c)++xs.drop a++D1.drop (a+c+(xs.drop a).length)
  D0.length=L/\D1.length=L/\D2.length=L/\D2.take (b+c)=xs.take a++cs++xs.drop a:=by
 have ht:(xs.take a).length=a:=by rw [List.length_take];omega
 have hd:(xs.drop a).length=b-a:=by rw [List.length_drop,hx]
 intro D0 D1 D2
 have h0:D0.length=L:=by simp only [D0,List.length_append];omega
 have e0:D0.take a=xs.take a:=by simp only [D0];rw [List.take_append_of_le_length (by omega),List.take_of_length_le (by omega)]
 have h1:D1.length=L:=by simp only [D1,List.length_append,List.length_drop,h0,e0,ht];omega
 have e1:D1.take (a+c)=xs.take a++cs:=by
  simp only [D1];rw [e0,List.take_append_of_le_length (by rw [List.length_append,ht];omega),List.take_of_length_le (by rw [List.length_append,ht];omega)]
 have hl2:(xs.take a++cs++xs.drop a).length=b+c:=by simp only [List.length_append,hc,hd,ht];omega
 refine ⟨h0,h1,?_,?_⟩
 ·simp only [D2];rw [e1,List.length_append,hl2,List.length_drop,h1,hd];omega
 ·simp only [D2];rw [e1,List.take_append_of_le_length (by omega),List.take_of_length_le (by omega)]
theorem aBo (cur xs cs:List Value) (a b c:Nat) (hx:cur.take b=xs) (hb:b+c<=cur.length) (ha:a+c<=b) (hc:cs.length=c) :
  let C1:=cur.take (a+c)++xs.drop a++cur.drop (a+c+(xs.drop a).length)
  let C2:=C1.take a++cs++C1.drop (a+cs.length)
  C1.length=cur.length/\C2.length=cur.length/\C2.take (b+c)=xs.take a++cs++xs.drop a:=by
 have hxl:xs.length=b:=by rw [<- hx,List.length_take];omega
 have h1:(cur.take (a+c)).length=a+c:=by rw [List.length_take];omega
 have hd:(xs.drop a).length=b-a:=by rw [List.length_drop,hxl]
 have ht:cur.take a=xs.take a:=by rw [<- hx,List.take_take,Nat.min_eq_left (by omega)]
 intro C1 C2
 have hC1:C1.length=cur.length:=by simp only [C1,List.length_append,h1,hd,List.length_drop];omega
 have e1:C1.take a=xs.take a:=by
  simp only [C1]
  rw [List.append_assoc,List.take_append_of_le_length (by omega),List.take_take,Nat.min_eq_left (by omega),ht]
 have e2:C1.drop (a+cs.length)=xs.drop a++cur.drop (a+c+(xs.drop a).length):=by
  simp only [C1]
  rw [hc,List.append_assoc,List.drop_append_of_le_length (by omega),List.drop_of_length_le (by omega),List.nil_append]
 have hC2:C2=xs.take a++cs++xs.drop a++cur.drop (a+c+(xs.drop a).length):=by simp only [C2];rw [e1,e2,List.append_assoc,List.append_assoc,List.append_assoc]
 have hl:(xs.take a++cs++xs.drop a).length=b+c:=by
  simp only [List.length_append,hc,hd,List.length_take,hxl];omega
 refine ⟨hC1,?_,?_⟩
 ·rw [hC2,List.length_append,hl,List.length_drop,hd];omega
 ·rw [hC2,List.take_append_of_le_length (by omega),List.take_of_length_le (by omega)]
section
variable {P:Program} {t e:TypeId} {size bytes:Nat} {z:Value}
theorem ElemT.parts (hE:ElemT P t e size bytes z):∃ i,P.info? e=some i/\i.zero=some z/\i.size=size/\i.bytes=bytes:=info_parts hE.hi
theorem aLb (hE:ElemT P t e size bytes z) {w:World} {g off dLen dCap b so sLen sCap:Nat} {cur cs:List Value} {u ty:TypeId} (hb:Blk w g cur u) (hr:Row w b so cs)
  (hn:cs.length=Nat.min sLen dLen*size) (hfit:off+cs.length<=cur.length) (hf:Flat cs) :
  (Builtin.copy_ #[t,t] ty #[.slice (some ⟨g,off,none⟩) dLen dCap,.slice (some ⟨b,so,none⟩) sLen sCap]).run P w =
   .ok (.int .i64 (Nat.min sLen dLen:Nat)) (w.setRow g (cur.take off++cs++cur.drop (off+cs.length)).toArray):=by
 obtain ⟨i,hi,_,hs,_⟩:=hE.parts
 have hl:=run_loadCells_list (P:=P) w ⟨b,so,none⟩ cs (fun j v hj=>by rw [dQ];exact hr j v hj)
 have hst:=run_storeCells_at (P:=P) g off u cs 0 cur.toArray w hb (by grind) hf
 simp [Builtin.copy_,Go.run_underlying hE.ht,Builtin.lenOf,Builtin.firstCells,sizeOf,typeInfo,hi,hs,<- hn,hl,hst,goInt]
theorem aIe (hE:ElemT P t e size bytes z) {w:World} {ti ty:TypeId} (hti:P.underlying ti=some (.int .i64)) {g n cap k:Nat} {olds:List Value} (hr:Row w g 0 olds) (hlo:olds.length=n*size)
  (hkp:0<k) (hg:cap<n+k) (hm:n+k<=maxLen) (hbytes:(n+k)*bytes<=140737488355328) :
  ∃ (c:Nat) (rest:List Value),n+k<=c/\c<=maxLen/\olds.length+rest.length=c*size /\
   (Builtin.append_ #[t,ti] ty #[.slice (some ⟨g,0,none⟩) n cap,.int .i64 k]).run P w=.ok (.slice (some ⟨w.heap.size,0,none⟩) (n+k) c) (w.drew.alloc (.cells (olds++rest).toArray e)):=by
 obtain ⟨i,hi,hz,hs,hby⟩:=hE.parts
 have hzs:=hE.hz
 have hpos:=hE.hs
 refine ⟨grownCap w (n+k) cap e,(Builtin.zeroCells z.cells k).toList++(Builtin.zeroCells z.cells (grownCap w (n+k) cap e-(n+k))).toList,grownCap_ge _ _ _ _,grownCap_le_maxLen _ _ _ _ hm,?_,?_⟩
 ·have hge:=grownCap_ge w (n+k) cap e
  simp only [List.length_append,Array.length_toList,size_zeroCells,hzs,hlo]
  rw [<- Nat.add_mul,<- Nat.add_mul]
  congr 1;omega
 ·have hm':n+k<=9223372036854775807:=by unfold maxLen at hm;omega
  have hn:¬ (n+k<=cap):=by omega
  have h63':¬ (9223372036854775807<((n:Int)+(k:Int))):=by omega
  have h48':¬ (281474976710656<Builtin.nextslicecap (n+k) cap*i.bytes):=by
   have:=growslice_fits (need:=n+k) (old:=cap) (bytes:=i.bytes) hg (by rw [hby];exact hbytes)
   omega
  have hwr:IntKind.i64.wrap (k:Int)=k:=by unfold IntKind.wrap;simp [IntKind.signed,IntKind.bits];omega
  have hk48:¬ (281474976710656<(k:Int)*(i.bytes:Int)):=by
   have h1:k*bytes<=(n+k)*bytes:=Nat.mul_le_mul_right _ (by omega)
   rw [hby]
   have h2:(k:Int)*(bytes:Int)=((k*bytes:Nat):Int):=by simp
   rw [h2];omega
  have hfo:=run_firstCells_some (P:=P) w.drew i.size n ⟨g,0,none⟩ n cap olds (by rw [hs];exact hlo) (fun j v hj=>by rw [dQ];exact hr j v hj)
  have hk0:¬ ((k:Int)<0):=by omega
  have hkz:¬ k=0:=by omega
  have hks':¬ (k*i.size=0):=by rw [hs];exact Nat.ne_of_gt (Nat.mul_pos hkp hpos)
  simp [Builtin.append_,Go.run_underlying hE.ht,Go.run_underlying hti,sizeOf,typeInfo,zeroValue,hi,hz,Builtin.lenOf,hn,h63',h48',Question.forced,hfo,newRow,grownCap,asInt,asIntOf,hwr,hk48,hk0,hks',hkz]
  congr 2
  apply Array.ext'
  simp
variable {ops:Array Oper} {rest:List Oper} {o:Oper} {a:Act} {w:World} {Q:Exit->Act->World->Prop}
theorem iE (hE:ElemT P t e size bytes z) {d s:Operand} (ho:o.op=.call { callee:=.builtin .copy,args:=#[d,s],argTypes:=#[t,t] }) (hgd:Region.wanted o (yielded ops a.tmps)=true)
  {g off dLen dCap b so sLen sCap:Nat} (hd:a.eval d=.slice (some ⟨g,off,none⟩) dLen dCap) (hs:a.eval s=.slice (some ⟨b,so,none⟩) sLen sCap)
  {cur cs:List Value} {u:TypeId} (hb:Blk w g cur u) (hr:Row w b so cs) (hn:cs.length=Nat.min sLen dLen*size) (hfit:off+cs.length<=cur.length) (hf:Flat cs)
  (hk:∀ w',Blk w' g (cur.take off++cs++cur.drop (off+cs.length)) u->Chg g w w'->wpList P ops Q rest (a.put o.dst (.int .i64 (Nat.min sLen dLen:Nat))) w'):wpList P ops Q (o::rest) a w:=by
 refine BigFrame.wpList_want hgd fun K' hK'=>?_
 have ex:execOp a.eval o=(do pure (.value (<- Builtin.copy_ #[t,t] o.type #[.slice (some ⟨g,off,none⟩) dLen dCap,.slice (some ⟨b,so,none⟩) sLen sCap]))):=by
  unfold execOp;rw [ho];simp [resolve,invoke,Go.builtin,hd,hs]
 unfold Oper.wp
 rw [ex,Sem.run_bind,aLb hE hb hr hn hfit hf]
 exact hK' _ _ (hk _ (hb.set_same _) (Chg.setRow w g _))
theorem aFx (hE:ElemT P t e size bytes z) {ti:TypeId} (hti:P.underlying ti=some (.int .i64)) {s x:Operand} (ho:o.op=.call { callee:=.builtin .append,args:=#[s,x],argTypes:=#[t,ti] }) (hgd:Region.wanted o (yielded ops a.tmps)=true)
  {g n cap k m:Nat} {kk:Int} (hkk:kk=(k:Int)) (hmm:n+k=m) (hs:a.eval s=.slice (some ⟨g,0,none⟩) n cap) (hx:a.eval x=.int .i64 kk) {olds:List Value} (hr:Row w g 0 olds) (hlo:olds.length=n*size)
  (hkp:0<k) (hg:cap<n+k) (hm:n+k<=maxLen) (hbytes:(n+k)*bytes<=140737488355328)
  (hk:∀ (c:Nat) (rs:List Value),m<=c->c<=maxLen->olds.length+rs.length=c*size->wpList P ops Q rest (a.put o.dst (.slice (some ⟨w.heap.size,0,none⟩) m c)) (w.drew.alloc (.cells (olds++rs).toArray e))):wpList P ops Q (o::rest) a w:=by
 refine BigFrame.wpList_want hgd fun K' hK'=>?_
 subst hkk
 subst hmm
 obtain ⟨c,rs,h1,h2,h3,hrun⟩:=aIe (ty:=o.type) hE hti hr hlo hkp hg hm hbytes
 have ex:execOp a.eval o=(do pure (.value (<- Builtin.append_ #[t,ti] o.type #[.slice (some ⟨g,0,none⟩) n cap,.int .i64 (k:Int)]))):=by
  unfold execOp;rw [ho];simp [resolve,invoke,Go.builtin,hs,hx]
 unfold Oper.wp
 rw [ex,Sem.run_bind,hrun]
 exact hK' _ _ (hk c rs h1 h2 h3)
theorem aGu (hE:ElemT P t e size bytes z) {g b off so la ca lb cb:Nat} {cs ds:List Value} {u v:TypeId} (hg:Blk w g cs u) (hb:Blk w b ds v) (hne:g≠b) (hcs:cs≠[]) (hds:ds≠[]) (tR:TypeId) :
  (Extern.SlicesOverlaps.overlaps #[t,t] #[tR] #[.slice (some ⟨g,off,none⟩) la ca,.slice (some ⟨b,so,none⟩) lb cb]).run P w=.ok (.bool false) w:=by
 obtain ⟨i,hi,_,hs,_⟩:=hE.parts
 have hz:∀ w,(Go.sizeOf e).run P w=.ok size w:=fun w=>by
  unfold sizeOf;rw [Sem.run_bind,run_typeInfo hi,<- hs];rfl
 have s1:w.shape? g=some (u,cs.length):=by unfold Blk at hg;simp [World.shape?,hg]
 have s2:w.shape? b=some (v,ds.length):=by unfold Blk at hb;simp [World.shape?,hb]
 exact Lib.run_overlaps_apart w t tR e hE.ht size hz ⟨g,off,none⟩ ⟨b,so,none⟩ la ca lb cb (by simpa using hne) u v cs.length ds.length s1 s2 (by cases ds<;>simp_all) (hg.frozen off) (hg.frozen cs.length)
end
end Go.Tri
namespace Go.Tri
theorem enters {P : Program} {f : FuncId} {fn : Func} {c : Code} (hf : P.funcs[f]? = some fn) (hname : (fn.name == "runtime.NumGoroutine") = false) (hb : fn.body = some c) : ∀ args w, (callFunc f args).run P w = .ok (.enter f args) w := by
 have h1 : fn.name ≠ "runtime.NumGoroutine" := by grind
 simp [callFunc,hf,h1,hb]
section
variable {P:Program} {ρ:Operand->Value} {o:Oper} {t t':TypeId} {x y:Operand} {w:World}
end
end Go.Tri
namespace Go.Tri
open Go.RowKit
theorem foldl_set (off:Nat):∀ (l:List Value) (k:Nat) (arr:Array Value) (i:Nat),off+k+l.length<=arr.size ->
  ((l.zipIdx k).foldl (fun (cs:Array Value) (p:Value×Nat)=>cs.setIfInBounds (off+p.2) p.1) arr)[i]?=if off+k<=i/\i<off+k+l.length then l[i-(off+k)]? else arr[i]?
 | [],k,arr,i,_=>by
  have:¬ (off+k<=i/\i<off+k+([]:List Value).length):=by simp
  rw [if_neg this];rfl
 | c::l,k,arr,i,h=>by
  rw [List.zipIdx_cons,List.foldl_cons,foldl_set off l (k+1) _ i (by grind)]
  grind
theorem aMx (size:Nat) (cells:Array Value) (cs:List Value) (hn:cs.length=size) (hc:cells.size=size) :
  Instr.fill (fun i=>some (i*size,size)) cells [(0,.agg cs.toArray)]=some cs.toArray:=by
 unfold Instr.fill
 simp only [Nat.zero_mul]
 have hcond:((Value.agg cs.toArray).cells.size≠size || 0+(Value.agg cs.toArray).cells.size > cells.size)=false:=by simp [Value.cells,hn,hc]
 rw [if_neg (by rw [hcond];simp)]
 unfold Instr.fill
 congr 1
 apply Array.ext_getElem?
 intro i
 have:=foldl_set 0 cs 0 cells i (by omega)
 simp only [Value.cells]
 rw [<- Array.foldl_toList,Array.toList_zipIdx]
 simp only [Nat.add_zero,Nat.zero_le,true_and,Nat.zero_add,Nat.sub_zero] at this ⊢
 rw [this]
 by_cases hi:i<cs.length
 ·rw [if_pos hi];simp
 ·rw [if_neg hi,Array.getElem?_eq_none (by omega),Array.getElem?_eq_none (by simp;omega)]
end Go.Tri
namespace Go.Tri
open Go.RowKit Go.ChangeShapes Go.WideShapes Go.Deep
theorem yI {α:Type} {p:Nat->α->Prop}:∀ n,(∀ i,i<n->∃ a,p i a)->∃ l:List α,l.length=n/\∀ i a,l[i]?=some a->p i a
 | 0,_=>by simp
 | n+1,h=>by
  obtain ⟨l,hl,hp⟩:=yI n (fun i hi=>h i (by omega))
  obtain ⟨a,ha⟩:=h n (by omega)
  refine ⟨l++[a],by grind,fun i b hb=>?_⟩
  grind
section
variable {H:Type} {enc:TypeId×Value->H} {P:Program} {w:World} {base:Nat} {spare:Nat->Bool} {held:Bool}
theorem aGi {α:Type} (en:α->List Value) {ok:α->Prop} {size:Nat} (hlen:∀ y,ok y->(en y).length=size) {b:Nat} :
  ∀ (ys:List α) (off:Nat),(∀ y∈ys,ok y)->(∀ i y,ys[i]?=some y->Row w b (off+i*size) (en y))->Row w b off (ys.flatMap en)
 | [],off,_,_=>Row.nil w b off
 | y::ys,off,hok,h=>by
  have h0:=h 0 y rfl
  rw [Nat.zero_mul] at h0
  refine h0.app ?_
  rw [hlen y (hok y (by simp))]
  refine aGi en hlen ys (off+size) (fun z hz=>hok z (by simp [hz])) fun i z hz=>?_
  have:=h (i+1) z (by grind)
  grind
end
end Go.Tri
