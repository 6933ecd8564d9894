/- Texts A4. -/
import Derived.Test.YtnagibpmfabkjaaGreatDoorQ2
import Derived.Test.YtnagibpmfabkjaaGreatDoorQ1
import Derived.DeepKeys3
import Derived.WideKeyRuns
import Derived.OrdersIn
import Derived.MapKept
import GoSem.Instr.MapEntry
import Derived.Lib.ConvBytes
set_option linter.unusedSimpArgs false
set_option linter.unusedVariables false
/- Data: maps whose keys and values are plain. -/
namespace Go.Tri
open Go.RowKit
def hv (h:List UInt8):Value:=.agg (bB h).toArray
theorem map_eraseIdx {α β:Type} (f:α->β):∀ (l:List α) (j:Nat),(l.eraseIdx j).map f=(l.map f).eraseIdx j
 | [],_=>rfl
 | _::_,0=>rfl
 | x::l,j+1=>by simp [map_eraseIdx f l j]
def fA {κ β:Type} [DecidableEq κ] (k:κ) (l:List (κ×β)):List (κ×β):=match l with
 | []=>[]
 | p::r=>if p.1=k then r else p::fA k r
section
variable {κ β:Type} [DecidableEq κ] {ek:κ->Value} {ev':β->Value}
theorem aB1 {vv:β->Value} (k:κ):∀ kv:List (κ×β),bG k (kv.map fun p=>(p.1,vv p.2))=(bG k kv).map vv
 | []=>rfl
 | (k',v)::r=>by
  simp only [List.map_cons,bG];split
  ·rfl
  ·exact aB1 k r
theorem aAl {vv:β->Value} (k:κ) (v:β):∀ kv:List (κ×β),dG k (vv v) (kv.map fun p=>(p.1,vv p.2))=(dG k v kv).map fun p=>(p.1,vv p.2)
 | []=>rfl
 | (k',u)::r=>by
  simp only [List.map_cons,dG];split
  ·rfl
  ·simp [aAl k v r]
variable {P:Program} {T K E:TypeId} {ok:κ->Prop} {ov:β->Prop} {vv:β->Value} {w0 w:World} {b:Nat} {kv:List (κ×β)} {ls:List HP} {ops:Array Oper} {rest:List Oper} {o:Oper} {a:Act} {W:List Oper->Act->World->Prop} {N:Fs} {sl:List (Nat×Value)} {d:Nat} {x y z:Operand}
omit [DecidableEq κ] in
theorem aFs [DecidableEq κ] {vv:β->Value} (k:κ):∀ kv:List (κ×β),fA k (kv.map fun p=>(p.1,vv p.2))=(fA k kv).map fun p=>(p.1,vv p.2)
 | []=>rfl
 | (k',v)::r=>by
  simp only [List.map_cons,fA];split
  ·rfl
  ·simp [aFs k r]
theorem zM (k:κ):∀ (kv:List (κ×β)) (p:κ×β),p∈fA k kv->p∈kv
 | [],p,h=>h
 | q::r,p,h=>by
  simp only [fA] at h;split at h
  ·exact List.mem_cons_of_mem _ h
  ·rcases List.mem_cons.1 h with rfl | h
   ·simp
   ·exact List.mem_cons_of_mem _ (zM k r p h)
theorem aGa (k:κ):∀ (l:List (κ×Value)) (i:Nat),(∀ j u,dV k l i=some (j,u)->i<=j/\fA k l=l.eraseIdx (j-i))/\(dV k l i=none->fA k l=l)
 | [],i=>⟨fun j u h=>by simp [dV] at h,fun _=>rfl⟩
 | (k',v)::r,i=>by
  simp only [dV,fA];split
  ·refine ⟨fun j u h=>?_,fun h=>by cases h⟩;cases h;exact ⟨Nat.le_refl _,by simp⟩
  ·obtain ⟨h1,h2⟩:=aGa k r (i+1);refine ⟨fun j u h=>?_,fun h=>by rw [h2 h]⟩;obtain ⟨h3,h4⟩:=h1 j u h;refine ⟨by omega,?_⟩;rw [h4,show j-i=(j-(i+1))+1 by omega,List.eraseIdx_cons_succ]
theorem aIx {l:List (κ×Value)} {t':TypeId} (hT:P.underlying T=some (.map K E)) (hK:gS P K ek ok) (h:jX w b (mkv ek l)) (hok:∀ p∈l,ok p.1) (k:κ) (hk:ok k) (ty:TypeId) :
  ∃ w',(Builtin.delete_ #[T,t'] ty #[.map (some b),ek k]).run P w=.ok (.tuple #[]) w'/\jX w' b (mkv ek (fA k l))/\Chg b w w':=by
 obtain ⟨es,c,hb,he,hnd,hlt⟩:=h;have hbl:b<w.heap.size:=(Array.getElem?_eq_some_iff.1 hb).1;have hf:=hK.find k es.toList l w hk hok he;have hpre:(Builtin.delete_ #[T,t'] ty #[.map (some b),ek k]).run P w=((match dV k l 0 with
   | some (i,_)=>do
    setObj b (.map (es.eraseIdxIfInBounds i) c)
    pure (.tuple #[])
   | none=>do
    setObj b (.map es c)
    pure (.tuple #[]):Sem Value)).run P w:=by
  unfold Builtin.delete_;simp only [List.getElem?_toArray,List.getElem?_cons_zero,List.getElem?_cons_succ];rw [Sem.run_bind,run_underlying hT];simp only [Result.andThen_ok];rw [Sem.run_bind,mK w b es c hb];simp only [Result.andThen_ok];rw [Sem.run_bind,hK.check _ k w hk];simp only [Result.andThen_ok];rw [Sem.run_bind,hf];simp only [Result.andThen_ok];rcases dV k l 0 with _ | ⟨i,u⟩<;>rfl
 obtain ⟨d1,d2⟩:=aGa k l 0;cases hg:dV k l 0 with
 | none =>
  refine ⟨w.putObj b (.map es c),?_,⟨es,c,World.putObj_heap_same hbl,by rw [d2 hg];exact he,hnd,hlt⟩,mM _ _ _⟩;rw [hpre,hg];show Sem.run P (do setObj b (.map es c);pure (Value.tuple #[])) w=_;rw [Sem.run_bind,sL w b es c _ hb];rfl
 | some p =>
  obtain ⟨j,u⟩:=p;obtain ⟨_,h4⟩:=d1 j u hg;rw [Nat.sub_zero] at h4;have hto:(es.eraseIdxIfInBounds j).toList=es.toList.eraseIdx j:=by simp
  refine ⟨w.putObj b (.map (es.eraseIdxIfInBounds j) c),?_,⟨_,c,World.putObj_heap_same hbl,?_,?_,?_⟩,mM _ _ _⟩
  ·rw [hpre,hg];show Sem.run P (do setObj b (.map (es.eraseIdxIfInBounds j) c);pure (Value.tuple #[])) w=_;rw [Sem.run_bind,sL w b es c _ hb];rfl
  ·rw [hto,h4];simp only [mkv,map_eraseIdx];rw [he];rfl
  ·rw [hto,map_eraseIdx];exact hnd.sublist (List.eraseIdx_sublist _ _)
  ·intro e he';rw [hto] at he';exact hlt e (List.mem_of_mem_eraseIdx he')
end
section
variable {P:Program} {w0 w:World} {ls:List HP} {t ti e:TypeId} {bytes:Nat} {z:Value}
variable {ops:Array Oper} {rest:List Oper} {o:Oper} {a:Act} {W:List Oper->Act->World->Prop} {N:Fs} {sl:List (Nat×Value)} {d:Nat}
end
theorem aNa {P:Program} {row:String} {args:Array Value} {w:World} {R:Value->World->Prop} (ro:Option Nat) (h:Rows P row args w R):RowsIn (FN ro) 0 P row args w R :=
 fun c cs _=>let ⟨v,w',r,s⟩:=h c cs;⟨v,w',r,stepsIn_wide.2 s⟩
theorem aIq {P:Program} {o:Oper} {a:Act} {w:World} {K:Act->World->Prop} {Q:Exit->Act->World->Prop} (ro:Option Nat) (hd:fH o.op=true) (h:o.wp P a w K Q):o.wpIn (FN ro) 0 P a w K Q:=by
 refine ⟨fun _ _=>trivial,?_⟩;rw [Oper.semAt_eq _ _ _ (uO hd)];unfold Oper.wp at h;generalize (execOp a.eval o).run P w=r at h ⊢;cases r with
 | ok n w' =>
  cases n with
  | value v=>exact h
  | skip=>exact h
  | defer d=>exact h
  | enter f args=>exact ⟨(fun h=>by cases h),aCx ro h⟩
  | row row args=>exact ⟨(fun h=>by cases h),aNa ro h⟩
  | round l f tmps assign body=>exact h.elim
  | _=>exact h.elim
 | halt x w' =>
  cases x<;>first | exact h | exact h.elim
theorem pQ {P:Program} {md:Region.Mode} {ops:Array Oper} {Q:Exit->Act->World->Prop} (ro:Option Nat) (hQ:∀ a w,¬ Q .outgrown a w) (hnd:∀ (i:Nat) (o:Oper),ops[i]?=some o->fH o.op=true) :
  ∀ (f:Nat) (listed:Array Bool) (a:Act) (w:World),wpAny P md ops Q f listed a w->wpAnyIn (FN ro) 0 P md ops Q f listed a w
 | 0,_,_,_,h=>h
 | f+1,listed,a,w,h=>by
  refine ⟨h.1,fun i hi=>?_⟩;have h1:=h.2 i hi;unfold wpOp at h1;unfold wpOpIn;cases ho:ops[i]? with
  | none=>rw [ho] at h1;exact pQ ro hQ hnd f _ _ _ h1
  | some o =>
   rw [ho] at h1;simp only at h1 ⊢;by_cases hw:Region.wanted o (yielded ops a.tmps)=true
   ·rw [if_pos hw] at h1 ⊢;rcases h1 with h1 | ⟨_,x,y,h1⟩
    ·exact aIq ro (hnd i o ho) (Oper.wp_mono (fun a w=>pQ ro hQ hnd f _ a w) h1)
    ·exact (hQ _ _ h1).elim
   ·rw [if_neg hw] at h1 ⊢;exact ⟨fun _ _=>trivial,pQ ro hQ hnd f _ _ _ h1⟩
theorem aN6 {P:Program} {ro:Option Nat} {id:Nat} {Q:Exit->Act->World->Prop} {a:Act} {w:World} {l:List Oper} (hs hz:List Nat) (s:Sc) (C:World->Prop) (hm:P.follows .mixedOrders=true)
  (hB:(l.all (fun o=>fH o.op)&&(Region.noSelect l.toArray&&gK .any l.toArray (fun i=>hs.contains i) (fun i=>hz.contains i) s (Array.replicate l.toArray.size false)&&(s.len==l.toArray.size)))=true) (hC:C w.drew)
  (h:cG P l.toArray C (Q .normal) s a w.drew):(Code.region id l.toArray true).wpIn (FN ro) 0 P Q a w:=by
 simp only [Bool.and_eq_true,beq_iff_eq] at hB;obtain ⟨h0,⟨h1,h2⟩,h3⟩:=hB;have hnd:∀ (i:Nat) (o:Oper),l.toArray[i]?=some o->fH o.op=true:=by
  intro i o ho;refine List.all_eq_true.1 h0 o ?_;simp at ho;exact List.mem_of_getElem? ho
 refine Go.wpIn_mono (Q:=fun e a w=>match e with | .normal=>Q .normal a w | _=>False) (wpIn_region_any hm ?_) fun e a w h=>by cases e<;>first | exact h | exact h.elim
 have:=oK (Q:=fun e a w=>match e with | .normal=>Q .normal a w | _=>False) (fun a w h=>h) _ _ _ _ (iD h1 s _ a w.drew h2 (.inr hC) h);rw [h3] at this;exact pQ ro (fun _ _ h=>h) hnd _ _ _ _ this
theorem aO0 {P:Program} {ro:Option Nat} {x:Code} {Q:Exit->Act->World->Prop} {a:Act} {w:World} (M:Act->World->Prop) (hx:x.wpIn (FN ro) 0 P (Exit.then M Q) a w) (hy:∀ a w,M a w->Q .normal a w):x.wpIn (FN ro) 0 P Q a w :=
 Go.wpIn_mono hx fun e a w h=>by cases e<;>first | exact hy a w h | exact h
theorem outF {P:Program} {c:Code} {Q:Exit->Act->World->Prop} {a:Act} {w:World} (h:c.wp P Q a w):c.wpIn (FN none) 0 P Q a w:=(wpIn_wide (n:=0)).2 h
theorem inF {P:Program} {c:Code} {Q:Exit->Act->World->Prop} {a:Act} {w:World} (h:c.wpIn (FN none) 0 P Q a w):c.wp P Q a w:=(wpIn_wide (n:=0)).1 h
def marks (Ds:List Nat):List Deferred:=Ds.map mark
def HP.mks (Ds:List Nat):HP:=HP.of (fun _ w S=>Ds.Nodup/\∀ D∈Ds,w.heap[D]?=some (.deferred (some []))/\S D)
  (fun h hS=>⟨h.1,fun D hD=>⟨by rw [hS D (h.2 D hD).2];exact (h.2 D hD).1,(h.2 D hD).2⟩⟩)
  (fun h _=>h)
theorem St.mks0 {w0 w:World} {l:List HP} (H:St w0 w l):St w0 w (HP.mks []::l):=H.more fun _ _ _=>⟨List.nodup_nil,fun D h=>by simp at h⟩
theorem St.mks1 {w0 w:World} {l:List HP} {D:Nat} {Ds:List Nat} (H:St w0 w (HP.obj D (.deferred (some []))::HP.mks Ds::l)):St w0 w (HP.mks (D::Ds)::l) :=
 H.join fun S T h1 h2 hd=>⟨List.nodup_cons.2 ⟨fun hm=>hd D h1.2 (h2.2 D hm).2,h2.1⟩,fun E hE=>by
  rcases List.mem_cons.1 hE with rfl | hE
  ·exact ⟨h1.1,.inl h1.2⟩
  ·exact ⟨(h2.2 E hE).1,.inr (h2.2 E hE).2⟩⟩
theorem Sub.put {B:Base} {w:World} (h:Sub B w) {D:Nat} (hB:B D=none) (o:Obj):Sub B (w.putObj D o):=by
 intro b x hb;show (w.heap.setIfInBounds D o)[b]?=_;rw [Array.getElem?_setIfInBounds,if_neg (fun e=>by subst e;rw [hB] at hb;cases hb)];exact h b x hb
theorem aBo {P:Program} {fn:Func} {R:Ending->World->Prop} {tmps:Array Value} {w0:World} {l:List HP} {v:Value}:∀ (Ds:List Nat) (w:World),St w0 w (HP.mks Ds::l)->(∀ w,St w0 w l->(results fn tmps).run P w=.ok v w)->(∀ w,St w0 w l->R (.returned v) w)->LeavesInM (FN none) 0 P fn tmps R (marks Ds) .returning w
 | [],w,H,hr,h=>⟨v,hr w H.tail,h w H.tail⟩
 | D::Ds,w,H,hr,h=>by
  obtain ⟨hv,B,f,hs,h1,h2,h3⟩:=H;have hm:=h1 0 _ rfl;have hD:=hm.2 D (by simp);have hf0:=h3 0 D (by simp) hD.2;have hnd:=List.nodup_cons.1 hm.1;have H2:St w0 (w.putObj D (.deferred none)) (HP.mks Ds::l):=by
   have hc:=mM w D (.deferred none);refine ⟨⟨hc.os.trans hv.1,hc.tape.trans hv.2.1,hc.output.trans hv.2.2.1,by rw [hc.size];exact hv.2.2.2⟩,B,fun i=>match i with | 0=>fun b=>b≠D/\f 0 b | i+1=>f (i+1),hs.put hf0.2.1 _,?_,?_,?_⟩
   ·intro i A hi;cases i with
    | zero =>
     simp at hi;subst hi;refine ⟨hnd.2,fun E hE=>⟨?_,fun e=>hnd.1 (e▸hE),(hm.2 E (by simp [hE])).2⟩⟩;rw [hc.oth E (fun e=>hnd.1 (e▸hE))];exact (hm.2 E (by simp [hE])).1
    | succ i =>
     have hi':(HP.mks (D::Ds)::l)[i+1]?=some A:=by simpa using hi
     have hil:=(List.getElem?_eq_some_iff.1 hi').1;exact A.loc (h1 (i+1) A hi') fun b hb=>hc.oth b fun e=>by subst e;have:=h2 0 (i+1) b (by simp) hil hD.2 hb;omega
   ·intro i j b hi hj hfi hfj;refine h2 i j b (by simpa using hi) (by simpa using hj) ?_ ?_
    ·cases i with
     | zero=>exact hfi.2
     | succ i=>exact hfi
    ·cases j with
     | zero=>exact hfj.2
     | succ j=>exact hfj
   ·intro i b hi hf;rw [hc.size];refine h3 i b (by simpa using hi) ?_;cases i with
    | zero=>exact hf.2
    | succ i=>exact hf
  refine ⟨by simp,.inl ⟨D,_,rfl,run_takeDeferred hD.1,?_⟩⟩;exact aBo Ds _ H2 hr h
section
variable {P:Program} {fn:Func} {R:Ending->World->Prop} {a:Act} {w0 w:World} {N:Nat} {Ds:List Nat} {l:List (Nat×Value)} {ls:List HP}
theorem aNl {v:Value} (F:Fr ⟨N,marks Ds⟩ a l) (H:St w0 w (HP.mks Ds::ls)) (hr:∀ w,St w0 w ls->(results fn a.tmps).run P w=.ok v w) (h:∀ w,St w0 w ls->R (.returned v) w):LeavesInM (FN none) 0 P fn a.tmps R a.defers .returning w:=by
 rw [F.defers];exact aBo Ds w H hr h
end
theorem aIu {P:Program} {f:FuncId} {fn:Func} {c:Code} {args:List Value} {w:World} {R:Ending->World->Prop} {N:Nat}
  (hf:P.funcs[f]?=some fn) (hb:fn.body=some c) (hN:fn.ntmps=N) (hle:Nat.ble args.length N=true)
  (h:∀ a,Fr ⟨N,marks []⟩ a (lV 0 args)->c.wp P (bodyPostM (FN none) 0 P fn R) a w):Calls P f args.toArray w R :=
 aKo hf hb hN hle fun a F=>outF (h a F)
def dC {σ β ρ:Type} (f:σ->β->Option (σ ⊕ ρ)):σ->List β->Option (σ ⊕ ρ)
 | s,[]=>some (.inl s)
 | s,x::xs=>(f s x).bind fun o=>match o with | .inl s'=>dC f s' xs | .inr r=>some (.inr r)
theorem tD {σ ι α β ρ:Type} {f:σ->β->Option (σ ⊕ ρ)} {pj:α->β}:∀ {pre post:List α} {g0 g:σ×ι},Rn (fun (g:σ×ι) x (g':σ×ι)=>f g.1 (pj x)=some (.inl g'.1)) g0 pre g->dC f g0.1 ((pre++post).map pj)=dC f g.1 (post.map pj)
 | [],_,_,_,h=>by cases h;rfl
 | x::pre,post,g0,g,⟨g1,h1,h2⟩=>by
  show (f g0.1 (pj x)).bind _=_;rw [h1];exact tD h2
def aF5 {σ ι ρ κ:Type} (w0:World) (J:σ->ι->List HP) (K:ρ->κ->List HP) (jmp:ρ->Code) (o:σ ⊕ ρ) (fr:List HP):Exit->Act->World->Prop
 | .normal,_,w=>∃ s i,o=.inl s/\St w0 w (J s i++fr)
 | .ret,_,w=>∃ r i,o=.inr r/\jmp r=.ret/\St w0 w (K r i++fr)
 | .exit n,_,w=>∃ r i,o=.inr r/\jmp r=.exit n/\St w0 w (K r i++fr)
 | _,_,_=>False
theorem perm_m {A B C:List HP} {m:HP}:(A++(B++m::C)).Perm (m::(A++(B++C))):=by
 rw [<- List.append_assoc,<- List.append_assoc];exact List.perm_middle
theorem aJ8 {P:Program} {N:Nat} {Ds:List Nat} {a:Act} {l:List (Nat×Value)} {w0 w:World} {g:Operand} {ps:List Nat} {assign body:Code} {Q:Exit->Act->World->Prop} {gf:FuncId} {lb:List Value} {σ ι ρ κ α β Mid:Type} {enc:α->List Value} {own fr:List HP} {zs:List α} (pj:α->β)
  (F:Fr ⟨N,marks Ds⟩ a l) (hg:ev l g=some (.func (.func gf) #[] lb.toArray)) (eg:∀ args w,(callFunc gf args).run P w=.ok (.enter gf args) w) (hS:yI P gf lb enc own (fun xs x=>∃ ys,zs=xs++x::ys) (fun xs=>xs=zs))
  (J:σ->ι->List HP) (K:ρ->κ->List HP) (jmp:ρ->Code) (f:σ->β->Option (σ ⊕ ρ)) (s0:σ) (i0:ι) {o:σ ⊕ ρ} (hm:dC f s0 (zs.map pj)=some o)
  (H:St w0 w (HP.mks Ds::(J s0 i0++(own++fr)))) (hps:∀ x,(enc x).length=ps.length) (hpN:ps.all (Nat.blt · N)=true)
  (ml:σ->ι->α->Mid->List (Nat×Value)) (mi:σ->ι->α->Mid->List HP)
  (hassign:∀ L s i x a1 W fr,x∈zs->Fr ⟨N,[]⟩ a1 (lA ps (enc x) l)->St w0 W (J s i++fr) ->
   assign.wpIn (FN (some L)) 0 P (Exit.then (fun a2 w2=>∃ m,Fr ⟨N,[]⟩ a2 (ml s i x m)/\St w0 w2 (mi s i x m++fr)) (fun _ _ _=>False)) a1 W)
  (hbody:∀ L s i x m o a1 W fr,x∈zs->f s (pj x)=some o->Fr ⟨N,[]⟩ a1 (ml s i x m)->St w0 W (mi s i x m++fr)->body.wpIn (FN (some L)) 0 P (aF5 w0 J K jmp o fr) a1 W)
  (hdone:∀ s i Ds a1 W,o=.inl s->Fr ⟨N,marks Ds⟩ a1 l->St w0 W (HP.mks Ds::(J s i++(own++fr)))->Q .normal a1 W)
  (hstop:∀ r i Ds a1 W,o=.inr r->Fr ⟨N,marks Ds⟩ a1 l->St w0 W (HP.mks Ds::(K r i++(own++fr)))->(jmp r).wp P Q a1 W) :
  (Code.rangeFunc g ps.toArray assign body).wp P Q a w:=by
 refine inF (aIr (G:=σ×ι) (E:=ρ×κ) (fr:=HP.mks Ds::fr) F hg eg hS (fun g=>J g.1 g.2) (fun k=>K k.1 k.2) (fun k=>jmp k.1) (fun g x g'=>f g.1 (pj x)=some (.inl g'.1)) (fun g x k=>f g.1 (pj x)=some (.inr k.1)) (s0,i0) (H.perm perm_m.symm) hps hpN (fun g x m=>ml g.1 g.2 x m) (fun g x m=>mi g.1 g.2 x m) ?_ ?_ ?_ ?_)
 ·rintro L xs g x a1 W fr ⟨ys,hz⟩ _ F1 H1;exact hassign L g.1 g.2 x a1 W fr (by rw [hz];simp) F1 H1
 ·rintro L xs g x m a1 W fr ⟨ys,hz⟩ hrn F1 H1;have hf:∃ o1,f g.1 (pj x)=some o1:=by
   rw [hz,tD hrn] at hm;simp only [List.map_cons,dC] at hm;obtain ⟨o1,h1,_⟩:=ob hm;exact ⟨o1,h1⟩
  obtain ⟨o1,hf⟩:=hf;refine Go.wpIn_mono (hbody L g.1 g.2 x m o1 a1 W fr (by rw [hz];simp) hf F1 H1) fun e a2 w2 h=>?_;cases e with
  | normal=>obtain ⟨s,i,rfl,h⟩:=h;exact ⟨(s,i),hf,h⟩
  | ret=>obtain ⟨r,i,rfl,hj,h⟩:=h;exact ⟨(r,i),hf,hj,h⟩
  | exit n=>obtain ⟨r,i,rfl,hj,h⟩:=h;exact ⟨(r,i),hf,hj,h⟩
  | _=>exact h.elim
 ·rintro D xs g a1 W rfl hrn F1 H1;have:=tD (post:=[]) hrn;rw [List.append_nil,hm] at this;exact hdone g.1 g.2 (D::Ds) a1 W (Option.some.inj this) F1 (St.mks1 (H1.perm (List.Perm.cons _ perm_m)))
 ·rintro D xs g x k a1 W ⟨ys,hz⟩ hrn hst F1 H1;have h1:=hm;rw [hz,tD hrn] at h1;simp only [List.map_cons,dC,hst] at h1;exact outF (hstop k.1 k.2 (D::Ds) a1 W (Option.some.inj h1).symm F1 (St.mks1 (H1.perm (List.Perm.cons _ perm_m))))
def RV (P:Program) (l:List (Nat×Value)) (w:World):ResultVar->Value->Prop
 | .tmp t,v=>lk t l=some v
 | .cell t ty,v=>∃ ad,lk t l=some (.pointer (some ad))/\(loadVar ty ad).run P w=.ok v w
def lH (tmps:Array Value):ResultVar->Sem Value
 | .tmp t=>pure (tmps.getD t undef)
 | .cell a t=>do loadVar t (<- asAddr (tmps.getD a undef))
section
variable {P:Program} {fn:Func} {a:Act} {w:World} {M:Fs} {l:List (Nat×Value)}
theorem RV.run (F:Fr M a l) {r:ResultVar} {v:Value} (h:RV P l w r v):(lH a.tmps r).run P w=.ok v w:=by
 cases r with
 | tmp t =>
  have:=F.get t v h;simp [lH,this]
 | cell t ty =>
  obtain ⟨ad,h1,h2⟩:=h;have:=F.get t _ h1;simp [lH,this,asAddr,h2]
theorem aAy (F:Fr M a l) {r:ResultVar} {v:Value} (hr:fn.results=#[r]) (h:RV P l w r v):(results fn a.tmps).run P w=.ok v w:=by
 have h1:=h.run F;have:results fn a.tmps=(do let x<-lH a.tmps r;pure x):=by
  unfold results;rw [hr];simp [lH];cases r<;>rfl
 rw [this];simpa using h1
theorem aJq (F:Fr M a l) {r s:ResultVar} {v u:Value} (hr:fn.results=#[r,s]) (h:RV P l w r v) (k:RV P l w s u):(results fn a.tmps).run P w=.ok (.tuple [v,u].toArray) w:=by
 have h1:=h.run F;have h2:=k.run F;have:results fn a.tmps=(do let x<-lH a.tmps r;let y<-lH a.tmps s;pure (.tuple #[x,y])):=by
  unfold results;rw [hr];simp [lH];cases r<;>cases s<;>rfl
 rw [this,Sem.run_bind,h1];simp only [Result.andThen_ok];rw [Sem.run_bind,h2];rfl
theorem ld1 {t:TypeId} {b off:Nat} {v:Value} (hP:Plain P t) (hc:w.cell? ⟨b,off,none⟩=some v):(loadVar t ⟨b,off,none⟩).run P w=.ok v w:=by
 simp [loadVar,hP.run_isAgg,run_load,hc]
end
section
variable {P:Program} {fn:Func} {R:Ending->World->Prop} {a:Act} {w0 w:World} {N:Nat} {Ds:List Nat} {l:List (Nat×Value)} {ls:List HP} {r s t:ResultVar} {v u x:Value}
theorem gF (F:Fr ⟨N,[]⟩ a l) (hr:fn.results=#[r]) (h1:RV P l w r v) (h:R (.returned v) w):bodyPost P fn R .ret a w:=bodyPost_ret (aAy F hr h1) F.defers h
theorem bL (F:Fr ⟨N,[]⟩ a l) (hr:fn.results=#[r,s]) (h1:RV P l w r v) (h2:RV P l w s u) (h:R (.returned (.tuple [v,u].toArray)) w):bodyPost P fn R .ret a w:=bodyPost_ret (aJq F hr h1 h2) F.defers h
theorem aPg (F:Fr ⟨N,marks Ds⟩ a l) (hr:fn.results=#[r]) (H:St w0 w (HP.mks Ds::ls)) (h1:∀ w,St w0 w ls->RV P l w r v) (h:∀ w,St w0 w ls->R (.returned v) w):bodyPostM (FN none) 0 P fn R .ret a w:=aNl F H (fun w H=>aAy F hr (h1 w H)) h
end
section
variable {σ ι ρ κ:Type} {w0 w:World} {J:σ->ι->List HP} {K:ρ->κ->List HP} {jmp:ρ->Code} {fr:List HP} {a:Act}
theorem rq_n {o:σ ⊕ ρ} (s:σ) (i:ι) (h:o=.inl s) (H:St w0 w (J s i++fr)):aF5 w0 J K jmp o fr .normal a w:=⟨s,i,h,H⟩
end
theorem aGc {K:Nat}:∀ {css:List (List Value)},(∀ c∈css,c.length=K)->∀ {j:Nat} {cj:List Value},css[j]?=some cj->(css.flatten.drop (j*K)).take K=cj
 | [],_,j,cj,h=>by simp at h
 | c::css,hk,0,cj,h=>by
  simp at h;subst h;have:=hk c (by simp);simp [List.take_append,this]
 | c::css,hk,j+1,cj,h=>by
  have h1:=hk c (by simp);have ih:=aGc (css:=css) (fun d hd=>hk d (by simp [hd])) (j:=j) (by simpa using h);rw [Nat.succ_mul,List.flatten_cons,Nat.add_comm,<- List.drop_drop,List.drop_left' h1];exact ih
section
variable {κ β:Type} [DecidableEq κ]
theorem qH {β:Type} (j k:κ) (v:β):∀ l:List (κ×β),bG j (dG k v l)=if j=k then some v else bG j l
 | []=>by
  simp only [dG,bG];by_cases h:j=k
  ·subst h;simp
  ·simp [h,Ne.symm h]
 | (k',u)::l=>by
  simp only [dG];by_cases hk:k'=k
  ·subst hk;simp only [if_true,bG];by_cases h:j=k'
   ·subst h;simp
   ·simp [h,Ne.symm h]
  ·simp only [if_neg hk,bG];rw [qH j k v l];by_cases h:k'=j
   ·subst h;simp [hk]
   ·simp [h]
theorem mL {β:Type} (k:κ) (v:β):∀ l:List (κ×β),(dG k v l).map (·.1)=if k∈l.map (·.1) then l.map (·.1) else l.map (·.1)++[k]
 | []=>by simp [dG]
 | (k',u)::l=>by
  simp only [dG];by_cases hk:k'=k
  ·subst hk;simp
  ·simp only [if_neg hk,List.map_cons,mL k v l];have:¬ k=k':=fun e=>hk e.symm;by_cases hm:k∈l.map (·.1)
   ·simp only [hm,if_true];simp [hm]
   ·simp only [hm,if_false];simp [hm,this]
theorem kG {β:Type} {k:κ}:∀ {l:List (κ×β)},k ∉ l.map (·.1)->bG k l=none
 | [],_=>rfl
 | (k',u)::l,h=>by
  simp only [List.map_cons,List.mem_cons,not_or] at h;simp only [bG,if_neg (fun e:k'=k=>h.1 e.symm)];exact kG h.2
theorem fY {β:Type} {k:κ} {v:β}:∀ {l:List (κ×β)},bG k l=some v->(k,v)∈l
 | [],h=>by simp [bG] at h
 | (k',u)::l,h=>by
  simp only [bG] at h;split at h
  ·rename_i e;subst e;cases h;simp
  ·exact List.mem_cons_of_mem _ (fY h)
theorem eB {β:Type} {k:κ} {v:β}:∀ {l:List (κ×β)},(l.map (·.1)).Nodup->(k,v)∈l->bG k l=some v
 | [],_,h=>by simp at h
 | (k',u)::l,hn,h=>by
  simp only [List.map_cons,List.nodup_cons] at hn;rcases List.mem_cons.1 h with h | h
  ·cases h;simp [bG]
  ·simp only [bG];rw [if_neg,eB hn.2 h];intro e;subst e;exact hn.1 (List.mem_map.2 ⟨_,h,rfl⟩)
theorem aEg {β:Type} (j k:κ):∀ l:List (κ×β),(l.map (·.1)).Nodup->bG j (fA k l)=if j=k then none else bG j l
 | [],_=>by simp [fA,bG]
 | (k',u)::l,hn=>by
  simp only [List.map_cons,List.nodup_cons] at hn;simp only [fA];by_cases hk:k'=k
  ·subst hk;simp only [if_true,bG];by_cases h:j=k'
   ·subst h;simp [kG hn.1]
   ·simp [h,Ne.symm h]
  ·simp only [if_neg hk,bG];rw [aEg j k l hn.2];by_cases h:k'=j
   ·subst h;simp [hk]
   ·simp [h]
theorem aEe {β:Type} (k:κ):∀ l:List (κ×β),(fA k l).map (·.1)=(l.map (·.1)).erase k
 | []=>by simp [fA]
 | (k',u)::l=>by
  simp only [fA];by_cases hk:k'=k
  ·subst hk;simp
  ·simp [hk,aEe k l,List.erase_cons]
def aQ (k:κ) (x:β) (m:κ->Option β):κ->Option β:=fun j=>if j=k then some x else m j
def dR (k:κ) (m:κ->Option β):κ->Option β:=fun j=>if j=k then none else m j
def bV:κ->Option β:=fun _=>none
def Enum (m:κ->Option β) (kv:List (κ×β)):Prop:=(kv.map (·.1)).Nodup/\∀ k,m k=bG k kv
theorem Enum.perm {m:κ->Option β} {l l':List (κ×β)} (h:Enum m l) (h':Enum m l'):l.Perm l':=by
 have nd:∀ {l:List (κ×β)},(l.map (·.1)).Nodup->l.Nodup:=fun {l} h=>(List.pairwise_map.1 h).imp fun hne e=>hne (by rw [e]);refine (List.perm_ext_iff_of_nodup (nd h.1) (nd h'.1)).2 fun p=>?_;obtain ⟨k,v⟩:=p;constructor
 ·intro hm;exact fY (by rw [<- h'.2,h.2];exact eB h.1 hm)
 ·intro hm;exact fY (by rw [<- h.2,h'.2];exact eB h'.1 hm)
open Classical in
open Classical in
noncomputable def gW {ρ:Type} (m:κ->Option β) (f:List (κ×β)->Option ρ):Option ρ :=
 if h:(∃ kv,Enum m kv)/\∃ r,∀ kv,Enum m kv->f kv=some r then some (Classical.choose h.2) else none
theorem aA2 {ρ:Type} {m:κ->Option β} {f:List (κ×β)->Option ρ} {r:ρ} (h:gW m f=some r):(∃ kv,Enum m kv)/\∀ kv,Enum m kv->f kv=some r:=by
 unfold gW at h;split at h
 ·rename_i hx;cases h;exact ⟨hx.1,Classical.choose_spec hx.2⟩
 ·cases h
theorem nM {ρ:Type} {m:κ->Option β} {f:List (κ×β)->Option ρ} {r:ρ} {kv:List (κ×β)} (he:Enum m kv) (h:∀ kv,Enum m kv->f kv=some r):gW m f=some r:=by
 have hx:(∃ kv,Enum m kv)/\∃ r,∀ kv,Enum m kv->f kv=some r:=⟨⟨kv,he⟩,r,h⟩;unfold gW;rw [dif_pos hx];have:=Classical.choose_spec hx.2 kv he;rw [h kv he] at this;exact this.symm
end
def mkV (agg:Bool) (cs:List Value):Value:=match agg with | true=>.agg cs.toArray | false=>cs.headD undef
section
variable {κ β:Type} [DecidableEq κ]
def fO (ek:κ->Value) (agg:Bool) (es:List (κ×(List Value×β))):List (Value×Value):=mkv ek (es.map fun p=>(p.1,mkV agg p.2.1))
structure EsOk (R:Rp β) (ok:κ->Prop) (B:Base) (es:List (κ×(List Value×β))) (m:κ->Option β):Prop where
 nodup:(es.map (·.1)).Nodup
 ok:∀ p∈es,ok p.1
 rd:∀ p∈es,R.rd B p.2.1 p.2.2
 get:∀ k,m k=(bG k es).map (·.2)
theorem EsOk.mono {R:Rp β} {ok:κ->Prop} {B B':Base} {es:List (κ×(List Value×β))} {m:κ->Option β} (h:EsOk R ok B es m) (hl:B.le B'):EsOk R ok B' es m:=⟨h.nodup,h.ok,fun p hp=>R.mono (h.rd p hp) hl,h.get⟩
def HP.mx (p:Option Nat) (ek:κ->Value) (agg:Bool) (R:Rp β) (ok:κ->Prop) (es:List (κ×(List Value×β))) (m:κ->Option β):HP :=
 HP.of (fun B w S=>EsOk R ok B es m/\match p with | none=>es=[] | some b=>jX w b (fO ek agg es)/\S b)
  (fun {B w w' S} h hS=>by
  refine ⟨h.1,?_⟩
  cases p with
  | none=>exact h.2
  | some b =>
   obtain ⟨_,⟨es,c,h1,h2⟩,h3⟩:=h
   exact ⟨⟨es,c,by rw [hS _ h3];exact h1,h2⟩,h3⟩)
  (fun h hl=>⟨h.1.mono hl,h.2⟩)
def HP.mm (p:Option Nat) (ek:κ->Value) (agg:Bool) (R:Rp β) (ok:κ->Prop) (m:κ->Option β):HP :=
 HP.of (fun B w S=>∃ es,(HP.mx p ek agg R ok es m).pr B w S)
  (fun ⟨es,h⟩ hS=>⟨es,HP.loc _ h hS⟩)
  (fun ⟨es,h⟩ hl=>⟨es,HP.mono _ h hl⟩)
variable {R:Rp β} {P:Program} {T K E:TypeId} {ek:κ->Value} {ok:κ->Prop} {agg:Bool} {w0 w:World} {b:Nat} {p:Option Nat} {m:κ->Option β} {es:List (κ×(List Value×β))} {ls:List HP}
theorem St.mmOpen (H:St w0 w ls) (i:Nat) (hi:ls[i]?=some (HP.mm p ek agg R ok m)):∃ es,St w0 w (ls.set i (HP.mx p ek agg R ok es m)):=by
 obtain ⟨B,H⟩:=H.out;obtain ⟨hv,hs,f,h1,h2,h3⟩:=H;obtain ⟨es,h4⟩:=h1 i _ hi;have hil:i<ls.length:=(List.getElem?_eq_some_iff.1 hi).1;refine ⟨es,hv,B,f,hs,fun j E hj=>?_,by simpa using h2,by simpa using h3⟩;rw [List.getElem?_set] at hj;by_cases ee:i=j
 ·subst ee;rw [if_pos rfl,if_pos hil] at hj;cases hj;exact h4
 ·rw [if_neg ee] at hj;exact h1 j E hj
theorem St.mxShut (H:St w0 w ls) (i:Nat) (hi:ls[i]?=some (HP.mx p ek agg R ok es m)):St w0 w (ls.set i (HP.mm p ek agg R ok m)) :=
 H.convAt i hi fun S h=>⟨es,h⟩
theorem St.mxOk (H:St w0 w ls) (i:Nat) (hi:ls[i]?=some (HP.mx p ek agg R ok es m)):∃ B,Sub B w/\EsOk R ok B es m/\match p with | none=>es=[] | some b=>jX w b (fO ek agg es):=by
 obtain ⟨B,S,hs,h,_⟩:=H.get i hi;refine ⟨B,hs,h.1,?_⟩;have h2:=h.2;cases p with
 | none=>exact h2
 | some b=>exact h2.1
def iA (es:List (κ×(List Value×β))) (k:κ) (zc:List Value):List Value:=((bG k es).map (·.1)).getD zc
theorem St.mxGet (H:St w0 w ls) (i:Nat) (hi:ls[i]?=some (HP.mx p ek agg R ok es m)) (k:κ) {zc:List Value} {z0:β} (hz:∀ B,R.rd B zc z0):∃ cs,iA es k zc=cs/\St w0 w (HP.rc R cs ((m k).getD z0)::ls):=by
 obtain ⟨B,H⟩:=H.out;obtain ⟨S,h⟩:=H.at hi;refine ⟨_,rfl,(H.more (A:=HP.rc R (iA es k zc) ((m k).getD z0)) ?_).st⟩;show R.rd B _ _;rw [h.1.get k];unfold iA;cases e:bG k es with
 | none=>exact hz B
 | some q=>exact h.1.rd _ (fY e)
variable {ops:Array Oper} {rest:List Oper} {o:Oper} {a:Act} {W:List Oper->Act->World->Prop} {N:Fs} {sl:List (Nat×Value)} {d:Nat} {x y z:Operand}
theorem vE (ek:κ->Value) (agg:Bool) (R:Rp β) (ok:κ->Prop) (k:cP P ops W) (F:Fr N a sl) (hg:o.guard=none) (hd:o.dst=some d) (hN:Nat.blt d N.n=true) (ho:o.op=.makeMap T none) (H:St w0 w ls)
  (hk:∀ b w' a',St w0 w' (HP.mm (some b) ek agg R ok bV::ls)->Fr N a' ((d,.map (some b))::sl)->W rest a' w'):W (o::rest) a w :=
 aM0 k F hg hd hN ho H fun b w' a' H' F'=>hk b w' a' (H'.conv fun S h=>⟨[],⟨List.nodup_nil,by simp,by simp,fun k=>rfl⟩,h⟩) F'
omit [DecidableEq κ] in
theorem qT (h:∀ q∈es,ok q.1):∀ q∈es.map (fun p=>(p.1,mkV agg p.2.1)),ok q.1:=fun q hq=>by
 obtain ⟨r,hr,rfl⟩:=List.mem_map.1 hq;exact h r hr
theorem jG (kw:cP P ops W) (F:Fr N a sl) (hg:o.guard=none) (hd:o.dst=none) (hT:P.underlying T=some (.map K E)) (hK:gS P K ek ok) (ho:o.op=.mapUpdate T x y z) (H:St w0 w ls) (i:Nat) (hi:ls[i]?=some (HP.mm (some b) ek agg R ok m))
  (hx:ev sl x=some (.map (some b))) {k:κ} (hy:ev sl y=some (ek k)) {cs:List Value} (hz:ev sl z=some (mkV agg cs)) (hkk:ok k) {v:β} (hrd:∀ {B:Base},(∀ (j:Nat) (C:HP),ls[j]?=some C->∃ S,C.pr B w S)->R.rd B cs v)
  (hk:∀ w',St w0 w' (ls.set i (HP.mm (some b) ek agg R ok (aQ k v m)))->W rest a w'):W (o::rest) a w:=by
 obtain ⟨es,H⟩:=H.mmOpen i hi;have hil:i<ls.length:=(List.getElem?_eq_some_iff.1 hi).1;have hi':(ls.set i (HP.mx (some b) ek agg R ok es m))[i]?=some (HP.mx (some b) ek agg R ok es m):=by simp [List.getElem?_set,hil]
 obtain ⟨_,_,hes,hm⟩:=H.mxOk i hi';obtain ⟨w',hr,hm',hc⟩:=aD6 hT hK hm (qT hes.ok) k hkk (mkV agg cs);have hrun:(execOp a.eval o).run P w=.ok .skip w':=by
  unfold execOp;simp only [ho,F.eval hx,F.eval hy,F.eval hz,Sem.run_bind,hr,Result.andThen_ok,Sem.run_pure]
 refine lB kw F hg hd (by rw [ho];rfl) hrun ?_;obtain ⟨B,HB⟩:=H.out;have hcs:R.rd B cs v:=hrd (B:=B) fun j C hj=>by
  by_cases e:i=j
  ·subst e;rw [hi] at hj;cases hj;obtain ⟨S,h⟩:=HB.at hi';exact ⟨S,es,h⟩
  ·exact HB.at (by rw [List.getElem?_set,if_neg e];exact hj)
 have H2:=(HB.chg (A':=HP.mm (some b) ek agg R ok (aQ k v m)) i hi' (g:=b) (fun S hA=>hA.2.2) hc (fun S hA=>⟨dG k (cs,v) es,⟨?_,?_,?_,?_⟩,?_,hA.2.2⟩)).st
 ·rw [List.set_set] at H2;exact hk w' H2
 ·rw [mL];split
  ·exact hA.1.nodup
  ·rename_i hn;exact List.nodup_append.2 ⟨hA.1.nodup,by simp,fun x hx y hy e=>by simp at hy;subst hy;subst e;exact hn hx⟩
 ·intro q hq;have:q.1∈(dG k (cs,v) es).map (·.1):=List.mem_map.2 ⟨q,hq,rfl⟩;rw [mL] at this;have key:∀ j,j∈es.map (·.1)->ok j:=fun j hj=>by obtain ⟨r,hr,rfl⟩:=List.mem_map.1 hj;exact hA.1.ok r hr
  split at this
  ·exact key _ this
  ·rcases List.mem_append.1 this with h | h
   ·exact key _ h
   ·simp at h;rw [h];exact hkk
 ·rintro ⟨q1,q2⟩ hq;have hnd:((dG k (cs,v) es).map (·.1)).Nodup:=by
   rw [mL];split
   ·exact hA.1.nodup
   ·rename_i hn;exact List.nodup_append.2 ⟨hA.1.nodup,by simp,fun x hx y hy e=>by simp at hy;subst hy;subst e;exact hn hx⟩
  have h1:=eB (k:=q1) (v:=q2) hnd hq;rw [qH] at h1;split at h1
  ·cases h1;exact hcs
  ·exact hA.1.rd _ (fY h1)
 ·intro j;show aQ k v m j=_;rw [qH];unfold aQ;split
  ·rfl
  ·exact hA.1.get j
 ·have:fO ek agg (dG k (cs,v) es)=mkv ek (dG k (mkV agg cs) (es.map fun p=>(p.1,mkV agg p.2.1))):=by
   unfold fO;rw [<- aAl (vv:=fun q:List Value×β=>mkV agg q.1) k (cs,v) es]
  rw [this];exact hm'
theorem aHp (kw:cP P ops W) (F:Fr N a sl) (hg:o.guard=none) (hd:o.dst=none) (hT:P.underlying T=some (.map K E)) (hK:gS P K ek ok) (ho:o.op=.insert T x y z) (H:St w0 w ls) (i:Nat) (hi:ls[i]?=some (HP.mm (some b) ek agg R ok m))
  (hx:ev sl x=some (.map (some b))) {k:κ} (hy:ev sl y=some (ek k)) {cs:List Value} (hz:ev sl z=some (mkV agg cs)) (hkk:ok k) {v:β} (hrd:∀ {B:Base},(∀ (j:Nat) (C:HP),ls[j]?=some C->∃ S,C.pr B w S)->R.rd B cs v)
  (hk:∀ w',St w0 w' (ls.set i (HP.mm (some b) ek agg R ok (aQ k v m)))->W rest a w'):W (o::rest) a w:=by
 obtain ⟨es,H⟩:=H.mmOpen i hi;have hil:i<ls.length:=(List.getElem?_eq_some_iff.1 hi).1;have hi':(ls.set i (HP.mx (some b) ek agg R ok es m))[i]?=some (HP.mx (some b) ek agg R ok es m):=by simp [List.getElem?_set,hil]
 obtain ⟨_,_,hes,hm⟩:=H.mxOk i hi';obtain ⟨w',hr,hm',hc⟩:=aD6 hT hK hm (qT hes.ok) k hkk (mkV agg cs);have hrun:(execOp a.eval o).run P w=.ok .skip w':=by
  unfold execOp;simp only [ho,F.eval hx,F.eval hy,F.eval hz,Sem.run_bind,hr,Result.andThen_ok,Sem.run_pure]
 refine lB kw F hg hd (by rw [ho];rfl) hrun ?_;obtain ⟨B,HB⟩:=H.out;have hcs:R.rd B cs v:=hrd (B:=B) fun j C hj=>by
  by_cases e:i=j
  ·subst e;rw [hi] at hj;cases hj;obtain ⟨S,h⟩:=HB.at hi';exact ⟨S,es,h⟩
  ·exact HB.at (by rw [List.getElem?_set,if_neg e];exact hj)
 have H2:=(HB.chg (A':=HP.mm (some b) ek agg R ok (aQ k v m)) i hi' (g:=b) (fun S hA=>hA.2.2) hc (fun S hA=>⟨dG k (cs,v) es,⟨?_,?_,?_,?_⟩,?_,hA.2.2⟩)).st
 ·rw [List.set_set] at H2;exact hk w' H2
 ·rw [mL];split
  ·exact hA.1.nodup
  ·rename_i hn;exact List.nodup_append.2 ⟨hA.1.nodup,by simp,fun x hx y hy e=>by simp at hy;subst hy;subst e;exact hn hx⟩
 ·intro q hq;have:q.1∈(dG k (cs,v) es).map (·.1):=List.mem_map.2 ⟨q,hq,rfl⟩;rw [mL] at this;have key:∀ j,j∈es.map (·.1)->ok j:=fun j hj=>by obtain ⟨r,hr,rfl⟩:=List.mem_map.1 hj;exact hA.1.ok r hr
  split at this
  ·exact key _ this
  ·rcases List.mem_append.1 this with h | h
   ·exact key _ h
   ·simp at h;rw [h];exact hkk
 ·rintro ⟨q1,q2⟩ hq;have hnd:((dG k (cs,v) es).map (·.1)).Nodup:=by
   rw [mL];split
   ·exact hA.1.nodup
   ·rename_i hn;exact List.nodup_append.2 ⟨hA.1.nodup,by simp,fun x hx y hy e=>by simp at hy;subst hy;subst e;exact hn hx⟩
  have h1:=eB (k:=q1) (v:=q2) hnd hq;rw [qH] at h1;split at h1
  ·cases h1;exact hcs
  ·exact hA.1.rd _ (fY h1)
 ·intro j;show aQ k v m j=_;rw [qH];unfold aQ;split
  ·rfl
  ·exact hA.1.get j
 ·have:fO ek agg (dG k (cs,v) es)=mkv ek (dG k (mkV agg cs) (es.map fun p=>(p.1,mkV agg p.2.1))):=by
   unfold fO;rw [<- aAl (vv:=fun q:List Value×β=>mkV agg q.1) k (cs,v) es]
  rw [this];exact hm'
theorem aDf {p:Option Nat} (hT:P.underlying T=some (.map K E)) (hK:gS P K ek ok) {zc:List Value} (hz:∀ w,(zeroValue E).run P w=.ok (mkV agg zc) w) (H:St w0 w ls) (i:Nat) (hi:ls[i]?=some (HP.mx p ek agg R ok es m)) (k:κ) (hkk:ok k) (c:Bool) :
  (Instr.lookup T (.map p) (ek k) c).run P w=.ok (if c then .tuple #[mkV agg (iA es k zc),.bool (m k).isSome] else mkV agg (iA es k zc)) w:=by
 obtain ⟨B,_,hes,hm⟩:=H.mxOk i hi;cases p with
 | some b =>
  rw [aOp hT hK hz hm (qT hes.ok) k hkk];rw [hes.get k];unfold iA;have:=aB1 (vv:=fun q:List Value×β=>mkV agg q.1) k es;rw [this];cases bG k es<;>cases c<;>rfl
 | none =>
  have hm:es=[]:=hm;have h1:=hK.check true k w hkk;have h2:=hK.find k [] [] w hkk (by simp) rfl;rw [hes.get k];unfold Instr.lookup;rw [Sem.run_bind,run_underlying hT];simp only [Result.andThen_ok];cases c<;>simp [h1,h2,dV,hz,bG,iA,hm]
theorem oD {p:Option Nat} {zc cs:List Value} (F:Fr N a sl) (hT:P.underlying T=some (.map K E)) (hK:gS P K ek ok) (hz:∀ w,(zeroValue E).run P w=.ok (mkV agg zc) w) (ho:o.op=.lookup T x y false) (H:St w0 w ls) (i:Nat) (hi:ls[i]?=some (HP.mx p ek agg R ok es m)) (hx:ev sl x=some (.map p)) {k:κ} (hy:ev sl y=some (ek k)) (hkk:ok k) (hcs:iA es k zc=cs) :
  (execOp a.eval o).run P w=.ok (.value (mkV agg cs)) w:=by
 unfold execOp;simp only [ho,F.eval hx,F.eval hy,Sem.run_bind,aDf hT hK hz H i hi k hkk false,Result.andThen_ok,Sem.run_pure,hcs];rfl
theorem xQ {p:Option Nat} {zc cs:List Value} (F:Fr N a sl) (hT:P.underlying T=some (.map K E)) (hK:gS P K ek ok) (hz:∀ w,(zeroValue E).run P w=.ok (mkV agg zc) w) (ho:o.op=.lookup T x y true) (H:St w0 w ls) (i:Nat) (hi:ls[i]?=some (HP.mx p ek agg R ok es m)) (hx:ev sl x=some (.map p)) {k:κ} (hy:ev sl y=some (ek k)) (hkk:ok k) (hcs:iA es k zc=cs) :
  (execOp a.eval o).run P w=.ok (.value (.tuple [mkV agg cs,.bool (m k).isSome].toArray)) w:=by
 unfold execOp;simp only [ho,F.eval hx,F.eval hy,Sem.run_bind,aDf hT hK hz H i hi k hkk true,Result.andThen_ok,Sem.run_pure,hcs];rfl
theorem aEb {β γ:Type} (g:β->γ) (k:κ):∀ kv:List (κ×β),bG k (kv.map fun p=>(p.1,g p.2))=(bG k kv).map g
 | []=>rfl
 | (k',v)::r=>by
  simp only [List.map_cons,bG];split
  ·rfl
  ·exact aEb g k r
theorem EsOk.enum {B:Base} (h:EsOk R ok B es m):Enum m (es.map fun p=>(p.1,p.2.2)):=by
 refine ⟨by rw [List.map_map];exact h.nodup,fun k=>?_⟩;rw [h.get k,<- aEb (fun q:List Value×β=>q.2) k es]
end
def aR (l:List UInt8):Value:=.string (txb l)
theorem aCm (k:List UInt8):∀ (es:List MapEntry) (l:List (List UInt8×Value)) (i:Nat),es.map (fun e=>(e.key,e.val))=mkv aR l->Instr.findNow .string (aR k) es i=some (dV k l i)
 | [],l,i,h=>by
  cases l with
  | nil=>rfl
  | cons p l=>simp [mkv] at h
 | e::es,l,i,h=>by
  cases l with
  | nil=>simp [mkv] at h
  | cons p l =>
   obtain ⟨k',v'⟩:=p;simp only [mkv,List.map_cons,List.cons.injEq,Prod.mk.injEq] at h;obtain ⟨⟨hk,hv⟩,ht⟩:=h;have ih:=aCm k es l (i+1) ht;unfold Instr.findNow dV;by_cases hkk:k'=k
   ·subst hkk;simp only [hk,hv,aR,Instr.sameNow,(Go.MapKept.bytes_beq (txb k') (txb k')).2 rfl,if_true]
   ·have hne:(txb k==txb k')=false:=by
     rw [<- Bool.not_eq_true,Go.MapKept.bytes_beq];exact fun hh=>hkk (aIt hh).symm
    simp [Instr.sameNow,hk,aR,hne,hkk];exact ih
theorem eF {P:Program} {K:TypeId} (hK:P.underlying K=some .string):gS P K aR (fun _=>True) where
 check e k w _:=Go.MapKept.run_checkKey hK (by trivial) e 9999
 find k es l w _ _ h:=Go.MapKept.run_findKey hK (aCm k es l 0 h)
 stays k w _:=by
  unfold Instr.keyThatStays;have:Instr.sameBits 10000 (aR k) (aR k)=true:=by unfold Instr.sameBits aR;exact (Go.MapKept.bytes_beq (txb k) (txb k)).2 rfl
  rw [if_pos this];rfl
theorem kD {α:Type} (R:Rp α) (B:Base):(rSl R).rd B [.slice none 0 0] []:=⟨none,0,rfl,[],trivial,fun w _=>.inl ⟨rfl,rfl,rfl⟩⟩
theorem St.addFact {w0 w:World} {l:List HP} (H:St w0 w l) {p:Prop} (h:p):St w0 w (HP.fact p::l):=H.more fun _ _ _=>h
section
variable {P:Program} {T K E:TypeId} {κ:Type} [DecidableEq κ] {ek:κ->Value} {ok:κ->Prop} {w:World} {b:Nat} {l:List (κ×Value)}
end
section
variable {κ β:Type} [DecidableEq κ] {R:Rp β} {P:Program} {T K E:TypeId} {ek:κ->Value} {ok:κ->Prop} {agg:Bool} {w0 w:World} {b:Nat} {m:κ->Option β} {ls:List HP}
variable {ops:Array Oper} {rest:List Oper} {o:Oper} {a:Act} {W:List Oper->Act->World->Prop} {N:Fs} {sl:List (Nat×Value)} {d:Nat} {x y z:Operand}
def HP.mi (b:Nat) (ek:κ->Value) (agg:Bool) (R:Rp β) (ok:κ->Prop) (m:κ->Option β) (k:κ) (z0:β):HP :=
 HP.of (fun B w S=>(∃ (es:List (κ×(List Value×β))) (m':κ->Option β),EsOk R ok B es m'/\(m' k).getD z0=(m k).getD z0/\jX w b (fO ek agg es))/\S b)
  (fun ⟨⟨es,m',h1,h2,raw,c,h3,h4⟩,h5⟩ hS=>⟨⟨es,m',h1,h2,raw,c,by rw [hS _ h5];exact h3,h4⟩,h5⟩)
  (fun ⟨⟨es,m',h1,h2⟩,h5⟩ hl=>⟨⟨es,m',h1.mono hl,h2⟩,h5⟩)
end
section
variable {κ β:Type} [DecidableEq κ] {R:Rp β} {P:Program} {T K E:TypeId} {ek:κ->Value} {ok:κ->Prop} {agg:Bool} {w0 w:World} {b:Nat} {m:κ->Option β} {ls:List HP} {ops:Array Oper} {rest:List Oper} {o:Oper} {a:Act} {W:List Oper->Act->World->Prop} {N:Fs} {sl:List (Nat×Value)} {x y:Operand}
theorem aH5 {t':TypeId} (hT:P.underlying T=some (.map K E)) (hK:gS P K ek ok) (H:St w0 w ls) (i:Nat) (hi:ls[i]?=some (HP.mm (some b) ek agg R ok m)) (k:κ) (hkk:ok k) (ty:TypeId) :
  ∃ w',(Builtin.delete_ #[T,t'] ty #[.map (some b),ek k]).run P w=.ok (.tuple #[]) w'/\St w0 w' (ls.set i (HP.mm (some b) ek agg R ok (dR k m))):=by
 obtain ⟨es,H⟩:=H.mmOpen i hi;have hil:i<ls.length:=(List.getElem?_eq_some_iff.1 hi).1;have hi':(ls.set i (HP.mx (some b) ek agg R ok es m))[i]?=some (HP.mx (some b) ek agg R ok es m):=by simp [List.getElem?_set,hil]
 obtain ⟨_,_,hes,hm⟩:=H.mxOk i hi';obtain ⟨w',hr,hm',hc⟩:=aIx (t':=t') hT hK hm (qT hes.ok) k hkk ty;refine ⟨w',hr,?_⟩;have H2:=H.chg (A':=HP.mm (some b) ek agg R ok (dR k m)) i hi' (g:=b) (fun S hA=>hA.2.2) hc (fun S hA=>⟨fA k es,⟨?_,fun q hq=>hA.1.ok q (zM k es q hq),fun q hq=>hA.1.rd q (zM k es q hq),fun j=>?_⟩,?_,hA.2.2⟩)
 ·rw [List.set_set] at H2;exact H2
 ·rw [aEe];exact hA.1.nodup.erase k
 ·show dR k m j=_;rw [aEg j k es hA.1.nodup];unfold dR;split
  ·rfl
  ·exact hA.1.get j
 ·have:fO ek agg (fA k es)=mkv ek (fA k (es.map fun p=>(p.1,mkV agg p.2.1))):=by
   unfold fO;rw [<- aFs (vv:=fun q:List Value×β=>mkV agg q.1) k es]
  rw [this];exact hm'
theorem aE0 (kw:cP P ops W) (F:Fr N a sl) (hg:o.guard=none) (hd:o.dst=none) {t':TypeId} (hT:P.underlying T=some (.map K E)) (hK:gS P K ek ok) (ho:o.op=.call { callee:=.builtin .delete,args:=#[x,y],argTypes:=#[T,t'] }) (H:St w0 w ls) (i:Nat) (hi:ls[i]?=some (HP.mm (some b) ek agg R ok m))
  (hx:ev sl x=some (.map (some b))) {k:κ} (hy:ev sl y=some (ek k)) (hkk:ok k)
  (hk:∀ w',St w0 w' (ls.set i (HP.mm (some b) ek agg R ok (dR k m)))->W rest a w'):W (o::rest) a w:=by
 obtain ⟨w',hr,H'⟩:=aH5 (t':=t') hT hK H i hi k hkk o.type;refine aMn (v:=.tuple #[]) (w':=w') kw F hg hd (by rw [ho];rfl) ?_ (hk w' H');unfold execOp;simp [ho,resolve,invoke,builtin,F.eval hx,F.eval hy,hr]
end
section
variable {P:Program} {T E e:TypeId} {w0 w:World} {ls:List HP} {ops:Array Oper} {rest:List Oper} {o:Oper} {a:Act} {W:List Oper->Act->World->Prop} {N:Fs} {sl:List (Nat×Value)} {d:Nat} {x y z:Operand}
theorem aLj (hT:P.underlying T=some (.slice E)) (hE:P.underlying E=some (.int .u8)) {b n c k:Nat} {u:TypeId} (hs:w.shape? b=some (u,k)):(convert T T (.slice (some ⟨b,0,none⟩) n c)).run P w=.ok (.slice (some ⟨b,0,none⟩) n c) (w.freeze ⟨b,k,none⟩ 1):=by
 unfold convert;rw [Sem.run_bind,Go.Tri.run_underlying hT];simp only [Result.andThen_ok];rw [Sem.run_bind,Go.Tri.run_underlying hT];simp only [Result.andThen_ok];rw [Sem.run_bind,Go.Tri.run_underlying hE];simp [markStringish,hs]
theorem aKk {w:World} {b k j:Nat} (h:j≠b):(w.freeze ⟨b,k,none⟩ 1).heap[j]?=w.heap[j]?:=by
 unfold World.freeze;rw [if_neg (by decide)];simp [Array.getElem?_modify,Ne.symm h]
theorem aPf {w:World} {b k:Nat} {c:Array Value} {u:TypeId} {r:Nat×Nat} (h:w.heap[b]?=some (.cells c u r)):∃ r',(w.freeze ⟨b,k,none⟩ 1).heap[b]?=some (.cells c u r'):=by
 unfold World.freeze;rw [if_neg (by decide)];simp only [Array.getElem?_modify,if_true,h,Option.map_some];obtain ⟨lo,hi⟩:=r;exact ⟨_,rfl⟩
theorem aH1 (w:World) (b k:Nat):(w.freeze ⟨b,k,none⟩ 1).os=w.os/\(w.freeze ⟨b,k,none⟩ 1).tape=w.tape/\(w.freeze ⟨b,k,none⟩ 1).output=w.output/\(w.freeze ⟨b,k,none⟩ 1).heap.size=w.heap.size:=by
 unfold World.freeze;rw [if_neg (by decide)];simp
def HP.bm (b cap:Nat) (xs:List UInt8):HP:=HP.of (fun _ w S=>(∃ (c:Array Value) (u:TypeId) (r:Nat×Nat),w.heap[b]?=some (.cells c u r)/\xs.length<=cap/\c.toList.take xs.length=bB xs)/\S b)
  (fun ⟨⟨c,u,r,h1,h2⟩,h3⟩ hS=>⟨⟨c,u,r,by rw [hS _ h3];exact h1,h2⟩,h3⟩)
  (fun h _=>h)
theorem St.bmFrz {b cap:Nat} {xs:List UInt8} (H:St w0 w (HP.bm b cap xs::ls)):St w0 w (HP.sl rByte (some ⟨b,0,none⟩) cap xs::ls) :=
 H.freezeH fun {B B'} S h _ hw=>⟨_,lJ B' xs,fun w' hw'=>by
  obtain ⟨⟨c,u,r,h1,h2,h3⟩,hS⟩:=h
  have hb:=hw w' hw' b hS
  rw [kH (lJ B' xs)]
  refine .inr (.inr ⟨b,0,cap,rfl,h2,fun j v hj=>?_⟩)
  have hj2:c[j]?=some v:=by
   rw [<- h3,List.getElem?_take] at hj
   split at hj
   ·simpa using hj
   ·cases hj
  unfold World.cell?
  rw [hb,h1];simpa using hj2⟩
theorem xZ (kw:cP P ops W) (F:Fr N a sl) (hg:o.guard=none) (hd:o.dst=some d) (hN:Nat.blt d N.n=true) (hT:P.underlying T=some (.slice E)) (hE:P.underlying E=some (.int .u8)) (ho:o.op=.convert T T x) {b cap:Nat} {xs:List UInt8} (hx:ev sl x=some (.slice (some ⟨b,0,none⟩) xs.length cap))
  (H:St w0 w ls) (i:Nat) (hi:ls[i]?=some (HP.ow rByte e (some ⟨b,0,none⟩) cap xs))
  (hk:∀ w' a',St w0 w' (HP.sl rByte (some ⟨b,0,none⟩) cap xs::ls.eraseIdx i)->Fr N a' ((d,.slice (some ⟨b,0,none⟩) xs.length cap)::sl)->W rest a' w'):W (o::rest) a w:=by
 have H1:=H.mv i hi;obtain ⟨B,S,hs,⟨css,h1,⟨hl,hh⟩,hS⟩,_⟩:=H1.get 0 rfl;rw [kH h1] at hh hl;have hshape:∃ c,w.heap[b]?=some (.cells c e (0,0))/\xs.length<=cap/\c.toList.take xs.length=bB xs:=by
  rcases hh with ⟨h,_⟩ | ⟨g,cap',cur,h,_,hg',hnc,_,_,ht⟩
  ·cases h
  ·cases h;have e1:rByte.n=1:=rfl;rw [e1,Nat.mul_one] at ht;exact ⟨cur,hg',hnc,ht⟩
 obtain ⟨c,hc,hcap,htk⟩:=hshape;have hsh:w.shape? b=some (e,c.size):=by simp [World.shape?,hc]
 refine cL (w':=w.freeze ⟨b,c.size,none⟩ 1) (v:=.slice (some ⟨b,0,none⟩) xs.length cap) kw F hg hd hN (by rw [ho];rfl) ?_ fun a' F'=>hk _ a' ?_ F'
 ·unfold execOp;simp only [ho,F.eval hx];rw [Sem.run_bind,aLj hT hE hsh];rfl
 ·obtain ⟨r1,r2,r3,r4⟩:=aH1 w b c.size;refine St.bmFrz (H1.upd 0 (A':=HP.bm b cap xs) rfl (fun {B} S hA hS=>⟨S,?_,fun b hb=>.inl hb,fun b hb=>by rw [r4];exact (hS b hb).1,fun j _ hn=>?_⟩) r1 r2 r3 (by rw [r4];exact Nat.le_refl _))
  ·obtain ⟨css,_,_,hSb⟩:=hA;obtain ⟨r',hr'⟩:=aPf (k:=c.size) hc;exact ⟨⟨c,e,r',hr',hcap,htk⟩,hSb b rfl⟩
  ·refine aKk fun e2=>hn ?_;obtain ⟨css,_,_,hSb⟩:=hA;rw [e2];exact hSb b rfl
end
section
variable {P:Program} {ops:Array Oper} {C:World->Prop} {K:Act->World->Prop} {N:Fs} {a:Act} {l:List (Nat×Value)} {w:World} {i d:Nat} {o:Oper} {r:Sc} {v:Value}
theorem aJd {M:Act->World->Prop} (hw:Region.wanted o (yielded ops a.tmps)=true) (h:wpList P ops (Exit.then M (fun _ _ _=>False)) [o] a w):o.wp P a w M (fun _ _ _=>False):=by
 unfold wpList at h;rw [if_pos hw] at h;rcases h with h | ⟨_,_,_,h⟩
 ·unfold Oper.wp at *;generalize (execOp a.eval o).run P w=r at *;cases r with
  | ok n w' =>
   cases n<;>simp only [Oper.upon] at h ⊢
   case value v=>exact h
   case skip=>exact h
   case defer d=>exact h
   case enter f args =>
    refine Calls.mono h fun e w'' he=>?_;cases e with
    | returned u=>exact he
    | panicked c=>exact he
    | outgrown=>obtain ⟨_,_,h⟩:=he;exact h.elim
   case row row args=>exact h
  | halt x w' =>
   cases x<;>simp only [Oper.upon] at h ⊢
   case panic v=>exact h
 ·exact h.elim
theorem nW {s:Nat} {bb:Bool} {g:Nat} {og:Oper} (F:Fr N a l) (hi:ops[i]?=some o) (hgd:o.guard=some (g,bb)) (hog:ops[g]?=some og) (hog2:og.dst=some s) (hv:lk s l=some (.bool bb)) (h:wpList P ops (Exit.then (fun a' w'=>C w'/\cG P ops C K r a' w') (fun _ _ _=>False)) [o] a w):cG P ops C K (.step 2 i r) a w :=
 ⟨o,hi,fun hw=>aJd hw h,fun hw=>by rw [nV F hgd hog hog2 hv] at hw;cases hw⟩
end
section
variable {P:Program} {t t' e:TypeId} {o:Oper} {a:Act} {w:World} {N:Fs} {sl:List (Nat×Value)} {x y:Operand}
end
end Go.Tri
