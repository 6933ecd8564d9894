/- Texts A4. -/
import Derived.Test.YtkcgdaihfblncaaGreatDoorQ2
import Derived.Test.YtkcgdaihfblncaaGreatDoorQ1
import Derived.DeepKeys3
import Derived.WideKeyRuns
import Derived.OrdersIn
import Derived.MapKept
import GoSem.Instr.MapEntry
import Derived.Lib.ConvBytes
set_option linter.unusedSimpArgs false
set_option linter.unusedVariables false
/- Data: maps whose keys and values are plain. -/
namespace Go.Tri
open Go.RowKit
def hv (h:List UInt8):Value:=.agg (aQ h).toArray
theorem map_eraseIdx {α β:Type} (f:α->β):∀ (l:List α) (j:Nat),(l.eraseIdx j).map f=(l.map f).eraseIdx j
 | [],_=>rfl
 | _::_,0=>rfl
 | x::l,j+1=>by simp [map_eraseIdx f l j]
def cV {κ β:Type} [DecidableEq κ] (k:κ) (l:List (κ×β)):List (κ×β):=match l with
 | []=>[]
 | p::r=>if p.1=k then r else p::cV k r
section
variable {κ β:Type} [DecidableEq κ] {ek:κ->Value} {ev':β->Value}
def HP.mf (b:Nat) (ek:κ->Value) (vv:β->Value) (ok:κ->Prop) (ov:β->Prop) (kv:List (κ×β)):HP :=
 HP.of (fun _ w S=>(fH w b (mkv ek (kv.map fun (p:κ×β)=>(p.1,vv p.2)))/\∀ p∈kv,ok p.1/\ov p.2)/\S b)
  (fun h hS=>by
  obtain ⟨⟨⟨es,c,h1,h2⟩,h4⟩,h3⟩:=h
  exact ⟨⟨⟨es,c,by rw [hS _ h3];exact h1,h2⟩,h4⟩,h3⟩)
  (fun h _=>h)
theorem zK {vv:β->Value} (k:κ):∀ kv:List (κ×β),aZ k (kv.map fun p=>(p.1,vv p.2))=(aZ k kv).map vv
 | []=>rfl
 | (k',v)::r=>by
  simp only [List.map_cons,aZ]
  split
  ·rfl
  ·exact zK k r
theorem sG {vv:β->Value} (k:κ) (v:β):∀ kv:List (κ×β),bV k (vv v) (kv.map fun p=>(p.1,vv p.2))=(bV k v kv).map fun p=>(p.1,vv p.2)
 | []=>rfl
 | (k',u)::r=>by
  simp only [List.map_cons,bV]
  split
  ·rfl
  ·simp [sG k v r]
theorem aE5 {ok:κ->Prop} {ov:β->Prop} {k:κ} {v:β} (hk:ok k/\ov v):∀ {kv:List (κ×β)},(∀ p∈kv,ok p.1/\ov p.2)->∀ p∈bV k v kv,ok p.1/\ov p.2
 | [],_,p,hp=>by grind [bV]
 | (k',u)::r,h,p,hp=>by
  simp only [bV] at hp
  split at hp
  ·grind
  ·rcases List.mem_cons.1 hp with rfl | hp
   ·simp_all
   ·exact aE5 hk (fun q hq=>h q (by grind)) p hp
variable {P:Program} {T K E:TypeId} {ok:κ->Prop} {ov:β->Prop} {vv:β->Value} {w0 w:World} {b:Nat} {kv:List (κ×β)} {ls:List HP} {ops:Array Oper} {rest:List Oper} {o:Oper} {a:Act} {W:List Oper->Act->World->Prop} {N:Fs} {sl:List (Nat×Value)} {d:Nat} {x y z:Operand}
theorem s_mfSet (kw:bN P ops W) (F:Fr N a sl) (hg:o.guard=none) (hd:o.dst=none) (hT:P.underlying T=some (.map K E)) (hK:dS P K ek ok) (ho:o.op=.mapUpdate T x y z) (H:St w0 w ls) (i:Nat) (hi:ls[i]?=some (HP.mf b ek vv ok ov kv))
  (hx:ev sl x=some (.map (some b))) {k:κ} (hy:ev sl y=some (ek k)) {v:β} (hz:ev sl z=some (vv v)) (hkk:ok k) (hvv:ov v)
  (hk:∀ w',St w0 w' (ls.set i (HP.mf b ek vv ok ov (bV k v kv)))->W rest a w'):W (o::rest) a w:=by
 obtain ⟨_,S0,_,⟨⟨hm,hok⟩,_⟩,_⟩:=H.get i hi
 have hok':∀ p∈kv.map (fun p=>(p.1,vv p.2)),ok p.1:=fun p hp=>by grind
 obtain ⟨w',hr,hm',hc⟩:=vU hT hK hm hok' k hkk (vv v)
 refine fF kw F hg hd (by rw [ho];rfl) (w':=w') ?_ (hk _ (H.chg i hi (fun S hA=>hA.2) hc fun S hA=>⟨⟨by rw [<- sG];exact hm',aE5 ⟨hkk,hvv⟩ hok⟩,hA.2⟩))
 unfold execOp
 simp only [ho,F.eval hx,F.eval hy,F.eval hz,Sem.run_bind,hr,Result.andThen_ok,Sem.run_pure]
omit [DecidableEq κ] in
theorem vM [DecidableEq κ] {vv:β->Value} (k:κ):∀ kv:List (κ×β),cV k (kv.map fun p=>(p.1,vv p.2))=(cV k kv).map fun p=>(p.1,vv p.2)
 | []=>rfl
 | (k',v)::r=>by
  simp only [List.map_cons,cV]
  split
  ·rfl
  ·simp [vM k r]
theorem nG (k:κ):∀ (kv:List (κ×β)) (p:κ×β),p∈cV k kv->p∈kv
 | [],p,h=>h
 | q::r,p,h=>by
  simp only [cV] at h
  split at h
  ·grind
  ·rcases List.mem_cons.1 h with rfl | h
   ·simp
   ·exact List.mem_cons_of_mem _ (nG k r p h)
theorem aAf (k:κ):∀ (l:List (κ×Value)) (i:Nat),(∀ j u,cI k l i=some (j,u)->i<=j/\cV k l=l.eraseIdx (j-i))/\(cI k l i=none->cV k l=l)
 | [],i=>⟨fun j u h=>by simp [cI] at h,fun _=>rfl⟩
 | (k',v)::r,i=>by
  simp only [cI,cV]
  split
  ·simp
  ·obtain ⟨h1,h2⟩:=aAf k r (i+1)
   refine ⟨fun j u h=>?_,fun h=>by rw [h2 h]⟩
   obtain ⟨h3,h4⟩:=h1 j u h
   refine ⟨by omega,?_⟩
   rw [h4,show j-i=(j-(i+1))+1 by omega,List.eraseIdx_cons_succ]
theorem aD9 {l:List (κ×Value)} {t':TypeId} (hT:P.underlying T=some (.map K E)) (hK:dS P K ek ok) (h:fH w b (mkv ek l)) (hok:∀ p∈l,ok p.1) (k:κ) (hk:ok k) (ty:TypeId) :
  ∃ w',(Builtin.delete_ #[T,t'] ty #[.map (some b),ek k]).run P w=.ok (.tuple #[]) w'/\fH w' b (mkv ek (cV k l))/\Chg b w w':=by
 obtain ⟨es,c,hb,he,hnd,hlt⟩:=h
 have hbl:b<w.heap.size:=(Array.getElem?_eq_some_iff.1 hb).1
 have hf:=hK.find k es.toList l w hk hok he
 have hpre:(Builtin.delete_ #[T,t'] ty #[.map (some b),ek k]).run P w=((match cI k l 0 with
   | some (i,_)=>do
    setObj b (.map (es.eraseIdxIfInBounds i) c)
    pure (.tuple #[])
   | none=>do
    setObj b (.map es c)
    pure (.tuple #[]):Sem Value)).run P w:=by
  unfold Builtin.delete_
  simp only [List.getElem?_toArray,List.getElem?_cons_zero,List.getElem?_cons_succ]
  rw [Sem.run_bind,run_underlying hT]
  simp only [Result.andThen_ok]
  rw [Sem.run_bind,kE w b es c hb]
  simp only [Result.andThen_ok]
  rw [Sem.run_bind,hK.check _ k w hk]
  simp only [Result.andThen_ok]
  rw [Sem.run_bind,hf]
  simp only [Result.andThen_ok]
  rcases cI k l 0 with _ | ⟨i,u⟩<;>rfl
 obtain ⟨d1,d2⟩:=aAf k l 0
 cases hg:cI k l 0 with
 | none =>
  refine ⟨w.putObj b (.map es c),?_,⟨es,c,World.putObj_heap_same hbl,by rw [d2 hg];exact he,hnd,hlt⟩,kJ _ _ _⟩
  rw [hpre,hg];show Sem.run P (do setObj b (.map es c);pure (Value.tuple #[])) w=_;rw [Sem.run_bind,qD w b es c _ hb];rfl
 | some p =>
  obtain ⟨j,u⟩:=p
  obtain ⟨_,h4⟩:=d1 j u hg
  rw [Nat.sub_zero] at h4
  have hto:(es.eraseIdxIfInBounds j).toList=es.toList.eraseIdx j:=by simp
  refine ⟨w.putObj b (.map (es.eraseIdxIfInBounds j) c),?_,⟨_,c,World.putObj_heap_same hbl,?_,?_,?_⟩,kJ _ _ _⟩
  ·rw [hpre,hg];show Sem.run P (do setObj b (.map (es.eraseIdxIfInBounds j) c);pure (Value.tuple #[])) w=_;rw [Sem.run_bind,qD w b es c _ hb];rfl
  ·rw [hto,h4]
   simp only [mkv,map_eraseIdx]
   rw [he];rfl
  ·rw [hto,map_eraseIdx];exact hnd.sublist (List.eraseIdx_sublist _ _)
  ·intro e he'
   rw [hto] at he'
   exact hlt e (List.mem_of_mem_eraseIdx he')
end
section
variable {P:Program} {w0 w:World} {ls:List HP} {t ti e:TypeId} {bytes:Nat} {z:Value}
variable {ops:Array Oper} {rest:List Oper} {o:Oper} {a:Act} {W:List Oper->Act->World->Prop} {N:Fs} {sl:List (Nat×Value)} {d:Nat}
end
theorem aPi {P:Program} {row:String} {args:Array Value} {w:World} {R:Value->World->Prop} (ro:Option Nat) (h:Rows P row args w R):RowsIn (FN ro) 0 P row args w R :=
 fun c cs _=>let ⟨v,w',r,s⟩:=h c cs;⟨v,w',r,stepsIn_wide.2 s⟩
theorem aJ2 {P:Program} {o:Oper} {a:Act} {w:World} {K:Act->World->Prop} {Q:Exit->Act->World->Prop} (ro:Option Nat) (hd:dD o.op=true) (h:o.wp P a w K Q):o.wpIn (FN ro) 0 P a w K Q:=by
 refine ⟨fun _ _=>trivial,?_⟩
 rw [Oper.semAt_eq _ _ _ (qT hd)]
 unfold Oper.wp at h
 generalize (execOp a.eval o).run P w=r at h ⊢
 cases r with
 | ok n w' =>
  cases n with
  | value v=>exact h
  | skip=>exact h
  | defer d=>exact h
  | enter f args=>exact ⟨(fun h=>by cases h),aD8 ro h⟩
  | row row args=>exact ⟨(fun h=>by cases h),aPi ro h⟩
  | round l f tmps assign body=>exact h.elim
  | _=>exact h.elim
 | halt x w' =>
  cases x<;>first | exact h | exact h.elim
theorem oU {P:Program} {md:Region.Mode} {ops:Array Oper} {Q:Exit->Act->World->Prop} (ro:Option Nat) (hQ:∀ a w,¬ Q .outgrown a w) (hnd:∀ (i:Nat) (o:Oper),ops[i]?=some o->dD o.op=true) :
  ∀ (f:Nat) (listed:Array Bool) (a:Act) (w:World),wpAny P md ops Q f listed a w->wpAnyIn (FN ro) 0 P md ops Q f listed a w
 | 0,_,_,_,h=>h
 | f+1,listed,a,w,h=>by
  refine ⟨h.1,fun i hi=>?_⟩
  have h1:=h.2 i hi
  unfold wpOp at h1
  unfold wpOpIn
  cases ho:ops[i]? with
  | none=>rw [ho] at h1;exact oU ro hQ hnd f _ _ _ h1
  | some o =>
   rw [ho] at h1
   simp only at h1 ⊢
   by_cases hw:Region.wanted o (yielded ops a.tmps)=true
   ·rw [if_pos hw] at h1 ⊢
    rcases h1 with h1 | ⟨_,x,y,h1⟩
    ·exact aJ2 ro (hnd i o ho) (Oper.wp_mono (fun a w=>oU ro hQ hnd f _ a w) h1)
    ·exact (hQ _ _ h1).elim
   ·rw [if_neg hw] at h1 ⊢
    exact ⟨fun _ _=>trivial,oU ro hQ hnd f _ _ _ h1⟩
theorem aLc {P:Program} {ro:Option Nat} {id:Nat} {Q:Exit->Act->World->Prop} {a:Act} {w:World} {l:List Oper} (hs hz:List Nat) (s:Sc) (C:World->Prop) (hm:P.follows .mixedOrders=true)
  (hB:(l.all (fun o=>dD o.op)&&(Region.noSelect l.toArray&&dL .any l.toArray (fun i=>hs.contains i) (fun i=>hz.contains i) s (Array.replicate l.toArray.size false)&&(s.len==l.toArray.size)))=true) (hC:C w.drew)
  (h:aW P l.toArray C (Q .normal) s a w.drew):(Code.region id l.toArray true).wpIn (FN ro) 0 P Q a w:=by
 simp only [Bool.and_eq_true,beq_iff_eq] at hB
 obtain ⟨h0,⟨h1,h2⟩,h3⟩:=hB
 have hnd:∀ (i:Nat) (o:Oper),l.toArray[i]?=some o->dD o.op=true:=by
  grind
 refine Go.wpIn_mono (Q:=fun e a w=>match e with | .normal=>Q .normal a w | _=>False) (wpIn_region_any hm ?_) fun e a w h=>by grind
 have:=mC (Q:=fun e a w=>match e with | .normal=>Q .normal a w | _=>False) (fun a w h=>h) _ _ _ _ (fE h1 s _ a w.drew h2 (.inr hC) h)
 rw [h3] at this
 exact oU ro (fun _ _ h=>h) hnd _ _ _ _ this
theorem aIl {P:Program} {ro:Option Nat} {x:Code} {Q:Exit->Act->World->Prop} {a:Act} {w:World} (M:Act->World->Prop) (hx:x.wpIn (FN ro) 0 P (Exit.then M Q) a w) (hy:∀ a w,M a w->Q .normal a w):x.wpIn (FN ro) 0 P Q a w :=
 Go.wpIn_mono hx fun e a w h=>by cases e<;>first | exact hy a w h | exact h
theorem outF {P:Program} {c:Code} {Q:Exit->Act->World->Prop} {a:Act} {w:World} (h:c.wp P Q a w):c.wpIn (FN none) 0 P Q a w:=(wpIn_wide (n:=0)).2 h
theorem inF {P:Program} {c:Code} {Q:Exit->Act->World->Prop} {a:Act} {w:World} (h:c.wpIn (FN none) 0 P Q a w):c.wp P Q a w:=(wpIn_wide (n:=0)).1 h
def marks (Ds:List Nat):List Deferred:=Ds.map mark
def HP.mks (Ds:List Nat):HP:=HP.of (fun _ w S=>Ds.Nodup/\∀ D∈Ds,w.heap[D]?=some (.deferred (some []))/\S D)
  (fun h hS=>⟨h.1,fun D hD=>⟨by rw [hS D (h.2 D hD).2];exact (h.2 D hD).1,(h.2 D hD).2⟩⟩)
  (fun h _=>h)
theorem St.mks0 {w0 w:World} {l:List HP} (H:St w0 w l):St w0 w (HP.mks []::l):=H.more fun _ _ _=>⟨List.nodup_nil,fun D h=>by grind⟩
theorem St.mks1 {w0 w:World} {l:List HP} {D:Nat} {Ds:List Nat} (H:St w0 w (HP.obj D (.deferred (some []))::HP.mks Ds::l)):St w0 w (HP.mks (D::Ds)::l) :=
 H.join fun S T h1 h2 hd=>⟨List.nodup_cons.2 ⟨fun hm=>hd D h1.2 (h2.2 D hm).2,h2.1⟩,fun E hE=>by
  rcases List.mem_cons.1 hE with rfl | hE
  ·exact ⟨h1.1,.inl h1.2⟩
  ·exact ⟨(h2.2 E hE).1,.inr (h2.2 E hE).2⟩⟩
theorem Sub.put {B:Base} {w:World} (h:Sub B w) {D:Nat} (hB:B D=none) (o:Obj):Sub B (w.putObj D o):=by
 intro b x hb
 show (w.heap.setIfInBounds D o)[b]?=_
 rw [Array.getElem?_setIfInBounds,if_neg (fun e=>by grind)]
 exact h b x hb
theorem aCx {P:Program} {fn:Func} {R:Ending->World->Prop} {tmps:Array Value} {w0:World} {l:List HP} {v:Value}:∀ (Ds:List Nat) (w:World),St w0 w (HP.mks Ds::l)->(∀ w,St w0 w l->(results fn tmps).run P w=.ok v w)->(∀ w,St w0 w l->R (.returned v) w)->LeavesInM (FN none) 0 P fn tmps R (marks Ds) .returning w
 | [],w,H,hr,h=>⟨v,hr w H.tail,h w H.tail⟩
 | D::Ds,w,H,hr,h=>by
  obtain ⟨hv,B,f,hs,h1,h2,h3⟩:=H
  have hm:=h1 0 _ rfl
  have hD:=hm.2 D (by simp)
  have hf0:=h3 0 D (by simp) hD.2
  have hnd:=List.nodup_cons.1 hm.1
  have H2:St w0 (w.putObj D (.deferred none)) (HP.mks Ds::l):=by
   have hc:=kJ w D (.deferred none)
   refine ⟨⟨hc.os.trans hv.1,hc.tape.trans hv.2.1,hc.output.trans hv.2.2.1,by rw [hc.size];exact hv.2.2.2⟩,B,fun i=>match i with | 0=>fun b=>b≠D/\f 0 b | i+1=>f (i+1),hs.put hf0.2.1 _,?_,?_,?_⟩
   ·intro i A hi
    cases i with
    | zero =>
     simp at hi;subst hi
     refine ⟨hnd.2,fun E hE=>⟨?_,fun e=>hnd.1 (e▸hE),(hm.2 E (by simp [hE])).2⟩⟩
     rw [hc.oth E (fun e=>hnd.1 (e▸hE))];exact (hm.2 E (by simp [hE])).1
    | succ i =>
     have hi':(HP.mks (D::Ds)::l)[i+1]?=some A:=by simpa using hi
     have hil:=(List.getElem?_eq_some_iff.1 hi').1
     exact A.loc (h1 (i+1) A hi') fun b hb=>hc.oth b fun e=>by subst e;have:=h2 0 (i+1) b (by simp) hil hD.2 hb;omega
   ·intro i j b hi hj hfi hfj
    refine h2 i j b (by simpa using hi) (by simpa using hj) ?_ ?_
    ·cases i with
     | zero=>exact hfi.2
     | succ i=>exact hfi
    ·cases j with
     | zero=>exact hfj.2
     | succ j=>exact hfj
   ·intro i b hi hf
    rw [hc.size]
    refine h3 i b (by simpa using hi) ?_
    cases i with
    | zero=>exact hf.2
    | succ i=>exact hf
  refine ⟨by simp,.inl ⟨D,_,rfl,run_takeDeferred hD.1,?_⟩⟩
  exact aCx Ds _ H2 hr h
section
variable {P:Program} {fn:Func} {R:Ending->World->Prop} {a:Act} {w0 w:World} {N:Nat} {Ds:List Nat} {l:List (Nat×Value)} {ls:List HP}
theorem aOa {v:Value} (F:Fr ⟨N,marks Ds⟩ a l) (H:St w0 w (HP.mks Ds::ls)) (hr:∀ w,St w0 w ls->(results fn a.tmps).run P w=.ok v w) (h:∀ w,St w0 w ls->R (.returned v) w):LeavesInM (FN none) 0 P fn a.tmps R a.defers .returning w:=by
 rw [F.defers];exact aCx Ds w H hr h
end
theorem aNi {P:Program} {f:FuncId} {fn:Func} {c:Code} {args:List Value} {w:World} {R:Ending->World->Prop} {N:Nat}
  (hf:P.funcs[f]?=some fn) (hb:fn.body=some c) (hN:fn.ntmps=N) (hle:Nat.ble args.length N=true)
  (h:∀ a,Fr ⟨N,marks []⟩ a (jP 0 args)->c.wp P (bodyPostM (FN none) 0 P fn R) a w):Calls P f args.toArray w R :=
 aMc hf hb hN hle fun a F=>outF (h a F)
def bW {σ β ρ:Type} (f:σ->β->Option (σ ⊕ ρ)):σ->List β->Option (σ ⊕ ρ)
 | s,[]=>some (.inl s)
 | s,x::xs=>(f s x).bind fun o=>match o with | .inl s'=>bW f s' xs | .inr r=>some (.inr r)
theorem tF {σ ι α β ρ:Type} {f:σ->β->Option (σ ⊕ ρ)} {pj:α->β}:∀ {pre post:List α} {g0 g:σ×ι},Rn (fun (g:σ×ι) x (g':σ×ι)=>f g.1 (pj x)=some (.inl g'.1)) g0 pre g->bW f g0.1 ((pre++post).map pj)=bW f g.1 (post.map pj)
 | [],_,_,_,h=>by cases h;rfl
 | x::pre,post,g0,g,⟨g1,h1,h2⟩=>by
  show (f g0.1 (pj x)).bind _=_
  rw [h1]
  exact tF h2
def aDa {σ ι ρ κ:Type} (w0:World) (J:σ->ι->List HP) (K:ρ->κ->List HP) (jmp:ρ->Code) (o:σ ⊕ ρ) (fr:List HP):Exit->Act->World->Prop
 | .normal,_,w=>∃ s i,o=.inl s/\St w0 w (J s i++fr)
 | .ret,_,w=>∃ r i,o=.inr r/\jmp r=.ret/\St w0 w (K r i++fr)
 | .exit n,_,w=>∃ r i,o=.inr r/\jmp r=.exit n/\St w0 w (K r i++fr)
 | _,_,_=>False
theorem perm_m {A B C:List HP} {m:HP}:(A++(B++m::C)).Perm (m::(A++(B++C))):=by grind [List.perm_middle]
theorem aPf {P:Program} {N:Nat} {Ds:List Nat} {a:Act} {l:List (Nat×Value)} {w0 w:World} {g:Operand} {ps:List Nat} {assign body:Code} {Q:Exit->Act->World->Prop} {gf:FuncId} {lb:List Value} {σ ι ρ κ α β Mid:Type} {enc:α->List Value} {own fr:List HP} {zs:List α} (pj:α->β)
  (F:Fr ⟨N,marks Ds⟩ a l) (hg:ev l g=some (.func (.func gf) #[] lb.toArray)) (eg:∀ args w,(callFunc gf args).run P w=.ok (.enter gf args) w) (hS:xN P gf lb enc own (fun xs x=>∃ ys,zs=xs++x::ys) (fun xs=>xs=zs))
  (J:σ->ι->List HP) (K:ρ->κ->List HP) (jmp:ρ->Code) (f:σ->β->Option (σ ⊕ ρ)) (s0:σ) (i0:ι) {o:σ ⊕ ρ} (hm:bW f s0 (zs.map pj)=some o)
  (H:St w0 w (HP.mks Ds::(J s0 i0++(own++fr)))) (hps:∀ x,(enc x).length=ps.length) (hpN:ps.all (Nat.blt · N)=true)
  (ml:σ->ι->α->Mid->List (Nat×Value)) (mi:σ->ι->α->Mid->List HP)
  (hassign:∀ L s i x a1 W fr,x∈zs->Fr ⟨N,[]⟩ a1 (nN ps (enc x) l)->St w0 W (J s i++fr) ->
   assign.wpIn (FN (some L)) 0 P (Exit.then (fun a2 w2=>∃ m,Fr ⟨N,[]⟩ a2 (ml s i x m)/\St w0 w2 (mi s i x m++fr)) (fun _ _ _=>False)) a1 W)
  (hbody:∀ L s i x m o a1 W fr,x∈zs->f s (pj x)=some o->Fr ⟨N,[]⟩ a1 (ml s i x m)->St w0 W (mi s i x m++fr)->body.wpIn (FN (some L)) 0 P (aDa w0 J K jmp o fr) a1 W)
  (hdone:∀ s i Ds a1 W,o=.inl s->Fr ⟨N,marks Ds⟩ a1 l->St w0 W (HP.mks Ds::(J s i++(own++fr)))->Q .normal a1 W)
  (hstop:∀ r i Ds a1 W,o=.inr r->Fr ⟨N,marks Ds⟩ a1 l->St w0 W (HP.mks Ds::(K r i++(own++fr)))->(jmp r).wp P Q a1 W) :
  (Code.rangeFunc g ps.toArray assign body).wp P Q a w:=by
 refine inF (aOp (G:=σ×ι) (E:=ρ×κ) (fr:=HP.mks Ds::fr) F hg eg hS (fun g=>J g.1 g.2) (fun k=>K k.1 k.2) (fun k=>jmp k.1) (fun g x g'=>f g.1 (pj x)=some (.inl g'.1)) (fun g x k=>f g.1 (pj x)=some (.inr k.1)) (s0,i0) (H.perm perm_m.symm) hps hpN (fun g x m=>ml g.1 g.2 x m) (fun g x m=>mi g.1 g.2 x m) ?_ ?_ ?_ ?_)
 ·rintro L xs g x a1 W fr ⟨ys,hz⟩ _ F1 H1
  exact hassign L g.1 g.2 x a1 W fr (by rw [hz];simp) F1 H1
 ·rintro L xs g x m a1 W fr ⟨ys,hz⟩ hrn F1 H1
  have hf:∃ o1,f g.1 (pj x)=some o1:=by
   rw [hz,tF hrn] at hm
   simp only [List.map_cons,bW] at hm
   obtain ⟨o1,h1,_⟩:=ob hm
   exact ⟨o1,h1⟩
  obtain ⟨o1,hf⟩:=hf
  refine Go.wpIn_mono (hbody L g.1 g.2 x m o1 a1 W fr (by rw [hz];simp) hf F1 H1) fun e a2 w2 h=>?_
  cases e with
  | normal=>obtain ⟨s,i,rfl,h⟩:=h;exact ⟨(s,i),hf,h⟩
  | ret=>obtain ⟨r,i,rfl,hj,h⟩:=h;exact ⟨(r,i),hf,hj,h⟩
  | exit n=>obtain ⟨r,i,rfl,hj,h⟩:=h;exact ⟨(r,i),hf,hj,h⟩
  | _=>exact h.elim
 ·rintro D xs g a1 W rfl hrn F1 H1
  have:=tF (post:=[]) hrn
  rw [List.append_nil,hm] at this
  exact hdone g.1 g.2 (D::Ds) a1 W (Option.some.inj this) F1 (St.mks1 (H1.perm (List.Perm.cons _ perm_m)))
 ·rintro D xs g x k a1 W ⟨ys,hz⟩ hrn hst F1 H1
  have h1:=hm
  rw [hz,tF hrn] at h1
  simp only [List.map_cons,bW,hst] at h1
  exact outF (hstop k.1 k.2 (D::Ds) a1 W (Option.some.inj h1).symm F1 (St.mks1 (H1.perm (List.Perm.cons _ perm_m))))
def RV (P:Program) (l:List (Nat×Value)) (w:World):ResultVar->Value->Prop
 | .tmp t,v=>lk t l=some v
 | .cell t ty,v=>∃ ad,lk t l=some (.pointer (some ad))/\(loadVar ty ad).run P w=.ok v w
def eV (tmps:Array Value):ResultVar->Sem Value
 | .tmp t=>pure (tmps.getD t undef)
 | .cell a t=>do loadVar t (<- asAddr (tmps.getD a undef))
section
variable {P:Program} {fn:Func} {a:Act} {w:World} {M:Fs} {l:List (Nat×Value)}
theorem RV.run (F:Fr M a l) {r:ResultVar} {v:Value} (h:RV P l w r v):(eV a.tmps r).run P w=.ok v w:=by
 cases r with
 | tmp t =>
  have:=F.get t v h
  simp_all [eV]
 | cell t ty =>
  obtain ⟨ad,h1,h2⟩:=h
  have:=F.get t _ h1
  simp [eV,this,asAddr,h2]
theorem aFv (F:Fr M a l) {r:ResultVar} {v:Value} (hr:fn.results=#[r]) (h:RV P l w r v):(results fn a.tmps).run P w=.ok v w:=by
 have h1:=h.run F
 have:results fn a.tmps=(do let x<-eV a.tmps r;pure x):=by unfold results;rw [hr];simp [eV];rfl
 grind
theorem aI9 (F:Fr M a l) {r s:ResultVar} {v u:Value} (hr:fn.results=#[r,s]) (h:RV P l w r v) (k:RV P l w s u):(results fn a.tmps).run P w=.ok (.tuple [v,u].toArray) w:=by
 have h1:=h.run F
 have h2:=k.run F
 have:results fn a.tmps=(do let x<-eV a.tmps r;let y<-eV a.tmps s;pure (.tuple #[x,y])):=by
  unfold results;rw [hr];simp [eV];cases r<;>cases s<;>rfl
 simp_all
theorem aN4 (F:Fr M a l) {r s t:ResultVar} {v u x:Value} (hr:fn.results=#[r,s,t]) (h:RV P l w r v) (k:RV P l w s u) (k3:RV P l w t x):(results fn a.tmps).run P w=.ok (.tuple [v,u,x].toArray) w:=by
 have h1:=h.run F
 have h2:=k.run F
 have h3:=k3.run F
 have:results fn a.tmps=(do let x<-eV a.tmps r;let y<-eV a.tmps s;let z<-eV a.tmps t;pure (.tuple #[x,y,z])):=by
  unfold results;rw [hr];simp [eV];cases r<;>cases s<;>cases t<;>rfl
 simp_all
theorem ld1 {t:TypeId} {b off:Nat} {v:Value} (hP:Plain P t) (hc:w.cell? ⟨b,off,none⟩=some v):(loadVar t ⟨b,off,none⟩).run P w=.ok v w:=by
 simp [loadVar,hP.run_isAgg,hc]
end
section
variable {P:Program} {fn:Func} {R:Ending->World->Prop} {a:Act} {w0 w:World} {N:Nat} {Ds:List Nat} {l:List (Nat×Value)} {ls:List HP} {r s t:ResultVar} {v u x:Value}
theorem sN (F:Fr ⟨N,[]⟩ a l) (hr:fn.results=#[r]) (h1:RV P l w r v) (h:R (.returned v) w):bodyPost P fn R .ret a w:=bodyPost_ret (aFv F hr h1) F.defers h
theorem cG (F:Fr ⟨N,[]⟩ a l) (hr:fn.results=#[r,s]) (h1:RV P l w r v) (h2:RV P l w s u) (h:R (.returned (.tuple [v,u].toArray)) w):bodyPost P fn R .ret a w:=bodyPost_ret (aI9 F hr h1 h2) F.defers h
theorem jU (F:Fr ⟨N,[]⟩ a l) (hr:fn.results=#[r,s,t]) (h1:RV P l w r v) (h2:RV P l w s u) (h3:RV P l w t x) (h:R (.returned (.tuple [v,u,x].toArray)) w):bodyPost P fn R .ret a w:=bodyPost_ret (aN4 F hr h1 h2 h3) F.defers h
theorem aOi (F:Fr ⟨N,marks Ds⟩ a l) (hr:fn.results=#[r]) (H:St w0 w (HP.mks Ds::ls)) (h1:∀ w,St w0 w ls->RV P l w r v) (h:∀ w,St w0 w ls->R (.returned v) w):bodyPostM (FN none) 0 P fn R .ret a w:=aOa F H (fun w H=>aFv F hr (h1 w H)) h
end
section
variable {σ ι ρ κ:Type} {w0 w:World} {J:σ->ι->List HP} {K:ρ->κ->List HP} {jmp:ρ->Code} {fr:List HP} {a:Act}
theorem rq_n {o:σ ⊕ ρ} (s:σ) (i:ι) (h:o=.inl s) (H:St w0 w (J s i++fr)):aDa w0 J K jmp o fr .normal a w:=⟨s,i,h,H⟩
end
theorem aA0 {K:Nat}:∀ {css:List (List Value)},(∀ c∈css,c.length=K)->∀ {j:Nat} {cj:List Value},css[j]?=some cj->(css.flatten.drop (j*K)).take K=cj
 | [],_,j,cj,h=>by grind
 | c::css,hk,0,cj,h=>by
  grind
 | c::css,hk,j+1,cj,h=>by
  have h1:=hk c (by simp)
  have ih:=aA0 (css:=css) (fun d hd=>hk d (by grind)) (j:=j) (by simpa using h)
  rw [Nat.succ_mul,List.flatten_cons,Nat.add_comm,<- List.drop_drop,List.drop_left' h1]
  grind
section
variable {κ β:Type} [DecidableEq κ]
theorem kC {β:Type} (j k:κ) (v:β):∀ l:List (κ×β),aZ j (bV k v l)=if j=k then some v else aZ j l
 | []=>by
  grind [bV,aZ]
 | (k',u)::l=>by
  simp only [bV]
  by_cases hk:k'=k
  ·grind [aZ]
  ·simp only [if_neg hk,aZ]
   rw [kC j k v l]
   grind
theorem iA {β:Type} (k:κ) (v:β):∀ l:List (κ×β),(bV k v l).map (·.1)=if k∈l.map (·.1) then l.map (·.1) else l.map (·.1)++[k]
 | []=>by rfl
 | (k',u)::l=>by
  simp only [bV]
  by_cases hk:k'=k
  ·grind
  ·simp only [if_neg hk,List.map_cons,iA k v l]
   grind
theorem gN {β:Type} {k:κ}:∀ {l:List (κ×β)},k ∉ l.map (·.1)->aZ k l=none
 | [],_=>rfl
 | (k',u)::l,h=>by
  simp only [List.map_cons,List.mem_cons,not_or] at h
  simp only [aZ,if_neg (fun e:k'=k=>h.1 e.symm)]
  exact gN h.2
theorem dT {β:Type} {k:κ} {v:β}:∀ {l:List (κ×β)},aZ k l=some v->(k,v)∈l
 | [],h=>by grind [aZ]
 | (k',u)::l,h=>by
  simp only [aZ] at h
  split at h
  ·grind
  ·exact List.mem_cons_of_mem _ (dT h)
theorem cO {β:Type} {k:κ} {v:β}:∀ {l:List (κ×β)},(l.map (·.1)).Nodup->(k,v)∈l->aZ k l=some v
 | [],_,h=>by grind
 | (k',u)::l,hn,h=>by
  simp only [List.map_cons,List.nodup_cons] at hn
  rcases List.mem_cons.1 h with h | h
  ·grind [aZ]
  ·simp only [aZ]
   rw [cO hn.2 h]
   grind
theorem uC {β:Type} (j k:κ):∀ l:List (κ×β),(l.map (·.1)).Nodup->aZ j (cV k l)=if j=k then none else aZ j l
 | [],_=>by simp [cV,aZ]
 | (k',u)::l,hn=>by
  simp only [List.map_cons,List.nodup_cons] at hn
  simp only [cV]
  by_cases hk:k'=k
  ·simp_all [aZ,gN,Ne.symm]
  ·simp only [if_neg hk,aZ]
   rw [uC j k l hn.2]
   grind
theorem wO {β:Type} (k:κ):∀ l:List (κ×β),(cV k l).map (·.1)=(l.map (·.1)).erase k
 | []=>by rfl
 | (k',u)::l=>by
  simp only [cV]
  by_cases hk:k'=k
  ·grind
  ·simp [hk,wO k l]
def aI (k:κ) (x:β) (m:κ->Option β):κ->Option β:=fun j=>if j=k then some x else m j
def bZ (k:κ) (m:κ->Option β):κ->Option β:=fun j=>if j=k then none else m j
def bG:κ->Option β:=fun _=>none
def Enum (m:κ->Option β) (kv:List (κ×β)):Prop:=(kv.map (·.1)).Nodup/\∀ k,m k=aZ k kv
theorem Enum.perm {m:κ->Option β} {l l':List (κ×β)} (h:Enum m l) (h':Enum m l'):l.Perm l':=by
 have nd:∀ {l:List (κ×β)},(l.map (·.1)).Nodup->l.Nodup:=fun {l} h=>(List.pairwise_map.1 h).imp fun hne e=>hne (by rw [e])
 refine (List.perm_ext_iff_of_nodup (nd h.1) (nd h'.1)).2 fun p=>?_
 obtain ⟨k,v⟩:=p
 constructor
 ·intro hm
  exact dT (by rw [<- h'.2,h.2];exact cO h.1 hm)
 ·intro hm
  exact dT (by rw [<- h.2,h'.2];exact cO h'.1 hm)
open Classical in
noncomputable def dX {ρ:Type} (m:κ->Option β) (f:List (κ×β)->Option ρ):Option ρ :=
 if h:(∃ kv,Enum m kv)/\∃ r,∀ kv,Enum m kv->f kv=some r then some (Classical.choose h.2) else none
theorem aB7 {ρ:Type} {m:κ->Option β} {f:List (κ×β)->Option ρ} {r:ρ} (h:dX m f=some r):(∃ kv,Enum m kv)/\∀ kv,Enum m kv->f kv=some r:=by
 unfold dX at h
 split at h<;>grind
theorem mP {ρ:Type} {m:κ->Option β} {f:List (κ×β)->Option ρ} {r:ρ} {kv:List (κ×β)} (he:Enum m kv) (h:∀ kv,Enum m kv->f kv=some r):dX m f=some r:=by
 have hx:(∃ kv,Enum m kv)/\∃ r,∀ kv,Enum m kv->f kv=some r:=⟨⟨kv,he⟩,r,h⟩
 grind [dX]
end
def mkV (agg:Bool) (cs:List Value):Value:=match agg with | true=>.agg cs.toArray | false=>cs.headD undef
section
variable {κ β:Type} [DecidableEq κ]
def cZ (ek:κ->Value) (agg:Bool) (es:List (κ×(List Value×β))):List (Value×Value):=mkv ek (es.map fun p=>(p.1,mkV agg p.2.1))
structure EsOk (R:Rp β) (ok:κ->Prop) (B:Base) (es:List (κ×(List Value×β))) (m:κ->Option β):Prop where
 nodup:(es.map (·.1)).Nodup
 ok:∀ p∈es,ok p.1
 rd:∀ p∈es,R.rd B p.2.1 p.2.2
 get:∀ k,m k=(aZ k es).map (·.2)
theorem EsOk.mono {R:Rp β} {ok:κ->Prop} {B B':Base} {es:List (κ×(List Value×β))} {m:κ->Option β} (h:EsOk R ok B es m) (hl:B.le B'):EsOk R ok B' es m:=⟨h.nodup,h.ok,fun p hp=>R.mono (h.rd p hp) hl,h.get⟩
def HP.mx (p:Option Nat) (ek:κ->Value) (agg:Bool) (R:Rp β) (ok:κ->Prop) (es:List (κ×(List Value×β))) (m:κ->Option β):HP :=
 HP.of (fun B w S=>EsOk R ok B es m/\match p with | none=>es=[] | some b=>fH w b (cZ ek agg es)/\S b)
  (fun {B w w' S} h hS=>by
  refine ⟨h.1,?_⟩
  cases p with
  | none=>exact h.2
  | some b =>
   obtain ⟨_,⟨es,c,h1,h2⟩,h3⟩:=h
   exact ⟨⟨es,c,by rw [hS _ h3];exact h1,h2⟩,h3⟩)
  (fun h hl=>⟨h.1.mono hl,h.2⟩)
def HP.mm (p:Option Nat) (ek:κ->Value) (agg:Bool) (R:Rp β) (ok:κ->Prop) (m:κ->Option β):HP :=
 HP.of (fun B w S=>∃ es,(HP.mx p ek agg R ok es m).pr B w S)
  (fun ⟨es,h⟩ hS=>⟨es,HP.loc _ h hS⟩)
  (fun ⟨es,h⟩ hl=>⟨es,HP.mono _ h hl⟩)
variable {R:Rp β} {P:Program} {T K E:TypeId} {ek:κ->Value} {ok:κ->Prop} {agg:Bool} {w0 w:World} {b:Nat} {p:Option Nat} {m:κ->Option β} {es:List (κ×(List Value×β))} {ls:List HP}
theorem St.mmOpen (H:St w0 w ls) (i:Nat) (hi:ls[i]?=some (HP.mm p ek agg R ok m)):∃ es,St w0 w (ls.set i (HP.mx p ek agg R ok es m)):=by
 obtain ⟨B,H⟩:=H.out
 obtain ⟨hv,hs,f,h1,h2,h3⟩:=H
 obtain ⟨es,h4⟩:=h1 i _ hi
 refine ⟨es,hv,B,f,hs,fun j E hj=>?_,by grind,by grind⟩
 grind
theorem St.mxShut (H:St w0 w ls) (i:Nat) (hi:ls[i]?=some (HP.mx p ek agg R ok es m)):St w0 w (ls.set i (HP.mm p ek agg R ok m)) :=
 H.convAt i hi fun S h=>⟨es,h⟩
theorem St.mxOk (H:St w0 w ls) (i:Nat) (hi:ls[i]?=some (HP.mx p ek agg R ok es m)):∃ B,Sub B w/\EsOk R ok B es m/\match p with | none=>es=[] | some b=>fH w b (cZ ek agg es):=by
 obtain ⟨B,S,hs,h,_⟩:=H.get i hi
 refine ⟨B,hs,h.1,?_⟩
 have h2:=h.2
 grind
def eO (es:List (κ×(List Value×β))) (k:κ) (zc:List Value):List Value:=((aZ k es).map (·.1)).getD zc
theorem St.mxGet (H:St w0 w ls) (i:Nat) (hi:ls[i]?=some (HP.mx p ek agg R ok es m)) (k:κ) {zc:List Value} {z0:β} (hz:∀ B,R.rd B zc z0):∃ cs,eO es k zc=cs/\St w0 w (HP.rc R cs ((m k).getD z0)::ls):=by
 obtain ⟨B,H⟩:=H.out
 obtain ⟨S,h⟩:=H.at hi
 refine ⟨_,rfl,(H.more (A:=HP.rc R (eO es k zc) ((m k).getD z0)) ?_).st⟩
 show R.rd B _ _
 rw [h.1.get k]
 unfold eO
 cases e:aZ k es with
 | none=>exact hz B
 | some q=>exact h.1.rd _ (dT e)
variable {ops:Array Oper} {rest:List Oper} {o:Oper} {a:Act} {W:List Oper->Act->World->Prop} {N:Fs} {sl:List (Nat×Value)} {d:Nat} {x y z:Operand}
theorem xS (ek:κ->Value) (agg:Bool) (R:Rp β) (ok:κ->Prop) (k:bN P ops W) (F:Fr N a sl) (hg:o.guard=none) (hd:o.dst=some d) (hN:Nat.blt d N.n=true) (ho:o.op=.makeMap T none) (H:St w0 w ls)
  (hk:∀ b w' a',St w0 w' (HP.mm (some b) ek agg R ok bG::ls)->Fr N a' ((d,.map (some b))::sl)->W rest a' w'):W (o::rest) a w :=
 aH3 k F hg hd hN ho H fun b w' a' H' F'=>hk b w' a' (H'.conv fun S h=>⟨[],⟨List.nodup_nil,by simp,by simp,fun k=>rfl⟩,h⟩) F'
omit [DecidableEq κ] in
theorem mV (h:∀ q∈es,ok q.1):∀ q∈es.map (fun p=>(p.1,mkV agg p.2.1)),ok q.1:=by grind
theorem gT (kw:bN P ops W) (F:Fr N a sl) (hg:o.guard=none) (hd:o.dst=none) (hT:P.underlying T=some (.map K E)) (hK:dS P K ek ok) (ho:o.op=.mapUpdate T x y z) (H:St w0 w ls) (i:Nat) (hi:ls[i]?=some (HP.mm (some b) ek agg R ok m))
  (hx:ev sl x=some (.map (some b))) {k:κ} (hy:ev sl y=some (ek k)) {cs:List Value} (hz:ev sl z=some (mkV agg cs)) (hkk:ok k) {v:β} (hrd:∀ {B:Base},(∀ (j:Nat) (C:HP),ls[j]?=some C->∃ S,C.pr B w S)->R.rd B cs v)
  (hk:∀ w',St w0 w' (ls.set i (HP.mm (some b) ek agg R ok (aI k v m)))->W rest a w'):W (o::rest) a w:=by
 obtain ⟨es,H⟩:=H.mmOpen i hi
 have hil:i<ls.length:=(List.getElem?_eq_some_iff.1 hi).1
 have hi':(ls.set i (HP.mx (some b) ek agg R ok es m))[i]?=some (HP.mx (some b) ek agg R ok es m):=by simp [List.getElem?_set,hil]
 obtain ⟨_,_,hes,hm⟩:=H.mxOk i hi'
 obtain ⟨w',hr,hm',hc⟩:=vU hT hK hm (mV hes.ok) k hkk (mkV agg cs)
 have hrun:(execOp a.eval o).run P w=.ok .skip w':=by
  unfold execOp
  simp only [ho,F.eval hx,F.eval hy,F.eval hz,Sem.run_bind,hr,Result.andThen_ok,Sem.run_pure]
 refine fF kw F hg hd (by rw [ho];rfl) hrun ?_
 obtain ⟨B,HB⟩:=H.out
 have hcs:R.rd B cs v:=hrd (B:=B) fun j C hj=>by
  by_cases e:i=j
  ·subst e
   rw [hi] at hj;cases hj
   obtain ⟨S,h⟩:=HB.at hi'
   exact ⟨S,es,h⟩
  ·exact HB.at (by rw [List.getElem?_set,if_neg e];exact hj)
 have H2:=(HB.chg (A':=HP.mm (some b) ek agg R ok (aI k v m)) i hi' (g:=b) (fun S hA=>hA.2.2) hc (fun S hA=>⟨bV k (cs,v) es,⟨?_,?_,?_,?_⟩,?_,hA.2.2⟩)).st
 ·rw [List.set_set] at H2;exact hk w' H2
 ·rw [iA]
  split
  ·exact hA.1.nodup
  ·rename_i hn
   exact List.nodup_append.2 ⟨hA.1.nodup,by simp,fun x hx y hy e=>by simp at hy;subst hy;subst e;exact hn hx⟩
 ·intro q hq
  have:q.1∈(bV k (cs,v) es).map (·.1):=List.mem_map.2 ⟨q,hq,rfl⟩
  rw [iA] at this
  have key:∀ j,j∈es.map (·.1)->ok j:=fun j hj=>by obtain ⟨r,hr,rfl⟩:=List.mem_map.1 hj;exact hA.1.ok r hr
  split at this
  ·exact key _ this
  ·rcases List.mem_append.1 this with h | h
   ·exact key _ h
   ·simp at h;rw [h];exact hkk
 ·rintro ⟨q1,q2⟩ hq
  have hnd:((bV k (cs,v) es).map (·.1)).Nodup:=by
   rw [iA]
   split
   ·exact hA.1.nodup
   ·rename_i hn
    exact List.nodup_append.2 ⟨hA.1.nodup,by simp,fun x hx y hy e=>by simp at hy;subst hy;subst e;exact hn hx⟩
  have h1:=cO (k:=q1) (v:=q2) hnd hq
  rw [kC] at h1
  split at h1
  ·cases h1;exact hcs
  ·exact hA.1.rd _ (dT h1)
 ·intro j
  show aI k v m j=_
  rw [kC]
  unfold aI
  split
  ·rfl
  ·exact hA.1.get j
 ·have:cZ ek agg (bV k (cs,v) es)=mkv ek (bV k (mkV agg cs) (es.map fun p=>(p.1,mkV agg p.2.1))):=by
   unfold cZ;rw [<- sG (vv:=fun q:List Value×β=>mkV agg q.1) k (cs,v) es]
  rw [this];exact hm'
theorem zP (kw:bN P ops W) (F:Fr N a sl) (hg:o.guard=none) (hd:o.dst=none) (hT:P.underlying T=some (.map K E)) (hK:dS P K ek ok) (ho:o.op=.insert T x y z) (H:St w0 w ls) (i:Nat) (hi:ls[i]?=some (HP.mm (some b) ek agg R ok m))
  (hx:ev sl x=some (.map (some b))) {k:κ} (hy:ev sl y=some (ek k)) {cs:List Value} (hz:ev sl z=some (mkV agg cs)) (hkk:ok k) {v:β} (hrd:∀ {B:Base},(∀ (j:Nat) (C:HP),ls[j]?=some C->∃ S,C.pr B w S)->R.rd B cs v)
  (hk:∀ w',St w0 w' (ls.set i (HP.mm (some b) ek agg R ok (aI k v m)))->W rest a w'):W (o::rest) a w:=by
 obtain ⟨es,H⟩:=H.mmOpen i hi
 have hil:i<ls.length:=(List.getElem?_eq_some_iff.1 hi).1
 have hi':(ls.set i (HP.mx (some b) ek agg R ok es m))[i]?=some (HP.mx (some b) ek agg R ok es m):=by simp [List.getElem?_set,hil]
 obtain ⟨_,_,hes,hm⟩:=H.mxOk i hi'
 obtain ⟨w',hr,hm',hc⟩:=vU hT hK hm (mV hes.ok) k hkk (mkV agg cs)
 have hrun:(execOp a.eval o).run P w=.ok .skip w':=by
  unfold execOp
  simp only [ho,F.eval hx,F.eval hy,F.eval hz,Sem.run_bind,hr,Result.andThen_ok,Sem.run_pure]
 refine fF kw F hg hd (by rw [ho];rfl) hrun ?_
 obtain ⟨B,HB⟩:=H.out
 have hcs:R.rd B cs v:=hrd (B:=B) fun j C hj=>by
  by_cases e:i=j
  ·subst e
   rw [hi] at hj;cases hj
   obtain ⟨S,h⟩:=HB.at hi'
   exact ⟨S,es,h⟩
  ·exact HB.at (by rw [List.getElem?_set,if_neg e];exact hj)
 have H2:=(HB.chg (A':=HP.mm (some b) ek agg R ok (aI k v m)) i hi' (g:=b) (fun S hA=>hA.2.2) hc (fun S hA=>⟨bV k (cs,v) es,⟨?_,?_,?_,?_⟩,?_,hA.2.2⟩)).st
 ·rw [List.set_set] at H2;exact hk w' H2
 ·rw [iA]
  split
  ·exact hA.1.nodup
  ·rename_i hn
   exact List.nodup_append.2 ⟨hA.1.nodup,by simp,fun x hx y hy e=>by simp at hy;subst hy;subst e;exact hn hx⟩
 ·intro q hq
  have:q.1∈(bV k (cs,v) es).map (·.1):=List.mem_map.2 ⟨q,hq,rfl⟩
  rw [iA] at this
  have key:∀ j,j∈es.map (·.1)->ok j:=fun j hj=>by obtain ⟨r,hr,rfl⟩:=List.mem_map.1 hj;exact hA.1.ok r hr
  split at this
  ·exact key _ this
  ·rcases List.mem_append.1 this with h | h
   ·exact key _ h
   ·simp at h;rw [h];exact hkk
 ·rintro ⟨q1,q2⟩ hq
  have hnd:((bV k (cs,v) es).map (·.1)).Nodup:=by
   rw [iA]
   split
   ·exact hA.1.nodup
   ·rename_i hn
    exact List.nodup_append.2 ⟨hA.1.nodup,by simp,fun x hx y hy e=>by simp at hy;subst hy;subst e;exact hn hx⟩
  have h1:=cO (k:=q1) (v:=q2) hnd hq
  rw [kC] at h1
  split at h1
  ·cases h1;exact hcs
  ·exact hA.1.rd _ (dT h1)
 ·intro j
  show aI k v m j=_
  rw [kC]
  unfold aI
  split
  ·rfl
  ·exact hA.1.get j
 ·have:cZ ek agg (bV k (cs,v) es)=mkv ek (bV k (mkV agg cs) (es.map fun p=>(p.1,mkV agg p.2.1))):=by
   unfold cZ;rw [<- sG (vv:=fun q:List Value×β=>mkV agg q.1) k (cs,v) es]
  rw [this];exact hm'
theorem aCt {p:Option Nat} (hT:P.underlying T=some (.map K E)) (hK:dS P K ek ok) {zc:List Value} (hz:∀ w,(zeroValue E).run P w=.ok (mkV agg zc) w) (H:St w0 w ls) (i:Nat) (hi:ls[i]?=some (HP.mx p ek agg R ok es m)) (k:κ) (hkk:ok k) (c:Bool) :
  (Instr.lookup T (.map p) (ek k) c).run P w=.ok (if c then .tuple #[mkV agg (eO es k zc),.bool (m k).isSome] else mkV agg (eO es k zc)) w:=by
 obtain ⟨B,_,hes,hm⟩:=H.mxOk i hi
 cases p with
 | some b =>
  rw [aOx hT hK hz hm (mV hes.ok) k hkk]
  rw [hes.get k]
  unfold eO
  have:=zK (vv:=fun q:List Value×β=>mkV agg q.1) k es
  rw [this]
  cases aZ k es<;>cases c<;>rfl
 | none =>
  have hm:es=[]:=hm
  have h1:=hK.check true k w hkk
  have h2:=hK.find k [] [] w hkk (by simp) rfl
  rw [hes.get k]
  unfold Instr.lookup
  rw [Sem.run_bind,run_underlying hT]
  simp only [Result.andThen_ok]
  cases c<;>simp [h1,h2,cI,hz,aZ,eO,hm]
theorem wM {p:Option Nat} {zc cs:List Value} (F:Fr N a sl) (hT:P.underlying T=some (.map K E)) (hK:dS P K ek ok) (hz:∀ w,(zeroValue E).run P w=.ok (mkV agg zc) w) (ho:o.op=.lookup T x y false) (H:St w0 w ls) (i:Nat) (hi:ls[i]?=some (HP.mx p ek agg R ok es m)) (hx:ev sl x=some (.map p)) {k:κ} (hy:ev sl y=some (ek k)) (hkk:ok k) (hcs:eO es k zc=cs) :
  (execOp a.eval o).run P w=.ok (.value (mkV agg cs)) w:=by
 unfold execOp
 simp only [ho,F.eval hx,F.eval hy,Sem.run_bind,aCt hT hK hz H i hi k hkk false,hcs]
 rfl
theorem aNb {p:Option Nat} {zc cs:List Value} (F:Fr N a sl) (hT:P.underlying T=some (.map K E)) (hK:dS P K ek ok) (hz:∀ w,(zeroValue E).run P w=.ok (mkV agg zc) w) (ho:o.op=.lookup T x y true) (H:St w0 w ls) (i:Nat) (hi:ls[i]?=some (HP.mx p ek agg R ok es m)) (hx:ev sl x=some (.map p)) {k:κ} (hy:ev sl y=some (ek k)) (hkk:ok k) (hcs:eO es k zc=cs) :
  (execOp a.eval o).run P w=.ok (.value (.tuple [mkV agg cs,.bool (m k).isSome].toArray)) w:=by
 unfold execOp
 simp only [ho,F.eval hx,F.eval hy,Sem.run_bind,aCt hT hK hz H i hi k hkk true,hcs]
 rfl
theorem aL5 (kw:bN P ops W) (F:Fr N a sl) (hg:o.guard=none) (hd:o.dst=some d) (hN:Nat.blt d N.n=true) {t':TypeId} (hT:P.underlying T=some (.map K E)) (hK:dS P K ek ok) (ho:o.op=.call { callee:=.builtin .delete,args:=#[x,y],argTypes:=#[T,t'] }) (H:St w0 w ls) (i:Nat) (hi:ls[i]?=some (HP.mm (some b) ek agg R ok m))
  (hx:ev sl x=some (.map (some b))) {k:κ} (hy:ev sl y=some (ek k)) (hkk:ok k)
  (hk:∀ w' a',St w0 w' (ls.set i (HP.mm (some b) ek agg R ok (bZ k m)))->Fr N a' ((d,.tuple #[])::sl)->W rest a' w'):W (o::rest) a w:=by
 obtain ⟨es,H⟩:=H.mmOpen i hi
 have hil:i<ls.length:=(List.getElem?_eq_some_iff.1 hi).1
 have hi':(ls.set i (HP.mx (some b) ek agg R ok es m))[i]?=some (HP.mx (some b) ek agg R ok es m):=by simp [List.getElem?_set,hil]
 obtain ⟨_,_,hes,hm⟩:=H.mxOk i hi'
 obtain ⟨w',hr,hm',hc⟩:=aD9 (t':=t') hT hK hm (mV hes.ok) k hkk o.type
 refine bD (v:=.tuple #[]) (w':=w') kw F hg hd hN (by rw [ho];rfl) ?_ fun a' F'=>hk w' a' ?_ F'
 ·unfold execOp
  simp [ho,resolve,invoke,builtin,F.eval hx,F.eval hy,hr]
 ·have H2:=H.chg (A':=HP.mm (some b) ek agg R ok (bZ k m)) i hi' (g:=b) (fun S hA=>hA.2.2) hc (fun S hA=>⟨cV k es,⟨?_,fun q hq=>hA.1.ok q (nG k es q hq),fun q hq=>hA.1.rd q (nG k es q hq),fun j=>?_⟩,?_,hA.2.2⟩)
  ·rw [List.set_set] at H2;exact H2
  ·rw [wO];exact hA.1.nodup.erase k
  ·show bZ k m j=_
   rw [uC j k es hA.1.nodup]
   unfold bZ
   split
   ·rfl
   ·exact hA.1.get j
  ·have:cZ ek agg (cV k es)=mkv ek (cV k (es.map fun p=>(p.1,mkV agg p.2.1))):=by
    unfold cZ;rw [<- vM (vv:=fun q:List Value×β=>mkV agg q.1) k es]
   rw [this];exact hm'
theorem aFh {β γ:Type} (g:β->γ) (k:κ):∀ kv:List (κ×β),aZ k (kv.map fun p=>(p.1,g p.2))=(aZ k kv).map g
 | []=>rfl
 | (k',v)::r=>by
  simp only [List.map_cons,aZ]
  split
  ·rfl
  ·exact aFh g k r
theorem EsOk.enum {B:Base} (h:EsOk R ok B es m):Enum m (es.map fun p=>(p.1,p.2.2)):=by
 refine ⟨by rw [List.map_map];exact h.nodup,fun k=>?_⟩
 rw [h.get k,<- aFh (fun q:List Value×β=>q.2) k es]
end
def aU (l:List UInt8):Value:=.string (txb l)
theorem aEn (k:List UInt8):∀ (es:List MapEntry) (l:List (List UInt8×Value)) (i:Nat),es.map (fun e=>(e.key,e.val))=mkv aU l->Instr.findNow .string (aU k) es i=some (cI k l i)
 | [],l,i,h=>by
  cases l with
  | nil=>rfl
  | cons p l=>simp [mkv] at h
 | e::es,l,i,h=>by
  cases l with
  | nil=>simp [mkv] at h
  | cons p l =>
   obtain ⟨k',v'⟩:=p
   simp only [mkv,List.map_cons,List.cons.injEq,Prod.mk.injEq] at h
   obtain ⟨⟨hk,hv⟩,ht⟩:=h
   have ih:=aEn k es l (i+1) ht
   unfold Instr.findNow cI
   by_cases hkk:k'=k
   ·subst hkk;simp only [hk,hv,aU,Instr.sameNow,(Go.MapKept.bytes_beq (txb k') (txb k')).2 rfl,if_true]
   ·have hne:(txb k==txb k')=false:=by
     rw [<- Bool.not_eq_true,Go.MapKept.bytes_beq];exact fun hh=>hkk (aMz hh).symm
    simp [Instr.sameNow,hk,aU,hne,hkk]
    exact ih
theorem eI {P:Program} {K:TypeId} (hK:P.underlying K=some .string):dS P K aU (fun _=>True) where
 check e k w _:=Go.MapKept.run_checkKey hK (by trivial) e 9999
 find k es l w _ _ h:=Go.MapKept.run_findKey hK (aEn k es l 0 h)
 stays k w _:=by simp [Instr.keyThatStays,Instr.sameBits,aU,Go.MapKept.bytes_beq]
theorem mS {α:Type} (R:Rp α) (B:Base):(rSl R).rd B [.slice none 0 0] []:=⟨none,0,rfl,[],trivial,fun w _=>.inl ⟨rfl,rfl,rfl⟩⟩
theorem St.addFact {w0 w:World} {l:List HP} (H:St w0 w l) {p:Prop} (h:p):St w0 w (HP.fact p::l):=H.more fun _ _ _=>h
section
variable {P:Program} {T K E:TypeId} {κ:Type} [DecidableEq κ] {ek:κ->Value} {ok:κ->Prop} {w:World} {b:Nat} {l:List (κ×Value)}
end
section
variable {κ β:Type} [DecidableEq κ] {R:Rp β} {P:Program} {T K E:TypeId} {ek:κ->Value} {ok:κ->Prop} {agg:Bool} {w0 w:World} {b:Nat} {m:κ->Option β} {ls:List HP}
theorem EsOk.set {B:Base} {es:List (κ×(List Value×β))} {m:κ->Option β} (h:EsOk R ok B es m) {k:κ} (hk:ok k) {cs:List Value} {v:β} (hv:R.rd B cs v):EsOk R ok B (bV k (cs,v) es) (aI k v m):=by
 have hnd:((bV k (cs,v) es).map (·.1)).Nodup:=by
  rw [iA]
  split
  ·exact h.nodup
  ·rename_i hn
   exact List.nodup_append.2 ⟨h.nodup,by simp,fun x hx y hy e=>by simp at hy;subst hy;subst e;exact hn hx⟩
 refine ⟨hnd,?_,?_,?_⟩
 ·intro q hq
  have:q.1∈(bV k (cs,v) es).map (·.1):=List.mem_map.2 ⟨q,hq,rfl⟩
  rw [iA] at this
  have key:∀ j,j∈es.map (·.1)->ok j:=fun j hj=>by obtain ⟨r,hr,rfl⟩:=List.mem_map.1 hj;exact h.ok r hr
  split at this
  ·exact key _ this
  ·rcases List.mem_append.1 this with h | h
   ·exact key _ h
   ·simp at h;rw [h];exact hk
 ·rintro ⟨q1,q2⟩ hq
  have h1:=cO (k:=q1) (v:=q2) hnd hq
  rw [kC] at h1
  split at h1
  ·cases h1;exact hv
  ·exact h.rd _ (dT h1)
 ·intro j
  show aI k v m j=_
  rw [kC]
  unfold aI
  split
  ·rfl
  ·exact h.get j
variable {ops:Array Oper} {rest:List Oper} {o:Oper} {a:Act} {W:List Oper->Act->World->Prop} {N:Fs} {sl:List (Nat×Value)} {d:Nat} {x y z:Operand}
def HP.mi (b:Nat) (ek:κ->Value) (agg:Bool) (R:Rp β) (ok:κ->Prop) (m:κ->Option β) (k:κ) (z0:β):HP :=
 HP.of (fun B w S=>(∃ (es:List (κ×(List Value×β))) (m':κ->Option β),EsOk R ok B es m'/\(m' k).getD z0=(m k).getD z0/\fH w b (cZ ek agg es))/\S b)
  (fun ⟨⟨es,m',h1,h2,raw,c,h3,h4⟩,h5⟩ hS=>⟨⟨es,m',h1,h2,raw,c,by rw [hS _ h5];exact h3,h4⟩,h5⟩)
  (fun ⟨⟨es,m',h1,h2⟩,h5⟩ hl=>⟨⟨es,m',h1.mono hl,h2⟩,h5⟩)
end
section
variable {κ β:Type} [DecidableEq κ] {R:Rp β} {P:Program} {T K E:TypeId} {ek:κ->Value} {ok:κ->Prop} {agg:Bool} {w0 w:World} {b:Nat} {m:κ->Option β} {ls:List HP} {ops:Array Oper} {rest:List Oper} {o:Oper} {a:Act} {W:List Oper->Act->World->Prop} {N:Fs} {sl:List (Nat×Value)} {x y:Operand}
theorem aLg {t':TypeId} (hT:P.underlying T=some (.map K E)) (hK:dS P K ek ok) (H:St w0 w ls) (i:Nat) (hi:ls[i]?=some (HP.mm (some b) ek agg R ok m)) (k:κ) (hkk:ok k) (ty:TypeId) :
  ∃ w',(Builtin.delete_ #[T,t'] ty #[.map (some b),ek k]).run P w=.ok (.tuple #[]) w'/\St w0 w' (ls.set i (HP.mm (some b) ek agg R ok (bZ k m))):=by
 obtain ⟨es,H⟩:=H.mmOpen i hi
 have hil:i<ls.length:=(List.getElem?_eq_some_iff.1 hi).1
 have hi':(ls.set i (HP.mx (some b) ek agg R ok es m))[i]?=some (HP.mx (some b) ek agg R ok es m):=by simp [List.getElem?_set,hil]
 obtain ⟨_,_,hes,hm⟩:=H.mxOk i hi'
 obtain ⟨w',hr,hm',hc⟩:=aD9 (t':=t') hT hK hm (mV hes.ok) k hkk ty
 refine ⟨w',hr,?_⟩
 have H2:=H.chg (A':=HP.mm (some b) ek agg R ok (bZ k m)) i hi' (g:=b) (fun S hA=>hA.2.2) hc (fun S hA=>⟨cV k es,⟨?_,fun q hq=>hA.1.ok q (nG k es q hq),fun q hq=>hA.1.rd q (nG k es q hq),fun j=>?_⟩,?_,hA.2.2⟩)
 ·rw [List.set_set] at H2;exact H2
 ·rw [wO];exact hA.1.nodup.erase k
 ·show bZ k m j=_
  rw [uC j k es hA.1.nodup]
  unfold bZ
  split
  ·rfl
  ·exact hA.1.get j
 ·have:cZ ek agg (cV k es)=mkv ek (cV k (es.map fun p=>(p.1,mkV agg p.2.1))):=by
   unfold cZ;rw [<- vM (vv:=fun q:List Value×β=>mkV agg q.1) k es]
  rw [this];exact hm'
theorem aOw (kw:bN P ops W) (F:Fr N a sl) (hg:o.guard=none) (hd:o.dst=none) {t':TypeId} (hT:P.underlying T=some (.map K E)) (hK:dS P K ek ok) (ho:o.op=.call { callee:=.builtin .delete,args:=#[x,y],argTypes:=#[T,t'] }) (H:St w0 w ls) (i:Nat) (hi:ls[i]?=some (HP.mm (some b) ek agg R ok m))
  (hx:ev sl x=some (.map (some b))) {k:κ} (hy:ev sl y=some (ek k)) (hkk:ok k)
  (hk:∀ w',St w0 w' (ls.set i (HP.mm (some b) ek agg R ok (bZ k m)))->W rest a w'):W (o::rest) a w:=by
 obtain ⟨w',hr,H'⟩:=aLg (t':=t') hT hK H i hi k hkk o.type
 refine aMq (v:=.tuple #[]) (w':=w') kw F hg hd (by rw [ho];rfl) ?_ (hk w' H')
 unfold execOp
 simp [ho,resolve,invoke,builtin,F.eval hx,F.eval hy,hr]
end
section
variable {P:Program} {T E e:TypeId} {w0 w:World} {ls:List HP} {ops:Array Oper} {rest:List Oper} {o:Oper} {a:Act} {W:List Oper->Act->World->Prop} {N:Fs} {sl:List (Nat×Value)} {d:Nat} {x y z:Operand}
theorem aLo (hT:P.underlying T=some (.slice E)) (hE:P.underlying E=some (.int .u8)) {b n c k:Nat} {u:TypeId} (hs:w.shape? b=some (u,k)):(convert T T (.slice (some ⟨b,0,none⟩) n c)).run P w=.ok (.slice (some ⟨b,0,none⟩) n c) (w.freeze ⟨b,k,none⟩ 1):=by
 unfold convert
 rw [Sem.run_bind,Go.Tri.run_underlying hT]
 simp only [Result.andThen_ok]
 rw [Sem.run_bind,Go.Tri.run_underlying hT]
 simp only [Result.andThen_ok]
 rw [Sem.run_bind,Go.Tri.run_underlying hE]
 simp [markStringish,hs]
theorem aPd {w:World} {b k j:Nat} (h:j≠b):(w.freeze ⟨b,k,none⟩ 1).heap[j]?=w.heap[j]?:=by grind [World.freeze]
theorem aL0 {w:World} {b k:Nat} {c:Array Value} {u:TypeId} {r:Nat×Nat} (h:w.heap[b]?=some (.cells c u r)):∃ r',(w.freeze ⟨b,k,none⟩ 1).heap[b]?=some (.cells c u r'):=by grind [World.freeze]
theorem aI5 (w:World) (b k:Nat):(w.freeze ⟨b,k,none⟩ 1).os=w.os/\(w.freeze ⟨b,k,none⟩ 1).tape=w.tape/\(w.freeze ⟨b,k,none⟩ 1).output=w.output/\(w.freeze ⟨b,k,none⟩ 1).heap.size=w.heap.size:=by simp [World.freeze]
def HP.bm (b cap:Nat) (xs:List UInt8):HP:=HP.of (fun _ w S=>(∃ (c:Array Value) (u:TypeId) (r:Nat×Nat),w.heap[b]?=some (.cells c u r)/\xs.length<=cap/\c.toList.take xs.length=aQ xs)/\S b)
  (fun ⟨⟨c,u,r,h1,h2⟩,h3⟩ hS=>⟨⟨c,u,r,by rw [hS _ h3];exact h1,h2⟩,h3⟩)
  (fun h _=>h)
theorem St.bmFrz {b cap:Nat} {xs:List UInt8} (H:St w0 w (HP.bm b cap xs::ls)):St w0 w (HP.sl rByte (some ⟨b,0,none⟩) cap xs::ls) :=
 H.freezeH fun {B B'} S h _ hw=>⟨_,gK B' xs,fun w' hw'=>by
  obtain ⟨⟨c,u,r,h1,h2,h3⟩,hS⟩:=h
  have hb:=hw w' hw' b hS
  rw [gA (gK B' xs)]
  refine .inr (.inr ⟨b,0,cap,rfl,h2,fun j v hj=>?_⟩)
  have hj2:c[j]?=some v:=by grind
  unfold World.cell?
  rw [hb,h1];simpa using hj2⟩
theorem qN (kw:bN P ops W) (F:Fr N a sl) (hg:o.guard=none) (hd:o.dst=some d) (hN:Nat.blt d N.n=true) (hT:P.underlying T=some (.slice E)) (hE:P.underlying E=some (.int .u8)) (ho:o.op=.convert T T x) {b cap:Nat} {xs:List UInt8} (hx:ev sl x=some (.slice (some ⟨b,0,none⟩) xs.length cap))
  (H:St w0 w ls) (i:Nat) (hi:ls[i]?=some (HP.ow rByte e (some ⟨b,0,none⟩) cap xs))
  (hk:∀ w' a',St w0 w' (HP.sl rByte (some ⟨b,0,none⟩) cap xs::ls.eraseIdx i)->Fr N a' ((d,.slice (some ⟨b,0,none⟩) xs.length cap)::sl)->W rest a' w'):W (o::rest) a w:=by
 have H1:=H.mv i hi
 obtain ⟨B,S,hs,⟨css,h1,⟨hl,hh⟩,hS⟩,_⟩:=H1.get 0 rfl
 rw [gA h1] at hh hl
 have hshape:∃ c,w.heap[b]?=some (.cells c e (0,0))/\xs.length<=cap/\c.toList.take xs.length=aQ xs:=by
  rcases hh with ⟨h,_⟩ | ⟨g,cap',cur,h,_,hg',hnc,_,_,ht⟩
  ·cases h
  ·cases h
   have e1:rByte.n=1:=rfl
   rw [e1,Nat.mul_one] at ht
   exact ⟨cur,hg',hnc,ht⟩
 obtain ⟨c,hc,hcap,htk⟩:=hshape
 have hsh:w.shape? b=some (e,c.size):=by simp [World.shape?,hc]
 refine bD (w':=w.freeze ⟨b,c.size,none⟩ 1) (v:=.slice (some ⟨b,0,none⟩) xs.length cap) kw F hg hd hN (by rw [ho];rfl) ?_ fun a' F'=>hk _ a' ?_ F'
 ·unfold execOp
  simp only [ho,F.eval hx]
  rw [Sem.run_bind,aLo hT hE hsh];rfl
 ·obtain ⟨r1,r2,r3,r4⟩:=aI5 w b c.size
  refine St.bmFrz (H1.upd 0 (A':=HP.bm b cap xs) rfl (fun {B} S hA hS=>⟨S,?_,fun b hb=>.inl hb,fun b hb=>by rw [r4];exact (hS b hb).1,fun j _ hn=>?_⟩) r1 r2 r3 (by rw [r4];exact Nat.le_refl _))
  ·obtain ⟨css,_,_,hSb⟩:=hA
   obtain ⟨r',hr'⟩:=aL0 (k:=c.size) hc
   exact ⟨⟨c,e,r',hr',hcap,htk⟩,hSb b rfl⟩
  ·refine aPd fun e2=>hn ?_
   obtain ⟨css,_,_,hSb⟩:=hA
   rw [e2];exact hSb b rfl
end
section
variable {P:Program} {ops:Array Oper} {C:World->Prop} {K:Act->World->Prop} {N:Fs} {a:Act} {l:List (Nat×Value)} {w:World} {i d:Nat} {o:Oper} {r:Sc} {v:Value}
theorem aE2 {M:Act->World->Prop} (hw:Region.wanted o (yielded ops a.tmps)=true) (h:wpList P ops (Exit.then M (fun _ _ _=>False)) [o] a w):o.wp P a w M (fun _ _ _=>False):=by
 unfold wpList at h
 rw [if_pos hw] at h
 rcases h with h | ⟨_,_,_,h⟩
 ·assumption
 ·exact h.elim
theorem aN6 {s:Nat} {bb:Bool} {g:Nat} {og:Oper} (F:Fr N a l) (hi:ops[i]?=some o) (hgd:o.guard=some (g,bb)) (hog:ops[g]?=some og) (hog2:og.dst=some s) (hv:lk s l=some (.bool bb)) (h:wpList P ops (Exit.then (fun a' w'=>C w'/\aW P ops C K r a' w') (fun _ _ _=>False)) [o] a w):aW P ops C K (.step 2 i r) a w :=
 ⟨o,hi,fun hw=>aE2 hw h,fun hw=>by grind [jF]⟩
theorem aJp {s:Nat} {bb:Bool} {g:Nat} {og:Oper} (F:Fr N a l) (hi:ops[i]?=some o) (hgd:o.guard=some (g,bb)) (hog:ops[g]?=some og) (hog2:og.dst=some s) (hv:lk s l=some (.bool bb)) (h:wpList P ops (Exit.then (fun a' w'=>aW P ops C K r a' w') (fun _ _ _=>False)) [o] a w):aW P ops C K (.step 3 i r) a w :=
 ⟨o,hi,fun hw=>aE2 hw h,fun hw=>by grind [jF]⟩
end
section
variable {P:Program} {t t' e:TypeId} {o:Oper} {a:Act} {w:World} {N:Fs} {sl:List (Nat×Value)} {x y:Operand}
end
end Go.Tri
