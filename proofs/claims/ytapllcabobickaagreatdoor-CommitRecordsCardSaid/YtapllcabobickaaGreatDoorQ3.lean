/- Texts A4, A5. -/
import Derived.Test.YtapllcabobickaaGreatDoorQ2
import Derived.Test.YtapllcabobickaaGreatDoorQ1
import Derived.DeepKeys3
import Derived.WideKeyRuns
import Derived.OrdersIn
import Derived.MapKept
import GoSem.Instr.MapEntry
import Derived.Lib.ConvBytes
import Derived.Laws.IdiomStrings
set_option linter.unusedSimpArgs false
set_option linter.unusedVariables false
/- Data: maps whose keys and values are plain. -/
namespace Go.Tri
open Go.RowKit
def hv (h:List UInt8):Value:=.agg (bcells h).toArray
theorem bcells_inj:∀ {h k:List UInt8},bcells h=bcells k→h=k
 | [],[],_=>rfl
 | [],_::_,e=>by simp [bcells] at e
 | _::_,[],e=>by simp [bcells] at e
 | a::h,b::k,e=>by
  simp only [bcells,List.map_cons,List.cons.injEq,Value.int.injEq,true_and] at e
  have h1:a=b:=UInt8.toNat_inj.1 (by omega)
  rw [h1,bcells_inj e.2]
theorem hv_inj {h k:List UInt8} (e:hv h=hv k):h=k:=bcells_inj (by simpa [hv] using e)
theorem keyH {P:Program} {K:TypeId} {n:Nat} (h:KeyA P K n):KeyT P K hv (fun l=>l.length=n) where
 check e k w hk:=by
  obtain ⟨u,h1,h2,h3⟩:=h.ex
  have:=run_checkKey_deep (P:=P) e 9997 3 K h.key
  exact this w 3 (hv k) _ (h.form k hk) (by simpa [Value.cells,hv] using keyLits_bytes h1 h2 h3 h.sz 1 k hk)
 find k es l w hk hl he:=by
  obtain ⟨u,h1,h2,h3⟩:=h.ex
  rw [run_findKey_eq (P:=P) (w:=w) (k:=K) (by rw [h1])]
  have key:∀ (es:List MapEntry) (l:List (List UInt8×Value)) (i:Nat),(∀ p∈l,p.1.length=n)→es.map (fun e=>(e.key,e.val))=mkv hv l→(Instr.findAsking K (hv k) es i).run P w=.ok (findI k l i) w:=by
   intro es
   induction es with
   | nil =>
    intro l i _ he
    cases l with
    | nil=>rfl
    | cons p l=>simp [mkv] at he
   | cons e es ih =>
    intro l i hl he
    cases l with
    | nil=>simp [mkv] at he
    | cons p l =>
     obtain ⟨k',v'⟩:=p
     simp only [mkv,List.map_cons,List.cons.injEq,Prod.mk.injEq] at he
     obtain ⟨⟨hk',hv'⟩,ht⟩:=he
     have hk'l:k'.length=n:=hl (k',v') (by simp)
     obtain ⟨r,hr,hiff⟩:=run_equalIn_deep (P:=P) 9997 3 K h.key w 3 3 (hv k) (hv k') _ _ (h.form k hk) (h.form k' hk'l) (by simpa [Value.cells,hv] using keyLits_bytes h1 h2 h3 h.sz 1 k hk) (by simpa [Value.cells,hv] using keyLits_bytes h1 h2 h3 h.sz 1 k' hk'l)
     have hr':(Op.equal K (hv k) e.key).run P w=.ok r w:=by rw [hk'];exact hr
     unfold Instr.findAsking findI
     rw [Sem.run_bind,hr']
     simp only [Result.andThen_ok]
     by_cases hkk:k'=k
     ·subst hkk
      have:r=true:=hiff.2 rfl
      subst this
      simp [hv']
     ·have:r=false:=by
       cases r with
       | false=>rfl
       | true=>exact absurd (lits_inj _ _ (hiff.1 rfl)).symm hkk
      subst this
      rw [if_neg (by simp),if_neg hkk]
      exact ih l (i+1) (fun p hp=>hl p (by simp [hp])) ht
  exact key es l 0 hl he
 stays k w hk:=by
  unfold Instr.keyThatStays
  have:Instr.sameBits 10000 (hv k) (hv k)=true:=by
   unfold Instr.sameBits hv
   simp only [beq_self_eq_true,Bool.true_and,List.all_eq_true]
   intro p hp
   have h1:p.1=p.2∧p.1∈bcells k:=by
    have hp':p∈(bcells k).zip (bcells k):=by simpa using hp
    rw [List.zip_eq_zipWith] at hp'
    obtain ⟨i,hi⟩:=List.mem_iff_getElem?.1 hp'
    simp only [List.getElem?_zipWith] at hi
    cases e:(bcells k)[i]? with
    | none=>simp [e] at hi
    | some v=>simp [e] at hi;subst hi;exact ⟨rfl,List.mem_of_getElem? e⟩
   obtain ⟨h2,h3⟩:=h1
   simp only [bcells,List.mem_map] at h3
   obtain ⟨c,_,hc⟩:=h3
   rw [← h2,← hc];simp [Instr.sameBits]
  rw [if_pos this];rfl
theorem map_eraseIdx {α β:Type} (f:α→β):∀ (l:List α) (j:Nat),(l.eraseIdx j).map f=(l.map f).eraseIdx j
 | [],_=>rfl
 | _::_,0=>rfl
 | x::l,j+1=>by simp [map_eraseIdx f l j]
def adel {κ β:Type} [DecidableEq κ] (k:κ) (l:List (κ×β)):List (κ×β):=match l with
 | []=>[]
 | p::r=>if p.1=k then r else p::adel k r
section
variable {κ β:Type} [DecidableEq κ] {ek:κ→Value} {ev':β→Value}
theorem aget_map {vv:β→Value} (k:κ):∀ kv:List (κ×β),aget k (kv.map fun p=>(p.1,vv p.2))=(aget k kv).map vv
 | []=>rfl
 | (k',v)::r=>by
  simp only [List.map_cons,aget]
  split
  ·rfl
  ·exact aget_map k r
theorem aset_map {vv:β→Value} (k:κ) (v:β):∀ kv:List (κ×β),aset k (vv v) (kv.map fun p=>(p.1,vv p.2))=(aset k v kv).map fun p=>(p.1,vv p.2)
 | []=>rfl
 | (k',u)::r=>by
  simp only [List.map_cons,aset]
  split
  ·rfl
  ·simp [aset_map k v r]
variable {P:Program} {T K E:TypeId} {ok:κ→Prop} {ov:β→Prop} {vv:β→Value} {w0 w:World} {b:Nat} {kv:List (κ×β)} {ls:List HP} {ops:Array Oper} {rest:List Oper} {o:Oper} {a:Act} {W:List Oper→Act→World→Prop} {N:Fs} {sl:List (Nat×Value)} {d:Nat} {x y z:Operand}
omit [DecidableEq κ] in
theorem adel_map [DecidableEq κ] {vv:β→Value} (k:κ):∀ kv:List (κ×β),adel k (kv.map fun p=>(p.1,vv p.2))=(adel k kv).map fun p=>(p.1,vv p.2)
 | []=>rfl
 | (k',v)::r=>by
  simp only [List.map_cons,adel]
  split
  ·rfl
  ·simp [adel_map k r]
theorem adel_sub (k:κ):∀ (kv:List (κ×β)) (p:κ×β),p∈adel k kv→p∈kv
 | [],p,h=>h
 | q::r,p,h=>by
  simp only [adel] at h
  split at h
  ·exact List.mem_cons_of_mem _ h
  ·rcases List.mem_cons.1 h with rfl | h
   ·simp
   ·exact List.mem_cons_of_mem _ (adel_sub k r p h)
theorem findI_del (k:κ):∀ (l:List (κ×Value)) (i:Nat),(∀ j u,findI k l i=some (j,u)→i≤j∧adel k l=l.eraseIdx (j - i))∧(findI k l i=none→adel k l=l)
 | [],i=>⟨fun j u h=>by simp [findI] at h,fun _=>rfl⟩
 | (k',v)::r,i=>by
  simp only [findI,adel]
  split
  ·refine ⟨fun j u h=>?_,fun h=>by cases h⟩
   cases h
   exact ⟨Nat.le_refl _,by simp⟩
  ·obtain ⟨h1,h2⟩:=findI_del k r (i+1)
   refine ⟨fun j u h=>?_,fun h=>by rw [h2 h]⟩
   obtain ⟨h3,h4⟩:=h1 j u h
   refine ⟨by omega,?_⟩
   rw [h4,show j - i=(j - (i+1))+1 by omega,List.eraseIdx_cons_succ]
end
section
variable {P:Program} {w0 w:World} {ls:List HP} {t ti e:TypeId} {bytes:Nat} {z:Value}
variable {ops:Array Oper} {rest:List Oper} {o:Oper} {a:Act} {W:List Oper→Act→World→Prop} {N:Fs} {sl:List (Nat×Value)} {d:Nat}
end
theorem rows_in {P:Program} {row:String} {args:Array Value} {w:World} {R:Value→World→Prop} (ro:Option Nat) (h:Rows P row args w R):RowsIn (FN ro) 0 P row args w R :=
 fun c cs _=>let ⟨v,w',r,s⟩:=h c cs;⟨v,w',r,stepsIn_wide.2 s⟩
theorem oper_in {P:Program} {o:Oper} {a:Act} {w:World} {K:Act→World→Prop} {Q:Exit→Act→World→Prop} (ro:Option Nat) (hd:notDefer o.op=true) (h:o.wp P a w K Q):o.wpIn (FN ro) 0 P a w K Q:=by
 refine ⟨fun _ _=>trivial,?_⟩
 rw [Oper.semAt_eq _ _ _ (notDefer_spec hd)]
 unfold Oper.wp at h
 generalize (execOp a.eval o).run P w=r at h ⊢
 cases r with
 | ok n w' =>
  cases n with
  | value v=>exact h
  | skip=>exact h
  | defer d=>exact h
  | enter f args=>exact ⟨(fun h=>by cases h),callsI ro h⟩
  | row row args=>exact ⟨(fun h=>by cases h),rows_in ro h⟩
  | round l f tmps assign body=>exact h.elim
  | _=>exact h.elim
 | halt x w' =>
  cases x<;>first | exact h | exact h.elim
theorem any_in {P:Program} {md:Region.Mode} {ops:Array Oper} {Q:Exit→Act→World→Prop} (ro:Option Nat) (hQ:∀ a w,¬ Q .outgrown a w) (hnd:∀ (i:Nat) (o:Oper),ops[i]?=some o→notDefer o.op=true) :
  ∀ (f:Nat) (listed:Array Bool) (a:Act) (w:World),wpAny P md ops Q f listed a w→wpAnyIn (FN ro) 0 P md ops Q f listed a w
 | 0,_,_,_,h=>h
 | f+1,listed,a,w,h=>by
  refine ⟨h.1,fun i hi=>?_⟩
  have h1:=h.2 i hi
  unfold wpOp at h1
  unfold wpOpIn
  cases ho:ops[i]? with
  | none=>rw [ho] at h1;exact any_in ro hQ hnd f _ _ _ h1
  | some o =>
   rw [ho] at h1
   simp only at h1 ⊢
   by_cases hw:Region.wanted o (yielded ops a.tmps)=true
   ·rw [if_pos hw] at h1 ⊢
    rcases h1 with h1 | ⟨_,x,y,h1⟩
    ·exact oper_in ro (hnd i o ho) (Oper.wp_mono (fun a w=>any_in ro hQ hnd f _ a w) h1)
    ·exact (hQ _ _ h1).elim
   ·rw [if_neg hw] at h1 ⊢
    exact ⟨fun _ _=>trivial,any_in ro hQ hnd f _ _ _ h1⟩
theorem outF {P:Program} {c:Code} {Q:Exit→Act→World→Prop} {a:Act} {w:World} (h:c.wp P Q a w):c.wpIn (FN none) 0 P Q a w:=(wpIn_wide (n:=0)).2 h
theorem inF {P:Program} {c:Code} {Q:Exit→Act→World→Prop} {a:Act} {w:World} (h:c.wpIn (FN none) 0 P Q a w):c.wp P Q a w:=(wpIn_wide (n:=0)).1 h
def marks (Ds:List Nat):List Deferred:=Ds.map mark
def HP.mks (Ds:List Nat):HP:=HP.of (fun _ w S=>Ds.Nodup∧∀ D∈Ds,w.heap[D]?=some (.deferred (some []))∧S D)
  (fun h hS=>⟨h.1,fun D hD=>⟨by rw [hS D (h.2 D hD).2];exact (h.2 D hD).1,(h.2 D hD).2⟩⟩)
  (fun h _=>h)
theorem St.mks0 {w0 w:World} {l:List HP} (H:St w0 w l):St w0 w (HP.mks []::l):=H.more fun _ _ _=>⟨List.nodup_nil,fun D h=>by simp at h⟩
theorem St.mks1 {w0 w:World} {l:List HP} {D:Nat} {Ds:List Nat} (H:St w0 w (HP.obj D (.deferred (some []))::HP.mks Ds::l)):St w0 w (HP.mks (D::Ds)::l) :=
 H.join fun S T h1 h2 hd=>⟨List.nodup_cons.2 ⟨fun hm=>hd D h1.2 (h2.2 D hm).2,h2.1⟩,fun E hE=>by
  rcases List.mem_cons.1 hE with rfl | hE
  ·exact ⟨h1.1,.inl h1.2⟩
  ·exact ⟨(h2.2 E hE).1,.inr (h2.2 E hE).2⟩⟩
theorem Sub.put {B:Base} {w:World} (h:Sub B w) {D:Nat} (hB:B D=none) (o:Obj):Sub B (w.putObj D o):=by
 intro b x hb
 show (w.heap.setIfInBounds D o)[b]?=_
 rw [Array.getElem?_setIfInBounds,if_neg (fun e=>by subst e;rw [hB] at hb;cases hb)]
 exact h b x hb
theorem leaves_marks {P:Program} {fn:Func} {R:Ending→World→Prop} {tmps:Array Value} {w0:World} {l:List HP} {v:Value}:∀ (Ds:List Nat) (w:World),St w0 w (HP.mks Ds::l)→(∀ w,St w0 w l→(results fn tmps).run P w=.ok v w)→(∀ w,St w0 w l→R (.returned v) w)→LeavesInM (FN none) 0 P fn tmps R (marks Ds) .returning w
 | [],w,H,hr,h=>⟨v,hr w H.tail,h w H.tail⟩
 | D::Ds,w,H,hr,h=>by
  obtain ⟨hv,B,f,hs,h1,h2,h3⟩:=H
  have hm:=h1 0 _ rfl
  have hD:=hm.2 D (by simp)
  have hf0:=h3 0 D (by simp) hD.2
  have hnd:=List.nodup_cons.1 hm.1
  have H2:St w0 (w.putObj D (.deferred none)) (HP.mks Ds::l):=by
   have hc:=chg_putObj w D (.deferred none)
   refine ⟨⟨hc.os.trans hv.1,hc.tape.trans hv.2.1,hc.output.trans hv.2.2.1,by rw [hc.size];exact hv.2.2.2⟩,B,fun i=>match i with | 0=>fun b=>b≠D∧f 0 b | i+1=>f (i+1),hs.put hf0.2.1 _,?_,?_,?_⟩
   ·intro i A hi
    cases i with
    | zero =>
     simp at hi;subst hi
     refine ⟨hnd.2,fun E hE=>⟨?_,fun e=>hnd.1 (e▸hE),(hm.2 E (by simp [hE])).2⟩⟩
     rw [hc.oth E (fun e=>hnd.1 (e▸hE))];exact (hm.2 E (by simp [hE])).1
    | succ i =>
     have hi':(HP.mks (D::Ds)::l)[i+1]?=some A:=by simpa using hi
     have hil:=(List.getElem?_eq_some_iff.1 hi').1
     exact A.loc (h1 (i+1) A hi') fun b hb=>hc.oth b fun e=>by subst e;have:=h2 0 (i+1) b (by simp) hil hD.2 hb;omega
   ·intro i j b hi hj hfi hfj
    refine h2 i j b (by simpa using hi) (by simpa using hj) ?_ ?_
    ·cases i with
     | zero=>exact hfi.2
     | succ i=>exact hfi
    ·cases j with
     | zero=>exact hfj.2
     | succ j=>exact hfj
   ·intro i b hi hf
    rw [hc.size]
    refine h3 i b (by simpa using hi) ?_
    cases i with
    | zero=>exact hf.2
    | succ i=>exact hf
  refine ⟨by simp,.inl ⟨D,_,rfl,run_takeDeferred hD.1,?_⟩⟩
  exact leaves_marks Ds _ H2 hr h
section
variable {P:Program} {fn:Func} {R:Ending→World→Prop} {a:Act} {w0 w:World} {N:Nat} {Ds:List Nat} {l:List (Nat×Value)} {ls:List HP}
theorem xk_leave {v:Value} (F:Fr ⟨N,marks Ds⟩ a l) (H:St w0 w (HP.mks Ds::ls)) (hr:∀ w,St w0 w ls→(results fn a.tmps).run P w=.ok v w) (h:∀ w,St w0 w ls→R (.returned v) w):LeavesInM (FN none) 0 P fn a.tmps R a.defers .returning w:=by
 rw [F.defers];exact leaves_marks Ds w H hr h
end
theorem xk_enter {P:Program} {f:FuncId} {fn:Func} {c:Code} {args:List Value} {w:World} {R:Ending→World→Prop} {N:Nat}
  (hf:P.funcs[f]?=some fn) (hb:fn.body=some c) (hN:fn.ntmps=N) (hle:Nat.ble args.length N=true)
  (h:∀ a,Fr ⟨N,marks []⟩ a (numL 0 args)→c.wp P (bodyPostM (FN none) 0 P fn R) a w):Calls P f args.toArray w R :=
 xi_enter hf hb hN hle fun a F=>outF (h a F)
def foldO {σ β ρ:Type} (f:σ→β→Option (σ ⊕ ρ)):σ→List β→Option (σ ⊕ ρ)
 | s,[]=>some (.inl s)
 | s,x::xs=>(f s x).bind fun o=>match o with | .inl s'=>foldO f s' xs | .inr r=>some (.inr r)
theorem foldO_rn {σ ι α β ρ:Type} {f:σ→β→Option (σ ⊕ ρ)} {pj:α→β}:∀ {pre post:List α} {g0 g:σ×ι},Rn (fun (g:σ×ι) x (g':σ×ι)=>f g.1 (pj x)=some (.inl g'.1)) g0 pre g→foldO f g0.1 ((pre++post).map pj)=foldO f g.1 (post.map pj)
 | [],_,_,_,h=>by cases h;rfl
 | x::pre,post,g0,g,⟨g1,h1,h2⟩=>by
  show (f g0.1 (pj x)).bind _=_
  rw [h1]
  exact foldO_rn h2
def roundQ {σ ι ρ κ:Type} (w0:World) (J:σ→ι→List HP) (K:ρ→κ→List HP) (jmp:ρ→Code) (o:σ ⊕ ρ) (fr:List HP):Exit→Act→World→Prop
 | .normal,_,w=>∃ s i,o=.inl s∧St w0 w (J s i++fr)
 | .ret,_,w=>∃ r i,o=.inr r∧jmp r=.ret∧St w0 w (K r i++fr)
 | .exit n,_,w=>∃ r i,o=.inr r∧jmp r=.exit n∧St w0 w (K r i++fr)
 | _,_,_=>False
theorem perm_m {A B C:List HP} {m:HP}:(A++(B++m::C)).Perm (m::(A++(B++C))):=by
 rw [← List.append_assoc,← List.append_assoc];exact List.perm_middle
theorem x_range {P:Program} {N:Nat} {Ds:List Nat} {a:Act} {l:List (Nat×Value)} {w0 w:World} {g:Operand} {ps:List Nat} {assign body:Code} {Q:Exit→Act→World→Prop} {gf:FuncId} {lb:List Value} {σ ι ρ κ α β Mid:Type} {enc:α→List Value} {own fr:List HP} {zs:List α} (pj:α→β)
  (F:Fr ⟨N,marks Ds⟩ a l) (hg:ev l g=some (.func (.func gf) #[] lb.toArray)) (eg:∀ args w,(callFunc gf args).run P w=.ok (.enter gf args) w) (hS:SeqC P gf lb enc own (fun xs x=>∃ ys,zs=xs++x::ys) (fun xs=>xs=zs))
  (J:σ→ι→List HP) (K:ρ→κ→List HP) (jmp:ρ→Code) (f:σ→β→Option (σ ⊕ ρ)) (s0:σ) (i0:ι) {o:σ ⊕ ρ} (hm:foldO f s0 (zs.map pj)=some o)
  (H:St w0 w (HP.mks Ds::(J s0 i0++(own++fr)))) (hps:∀ x,(enc x).length=ps.length) (hpN:ps.all (Nat.blt · N)=true)
  (ml:σ→ι→α→Mid→List (Nat×Value)) (mi:σ→ι→α→Mid→List HP)
  (hassign:∀ L s i x a1 W fr,x∈zs→Fr ⟨N,[]⟩ a1 (bindL ps (enc x) l)→St w0 W (J s i++fr) →
   assign.wpIn (FN (some L)) 0 P (Exit.then (fun a2 w2=>∃ m,Fr ⟨N,[]⟩ a2 (ml s i x m)∧St w0 w2 (mi s i x m++fr)) (fun _ _ _=>False)) a1 W)
  (hbody:∀ L s i x m o a1 W fr,x∈zs→f s (pj x)=some o→Fr ⟨N,[]⟩ a1 (ml s i x m)→St w0 W (mi s i x m++fr)→body.wpIn (FN (some L)) 0 P (roundQ w0 J K jmp o fr) a1 W)
  (hdone:∀ s i Ds a1 W,o=.inl s→Fr ⟨N,marks Ds⟩ a1 l→St w0 W (HP.mks Ds::(J s i++(own++fr)))→Q .normal a1 W)
  (hstop:∀ r i Ds a1 W,o=.inr r→Fr ⟨N,marks Ds⟩ a1 l→St w0 W (HP.mks Ds::(K r i++(own++fr)))→(jmp r).wp P Q a1 W) :
  (Code.rangeFunc g ps.toArray assign body).wp P Q a w:=by
 refine inF (xi_range (G:=σ×ι) (E:=ρ×κ) (fr:=HP.mks Ds::fr) F hg eg hS (fun g=>J g.1 g.2) (fun k=>K k.1 k.2) (fun k=>jmp k.1) (fun g x g'=>f g.1 (pj x)=some (.inl g'.1)) (fun g x k=>f g.1 (pj x)=some (.inr k.1)) (s0,i0) (H.perm perm_m.symm) hps hpN (fun g x m=>ml g.1 g.2 x m) (fun g x m=>mi g.1 g.2 x m) ?_ ?_ ?_ ?_)
 ·rintro L xs g x a1 W fr ⟨ys,hz⟩ _ F1 H1
  exact hassign L g.1 g.2 x a1 W fr (by rw [hz];simp) F1 H1
 ·rintro L xs g x m a1 W fr ⟨ys,hz⟩ hrn F1 H1
  have hf:∃ o1,f g.1 (pj x)=some o1:=by
   rw [hz,foldO_rn hrn] at hm
   simp only [List.map_cons,foldO] at hm
   obtain ⟨o1,h1,_⟩:=ob hm
   exact ⟨o1,h1⟩
  obtain ⟨o1,hf⟩:=hf
  refine Go.wpIn_mono (hbody L g.1 g.2 x m o1 a1 W fr (by rw [hz];simp) hf F1 H1) fun e a2 w2 h=>?_
  cases e with
  | normal=>obtain ⟨s,i,rfl,h⟩:=h;exact ⟨(s,i),hf,h⟩
  | ret=>obtain ⟨r,i,rfl,hj,h⟩:=h;exact ⟨(r,i),hf,hj,h⟩
  | exit n=>obtain ⟨r,i,rfl,hj,h⟩:=h;exact ⟨(r,i),hf,hj,h⟩
  | _=>exact h.elim
 ·rintro D xs g a1 W rfl hrn F1 H1
  have:=foldO_rn (post:=[]) hrn
  rw [List.append_nil,hm] at this
  exact hdone g.1 g.2 (D::Ds) a1 W (Option.some.inj this) F1 (St.mks1 (H1.perm (List.Perm.cons _ perm_m)))
 ·rintro D xs g x k a1 W ⟨ys,hz⟩ hrn hst F1 H1
  have h1:=hm
  rw [hz,foldO_rn hrn] at h1
  simp only [List.map_cons,foldO,hst] at h1
  exact outF (hstop k.1 k.2 (D::Ds) a1 W (Option.some.inj h1).symm F1 (St.mks1 (H1.perm (List.Perm.cons _ perm_m))))
def RV (P:Program) (l:List (Nat×Value)) (w:World):ResultVar→Value→Prop
 | .tmp t,v=>lk t l=some v
 | .cell t ty,v=>∃ ad,lk t l=some (.pointer (some ad))∧(loadVar ty ad).run P w=.ok v w
def rvSem (tmps:Array Value):ResultVar→Sem Value
 | .tmp t=>pure (tmps.getD t undef)
 | .cell a t=>do loadVar t (← asAddr (tmps.getD a undef))
section
variable {P:Program} {fn:Func} {a:Act} {w:World} {M:Fs} {l:List (Nat×Value)}
theorem RV.run (F:Fr M a l) {r:ResultVar} {v:Value} (h:RV P l w r v):(rvSem a.tmps r).run P w=.ok v w:=by
 cases r with
 | tmp t =>
  have:=F.get t v h
  simp [rvSem,this]
 | cell t ty =>
  obtain ⟨ad,h1,h2⟩:=h
  have:=F.get t _ h1
  simp [rvSem,this,asAddr,h2]
theorem run_res1 (F:Fr M a l) {r:ResultVar} {v:Value} (hr:fn.results=#[r]) (h:RV P l w r v):(results fn a.tmps).run P w=.ok v w:=by
 have h1:=h.run F
 have:results fn a.tmps=(do let x←rvSem a.tmps r;pure x):=by
  unfold results;rw [hr];simp [rvSem];cases r<;>rfl
 rw [this];simpa using h1
theorem run_resC2 (F:Fr M a l) {r s:ResultVar} {v u:Value} (hr:fn.results=#[r,s]) (h:RV P l w r v) (k:RV P l w s u):(results fn a.tmps).run P w=.ok (.tuple [v,u].toArray) w:=by
 have h1:=h.run F
 have h2:=k.run F
 have:results fn a.tmps=(do let x←rvSem a.tmps r;let y←rvSem a.tmps s;pure (.tuple #[x,y])):=by
  unfold results;rw [hr];simp [rvSem];cases r<;>cases s<;>rfl
 rw [this,Sem.run_bind,h1]
 simp only [Result.andThen_ok]
 rw [Sem.run_bind,h2];rfl
theorem run_resC3 (F:Fr M a l) {r s t:ResultVar} {v u x:Value} (hr:fn.results=#[r,s,t]) (h:RV P l w r v) (k:RV P l w s u) (k3:RV P l w t x):(results fn a.tmps).run P w=.ok (.tuple [v,u,x].toArray) w:=by
 have h1:=h.run F
 have h2:=k.run F
 have h3:=k3.run F
 have:results fn a.tmps=(do let x←rvSem a.tmps r;let y←rvSem a.tmps s;let z←rvSem a.tmps t;pure (.tuple #[x,y,z])):=by
  unfold results;rw [hr];simp [rvSem];cases r<;>cases s<;>cases t<;>rfl
 rw [this,Sem.run_bind,h1]
 simp only [Result.andThen_ok]
 rw [Sem.run_bind,h2]
 simp only [Result.andThen_ok]
 rw [Sem.run_bind,h3];rfl
theorem ld1 {t:TypeId} {b off:Nat} {v:Value} (hP:Plain P t) (hc:w.cell? ⟨b,off,none⟩=some v):(loadVar t ⟨b,off,none⟩).run P w=.ok v w:=by
 simp [loadVar,hP.run_isAgg,run_load,hc]
end
section
variable {P:Program} {fn:Func} {R:Ending→World→Prop} {a:Act} {w0 w:World} {N:Nat} {Ds:List Nat} {l:List (Nat×Value)} {ls:List HP} {r s t:ResultVar} {v u x:Value}
theorem x_resC1 (F:Fr ⟨N,[]⟩ a l) (hr:fn.results=#[r]) (h1:RV P l w r v) (h:R (.returned v) w):bodyPost P fn R .ret a w:=bodyPost_ret (run_res1 F hr h1) F.defers h
theorem x_resC2 (F:Fr ⟨N,[]⟩ a l) (hr:fn.results=#[r,s]) (h1:RV P l w r v) (h2:RV P l w s u) (h:R (.returned (.tuple [v,u].toArray)) w):bodyPost P fn R .ret a w:=bodyPost_ret (run_resC2 F hr h1 h2) F.defers h
theorem x_resC3 (F:Fr ⟨N,[]⟩ a l) (hr:fn.results=#[r,s,t]) (h1:RV P l w r v) (h2:RV P l w s u) (h3:RV P l w t x) (h:R (.returned (.tuple [v,u,x].toArray)) w):bodyPost P fn R .ret a w:=bodyPost_ret (run_resC3 F hr h1 h2 h3) F.defers h
theorem xk_resC1 (F:Fr ⟨N,marks Ds⟩ a l) (hr:fn.results=#[r]) (H:St w0 w (HP.mks Ds::ls)) (h1:∀ w,St w0 w ls→RV P l w r v) (h:∀ w,St w0 w ls→R (.returned v) w):bodyPostM (FN none) 0 P fn R .ret a w:=xk_leave F H (fun w H=>run_res1 F hr (h1 w H)) h
end
section
variable {σ ι ρ κ:Type} {w0 w:World} {J:σ→ι→List HP} {K:ρ→κ→List HP} {jmp:ρ→Code} {fr:List HP} {a:Act}
end
theorem flatK_at {K:Nat}:∀ {css:List (List Value)},(∀ c∈css,c.length=K)→∀ {j:Nat} {cj:List Value},css[j]?=some cj→(css.flatten.drop (j * K)).take K=cj
 | [],_,j,cj,h=>by simp at h
 | c::css,hk,0,cj,h=>by
  simp at h;subst h
  have:=hk c (by simp)
  simp [List.take_append,this]
 | c::css,hk,j+1,cj,h=>by
  have h1:=hk c (by simp)
  have ih:=flatK_at (css:=css) (fun d hd=>hk d (by simp [hd])) (j:=j) (by simpa using h)
  rw [Nat.succ_mul,List.flatten_cons,Nat.add_comm,← List.drop_drop,List.drop_left' h1]
  exact ih
section
variable {κ β:Type} [DecidableEq κ]
theorem aget_aset {β:Type} (j k:κ) (v:β):∀ l:List (κ×β),aget j (aset k v l)=if j=k then some v else aget j l
 | []=>by
  simp only [aset,aget]
  by_cases h:j=k
  ·subst h;simp
  ·simp [h,Ne.symm h]
 | (k',u)::l=>by
  simp only [aset]
  by_cases hk:k'=k
  ·subst hk
   simp only [if_true,aget]
   by_cases h:j=k'
   ·subst h;simp
   ·simp [h,Ne.symm h]
  ·simp only [if_neg hk,aget]
   rw [aget_aset j k v l]
   by_cases h:k'=j
   ·subst h;simp [hk]
   ·simp [h]
theorem aset_keys {β:Type} (k:κ) (v:β):∀ l:List (κ×β),(aset k v l).map (·.1)=if k∈l.map (·.1) then l.map (·.1) else l.map (·.1)++[k]
 | []=>by simp [aset]
 | (k',u)::l=>by
  simp only [aset]
  by_cases hk:k'=k
  ·subst hk;simp
  ·simp only [if_neg hk,List.map_cons,aset_keys k v l]
   have:¬ k=k':=fun e=>hk e.symm
   by_cases hm:k∈l.map (·.1)
   ·simp only [hm,if_true];simp [hm]
   ·simp only [hm,if_false];simp [hm,this]
theorem aget_none {β:Type} {k:κ}:∀ {l:List (κ×β)},k ∉ l.map (·.1)→aget k l=none
 | [],_=>rfl
 | (k',u)::l,h=>by
  simp only [List.map_cons,List.mem_cons,not_or] at h
  simp only [aget,if_neg (fun e:k'=k=>h.1 e.symm)]
  exact aget_none h.2
theorem aget_mem' {β:Type} {k:κ} {v:β}:∀ {l:List (κ×β)},aget k l=some v→(k,v)∈l
 | [],h=>by simp [aget] at h
 | (k',u)::l,h=>by
  simp only [aget] at h
  split at h
  ·rename_i e;subst e;cases h;simp
  ·exact List.mem_cons_of_mem _ (aget_mem' h)
theorem aget_of_mem {β:Type} {k:κ} {v:β}:∀ {l:List (κ×β)},(l.map (·.1)).Nodup→(k,v)∈l→aget k l=some v
 | [],_,h=>by simp at h
 | (k',u)::l,hn,h=>by
  simp only [List.map_cons,List.nodup_cons] at hn
  rcases List.mem_cons.1 h with h | h
  ·cases h;simp [aget]
  ·simp only [aget]
   rw [if_neg,aget_of_mem hn.2 h]
   intro e;subst e
   exact hn.1 (List.mem_map.2 ⟨_,h,rfl⟩)
theorem aget_adel {β:Type} (j k:κ):∀ l:List (κ×β),(l.map (·.1)).Nodup→aget j (adel k l)=if j=k then none else aget j l
 | [],_=>by simp [adel,aget]
 | (k',u)::l,hn=>by
  simp only [List.map_cons,List.nodup_cons] at hn
  simp only [adel]
  by_cases hk:k'=k
  ·subst hk
   simp only [if_true,aget]
   by_cases h:j=k'
   ·subst h;simp [aget_none hn.1]
   ·simp [h,Ne.symm h]
  ·simp only [if_neg hk,aget]
   rw [aget_adel j k l hn.2]
   by_cases h:k'=j
   ·subst h;simp [hk]
   ·simp [h]
theorem adel_keys {β:Type} (k:κ):∀ l:List (κ×β),(adel k l).map (·.1)=(l.map (·.1)).erase k
 | []=>by simp [adel]
 | (k',u)::l=>by
  simp only [adel]
  by_cases hk:k'=k
  ·subst hk;simp
  ·simp [hk,adel_keys k l,List.erase_cons]
def fset (k:κ) (x:β) (m:κ→Option β):κ→Option β:=fun j=>if j=k then some x else m j
def fdel (k:κ) (m:κ→Option β):κ→Option β:=fun j=>if j=k then none else m j
def fnil:κ→Option β:=fun _=>none
def Enum (m:κ→Option β) (kv:List (κ×β)):Prop:=(kv.map (·.1)).Nodup∧∀ k,m k=aget k kv
theorem Enum.perm {m:κ→Option β} {l l':List (κ×β)} (h:Enum m l) (h':Enum m l'):l.Perm l':=by
 have nd:∀ {l:List (κ×β)},(l.map (·.1)).Nodup→l.Nodup:=fun {l} h=>(List.pairwise_map.1 h).imp fun hne e=>hne (by rw [e])
 refine (List.perm_ext_iff_of_nodup (nd h.1) (nd h'.1)).2 fun p=>?_
 obtain ⟨k,v⟩:=p
 constructor
 ·intro hm
  exact aget_mem' (by rw [← h'.2,h.2];exact aget_of_mem h.1 hm)
 ·intro hm
  exact aget_mem' (by rw [← h.2,h'.2];exact aget_of_mem h'.1 hm)
open Classical in
noncomputable def flen (m:κ→Option β):Nat:=if h:∃ kv,Enum m kv then (Classical.choose h).length else 0
theorem flen_eq {m:κ→Option β} {kv:List (κ×β)} (h:Enum m kv):flen m=kv.length:=by
 unfold flen
 rw [dif_pos ⟨kv,h⟩]
 exact ((Classical.choose_spec (⟨kv,h⟩:∃ kv,Enum m kv)).perm h).length_eq
open Classical in
noncomputable def detM {ρ:Type} (m:κ→Option β) (f:List (κ×β)→Option ρ):Option ρ :=
 if h:(∃ kv,Enum m kv)∧∃ r,∀ kv,Enum m kv→f kv=some r then some (Classical.choose h.2) else none
theorem detM_some {ρ:Type} {m:κ→Option β} {f:List (κ×β)→Option ρ} {r:ρ} (h:detM m f=some r):(∃ kv,Enum m kv)∧∀ kv,Enum m kv→f kv=some r:=by
 unfold detM at h
 split at h
 ·rename_i hx
  cases h
  exact ⟨hx.1,Classical.choose_spec hx.2⟩
 ·cases h
theorem detM_of {ρ:Type} {m:κ→Option β} {f:List (κ×β)→Option ρ} {r:ρ} {kv:List (κ×β)} (he:Enum m kv) (h:∀ kv,Enum m kv→f kv=some r):detM m f=some r:=by
 have hx:(∃ kv,Enum m kv)∧∃ r,∀ kv,Enum m kv→f kv=some r:=⟨⟨kv,he⟩,r,h⟩
 unfold detM
 rw [dif_pos hx]
 have:=Classical.choose_spec hx.2 kv he
 rw [h kv he] at this
 exact this.symm
end
def mkV (agg:Bool) (cs:List Value):Value:=match agg with | true=>.agg cs.toArray | false=>cs.headD undef
section
variable {κ β:Type} [DecidableEq κ]
def ment (ek:κ→Value) (agg:Bool) (es:List (κ×(List Value×β))):List (Value×Value):=mkv ek (es.map fun p=>(p.1,mkV agg p.2.1))
structure EsOk (R:Rp β) (ok:κ→Prop) (B:Base) (es:List (κ×(List Value×β))) (m:κ→Option β):Prop where
 nodup:(es.map (·.1)).Nodup
 ok:∀ p∈es,ok p.1
 rd:∀ p∈es,R.rd B p.2.1 p.2.2
 get:∀ k,m k=(aget k es).map (·.2)
theorem EsOk.mono {R:Rp β} {ok:κ→Prop} {B B':Base} {es:List (κ×(List Value×β))} {m:κ→Option β} (h:EsOk R ok B es m) (hl:B.le B'):EsOk R ok B' es m:=⟨h.nodup,h.ok,fun p hp=>R.mono (h.rd p hp) hl,h.get⟩
def HP.mx (p:Option Nat) (ek:κ→Value) (agg:Bool) (R:Rp β) (ok:κ→Prop) (es:List (κ×(List Value×β))) (m:κ→Option β):HP :=
 HP.of (fun B w S=>EsOk R ok B es m∧match p with | none=>es=[] | some b=>MapW w b (ment ek agg es)∧S b)
  (fun {B w w' S} h hS=>by
  refine ⟨h.1,?_⟩
  cases p with
  | none=>exact h.2
  | some b =>
   obtain ⟨_,⟨es,c,h1,h2⟩,h3⟩:=h
   exact ⟨⟨es,c,by rw [hS _ h3];exact h1,h2⟩,h3⟩)
  (fun h hl=>⟨h.1.mono hl,h.2⟩)
def HP.mm (p:Option Nat) (ek:κ→Value) (agg:Bool) (R:Rp β) (ok:κ→Prop) (m:κ→Option β):HP :=
 HP.of (fun B w S=>∃ es,(HP.mx p ek agg R ok es m).pr B w S)
  (fun ⟨es,h⟩ hS=>⟨es,HP.loc _ h hS⟩)
  (fun ⟨es,h⟩ hl=>⟨es,HP.mono _ h hl⟩)
variable {R:Rp β} {P:Program} {T K E:TypeId} {ek:κ→Value} {ok:κ→Prop} {agg:Bool} {w0 w:World} {b:Nat} {p:Option Nat} {m:κ→Option β} {es:List (κ×(List Value×β))} {ls:List HP}
theorem St.mmOpen (H:St w0 w ls) (i:Nat) (hi:ls[i]?=some (HP.mm p ek agg R ok m)):∃ es,St w0 w (ls.set i (HP.mx p ek agg R ok es m)):=by
 obtain ⟨B,H⟩:=H.out
 obtain ⟨hv,hs,f,h1,h2,h3⟩:=H
 obtain ⟨es,h4⟩:=h1 i _ hi
 have hil:i<ls.length:=(List.getElem?_eq_some_iff.1 hi).1
 refine ⟨es,hv,B,f,hs,fun j E hj=>?_,by simpa using h2,by simpa using h3⟩
 rw [List.getElem?_set] at hj
 by_cases ee:i=j
 ·subst ee;rw [if_pos rfl,if_pos hil] at hj;cases hj;exact h4
 ·rw [if_neg ee] at hj;exact h1 j E hj
theorem St.mxShut (H:St w0 w ls) (i:Nat) (hi:ls[i]?=some (HP.mx p ek agg R ok es m)):St w0 w (ls.set i (HP.mm p ek agg R ok m)) :=
 H.convAt i hi fun S h=>⟨es,h⟩
theorem St.mxOk (H:St w0 w ls) (i:Nat) (hi:ls[i]?=some (HP.mx p ek agg R ok es m)):∃ B,Sub B w∧EsOk R ok B es m∧match p with | none=>es=[] | some b=>MapW w b (ment ek agg es):=by
 obtain ⟨B,S,hs,h,_⟩:=H.get i hi
 refine ⟨B,hs,h.1,?_⟩
 have h2:=h.2
 cases p with
 | none=>exact h2
 | some b=>exact h2.1
def esGet (es:List (κ×(List Value×β))) (k:κ) (zc:List Value):List Value:=((aget k es).map (·.1)).getD zc
theorem St.mxGet (H:St w0 w ls) (i:Nat) (hi:ls[i]?=some (HP.mx p ek agg R ok es m)) (k:κ) {zc:List Value} {z0:β} (hz:∀ B,R.rd B zc z0):∃ cs,esGet es k zc=cs∧St w0 w (HP.rc R cs ((m k).getD z0)::ls):=by
 obtain ⟨B,H⟩:=H.out
 obtain ⟨S,h⟩:=H.at hi
 refine ⟨_,rfl,(H.more (A:=HP.rc R (esGet es k zc) ((m k).getD z0)) ?_).st⟩
 show R.rd B _ _
 rw [h.1.get k]
 unfold esGet
 cases e:aget k es with
 | none=>exact hz B
 | some q=>exact h.1.rd _ (aget_mem' e)
variable {ops:Array Oper} {rest:List Oper} {o:Oper} {a:Act} {W:List Oper→Act→World→Prop} {N:Fs} {sl:List (Nat×Value)} {d:Nat} {x y z:Operand}
theorem s_mmNew (ek:κ→Value) (agg:Bool) (R:Rp β) (ok:κ→Prop) (k:Walk P ops W) (F:Fr N a sl) (hg:o.guard=none) (hd:o.dst=some d) (hN:Nat.blt d N.n=true) (ho:o.op=.makeMap T none) (H:St w0 w ls)
  (hk:∀ b w' a',St w0 w' (HP.mm (some b) ek agg R ok fnil::ls)→Fr N a' ((d,.map (some b))::sl)→W rest a' w'):W (o::rest) a w :=
 s_makeMap k F hg hd hN ho H fun b w' a' H' F'=>hk b w' a' (H'.conv fun S h=>⟨[],⟨List.nodup_nil,by simp,by simp,fun k=>rfl⟩,h⟩) F'
omit [DecidableEq κ] in
theorem es_ok (h:∀ q∈es,ok q.1):∀ q∈es.map (fun p=>(p.1,mkV agg p.2.1)),ok q.1:=fun q hq=>by
 obtain ⟨r,hr,rfl⟩:=List.mem_map.1 hq;exact h r hr
theorem s_mmSet (kw:Walk P ops W) (F:Fr N a sl) (hg:o.guard=none) (hd:o.dst=none) (hT:P.underlying T=some (.map K E)) (hK:KeyT P K ek ok) (ho:o.op=.mapUpdate T x y z) (H:St w0 w ls) (i:Nat) (hi:ls[i]?=some (HP.mm (some b) ek agg R ok m))
  (hx:ev sl x=some (.map (some b))) {k:κ} (hy:ev sl y=some (ek k)) {cs:List Value} (hz:ev sl z=some (mkV agg cs)) (hkk:ok k) {v:β} (hrd:∀ {B:Base},(∀ (j:Nat) (C:HP),ls[j]?=some C→∃ S,C.pr B w S)→R.rd B cs v)
  (hk:∀ w',St w0 w' (ls.set i (HP.mm (some b) ek agg R ok (fset k v m)))→W rest a w'):W (o::rest) a w:=by
 obtain ⟨es,H⟩:=H.mmOpen i hi
 have hil:i<ls.length:=(List.getElem?_eq_some_iff.1 hi).1
 have hi':(ls.set i (HP.mx (some b) ek agg R ok es m))[i]?=some (HP.mx (some b) ek agg R ok es m):=by simp [List.getElem?_set,hil]
 obtain ⟨_,_,hes,hm⟩:=H.mxOk i hi'
 obtain ⟨w',hr,hm',hc⟩:=run_mapUpdateW hT hK hm (es_ok hes.ok) k hkk (mkV agg cs)
 have hrun:(execOp a.eval o).run P w=.ok .skip w':=by
  unfold execOp
  simp only [ho,F.eval hx,F.eval hy,F.eval hz,Sem.run_bind,hr,Result.andThen_ok,Sem.run_pure]
 refine s_none kw F hg hd (by rw [ho];rfl) hrun ?_
 obtain ⟨B,HB⟩:=H.out
 have hcs:R.rd B cs v:=hrd (B:=B) fun j C hj=>by
  by_cases e:i=j
  ·subst e
   rw [hi] at hj;cases hj
   obtain ⟨S,h⟩:=HB.at hi'
   exact ⟨S,es,h⟩
  ·exact HB.at (by rw [List.getElem?_set,if_neg e];exact hj)
 have H2:=(HB.chg (A':=HP.mm (some b) ek agg R ok (fset k v m)) i hi' (g:=b) (fun S hA=>hA.2.2) hc (fun S hA=>⟨aset k (cs,v) es,⟨?_,?_,?_,?_⟩,?_,hA.2.2⟩)).st
 ·rw [List.set_set] at H2;exact hk w' H2
 ·rw [aset_keys]
  split
  ·exact hA.1.nodup
  ·rename_i hn
   exact List.nodup_append.2 ⟨hA.1.nodup,by simp,fun x hx y hy e=>by simp at hy;subst hy;subst e;exact hn hx⟩
 ·intro q hq
  have:q.1∈(aset k (cs,v) es).map (·.1):=List.mem_map.2 ⟨q,hq,rfl⟩
  rw [aset_keys] at this
  have key:∀ j,j∈es.map (·.1)→ok j:=fun j hj=>by obtain ⟨r,hr,rfl⟩:=List.mem_map.1 hj;exact hA.1.ok r hr
  split at this
  ·exact key _ this
  ·rcases List.mem_append.1 this with h | h
   ·exact key _ h
   ·simp at h;rw [h];exact hkk
 ·rintro ⟨q1,q2⟩ hq
  have hnd:((aset k (cs,v) es).map (·.1)).Nodup:=by
   rw [aset_keys]
   split
   ·exact hA.1.nodup
   ·rename_i hn
    exact List.nodup_append.2 ⟨hA.1.nodup,by simp,fun x hx y hy e=>by simp at hy;subst hy;subst e;exact hn hx⟩
  have h1:=aget_of_mem (k:=q1) (v:=q2) hnd hq
  rw [aget_aset] at h1
  split at h1
  ·cases h1;exact hcs
  ·exact hA.1.rd _ (aget_mem' h1)
 ·intro j
  show fset k v m j=_
  rw [aget_aset]
  unfold fset
  split
  ·rfl
  ·exact hA.1.get j
 ·have:ment ek agg (aset k (cs,v) es)=mkv ek (aset k (mkV agg cs) (es.map fun p=>(p.1,mkV agg p.2.1))):=by
   unfold ment;rw [← aset_map (vv:=fun q:List Value×β=>mkV agg q.1) k (cs,v) es]
  rw [this];exact hm'
theorem s_mmIns (kw:Walk P ops W) (F:Fr N a sl) (hg:o.guard=none) (hd:o.dst=none) (hT:P.underlying T=some (.map K E)) (hK:KeyT P K ek ok) (ho:o.op=.insert T x y z) (H:St w0 w ls) (i:Nat) (hi:ls[i]?=some (HP.mm (some b) ek agg R ok m))
  (hx:ev sl x=some (.map (some b))) {k:κ} (hy:ev sl y=some (ek k)) {cs:List Value} (hz:ev sl z=some (mkV agg cs)) (hkk:ok k) {v:β} (hrd:∀ {B:Base},(∀ (j:Nat) (C:HP),ls[j]?=some C→∃ S,C.pr B w S)→R.rd B cs v)
  (hk:∀ w',St w0 w' (ls.set i (HP.mm (some b) ek agg R ok (fset k v m)))→W rest a w'):W (o::rest) a w:=by
 obtain ⟨es,H⟩:=H.mmOpen i hi
 have hil:i<ls.length:=(List.getElem?_eq_some_iff.1 hi).1
 have hi':(ls.set i (HP.mx (some b) ek agg R ok es m))[i]?=some (HP.mx (some b) ek agg R ok es m):=by simp [List.getElem?_set,hil]
 obtain ⟨_,_,hes,hm⟩:=H.mxOk i hi'
 obtain ⟨w',hr,hm',hc⟩:=run_mapUpdateW hT hK hm (es_ok hes.ok) k hkk (mkV agg cs)
 have hrun:(execOp a.eval o).run P w=.ok .skip w':=by
  unfold execOp
  simp only [ho,F.eval hx,F.eval hy,F.eval hz,Sem.run_bind,hr,Result.andThen_ok,Sem.run_pure]
 refine s_none kw F hg hd (by rw [ho];rfl) hrun ?_
 obtain ⟨B,HB⟩:=H.out
 have hcs:R.rd B cs v:=hrd (B:=B) fun j C hj=>by
  by_cases e:i=j
  ·subst e
   rw [hi] at hj;cases hj
   obtain ⟨S,h⟩:=HB.at hi'
   exact ⟨S,es,h⟩
  ·exact HB.at (by rw [List.getElem?_set,if_neg e];exact hj)
 have H2:=(HB.chg (A':=HP.mm (some b) ek agg R ok (fset k v m)) i hi' (g:=b) (fun S hA=>hA.2.2) hc (fun S hA=>⟨aset k (cs,v) es,⟨?_,?_,?_,?_⟩,?_,hA.2.2⟩)).st
 ·rw [List.set_set] at H2;exact hk w' H2
 ·rw [aset_keys]
  split
  ·exact hA.1.nodup
  ·rename_i hn
   exact List.nodup_append.2 ⟨hA.1.nodup,by simp,fun x hx y hy e=>by simp at hy;subst hy;subst e;exact hn hx⟩
 ·intro q hq
  have:q.1∈(aset k (cs,v) es).map (·.1):=List.mem_map.2 ⟨q,hq,rfl⟩
  rw [aset_keys] at this
  have key:∀ j,j∈es.map (·.1)→ok j:=fun j hj=>by obtain ⟨r,hr,rfl⟩:=List.mem_map.1 hj;exact hA.1.ok r hr
  split at this
  ·exact key _ this
  ·rcases List.mem_append.1 this with h | h
   ·exact key _ h
   ·simp at h;rw [h];exact hkk
 ·rintro ⟨q1,q2⟩ hq
  have hnd:((aset k (cs,v) es).map (·.1)).Nodup:=by
   rw [aset_keys]
   split
   ·exact hA.1.nodup
   ·rename_i hn
    exact List.nodup_append.2 ⟨hA.1.nodup,by simp,fun x hx y hy e=>by simp at hy;subst hy;subst e;exact hn hx⟩
  have h1:=aget_of_mem (k:=q1) (v:=q2) hnd hq
  rw [aget_aset] at h1
  split at h1
  ·cases h1;exact hcs
  ·exact hA.1.rd _ (aget_mem' h1)
 ·intro j
  show fset k v m j=_
  rw [aget_aset]
  unfold fset
  split
  ·rfl
  ·exact hA.1.get j
 ·have:ment ek agg (aset k (cs,v) es)=mkv ek (aset k (mkV agg cs) (es.map fun p=>(p.1,mkV agg p.2.1))):=by
   unfold ment;rw [← aset_map (vv:=fun q:List Value×β=>mkV agg q.1) k (cs,v) es]
  rw [this];exact hm'
theorem mx_look {p:Option Nat} (hT:P.underlying T=some (.map K E)) (hK:KeyT P K ek ok) {zc:List Value} (hz:∀ w,(zeroValue E).run P w=.ok (mkV agg zc) w) (H:St w0 w ls) (i:Nat) (hi:ls[i]?=some (HP.mx p ek agg R ok es m)) (k:κ) (hkk:ok k) (c:Bool) :
  (Instr.lookup T (.map p) (ek k) c).run P w=.ok (if c then .tuple #[mkV agg (esGet es k zc),.bool (m k).isSome] else mkV agg (esGet es k zc)) w:=by
 obtain ⟨B,_,hes,hm⟩:=H.mxOk i hi
 cases p with
 | some b =>
  rw [run_lookupW hT hK hz hm (es_ok hes.ok) k hkk]
  rw [hes.get k]
  unfold esGet
  have:=aget_map (vv:=fun q:List Value×β=>mkV agg q.1) k es
  rw [this]
  cases aget k es<;>cases c<;>rfl
 | none =>
  have hm:es=[]:=hm
  have h1:=hK.check true k w hkk
  have h2:=hK.find k [] [] w hkk (by simp) rfl
  rw [hes.get k]
  unfold Instr.lookup
  rw [Sem.run_bind,run_underlying hT]
  simp only [Result.andThen_ok]
  cases c<;>simp [h1,h2,findI,hz,aget,esGet,hm]
theorem y_mxGet {p:Option Nat} {zc cs:List Value} (F:Fr N a sl) (hT:P.underlying T=some (.map K E)) (hK:KeyT P K ek ok) (hz:∀ w,(zeroValue E).run P w=.ok (mkV agg zc) w) (ho:o.op=.lookup T x y false) (H:St w0 w ls) (i:Nat) (hi:ls[i]?=some (HP.mx p ek agg R ok es m)) (hx:ev sl x=some (.map p)) {k:κ} (hy:ev sl y=some (ek k)) (hkk:ok k) (hcs:esGet es k zc=cs) :
  (execOp a.eval o).run P w=.ok (.value (mkV agg cs)) w:=by
 unfold execOp
 simp only [ho,F.eval hx,F.eval hy,Sem.run_bind,mx_look hT hK hz H i hi k hkk false,Result.andThen_ok,Sem.run_pure,hcs]
 rfl
theorem y_mxGet2 {p:Option Nat} {zc cs:List Value} (F:Fr N a sl) (hT:P.underlying T=some (.map K E)) (hK:KeyT P K ek ok) (hz:∀ w,(zeroValue E).run P w=.ok (mkV agg zc) w) (ho:o.op=.lookup T x y true) (H:St w0 w ls) (i:Nat) (hi:ls[i]?=some (HP.mx p ek agg R ok es m)) (hx:ev sl x=some (.map p)) {k:κ} (hy:ev sl y=some (ek k)) (hkk:ok k) (hcs:esGet es k zc=cs) :
  (execOp a.eval o).run P w=.ok (.value (.tuple [mkV agg cs,.bool (m k).isSome].toArray)) w:=by
 unfold execOp
 simp only [ho,F.eval hx,F.eval hy,Sem.run_bind,mx_look hT hK hz H i hi k hkk true,Result.andThen_ok,Sem.run_pure,hcs]
 rfl
theorem aget_mapG {β γ:Type} (g:β→γ) (k:κ):∀ kv:List (κ×β),aget k (kv.map fun p=>(p.1,g p.2))=(aget k kv).map g
 | []=>rfl
 | (k',v)::r=>by
  simp only [List.map_cons,aget]
  split
  ·rfl
  ·exact aget_mapG g k r
theorem EsOk.enum {B:Base} (h:EsOk R ok B es m):Enum m (es.map fun p=>(p.1,p.2.2)):=by
 refine ⟨by rw [List.map_map];exact h.nodup,fun k=>?_⟩
 rw [h.get k,← aget_mapG (fun q:List Value×β=>q.2) k es]
theorem y_mmLen (F:Fr N a sl) (ho:o.op=.call { callee:=.builtin .len,args:=#[x],argTypes:=#[T] }) (hT:P.underlying T=some (.map K E)) (H:St w0 w ls) (i:Nat) (hi:ls[i]?=some (HP.mm p ek agg R ok m)) (hx:ev sl x=some (.map p)):(execOp a.eval o).run P w=.ok (.value (.int .i64 (flen m:Nat))) w:=by
 obtain ⟨es,H⟩:=H.mmOpen i hi
 have hil:i<ls.length:=(List.getElem?_eq_some_iff.1 hi).1
 have hi':(ls.set i (HP.mx p ek agg R ok es m))[i]?=some (HP.mx p ek agg R ok es m):=by simp [List.getElem?_set,hil]
 obtain ⟨_,_,hes,hm⟩:=H.mxOk i hi'
 have hl:flen m=es.length:=by rw [flen_eq hes.enum];simp
 cases p with
 | some b =>
  have:=run_lenMapW hT hm o.type
  unfold execOp
  simp [ho,resolve,invoke,builtin,F.eval hx,this,ment,mkv,hl]
 | none =>
  have hm:es=[]:=hm
  have h0:flen m=0:=by rw [hl,hm];rfl
  unfold execOp
  simp [ho,resolve,invoke,builtin,F.eval hx,Builtin.len_,Go.run_underlying hT,goInt,h0]
end
def ekStr (l:List UInt8):Value:=.string (txb l)
theorem findNow_strs (k:List UInt8):∀ (es:List MapEntry) (l:List (List UInt8×Value)) (i:Nat),es.map (fun e=>(e.key,e.val))=mkv ekStr l→Instr.findNow .string (ekStr k) es i=some (findI k l i)
 | [],l,i,h=>by
  cases l with
  | nil=>rfl
  | cons p l=>simp [mkv] at h
 | e::es,l,i,h=>by
  cases l with
  | nil=>simp [mkv] at h
  | cons p l =>
   obtain ⟨k',v'⟩:=p
   simp only [mkv,List.map_cons,List.cons.injEq,Prod.mk.injEq] at h
   obtain ⟨⟨hk,hv⟩,ht⟩:=h
   have ih:=findNow_strs k es l (i+1) ht
   unfold Instr.findNow findI
   by_cases hkk:k'=k
   ·subst hkk;simp only [hk,hv,ekStr,Instr.sameNow,(Go.MapKept.bytes_beq (txb k') (txb k')).2 rfl,if_true]
   ·have hne:(txb k==txb k')=false:=by
     rw [← Bool.not_eq_true,Go.MapKept.bytes_beq];exact fun hh=>hkk (txb_inj hh).symm
    simp [Instr.sameNow,hk,ekStr,hne,hkk]
    exact ih
theorem keyStr {P:Program} {K:TypeId} (hK:P.underlying K=some .string):KeyT P K ekStr (fun _=>True) where
 check e k w _:=Go.MapKept.run_checkKey hK (by trivial) e 9999
 find k es l w _ _ h:=Go.MapKept.run_findKey hK (findNow_strs k es l 0 h)
 stays k w _:=by
  unfold Instr.keyThatStays
  have:Instr.sameBits 10000 (ekStr k) (ekStr k)=true:=by unfold Instr.sameBits ekStr;exact (Go.MapKept.bytes_beq (txb k) (txb k)).2 rfl
  rw [if_pos this];rfl
theorem rSl_nil {α:Type} (R:Rp α) (B:Base):(rSl R).rd B [.slice none 0 0] []:=⟨none,0,rfl,[],trivial,fun w _=>.inl ⟨rfl,rfl,rfl⟩⟩
theorem calls_ex {P:Program} {f:FuncId} {args:Array Value} {w:World} {R:Ending→World→Prop} (h:Calls P f args w R):∃ e w',R e w':=by
 obtain ⟨e,w',_,hr,_⟩:=h []
 exact ⟨e,w',hr⟩
theorem St.addFact {w0 w:World} {l:List HP} (H:St w0 w l) {p:Prop} (h:p):St w0 w (HP.fact p::l):=H.more fun _ _ _=>h
section
variable {P:Program} {T K E:TypeId} {κ:Type} [DecidableEq κ] {ek:κ→Value} {ok:κ→Prop} {w:World} {b:Nat} {l:List (κ×Value)}
end
section
variable {κ β:Type} [DecidableEq κ] {R:Rp β} {P:Program} {T K E:TypeId} {ek:κ→Value} {ok:κ→Prop} {agg:Bool} {w0 w:World} {b:Nat} {m:κ→Option β} {ls:List HP}
variable {ops:Array Oper} {rest:List Oper} {o:Oper} {a:Act} {W:List Oper→Act→World→Prop} {N:Fs} {sl:List (Nat×Value)} {d:Nat} {x y z:Operand}
def HP.mi (b:Nat) (ek:κ→Value) (agg:Bool) (R:Rp β) (ok:κ→Prop) (m:κ→Option β) (k:κ) (z0:β):HP :=
 HP.of (fun B w S=>(∃ (es:List (κ×(List Value×β))) (m':κ→Option β),EsOk R ok B es m'∧(m' k).getD z0=(m k).getD z0∧MapW w b (ment ek agg es))∧S b)
  (fun ⟨⟨es,m',h1,h2,raw,c,h3,h4⟩,h5⟩ hS=>⟨⟨es,m',h1,h2,raw,c,by rw [hS _ h5];exact h3,h4⟩,h5⟩)
  (fun ⟨⟨es,m',h1,h2⟩,h5⟩ hl=>⟨⟨es,m',h1.mono hl,h2⟩,h5⟩)
end
section
variable {κ β:Type} [DecidableEq κ] {R:Rp β} {P:Program} {T K E:TypeId} {ek:κ→Value} {ok:κ→Prop} {agg:Bool} {w0 w:World} {b:Nat} {m:κ→Option β} {ls:List HP} {ops:Array Oper} {rest:List Oper} {o:Oper} {a:Act} {W:List Oper→Act→World→Prop} {N:Fs} {sl:List (Nat×Value)} {x y:Operand}
end
theorem inj_hv {n:Nat}:∀ j j':List UInt8,j.length=n→j'.length=n→hv j=hv j'→j=j':=fun j j' _ _ h=>hv_inj h
section
variable {P:Program} {T E e:TypeId} {w0 w:World} {ls:List HP} {ops:Array Oper} {rest:List Oper} {o:Oper} {a:Act} {W:List Oper→Act→World→Prop} {N:Fs} {sl:List (Nat×Value)} {d:Nat} {x y z:Operand}
end
section
variable {P:Program} {ops:Array Oper} {C:World→Prop} {K:Act→World→Prop} {N:Fs} {a:Act} {l:List (Nat×Value)} {w:World} {i d:Nat} {o:Oper} {r:Sc} {v:Value}
theorem heavy_on {M:Act→World→Prop} (hw:Region.wanted o (yielded ops a.tmps)=true) (h:wpList P ops (Exit.then M (fun _ _ _=>False)) [o] a w):o.wp P a w M (fun _ _ _=>False):=by
 unfold wpList at h
 rw [if_pos hw] at h
 rcases h with h | ⟨_,_,_,h⟩
 ·unfold Oper.wp at *
  generalize (execOp a.eval o).run P w=r at *
  cases r with
  | ok n w' =>
   cases n<;>simp only [Oper.upon] at h ⊢
   case value v=>exact h
   case skip=>exact h
   case defer d=>exact h
   case enter f args =>
    refine Calls.mono h fun e w'' he=>?_
    cases e with
    | returned u=>exact he
    | panicked c=>exact he
    | outgrown=>obtain ⟨_,_,h⟩:=he;exact h.elim
   case row row args=>exact h
  | halt x w' =>
   cases x<;>simp only [Oper.upon] at h ⊢
   case panic v=>exact h
 ·exact h.elim
theorem m_heavyOn {s:Nat} {bb:Bool} {g:Nat} {og:Oper} (F:Fr N a l) (hi:ops[i]?=some o) (hgd:o.guard=some (g,bb)) (hog:ops[g]?=some og) (hog2:og.dst=some s) (hv:lk s l=some (.bool bb)) (h:wpList P ops (Exit.then (fun a' w'=>C w'∧wpMix P ops C K r a' w') (fun _ _ _=>False)) [o] a w):wpMix P ops C K (.step 2 i r) a w :=
 ⟨o,hi,fun hw=>heavy_on hw h,fun hw=>by rw [want_on F hgd hog hog2 hv] at hw;cases hw⟩
end
section
variable {P:Program} {t t' e:TypeId} {o:Oper} {a:Act} {w:World} {N:Fs} {sl:List (Nat×Value)} {x y:Operand}
end
end Go.Tri
/- Data: lists whose elements are owned slices of bytes;bytes copied over an owned slice. -/
namespace Go.Tri
open Go.RowKit
theorem St.split {w0 w:World} {A:HP} {l:List HP} (H:St w0 w (A::l)) {ι:Type} {C D:ι→HP} (hS:∀ {B:Base} {S:Nat→Prop},A.pr B w S→∃ i S1 S2,(C i).pr B w S1∧(D i).pr B w S2∧(∀ b,S1 b→S2 b→False)∧(∀ b,S1 b→S b)∧(∀ b,S2 b→S b)):∃ i,St w0 w (C i::D i::l):=by
 obtain ⟨hv,B,f,hs,h1,h2,h3⟩:=H
 obtain ⟨i,S1,S2,hC,hD,hd,s1,s2⟩:=hS (h1 0 A rfl)
 refine ⟨i,hv,B,fun j=>match j with | 0=>S1 | 1=>S2 | j+2=>f (j+1),hs,?_,?_,?_⟩
 ·intro j E hj
  match j with
  | 0=>simp at hj;subst hj;exact hC
  | 1=>simp at hj;subst hj;exact hD
  | j+2=>exact h1 (j+1) E (by simpa using hj)
 ·intro j k b hj hk hfj hfk
  simp only [List.length_cons] at hj hk
  match j,k with
  | 0,0=>rfl
  | 0,1=>exact (hd b hfj hfk).elim
  | 0,k+2=>have:=h2 0 (k+1) b (by simp) (by simp;omega) (s1 b hfj) hfk;omega
  | 1,0=>exact (hd b hfk hfj).elim
  | 1,1=>rfl
  | 1,k+2=>have:=h2 0 (k+1) b (by simp) (by simp;omega) (s2 b hfj) hfk;omega
  | j+2,0=>have:=h2 0 (j+1) b (by simp) (by simp;omega) (s1 b hfk) hfj;omega
  | j+2,1=>have:=h2 0 (j+1) b (by simp) (by simp;omega) (s2 b hfk) hfj;omega
  | j+2,k+2=>have:=h2 (j+1) (k+1) b (by simp;omega) (by simp;omega) hfj hfk;omega
 ·intro j b hj hf
  simp only [List.length_cons] at hj
  match j with
  | 0=>exact h3 0 b (by simp) (s1 b hf)
  | 1=>exact h3 0 b (by simp) (s2 b hf)
  | j+2=>exact h3 (j+1) b (by simp;omega) hf
def HP.os (e1:TypeId) (css:List (List Value)) (xs:List (List UInt8)) (h:Nat→Prop):HP :=
 HP.of (fun B w S=>∃ f:Nat→Nat→Prop,css.length=xs.length∧(∀ (i:Nat) (cs:List Value) (x:List UInt8),css[i]?=some cs→xs[i]?=some x→∃ q c,cs=[.slice q x.length c]∧(¬ h i→(HP.ow rByte e1 q c x).pr B w (f i)))∧(∀ i j b,f i b→f j b→i=j)∧(∀ i b,f i b→S b))
  (fun ⟨f,h0,h1,h2,h3⟩ hS=>⟨f,h0,fun i cs x hc hx=>by
   obtain ⟨q,c,e,ho⟩:=h1 i cs x hc hx
   exact ⟨q,c,e,fun hn=>HP.loc _ (ho hn) fun b hb=>hS b (h3 i b hb)⟩,h2,h3⟩)
  (fun ⟨f,h0,h1,h2⟩ hl=>⟨f,h0,fun i cs x hc hx=>by
   obtain ⟨q,c,e,ho⟩:=h1 i cs x hc hx
   exact ⟨q,c,e,fun hn=>HP.mono _ (ho hn) hl⟩,h2⟩)
section
variable {w0 w:World} {l:List HP} {e1:TypeId} {css:List (List Value)} {xs:List (List UInt8)}
end
section
variable {P:Program} {t e:TypeId} {w0 w:World} {ls:List HP} {ops:Array Oper} {rest:List Oper} {o:Oper} {a:Act} {W:List Oper→Act→World→Prop} {N:Fs} {l:List (Nat×Value)} {d:Nat} {x y:Operand}
end
section
variable {P:Program} {t e e1:TypeId} {w0 w:World} {ls:List HP} {ops:Array Oper} {rest:List Oper} {o:Oper} {a:Act} {W:List Oper→Act→World→Prop} {N:Fs} {l:List (Nat×Value)} {d:Nat} {x y:Operand}
end
theorem run_convB {P:Program} {w:World} {t t' e:TypeId} {p:Option Addr} {cap:Nat} {l:List UInt8} (hs:P.underlying t=some (.slice e)) (he:P.underlying e=some (.int .u8)) (hd:P.underlying t'=some .string)
  (h:Sl w (.slice p l.length cap) l.length (bcells l)):(convert t t' (.slice p l.length cap)).run P w=.ok (.string (txb l)) w:=by
 generalize hv:(Value.slice p l.length cap)=v at h ⊢
 rcases h with ⟨h,hn,_⟩ | ⟨ad,c,h,hn,_⟩ | ⟨b,off,c,h,_,hr⟩
 ·subst h
  obtain rfl:l=[]:=by cases l<;>simp_all
  injection hv with h1 h2 h3
  rw [run_convert_bytes_string w t t' e _ _ _ hs he hd];rfl
 ·subst h
  obtain rfl:l=[]:=by cases l<;>simp_all
  injection hv with h1 h2 h3
  rw [run_convert_bytes_string w t t' e _ _ _ hs he hd]
  rw [run_bytesToString w _ 0 c [] (run_loadCells_list (P:=P) w _ [] (fun j v hj=>by simp at hj))];rfl
 ·subst h
  exact run_convert_bytes_back w t t' e ⟨b,off,none⟩ c l hs he hd fun j hj=>by
   rw [add_none];exact hr j _ (by simp [bcells,hj])
theorem y_b2s {P:Program} {o:Oper} {a:Act} {w w0:World} {N:Fs} {sl:List (Nat×Value)} {x:Operand} {t t' e:TypeId} {p:Option Addr} {cap:Nat} {xs:List UInt8} {ls:List HP} (F:Fr N a sl) (hs:P.underlying t=some (.slice e)) (hd:P.underlying t'=some .string) (he:P.underlying e=some (.int .u8)) (ho:o.op=.convert t t' x) (hx:ev sl x=some (.slice p xs.length cap))
  (H:St w0 w ls) (i:Nat) (hi:ls[i]?=some (HP.sl rByte p cap xs)):(execOp a.eval o).run P w=.ok (.value (.string (txb xs))) w:=by
 obtain ⟨B,S,hw,⟨css,h1,h2⟩,_⟩:=H.get i hi
 have h3:=h2 w hw
 rw [rdl_bytes_flat h1] at h3
 unfold execOp
 simp only [ho,F.eval hx]
 rw [Sem.run_bind,run_convB hs he hd h3]
 rfl
section
variable {P:Program} {o:Oper} {a:Act} {w:World} {N:Fs} {sl:List (Nat×Value)} {x y:Operand} {t t':TypeId} {l m:List UInt8}
theorem y_idxT (F:Fr N a sl) (ho:o.op=.index t x y) (ht:P.underlying t=some .string) (hx:ev sl x=some (.string (txb l))) {k:IntKind} {i:Int} (hy:ev sl y=some (.int k i)) {c:UInt8} (hc:idxO l i=some c):(execOp a.eval o).run P w=.ok (.value (.int .u8 ((c.toNat:Nat):Int))) w:=by
 obtain ⟨h0,h1⟩:=idxO_some hc
 have e:((i.toNat:Nat):Int)=i:=by omega
 exact y_indexT (i:=i.toNat) F ho ht hx (by rw [e];exact hy) h1
theorem y_addO (F:Fr N a sl) (ho:o.op=.binOp .add t x y t') (hx:ev sl x=some (.string (txb l))) (hy:ev sl y=some (.string (txb m))) {z:List UInt8} (hz:appO l m=some z):(execOp a.eval o).run P w=.ok (.value (.string (txb z))) w:=by
 obtain ⟨h,rfl⟩:=appO_some hz
 exact y_addT F ho hx hy (by have:=Cap.lt (α:=UInt8);omega)
end
def atL {α:Type}:Nat→List α→Option α
 | _,[]=>none
 | 0,a::_=>some a
 | n+1,_::l=>atL n l
theorem atL_eq {α:Type}:∀ (n:Nat) (l:List α),atL n l=l[n]?
 | _,[]=>by cases ‹Nat›<;>rfl
 | 0,a::_=>rfl
 | n+1,_::l=>by simpa [atL] using atL_eq n l
def nfL {α:Type}:Nat→List α→Option (List α)
 | 0,l=>some l
 | n+1,l=>match l with
  | []=>none
  | a::r=>match nfL n r with
   | some r'=>some (a::r')
   | none=>none
theorem nfL_eq {α:Type}:∀ {n:Nat} {l l':List α},nfL n l=some l'→l'=l
 | 0,l,l',h=>by cases h;rfl
 | n+1,[],l',h=>by cases h
 | n+1,a::r,l',h=>by
  simp only [nfL] at h
  split at h
  ·rename_i r' e;cases h;rw [nfL_eq e]
  ·cases h
theorem St.nf {w0 w:World} {l l':List HP} (H:St w0 w l) (n:Nat) (h:nfL n l=some l'):St w0 w l':=nfL_eq h▸H
def IsSlT (P:Program) (t:TypeId):Prop:=∃ e,P.underlying t=some (.slice e)
def AggN (P:Program) (t n:Nat):Prop:=∃ z,AggT P t n z
theorem aggn {P:Program} {t n m:Nat} {z:List Value} (h:AggT P t n z) (e:m=n):AggN P t m:=⟨z,e▸h⟩
def qconv (P:Program) (t':TypeId) (n:Int) (p:Prop):Nat→Option (Value×List Prop)
 | 0=>some (.int .i64 (IntKind.i64.wrap n),[p,P.underlying t'=some (.int .i64)])
 | 1=>some (.int .u8 (IntKind.u8.wrap n),[p,P.underlying t'=some (.int .u8)])
 | 2=>some (.int .u64 (IntKind.u64.wrap n),[p,P.underlying t'=some (.int .u64)])
 | 3=>some (.int .u32 (IntKind.u32.wrap n),[p,P.underlying t'=some (.int .u32)])
 | 4=>some (.int .i32 (IntKind.i32.wrap n),[p,P.underlying t'=some (.int .i32)])
 | 5=>some (.int .u16 (IntKind.u16.wrap n),[p,P.underlying t'=some (.int .u16)])
 | 6=>some (.int .i16 (IntKind.i16.wrap n),[p,P.underlying t'=some (.int .i16)])
 | _=>some (.int .i8 (IntKind.i8.wrap n),[p,P.underlying t'=some (.int .i8)])
theorem qconv_ok {P:Program} {t':TypeId} {n:Int} {p:Prop} {h:Nat} {v:Value} {ob:List Prop} (e:qconv P t' n p h=some (v,ob)):∃ k',v=.int k' (k'.wrap n)∧ob=[p,P.underlying t'=some (.int k')]:=by
 unfold qconv at e
 split at e<;>cases e<;>exact ⟨_,rfl,rfl⟩
def qbin (k:IntKind) (m n:Int):BinOp→Option Value
 | .lss=>some (.bool (decide (m<n)))
 | .leq=>some (.bool (decide (m≤n)))
 | .gtr=>some (.bool (decide (n<m)))
 | .geq=>some (.bool (decide (n≤m)))
 | .eql=>some (.bool (decide (m=n)))
 | .neq=>some (.bool (!decide (m=n)))
 | .add=>some (.int k (k.wrap (m+n)))
 | .sub=>some (.int k (k.wrap (m - n)))
 | .mul=>some (.int k (k.wrap (m * n)))
 | .and=>some (.int k (andI k m n))
 | .or=>some (.int k (orI k m n))
 | .xor=>some (.int k (xorI k m n))
 | _=>none
def qlen (ts:List TypeId) (n:Nat):Option (Value×(Program→List Prop)):=match ts with
 | [t]=>some (.int .i64 n,fun P=>[IsSlT P t])
 | _=>none
def qval (P:Program) (ls:List HP) (sl:List (Nat×Value)) (h:Nat):Op→Option (Value×List Prop)
 | .move x=>match ev sl x with
  | some v=>some (v,[])
  | none=>none
 | .assign x=>match ev sl x with
  | some v=>some (v,[])
  | none=>none
 | .pick x y z=>match ev sl x with
  | some (.bool b)=>match b with
   | true=>match ev sl y with
    | some v=>some (v,[])
    | none=>none
   | false=>match ev sl z with
    | some v=>some (v,[])
    | none=>none
  | _=>none
 | .nilCheck x=>match ev sl x with
  | some (.pointer p)=>match p with
   | some ad=>some (.pointer (some ad),[])
   | none=>none
  | _=>none
 | .unOp u _ x=>match ev sl x with
  | some (.bool b)=>match u with
   | .not=>some (.bool (!b),[])
   | _=>none
  | some (.int k m)=>match u with
   | .xor=>some (.int k (notI k m),[])
   | .neg=>some (.int k (k.wrap (0 - m)),[])
   | _=>none
  | _=>none
 | .binOp op _ x y _=>match ev sl x with
  | some (.int k m)=>match ev sl y with
   | some (.int k' n)=>match decide (k'=k) with
    | true=>match qbin k m n op with
     | some v=>some (v,[])
     | none=>none
    | false=>none
   | _=>none
  | _=>none
 | .extract x i=>match ev sl x with
  | some (.tuple vs)=>match atL i vs.toList with
   | some v=>some (v,[])
   | none=>none
  | _=>none
 | .fieldAddr t x f=>match ev sl x with
  | some (.pointer (some ⟨b,k,sp⟩))=>match sp with
   | none=>some (.pointer (some ⟨b,k+h,none⟩),[FieldT P t f h])
   | some _=>none
  | _=>none
 | .load t x=>match ev sl x with
  | some (.pointer (some ad))=>match atL (h / 1000) ls with
   | some A=>match A.tag with
    | some (b,o,cs)=>match Nat.beq (h % 1000) 999 with
     | true=>some (.agg cs.toArray,[ad=⟨b,o,none⟩,AggN P t cs.length])
     | false=>match atL (h % 1000) cs with
      | some v=>some (v,[ad=⟨b,o+h % 1000,none⟩,Plain P t])
      | none=>none
    | none=>none
   | none=>none
  | _=>none
 | .convert t t' x=>match ev sl x with
  | some (.int k n)=>qconv P t' n (P.underlying t=some (.int k)) h
  | _=>none
 | .call c=>match c.callee with
  | .builtin b=>match b with
   | .len=>match c.args.toList with
    | [x]=>match ev sl x with
     | some (.slice _ n _)=>match qlen c.argTypes.toList n with
      | some (v,o)=>some (v,o P)
      | none=>none
     | _=>none
    | _=>none
   | _=>none
  | _=>none
 | _=>none
def AllP:List Prop→Prop
 | []=>True
 | p::r=>p∧AllP r
theorem AllP.app:∀ {l r:List Prop},AllP (l++r)→AllP l∧AllP r
 | [],_,h=>⟨trivial,h⟩
 | _::_,_,h=>⟨⟨h.1,(AllP.app h.2).1⟩,(AllP.app h.2).2⟩
section
variable {P:Program} {o:Oper} {a:Act} {N:Fs} {sl:List (Nat×Value)} {w0 w:World} {ls:List HP} {v:Value} {h:Nat} {ob:List Prop}
theorem St.tagRow (H:St w0 w ls) {i:Nat} {A:HP} (hi:ls[i]?=some A) {b off:Nat} {cs:List Value} (ht:A.tag=some (b,off,cs)):Row w b off cs:=by
 obtain ⟨_,B,f,hs,h1,_⟩:=H
 exact A.tok ht hs (h1 i A hi)
theorem qbin_ok (F:Fr N a sl) {k:IntKind} {m n:Int} {op:BinOp} {t t':TypeId} {x y:Operand} (ho:o.op=.binOp op t x y t') (hx:ev sl x=some (.int k m)) (hy:ev sl y=some (.int k n)) (hq:qbin k m n op=some v):(execOp a.eval o).run P w=.ok (.value v) w:=by
 cases op<;>simp only [qbin,Option.some.injEq,reduceCtorEq] at hq<;>subst hq
 case add=>exact i_add F ho hx hy
 case sub=>exact i_sub F ho hx hy
 case mul=>exact i_mul F ho hx hy
 case and=>exact i_and F ho hx hy
 case or=>exact i_or F ho hx hy
 case xor=>exact i_xor F ho hx hy
 case lss=>exact y_lss F ho hx hy
 case leq=>exact y_leq F ho hx hy
 case gtr=>exact y_gtr F ho hx hy
 case geq=>exact y_geq F ho hx hy
 case eql=>exact y_eql F ho hx hy
 case neq=>exact y_neq F ho hx hy
theorem qval_ok (F:Fr N a sl) (H:St w0 w ls) (hq:qval P ls sl h o.op=some (v,ob)) (hob:AllP ob):(execOp a.eval o).run P w=.ok (.value v) w:=by
 generalize ho:o.op=op at hq
 cases op<;>simp only [qval,reduceCtorEq] at hq
 case move x=>split at hq<;>cases hq;rename_i e;exact y_move F ho e
 case assign x=>split at hq<;>cases hq;rename_i e;exact y_assign F ho e
 case pick x y z =>
  split at hq
  ·rename_i b e
   cases b<;>(simp only at hq;split at hq<;>cases hq;rename_i e2)
   ·exact y_pickF F ho e e2
   ·exact y_pickT F ho e e2
  ·cases hq
 case nilCheck x =>
  split at hq
  ·rename_i p e
   cases p<;>cases hq
   exact y_nilCheck F ho e
  ·cases hq
 case unOp u t x =>
  split at hq
  ·rename_i b e
   cases u<;>cases hq
   exact y_not F ho e
  ·rename_i k m e
   cases u<;>cases hq
   ·exact i_neg F ho e
   ·exact i_not F ho e
  ·cases hq
 case binOp op t x y t' =>
  split at hq
  ·rename_i k m e
   split at hq
   ·rename_i k' n e2
    by_cases hk:k'=k
    ·subst hk
     simp only [decide_true] at hq
     split at hq<;>cases hq
     rename_i e3
     exact qbin_ok F ho e e2 e3
    ·simp [hk] at hq
   ·cases hq
  ·cases hq
 case extract x i =>
  split at hq
  ·rename_i vs e
   split at hq<;>cases hq
   rename_i e2
   rw [atL_eq] at e2
   obtain ⟨vs⟩:=vs
   exact y_extract F ho e e2
  ·cases hq
 case fieldAddr t x f =>
  split at hq
  ·rename_i b k sp e
   cases sp<;>cases hq
   exact y_fieldAddr F hob.1 ho e
  ·cases hq
 case load t x =>
  split at hq
  ·rename_i ad e
   split at hq
   ·rename_i A e2
    rw [atL_eq] at e2
    split at hq
    ·rename_i b off cs e3
     have hr:=H.tagRow e2 e3
     cases hb:Nat.beq (h % 1000) 999<;>rw [hb] at hq<;>simp only at hq
     ·split at hq<;>cases hq
      rename_i e4
      rw [atL_eq] at e4
      obtain ⟨h1,h2,_⟩:=hob
      subst h1
      exact y_load1 F h2 ho e (hr _ _ e4)
     ·cases hq
      obtain ⟨h1,⟨z,h2⟩,_⟩:=hob
      subst h1
      exact y_loadA F h2 ho e hr rfl
    ·cases hq
   ·cases hq
  ·cases hq
 case convert t t' x =>
  split at hq
  ·rename_i e
   obtain ⟨k',rfl,rfl⟩:=qconv_ok hq
   obtain ⟨h1,h2,_⟩:=hob
   exact i_conv F h1 h2 ho e
  ·cases hq
 case call c =>
  split at hq
  ·rename_i b e1
   cases b<;>simp only [reduceCtorEq] at hq
   split at hq
   ·rename_i x e2
    split at hq
    ·rename_i p n cap e3
     split at hq
     ·rename_i v' o' e4
      cases hq
      unfold qlen at e4
      split at e4
      ·rename_i t e5
       cases e4
       obtain ⟨⟨e,h1⟩,_⟩:=hob
       obtain ⟨cc,ca,ct⟩:=c
       obtain ⟨ca⟩:=ca
       obtain ⟨ct⟩:=ct
       simp only at e1 e2 e5
       subst e1 e2 e5
       exact y_lenS F ho h1 e3
      ·cases e4
     ·cases hq
    ·cases hq
   ·cases hq
  ·cases hq
def qwant (ops:List Oper) (sl:List (Nat×Value)):Option (Nat×Bool)→Option Bool
 | none=>some true
 | some (g,bb)=>match atL g ops with
  | some og=>match og.dst with
   | some s=>match lk s sl with
    | some (.bool c)=>match bb with
     | true=>some c
     | false=>some (!c)
    | some (.tuple vs)=>match vs.toList with
     | []=>some false
     | _::_=>none
    | _=>none
   | none=>none
  | none=>none
theorem qwant_ok {ops:List Oper} (F:Fr N a sl) {b:Bool} (h:qwant ops sl o.guard=some b):Region.wanted o (yielded ops.toArray a.tmps)=b:=by
 cases hg:o.guard with
 | none=>rw [hg] at h;cases h;exact want0 hg
 | some p =>
  obtain ⟨g,bb⟩:=p
  rw [hg] at h
  simp only [qwant] at h
  split at h
  ·rename_i og e
   rw [atL_eq] at e
   have hog:ops.toArray[g]?=some og:=by simpa using e
   split at h
   ·rename_i s e2
    split at h
    ·rename_i c e3
     cases bb<;>cases c<;>cases b<;>first | cases h | skip
     ·exact want_on F hg hog e2 e3
     ·exact want_off F hg hog e2 e3 rfl
     ·exact want_off F hg hog e2 e3 rfl
     ·exact want_on F hg hog e2 e3
    ·rename_i vs e3
     obtain ⟨vs⟩:=vs
     cases vs with
     | nil=>cases h;exact want_offU F hg hog e2 e3
     | cons _ _=>cases h
    ·cases h
   ·cases h
  ·cases h
def qrun (P:Program) (n:Nat) (ops:List Oper) (ls:List HP):List Nat→List (Nat×Value)→List Oper→Option (List (Nat×Value)×List Oper×List Prop)
 | [],sl,l=>some (sl,l,[])
 | _::_,_,[]=>none
 | h::hs,sl,o::l=>match o.dst with
  | none=>none
  | some d=>match Nat.blt d n with
   | false=>none
   | true=>match qwant ops sl o.guard with
    | none=>none
    | some true=>match qval P ls sl h o.op with
     | none=>none
     | some (v,ob)=>match qrun P n ops ls hs ((d,v)::sl) l with
      | some (sl',l',ob')=>some (sl',l',ob++ob')
      | none=>none
    | some false=>match qrun P n ops ls hs ((d,undef)::sl) l with
     | some (sl',l',ob')=>some (sl',l',ob')
     | none=>none
theorem qval_nd {op:Op} (h':qval P ls sl h op=some (v,ob)):notDefer op=true:=by
 cases op<;>first | rfl | (simp only [qval,reduceCtorEq] at h')
theorem bulk {ops:List Oper} {W:List Oper→Act→World→Prop} (k:Walk P ops.toArray W) (H:St w0 w ls):∀ {hs:List Nat} {sl sl':List (Nat×Value)} {l l':List Oper} {ob:List Prop} {a:Act},Fr N a sl→qrun P N.n ops ls hs sl l=some (sl',l',ob)→AllP ob→(∀ a',Fr N a' sl'→W l' a' w)→W l a w
 | [],sl,sl',l,l',ob,a,F,h,_,kk=>by cases h;exact kk a F
 | _::_,_,_,[],_,_,_,_,h,_,_=>by cases h
 | h0::hs,sl,sl',o::l,l',ob,a,F,h,hob,kk=>by
  simp only [qrun] at h
  split at h
  ·cases h
  ·rename_i d hd
   split at h
   ·cases h
   ·rename_i hN
    split at h
    ·cases h
    ·rename_i hw
     split at h
     ·cases h
     ·rename_i v ob1 hv
      split at h
      ·rename_i s2 l2 ob2 hr
       cases h
       obtain ⟨q1,q2⟩:=hob.app
       exact k.val (qwant_ok F hw) (qval_nd hv) (qval_ok F H hv q1) (by rw [hd];exact bulk k H (F.put hN v) hr q2 kk)
      ·cases h
    ·rename_i hw
     split at h
     ·rename_i s2 l2 ob2 hr
      cases h
      exact k.off (qwant_ok F hw) (by rw [hd];exact bulk k H (F.put hN _) hr hob kk)
     ·cases h
end
section
variable {P:Program} {a:Act} {N:Fs} {sl sl':List (Nat×Value)} {w0 w:World} {ls:List HP} {ob:List Prop} {Q:Exit→Act→World→Prop} {ops l l':List Oper} {ro:Option Nat}
theorem bk (hs:List Nat) (F:Fr N a sl) (H:St w0 w ls) (h:qrun P N.n ops ls hs sl l=some (sl',l',ob)) (hob:AllP ob) (k:∀ a',Fr N a' sl'→wpList P ops.toArray Q l' a' w):wpList P ops.toArray Q l a w:=bulk wkP H F h hob k
theorem bki (hs:List Nat) (F:Fr N a sl) (H:St w0 w ls) (h:qrun P N.n ops ls hs sl l=some (sl',l',ob)) (hob:AllP ob) (k:∀ a',Fr N a' sl'→wpListIn (FN ro) 0 P ops.toArray Q l' a' w):wpListIn (FN ro) 0 P ops.toArray Q l a w:=bulk wkI H F h hob k
theorem wpQuiet_val {P:Program} {ops:Array Oper} {rest:List Oper} {o:Oper} {a:Act} {Q:Act→Prop} {C:World→Prop} {v:Value} (hw:Region.wanted o (yielded ops a.tmps)=true) (hr:∀ w,C w→(execOp a.eval o).run P w=.ok (.value v) w) (hk:wpQuiet P ops C Q rest (a.put o.dst v)):wpQuiet P ops C Q (o::rest) a:=by
 unfold wpQuiet
 rw [if_pos hw]
 refine ⟨v,fun w hw=>?_,hk⟩
 unfold Oper.quietAt
 rw [hr w hw]
 exact ⟨rfl,rfl⟩
theorem wpQuiet_off {P:Program} {ops:Array Oper} {rest:List Oper} {o:Oper} {a:Act} {Q:Act→Prop} {C:World→Prop} (hw:Region.wanted o (yielded ops a.tmps)=false) (hk:wpQuiet P ops C Q rest (a.put o.dst undef)):wpQuiet P ops C Q (o::rest) a:=by
 unfold wpQuiet
 rw [if_neg (by rw [hw];simp)]
 exact hk
theorem qbulk {C:World→Prop} {Q:Act→Prop} (hC:∀ w,C w→∃ w0,St w0 w ls):∀ {hs:List Nat} {sl sl':List (Nat×Value)} {l l':List Oper} {ob:List Prop} {a:Act},Fr N a sl→qrun P N.n ops ls hs sl l=some (sl',l',ob)→AllP ob→(∀ a',Fr N a' sl'→wpQuiet P ops.toArray C Q l' a')→wpQuiet P ops.toArray C Q l a
 | [],sl,sl',l,l',ob,a,F,h,_,kk=>by cases h;exact kk a F
 | _::_,_,_,[],_,_,_,_,h,_,_=>by cases h
 | h0::hs,sl,sl',o::l,l',ob,a,F,h,hob,kk=>by
  simp only [qrun] at h
  split at h
  ·cases h
  ·rename_i d hd
   split at h
   ·cases h
   ·rename_i hN
    split at h
    ·cases h
    ·rename_i hw
     split at h
     ·cases h
     ·rename_i v ob1 hv
      split at h
      ·rename_i s2 l2 ob2 hr
       cases h
       obtain ⟨q1,q2⟩:=hob.app
       exact wpQuiet_val (qwant_ok F hw) (fun w hw=>by obtain ⟨w0,H⟩:=hC w hw;exact qval_ok F H hv q1) (by rw [hd];exact qbulk hC (F.put hN v) hr q2 kk)
      ·cases h
    ·rename_i hw
     split at h
     ·rename_i s2 l2 ob2 hr
      cases h
      exact wpQuiet_off (qwant_ok F hw) (by rw [hd];exact qbulk hC (F.put hN _) hr hob kk)
     ·cases h
theorem qbk {Q:Act→Prop} (hs:List Nat) (F:Fr N a sl) (h:qrun P N.n ops ls hs sl l=some (sl',l',ob)) (hob:AllP ob) (k:∀ a',Fr N a' sl'→wpQuiet P ops.toArray (fun u=>St w0 u ls) Q l' a'):wpQuiet P ops.toArray (fun u=>St w0 u ls) Q l a:=qbulk (fun _ h=>⟨_,h⟩) F h hob k
theorem qr {id:Nat} {Q:Exit→Act→World→Prop} (H:St w0 w ls) (hm:P.follows .mixedOrders=true) (hB:Region.lexB .any l.toArray=true) (h:wpQuiet P l.toArray (fun u=>St w0 u ls) (fun a'=>∀ w',St w0 w' ls→Q .normal a' w') l a):(Code.region id l.toArray true).wp P Q a w:=q_region _ hm hB H.drew h
def mrun (P:Program) (n:Nat) (ops:List Oper) (ls:List HP):List Nat→List (Nat×Value)→Sc→Option (List (Nat×Value)×Sc×List Prop)
 | [],sl,s=>some (sl,s,[])
 | _::_,_,.done=>none
 | _::_,_,.fork _ _ _ _=>none
 | _::_,_,.fork3 _ _ _ _ _ _=>none
 | h::hs,sl,.step k i r=>match atL i ops with
  | none=>none
  | some o=>match o.dst with
   | none=>none
   | some d=>match Nat.blt d n with
    | false=>none
    | true=>match qwant ops sl o.guard with
     | none=>none
     | some true=>match Nat.ble k 1 with
      | false=>none
      | true=>match qval P (match k with | 0=>[] | _=>ls) sl h o.op with
       | none=>none
       | some (v,ob)=>match mrun P n ops ls hs ((d,v)::sl) r with
        | some (sl',l',ob')=>some (sl',l',ob++ob')
        | none=>none
     | some false=>match mrun P n ops ls hs ((d,undef)::sl) r with
      | some (sl',l',ob')=>some (sl',l',ob')
      | none=>none
theorem mbulk {C:World→Prop} {K:Act→World→Prop} (H:St w0 w ls):∀ {hs:List Nat} {sl sl':List (Nat×Value)} {s s':Sc} {ob:List Prop} {a:Act},Fr N a sl→mrun P N.n ops ls hs sl s=some (sl',s',ob)→AllP ob→(∀ a',Fr N a' sl'→wpMix P ops.toArray C K s' a' w)→wpMix P ops.toArray C K s a w
 | [],sl,sl',s,s',ob,a,F,h,_,kk=>by cases h;exact kk a F
 | _::_,_,_,.done,_,_,_,_,h,_,_=>by cases h
 | _::_,_,_,.fork _ _ _ _,_,_,_,_,h,_,_=>by cases h
 | _::_,_,_,.fork3 _ _ _ _ _ _,_,_,_,_,h,_,_=>by cases h
 | h0::hs,sl,sl',.step k i r,s',ob,a,F,h,hob,kk=>by
  simp only [mrun] at h
  split at h
  ·cases h
  ·rename_i o ho
   rw [atL_eq] at ho
   have ho':ops.toArray[i]?=some o:=by simpa using ho
   split at h
   ·cases h
   ·rename_i d hd
    split at h
    ·cases h
    ·rename_i hN
     split at h
     ·cases h
     ·rename_i hw
      split at h
      ·cases h
      ·rename_i hk1
       split at h
       ·cases h
       ·rename_i v ob1 hv
        split at h
        ·rename_i s2 l2 ob2 hr
         cases h
         obtain ⟨q1,q2⟩:=hob.app
         have hw':=qwant_ok F hw
         refine ⟨o,ho',fun _=>?_,fun e=>by rw [hw'] at e;cases e⟩
         have hk2:k=0∨k=1:=by have:=Nat.le_of_ble_eq_true hk1;omega
         rcases hk2 with rfl | rfl
         ·exact ⟨v,fun u _=>qval_ok F (St.start u) hv q1,by rw [hd];exact mbulk H (F.put hN v) hr q2 kk⟩
         ·exact ⟨v,qval_ok F H hv q1,by rw [hd];exact mbulk H (F.put hN v) hr q2 kk⟩
        ·cases h
     ·rename_i hw
      split at h
      ·rename_i s2 l2 ob2 hr
       cases h
       have hw':=qwant_ok F hw
       exact ⟨o,ho',(fun e=>by rw [hw'] at e;cases e),fun _=>by rw [hd];exact mbulk H (F.put hN _) hr hob kk⟩
      ·cases h
theorem mbk {C:World→Prop} {K:Act→World→Prop} {s s':Sc} (hs:List Nat) (F:Fr N a sl) (H:St w0 w ls) (h:mrun P N.n ops ls hs sl s=some (sl',s',ob)) (hob:AllP ob) (k:∀ a',Fr N a' sl'→wpMix P ops.toArray C K s' a' w):wpMix P ops.toArray C K s a w:=mbulk H F h hob k
def setL {α:Type}:Nat→List α→α→Option (List α)
 | _,[],_=>none
 | 0,_::r,v=>some (v::r)
 | n+1,a::r,v=>match setL n r v with
  | some r'=>some (a::r')
  | none=>none
theorem setL_eq {α:Type}:∀ {n:Nat} {l l':List α} {v:α},setL n l v=some l'→l.set n v=l'∧n<l.length
 | _,[],_,_,h=>by cases ‹Nat›<;>cases h
 | 0,_::r,_,_,h=>by cases h;exact ⟨rfl,by simp⟩
 | n+1,a::r,l',v,h=>by
  simp only [setL] at h
  split at h
  ·rename_i r' e
   cases h
   obtain ⟨h1,h2⟩:=setL_eq e
   exact ⟨by simp [h1],by simpa using h2⟩
  ·cases h
section
variable {rest:List Oper} {o:Oper} {W:List Oper→Act→World→Prop} {l:List (Nat×Value)} {x y:Operand} {t u:TypeId} {ops:Array Oper} {v:Value}
theorem s_st1 (k:Walk P ops W) (F:Fr N a l) (hg:o.guard=none) (hd:o.dst=none) {z1:Value} (hz:Zero1 P t z1) (ho:o.op=.store t x y) {b off:Nat} (hx:ev l x=some (.pointer (some ⟨b,off,none⟩))) {old old':List Value} (hy:ev l y=some v) (hv:v.cells=#[v]) (h1:v.oneCell'=true)
  (H:St w0 w ls) (i:Nat) (hi:ls[i]?=some (HP.blk b old u)) (hs:setL off old v=some old') (hk:∀ w',St w0 w' (ls.set i (HP.blk b old' u))→W rest a w'):W (o::rest) a w :=
 s_store1 k F hg hd hz ho hx hy hv h1 H i hi (setL_eq hs).2 fun w' H'=>hk w' ((setL_eq hs).1▸H')
theorem s_stI (k:Walk P ops W) (F:Fr N a l) (hg:o.guard=none) (hd:o.dst=none) {z1:Value} (hz:Zero1 P t z1) (ho:o.op=.store t x y) {b:Nat} {kd:IntKind} {i n q:Int} {xs:List Int} (hx:ev l x=some (.pointer (some ⟨b,0+i.toNat * 1,none⟩))) (hy:ev l y=some (.int kd n))
  (H:St w0 w ls) (j:Nat) (hj:ls[j]?=some (HP.blk b (icells kd xs) u)) (hq:idxO xs i=some q) (hk:∀ w',St w0 w' (ls.set j (HP.blk b (icells kd (xs.set i.toNat n)) u))→W rest a w'):W (o::rest) a w :=
 s_store1 k F hg hd hz ho hx hy rfl rfl H j hj (by have:=(List.getElem?_eq_some_iff.1 (idxO_some hq).2).1;simp [icells_length];omega) fun w' H'=>hk w' (by rw [icells_setI] at H';exact H')
theorem s_stB (k:Walk P ops W) (F:Fr N a l) (hg:o.guard=none) (hd:o.dst=none) {z1:Value} (hz:Zero1 P t z1) (ho:o.op=.store t x y) {b:Nat} {i n:Int} {q c:UInt8} {xs:List UInt8} (hx:ev l x=some (.pointer (some ⟨b,0+i.toNat * 1,none⟩))) (hy:ev l y=some (.int .u8 n)) (hc:u8O n=some c)
  (H:St w0 w ls) (j:Nat) (hj:ls[j]?=some (HP.blk b (bcells xs) u)) (hq:idxO xs i=some q) (hk:∀ w',St w0 w' (ls.set j (HP.blk b (bcells (xs.set i.toNat c)) u))→W rest a w'):W (o::rest) a w :=
 s_store1 k F hg hd hz ho hx hy rfl rfl H j hj (by have:=(List.getElem?_eq_some_iff.1 (idxO_some hq).2).1;simp [bcells_length];omega) fun w' H'=>hk w' (by rw [bcells_setI hc] at H';exact H')
end
theorem St.slSubN {α:Type} {R:Rp α} {p:Option Addr} {cap:Nat} {xs:List α} {l:List HP} (H:St w0 w l) (m:Nat) (hm:R.n=m) (n:Nat) (hn:l[n]?=some (HP.sl R p cap xs)) {i j:Int} {zs:List α} (hz:slcO xs i j=some zs):St w0 w (HP.sl R (shp p cap i.toNat m) (cap - i.toNat) zs::l):=hm▸H.slSub n hn hz
theorem sr {y:Code} {id:Nat} (h:wpList P l.toArray (Exit.then (fun a w=>y.wp P Q a w) Q) l a w):(Code.seq (.region id l.toArray false) y).wp P Q a w:=wp_seq (r_lit h)
theorem nl {K:Act→World→Prop} {ops:Array Oper} (h:K a w):wpList P ops (Exit.then K Q) [] a w:=wpList_nil (c_then h)
end
section
variable {α:Type} {R:Rp α} {P:Program} {o:Oper} {a:Act} {w0 w:World} {N:Fs} {sl:List (Nat×Value)} {x y:Operand} {t e:TypeId} {l:List HP} {p:Option Addr} {cap:Nat} {xs:List α} {size bytes:Nat} {z0:Value} {k k' k'':IntKind}
theorem y_slLHM (F:Fr N a sl) (hE:ElemT P t e size bytes z0) {lo hi mx:Operand} (ho:o.op=.slice t x (some lo) (some hi) (some mx)) {i j:Int} {zs:List α} (hx:ev sl x=some (.slice p xs.length cap)) (hl:ev sl lo=some (.int k i)) (hh:ev sl hi=some (.int k' j)) (hm:ev sl mx=some (.int k'' j)) (hz:slcO xs i j=some zs) (hc:xs.length≤cap) :
  (execOp a.eval o).run P w=.ok (.value (.slice (shp p j.toNat i.toNat size) zs.length (j.toNat - i.toNat))) w:=by
 obtain ⟨h1,_,h2⟩:=slcO_some hz
 have hb:(Instr.sliceBounds true xs.length cap (some (.int k i)) (some (.int k' j)) (some (.int k'' j))).run P w=.ok (i.toNat,j.toNat,j.toNat) w:=by
  unfold Instr.sliceBounds
  simp [bound_okI (show 0≤j by omega) (show j≤cap by omega),bound_okI (show 0≤j by omega) (show j≤((j.toNat:Nat):Int) by omega),bound_okI (show 0≤i by omega) (show i≤((j.toNat:Nat):Int) by omega)]
 have hr:(Instr.sliceAt t (.slice p xs.length cap) (some (.int k i)) (some (.int k' j)) (some (.int k'' j))).run P w=.ok (.slice (shp p j.toNat i.toNat size) (j.toNat - i.toNat) (j.toNat - i.toNat)) w:=by
  unfold Instr.sliceAt
  rw [Sem.run_bind,Go.run_underlying hE.ht]
  simp only [Result.andThen_ok]
  unfold Instr.slice
  rw [Sem.run_bind,Go.run_underlying hE.ht]
  simp only [Result.andThen_ok]
  rw [Sem.run_bind,hb]
  simp only [Result.andThen_ok]
  rw [Sem.run_bind,hE.run_size]
  simp [shp]
 unfold execOp
 rw [h2]
 simp [ho,F.eval hx,F.eval hl,F.eval hh,F.eval hm,hr]
theorem St.slNar (H:St w0 w l) (n:Nat) (hn:l[n]?=some (HP.sl R p cap xs)) {j:Nat} (hj:j≤xs.length):St w0 w (HP.sl R p j (xs.take j)::l):=by
 obtain ⟨B,H⟩:=H.out
 obtain ⟨S,css,c1,c2⟩:=H.at hn
 refine (H.more (A:=HP.sl R _ _ _) ⟨css.take j,c1.take _,fun w hw=>?_⟩).st
 have h:=(c2 w hw).sub (v:=.nilFunc) (i:=0) (j:=j) (size:=R.n) (by omega) hj c1.flen
 rw [flat_take _ c1,List.length_take,Nat.min_eq_left hj]
 rcases c2 w hw with ⟨h1,h2,h3⟩ | ⟨ad,c,h1,h2,h3⟩ | ⟨b,off,c,h1,h2,h3⟩
 ·obtain ⟨rfl,_,rfl⟩:=Value.slice.inj h1
  obtain rfl:j=0:=by omega
  exact .inl ⟨rfl,rfl,by simp⟩
 ·obtain ⟨rfl,_,_⟩:=Value.slice.inj h1
  obtain rfl:j=0:=by omega
  exact .inr (.inl ⟨ad,0,rfl,rfl,by simp⟩)
 ·obtain ⟨rfl,_,_⟩:=Value.slice.inj h1
  refine .inr (.inr ⟨b,off,j,rfl,Nat.le_refl _,?_⟩)
  have:=h3.sub 0 (j * R.n)
  simpa using this
theorem St.slSubM (H:St w0 w l) (m:Nat) (hm:R.n=m) (n:Nat) (hn:l[n]?=some (HP.sl R p cap xs)) {i j:Int} {zs:List α} (hz:slcO xs i j=some zs):St w0 w (HP.sl R (shp p j.toNat i.toNat m) (j.toNat - i.toNat) zs::l):=by
 obtain ⟨h1,h2,h3⟩:=slcO_some hz
 have hj:j.toNat≤xs.length:=by omega
 have H1:=H.slNar n hn hj
 have hz':slcO (xs.take j.toNat) i j=some zs:=by
  unfold slcO
  rw [if_pos (by rw [List.length_take,Nat.min_eq_left hj];omega),h2,List.take_take,Nat.min_self]
 have H2:=H1.slSubN m hm 0 rfl hz'
 exact H2.dp 1 rfl
end
def chunkN (n:Int) (len:Nat):Option Nat:=if 0<n∧n≤9223372036854775807∧len≤1152921504606846976 then some n.toNat else none
theorem chunkN_some {n:Int} {len m:Nat} (h:chunkN n len=some m):n=((m:Nat):Int)∧0<m∧m≤9223372036854775807∧len≤1152921504606846976:=by
 unfold chunkN at h
 split at h
 ·cases h;omega
 ·cases h
def chunkC (n len:Nat):Nat:=(len+n - 1) / n
def chunkZ {γ:Type} (n:Nat) (xs:List γ):List (Nat×List γ):=(List.range (chunkC n xs.length)).map fun k=>(k * n,(xs.drop (k * n)).take n)
def chunkL {γ:Type} (n:Nat) (xs:List γ):List (List γ):=(chunkZ n xs).map (·.2)
theorem chunkC_lt {n len k:Nat} (hn:0<n):k<chunkC n len↔k * n<len:=by
 unfold chunkC
 rw [Nat.lt_div_iff_mul_lt hn]
 constructor<;>intro h<;>omega
theorem chunkZ_at {γ:Type} {n:Nat} {xs:List γ} (hn:0<n) {k:Nat} (hk:k * n<xs.length):(chunkZ n xs)[k]?=some (k * n,(xs.drop (k * n)).take n):=by
 unfold chunkZ
 rw [List.getElem?_map,List.getElem?_range ((chunkC_lt hn).2 hk)];rfl
theorem chunkZ_all {γ:Type} {n:Nat} {xs:List γ} (hn:0<n) {k:Nat} (hk:¬ k * n<xs.length):(chunkZ n xs).take k=chunkZ n xs:=by
 refine List.take_of_length_le ?_
 unfold chunkZ
 rw [List.length_map,List.length_range]
 have:=(not_congr (chunkC_lt (n:=n) (len:=xs.length) (k:=k) hn)).2 hk
 omega
theorem chunkZ_mem {γ:Type} {n:Nat} {xs:List γ} (hn:0<n) {i:Nat} {y:List γ} (h:(i,y)∈chunkZ n xs):i<xs.length∧y=(xs.drop i).take n:=by
 unfold chunkZ at h
 obtain ⟨k,hk,e⟩:=List.mem_map.1 h
 rw [List.mem_range,chunkC_lt hn] at hk
 simp only [Prod.mk.injEq] at e
 obtain ⟨rfl,rfl⟩:=e
 exact ⟨hk,rfl⟩
theorem chunk_slc {γ:Type} {n i:Nat} {xs y:List γ} (hi:i<xs.length) (hy:y=(xs.drop i).take n):slcO xs ((i:Nat):Int) (((i+y.length:Nat)):Int)=some y:=by
 have hl:y.length=min n (xs.length - i):=by rw [hy];simp
 unfold slcO
 rw [if_pos (by omega),Int.toNat_natCast,Int.toNat_natCast,List.drop_take,hy]
 have:(List.take n (List.drop i xs)).length=min n (xs.length - i):=by simp
 congr 1
 rw [this,show i+min n (xs.length - i) - i=min n (xs.length - i) by omega]
 by_cases h:n≤xs.length - i
 ·rw [Nat.min_eq_left h]
 ·rw [Nat.min_eq_right (by omega),List.take_of_length_le (by simp),List.take_of_length_le (by simp;omega)]
theorem St.chunkEl {α:Type} {R:Rp α} {w0 w:World} {l:List HP} {p:Option Addr} {cap:Nat} {xs:List α} (H:St w0 w l) (m:Nat) (hm:R.n=m) (j:Nat) (hj:l[j]?=some (HP.sl R p cap xs)) {n:Nat} (hn:0<n) {i:Nat} {y:List α} (h:(i,y)∈chunkZ n xs):St w0 w (HP.sl R (shp p (i+y.length) i m) y.length y::l):=by
 obtain ⟨h1,h2⟩:=chunkZ_mem hn h
 have:=H.slSubM m hm j hj (chunk_slc h1 h2)
 rw [Int.toNat_natCast,Int.toNat_natCast,Nat.add_sub_cancel_left] at this
 exact this
structure KeyS (P:Program) (K:TypeId) {κ:Type} (cells:κ→List Value) (lits:κ→List Lit) (ok:κ→Prop):Prop where
 key:P.keyTypeAt 3 K=true
 wide:∃ fs,P.underlying K=some (.struct fs)
 form:∀ k,ok k→(Value.agg (cells k).toArray).formed P K=true
 lit:∀ k,ok k→P.keyLits 3 K (cells k)=some (lits k)
 inj:∀ k k',lits k=lits k'→k=k'
 int:∀ k,∀ c∈cells k,∃ q n,c=Value.int q n
def i64Ok (n:Int):Prop:=-9223372036854775808≤n∧n≤9223372036854775807
instance (n:Int):Decidable (i64Ok n):=by unfold i64Ok;exact inferInstance
theorem qri {P:Program} {ro:Option Nat} {id:Nat} {Q:Exit→Act→World→Prop} {a:Act} {w0 w:World} {ls:List HP} {l:List Oper} (H:St w0 w ls) (hm:P.follows .mixedOrders=true) (hB:(l.all (fun o=>notDefer o.op)&&Region.lexB .any l.toArray)=true)
  (h:wpQuiet P l.toArray (fun u=>St w0 u ls) (fun a'=>∀ w',St w0 w' ls→Q .normal a' w') l a):(Code.region id l.toArray true).wpIn (FN ro) 0 P Q a w:=by
 simp only [Bool.and_eq_true] at hB
 obtain ⟨h0,hB⟩:=hB
 have hnd:∀ (i:Nat) (o:Oper),l.toArray[i]?=some o→notDefer o.op=true:=by
  intro i o ho
  refine List.all_eq_true.1 h0 o ?_
  simp at ho
  exact List.mem_of_getElem? ho
 refine Go.wpIn_mono (Q:=fun e a w=>match e with | .normal=>Q .normal a w | _=>False) (wpIn_region_any hm ?_) fun e a w h=>by cases e<;>first | exact h | exact h.elim
 simp only [Region.lexB,Bool.and_eq_true] at hB
 have h2:=wpAnyQ_lex (C:=fun u=>St w0 u ls) (md:=.any) hB.1 l.toArray.toList 0 (Array.replicate l.toArray.size false) a (by simp) (by simpa using hB.2) (by simpa using h)
 have:=wpAny_of_quiet (Q:=fun a'=>∀ w',St w0 w' ls→Q .normal a' w') (Q':=fun e a w=>match e with | .normal=>Q .normal a w | _=>False) (fun _ w' hw' h=>h w' hw') _ _ _ _ H.drew (by simpa using h2)
 exact any_in ro (fun _ _ h=>h) hnd _ _ _ _ this
theorem St.slBy {w0 w:World} {ls:List HP} {p:Option Addr} {c:Nat} {xs:List UInt8} (H:St w0 w ls) (i:Nat) (hi:ls[i]?=some (HP.sl rByte p c xs)):Sl w (.slice p xs.length c) xs.length (bcells xs):=by
 obtain ⟨B,S,hs,⟨css,h1,h2⟩,_⟩:=H.get i hi
 have:=h2 w hs
 rwa [rdl_bytes_flat h1] at this
section
variable {w0 w:World} {ls:List HP}
theorem St.blkFrz (H:St w0 w ls) (i:Nat) {b:Nat} {cs:List Value} {t:TypeId} (hi:ls[i]?=some (HP.blk b cs t)):St w0 w (HP.row b 0 cs::ls.eraseIdx i) :=
 (H.mv i hi).freezeH fun {B B'} S h hle hw w' hw'=>by
  have h':=HP.loc _ h (w':=w') (fun b hb=>hw w' hw' b hb)
  exact h'.1.row
theorem St.rowSl (H:St w0 w ls) (i:Nat) {b off:Nat} {cs:List Value} (hi:ls[i]?=some (HP.row b off cs)) {pre post:List Value} {xs:List UInt8} {k n:Nat} (hcs:cs=pre++(bcells xs++post)) (hk:pre.length=k) (hn:xs.length=n) (h0:0<n):St w0 w (HP.sl rByte (shp (some ⟨b,off+k,none⟩) n 0 1) (n - 0) xs::ls) :=
 H.more fun B _ g=>by
  obtain ⟨S,h⟩:=g i _ hi
  refine ⟨_,rdl_bytes B xs,fun w hw=>?_⟩
  rw [flat_bytes]
  refine .inr (.inr ⟨b,off+k,n - 0,?_,by omega,?_⟩)
  ·unfold shp;rw [if_neg (by omega)];simp [add_none]
  ·have h1:Row w b off cs:=h w hw
   have:=h1.sub k n
   rw [hcs,← hk,List.drop_left,List.take_left' (by rw [bcells_length];exact hn)] at this
   rw [← hk];exact this
end
section
variable {P:Program} {o:Oper} {a:Act} {w:World} {N:Fs} {l:List (Nat×Value)} {x y z:Operand} {t:TypeId}
theorem y_field1 (F:Fr N a l) {f:Nat} {fs:Array Field} {fd:Field} (hu:P.underlying t=some (.struct fs)) (hf:fs[f]?=some fd) (hP:Plain P fd.type) (ho:o.op=.field t x f) {cs:List Value} (hx:ev l x=some (.agg cs.toArray)) {v:Value} (hc:cs[fd.offset]?=some v):(execOp a.eval o).run P w=.ok (.value v) w:=by
 have:(Instr.field t (.agg cs.toArray) f).run P w=.ok v w:=by
  unfold Instr.field
  rw [Sem.run_bind,Go.run_underlying hu]
  simp only [Result.andThen_ok,hf]
  simp [asAgg,Sem.run_bind,part,hP.run_isAgg,hc]
 unfold execOp
 simp [ho,F.eval hx,this]
end
theorem OwnR.mono:∀ {l:List HP} {B:Base} {w:World} {S S':Nat→Prop},OwnR l B w S→(∀ b,S b→S' b)→OwnR l B w S'
 | [],_,_,_,_,_,_=>trivial
 | _::_,_,_,_,_,⟨S1,S2,h1,h2,h3,h4,h5⟩,hs=>⟨S1,S2,h1,h2,h3,fun b hb=>hs b (h4 b hb),fun b hb=>hs b (h5 b hb)⟩
theorem OwnR.loc:∀ {l:List HP} {B:Base} {w w':World} {S:Nat→Prop},OwnR l B w S→(∀ b,S b→w'.heap[b]?=w.heap[b]?)→OwnR l B w' S
 | [],_,_,_,_,_,_=>trivial
 | A::_,_,_,_,_,⟨S1,S2,h1,h2,h3,h4,h5⟩,hs=>⟨S1,S2,A.loc h1 fun b hb=>hs b (h4 b hb),OwnR.loc h2 fun b hb=>hs b (h5 b hb),h3,h4,h5⟩
theorem OwnR.base:∀ {l:List HP} {B B':Base} {w:World} {S:Nat→Prop},OwnR l B w S→B.le B'→OwnR l B' w S
 | [],_,_,_,_,_,_=>trivial
 | A::_,_,_,_,_,⟨S1,S2,h1,h2,h3,h4,h5⟩,hs=>⟨S1,S2,A.mono h1 hs,OwnR.base h2 hs,h3,h4,h5⟩
theorem OwnR.app:∀ {m l:List HP} {B:Base} {w:World} {S S1 S2:Nat→Prop},OwnR m B w S1→OwnR l B w S2→(∀ b,S1 b→S2 b→False)→(∀ b,S1 b→S b)→(∀ b,S2 b→S b)→OwnR (m++l) B w S
 | [],_,_,_,_,_,_,_,h2,_,_,h5=>h2.mono h5
 | _::_,_,_,_,_,_,S2,⟨T1,T2,k1,k2,k3,k4,k5⟩,h2,h3,h4,h5=>⟨T1,fun b=>T2 b∨S2 b,k1,OwnR.app k2 h2 (fun b x y=>h3 b (k5 b x) y) (fun _ x=>.inl x) (fun _ x=>.inr x),fun b x y=>y.elim (k3 b x) (h3 b (k4 b x)),fun b x=>h4 b (k4 b x),fun b x=>x.elim (fun y=>h4 b (k5 b y)) (h5 b)⟩
theorem OwnR.unapp:∀ {m l:List HP} {B:Base} {w:World} {S:Nat→Prop},OwnR (m++l) B w S→∃ S1 S2:Nat→Prop,OwnR m B w S1∧OwnR l B w S2∧(∀ b,S1 b→S2 b→False)∧(∀ b,S1 b→S b)∧(∀ b,S2 b→S b)
 | [],_,_,_,S,h=>⟨fun _=>False,S,trivial,h,fun _ x=>x.elim,fun _ x=>x.elim,fun _ x=>x⟩
 | _::m,_,_,_,_,⟨T1,T2,k1,k2,k3,k4,k5⟩=>by
  obtain ⟨S1,S2,j1,j2,j3,j4,j5⟩:=OwnR.unapp (m:=m) k2
  exact ⟨fun b=>T1 b∨S1 b,S2,⟨T1,S1,k1,j1,fun b x y=>k3 b x (j4 b y),fun _ x=>.inl x,fun _ x=>.inr x⟩,j2,fun b x y=>x.elim (fun z=>k3 b z (j5 b y)) (fun z=>j3 b z y),fun b x=>x.elim (k4 b) fun z=>k5 b (j4 b z),fun b x=>k5 b (j5 b x)⟩
def HP.ex {ι:Type} (f:ι→List HP):HP :=
 HP.of (fun B w S=>∃ i,OwnR (f i) B w S) (fun ⟨i,h⟩ hs=>⟨i,h.loc hs⟩) (fun ⟨i,h⟩ hl=>⟨i,h.base hl⟩)
section
variable {w0 w:World} {l:List HP}
theorem St.ownR (H:St w0 w l):(w.os=w0.os∧w.tape=w0.tape∧w.output=w0.output∧w0.heap.size≤w.heap.size)∧∃ B,Sub B w∧OwnR l B w (fun b=>b<w.heap.size∧B b=none∧w0.heap.size≤b):=by
 obtain ⟨hv,B,f,hs,h1,h2,h3⟩:=H
 exact ⟨hv,B,hs,OwnR.of ⟨f,h1,h2,h3⟩⟩
theorem St.ofOwnR {B:Base} (hv:w.os=w0.os∧w.tape=w0.tape∧w.output=w0.output∧w0.heap.size≤w.heap.size) (hs:Sub B w) (h:OwnR l B w (fun b=>b<w.heap.size∧B b=none∧w0.heap.size≤b)):St w0 w l:=by
 obtain ⟨f,h1,h2,h3⟩:=OwnR.to h
 exact ⟨hv,B,f,hs,h1,h2,h3⟩
theorem St.exOpen {ι:Type} {f:ι→List HP} (H:St w0 w (HP.ex f::l)):∃ i,St w0 w (f i++l):=by
 obtain ⟨hv,B,hs,S1,S2,⟨i,h1⟩,h2,h3,h4,h5⟩:=H.ownR
 exact ⟨i,St.ofOwnR hv hs (h1.app h2 h3 h4 h5)⟩
theorem St.exShut {ι:Type} {f:ι→List HP} (i:ι) (H:St w0 w (f i++l)):St w0 w (HP.ex f::l):=by
 obtain ⟨hv,B,hs,h⟩:=H.ownR
 obtain ⟨S1,S2,h1,h2,h3,h4,h5⟩:=h.unapp
 exact St.ofOwnR hv hs ⟨S1,S2,⟨i,h1⟩,h2,h3,h4,h5⟩
def pkL {α:Type}:Nat→List α→Option (α×List α)
 | _,[]=>none
 | 0,a::r=>some (a,r)
 | n+1,a::r=>match pkL n r with
  | some (x,r')=>some (x,a::r')
  | none=>none
theorem pkL_eq {α:Type}:∀ {n:Nat} {l r:List α} {a:α},pkL n l=some (a,r)→l[n]?=some a∧l.eraseIdx n=r
 | _,[],_,_,h=>by cases ‹Nat›<;>cases h
 | 0,_::_,_,_,h=>by cases h;exact ⟨rfl,rfl⟩
 | n+1,b::r,r2,a,h=>by
  simp only [pkL] at h
  split at h
  ·rename_i x r' e
   cases h
   obtain ⟨h1,h2⟩:=pkL_eq e
   exact ⟨by simpa using h1,by simp [h2]⟩
  ·cases h
theorem St.pk (H:St w0 w l) (n:Nat) {A:HP} {r:List HP} (h:pkL n l=some (A,r)):St w0 w (A::r):=by
 obtain ⟨h1,h2⟩:=pkL_eq h
 rw [← h2];exact H.mv n h1
def spL {α:Type}:Nat→List α→Option (List α×List α)
 | 0,l=>some ([],l)
 | _+1,[]=>none
 | n+1,a::r=>match spL n r with
  | some (f,t)=>some (a::f,t)
  | none=>none
theorem spL_eq {α:Type}:∀ {n:Nat} {l f t:List α},spL n l=some (f,t)→l=f++t∧f.length=n
 | 0,l,f,t,h=>by cases h;exact ⟨rfl,rfl⟩
 | n+1,[],_,_,h=>by cases h
 | n+1,a::r,f,t,h=>by
  simp only [spL] at h
  split at h
  ·rename_i f' t' e
   cases h
   obtain ⟨h1,h2⟩:=spL_eq e
   exact ⟨by rw [h1];rfl,by simp [h2]⟩
  ·cases h
def memN:Nat→List Nat→Bool
 | _,[]=>false
 | i,j::r=>match Nat.beq i j with
  | true=>true
  | false=>memN i r
theorem memN_eq (i:Nat):∀ l:List Nat,memN i l=true↔i∈l
 | []=>by simp [memN]
 | j::r=>by
  simp only [memN]
  cases h:Nat.beq i j
  ·have:i≠j:=Nat.ne_of_beq_eq_false h
   simp [this,memN_eq i r]
  ·have:=Nat.eq_of_beq_eq_true h
   simp [this]
def pmG (front tail:List HP):List Nat→Option (List HP)
 | []=>some tail
 | i::r=>match atL i front with
  | some A=>match pmG front tail r with
   | some L=>match memN i r with
    | false=>some (A::L)
    | true=>match A.ps with
     | true=>some (A::L)
     | false=>none
   | none=>none
  | none=>none
def pmL (n:Nat) (is:List Nat) (L:List HP):Option (List HP):=match spL n L with
 | some (f,t)=>pmG f t is
 | none=>none
theorem pmG_at {front tail:List HP}:∀ {is:List Nat} {L:List HP},pmG front tail is=some L→L.length=is.length+tail.length∧(∀ q A,L[q]?=some A→(∃ i,is[q]?=some i∧front[i]?=some A∧(i∈is.drop (q+1)→A.ps=true))∨(is.length≤q∧tail[q - is.length]?=some A))
 | [],L,h=>by cases h;exact ⟨by simp,fun q A hq=>.inr ⟨Nat.zero_le _,by simpa using hq⟩⟩
 | i::r,L,h=>by
  simp only [pmG] at h
  split at h
  ·rename_i A hA
   rw [atL_eq] at hA
   split at h
   ·rename_i L' hL
    obtain ⟨h1,h2⟩:=pmG_at hL
    have key:L=A::L'∧(i∈r→A.ps=true):=by
     split at h
     ·rename_i hm;cases h;exact ⟨rfl,fun hi=>by rw [(memN_eq i r).2 hi] at hm;cases hm⟩
     ·split at h
      ·rename_i hp;cases h;exact ⟨rfl,fun _=>hp⟩
      ·cases h
    obtain ⟨rfl,hp⟩:=key
    refine ⟨by simp [h1];omega,fun q C hq=>?_⟩
    cases q with
    | zero=>simp at hq;subst hq;exact .inl ⟨i,rfl,hA,by simpa using hp⟩
    | succ q =>
     rcases h2 q C (by simpa using hq) with ⟨j,j1,j2,j3⟩ | ⟨j1,j2⟩
     ·exact .inl ⟨j,by simpa using j1,j2,by simpa using j3⟩
     ·exact .inr ⟨by simp;omega,by simpa using j2⟩
   ·cases h
  ·cases h
theorem St.pm (H:St w0 w l) (n:Nat) (is:List Nat) {L:List HP} (h:pmL n is l=some L):St w0 w L:=by
 unfold pmL at h
 split at h
 ·rename_i front tail e
  obtain ⟨rfl,hn⟩:=spL_eq e
  obtain ⟨hl,hat⟩:=pmG_at h
  obtain ⟨hv,B,f,hs,h1,h2,h3⟩:=H
  let dup:Nat→Prop:=fun q=>∃ i,is[q]?=some i∧i∈is.drop (q+1)
  let ix:Nat→Nat:=fun q=>(is[q]?).getD (n+(q - is.length))
  have hix:∀ q,q<L.length→ix q<(front++tail).length:=by
   intro q hq
   obtain ⟨A,hA⟩:∃ A,L[q]?=some A:=⟨_,List.getElem?_eq_getElem hq⟩
   rcases hat q A hA with ⟨i,i1,i2,_⟩ | ⟨j1,j2⟩
   ·have:=(List.getElem?_eq_some_iff.1 i2).1
    simp only [ix,i1,Option.getD_some,List.length_append];omega
   ·have:=(List.getElem?_eq_some_iff.1 j2).1
    have e2:is[q]?=none:=List.getElem?_eq_none j1
    simp only [ix,e2,Option.getD_none,List.length_append];omega
  have hixA:∀ q A,L[q]?=some A→(front++tail)[ix q]?=some A:=by
   intro q A hA
   rcases hat q A hA with ⟨i,i1,i2,_⟩ | ⟨j1,j2⟩
   ·have:=(List.getElem?_eq_some_iff.1 i2).1
    simp only [ix,i1,Option.getD_some]
    rw [List.getElem?_append_left this];exact i2
   ·have e2:is[q]?=none:=List.getElem?_eq_none j1
    simp only [ix,e2,Option.getD_none]
    rw [List.getElem?_append_right (by omega),← j2]
    congr 1;omega
  have inj:∀ p q,p<L.length→q<L.length→¬ dup p→¬ dup q→ix p=ix q→p=q:=by
   intro p q hp hq hdp hdq he
   rcases Nat.lt_trichotomy p q with hlt | hlt | hlt
   ·exfalso
    obtain ⟨A,hA⟩:∃ A,L[p]?=some A:=⟨_,List.getElem?_eq_getElem hp⟩
    obtain ⟨C,hC⟩:∃ A,L[q]?=some A:=⟨_,List.getElem?_eq_getElem hq⟩
    rcases hat p A hA with ⟨i,i1,i2,_⟩ | ⟨j1,j2⟩
    ·rcases hat q C hC with ⟨k,k1,k2,_⟩ | ⟨m1,m2⟩
     ·simp only [ix,i1,k1,Option.getD_some] at he
      subst he
      refine hdp ⟨i,i1,?_⟩
      have:(is.drop (p+1))[q - (p+1)]?=some i:=by rw [List.getElem?_drop,show p+1+(q - (p+1))=q by omega];exact k1
      exact List.mem_of_getElem? this
     ·have:=(List.getElem?_eq_some_iff.1 i2).1
      simp only [ix,i1,List.getElem?_eq_none m1,Option.getD_some,Option.getD_none] at he;omega
    ·have e2:is[q]?=none:=List.getElem?_eq_none (by omega)
     simp only [ix,List.getElem?_eq_none j1,e2,Option.getD_none] at he;omega
   ·exact hlt
   ·exfalso
    obtain ⟨A,hA⟩:∃ A,L[q]?=some A:=⟨_,List.getElem?_eq_getElem hq⟩
    obtain ⟨C,hC⟩:∃ A,L[p]?=some A:=⟨_,List.getElem?_eq_getElem hp⟩
    rcases hat q A hA with ⟨i,i1,i2,_⟩ | ⟨j1,j2⟩
    ·rcases hat p C hC with ⟨k,k1,k2,_⟩ | ⟨m1,m2⟩
     ·simp only [ix,i1,k1,Option.getD_some] at he
      subst he
      refine hdq ⟨k,i1,?_⟩
      have:(is.drop (q+1))[p - (q+1)]?=some k:=by rw [List.getElem?_drop,show q+1+(p - (q+1))=p by omega];exact k1
      exact List.mem_of_getElem? this
     ·have:=(List.getElem?_eq_some_iff.1 i2).1
      simp only [ix,i1,List.getElem?_eq_none m1,Option.getD_some,Option.getD_none] at he;omega
    ·have e2:is[p]?=none:=List.getElem?_eq_none (by omega)
     simp only [ix,List.getElem?_eq_none j1,e2,Option.getD_none] at he;omega
  refine ⟨hv,B,fun q b=>¬ dup q∧f (ix q) b,hs,fun q A hA=>?_,fun p q b hp hq hfp hfq=>?_,fun q b hq hf=>h3 _ b (hix q hq) hf.2⟩
  ·have h4:=h1 _ A (hixA q A hA)
   by_cases hd:dup q
   ·obtain ⟨i,i1,i2⟩:=hd
    rcases hat q A hA with ⟨k,k1,_,k3⟩ | ⟨j1,_⟩
    ·rw [i1] at k1;cases k1
     exact A.pok (k3 i2) h4
    ·rw [List.getElem?_eq_none j1] at i1;cases i1
   ·have e:(fun b=>¬ dup q∧f (ix q) b)=f (ix q):=by funext b;simp [hd]
    show A.pr B w (fun b=>¬ dup q∧f (ix q) b)
    rw [e];exact h4
  ·exact inj p q hp hq hfp.1 hfq.1 (h2 _ _ b (hix p hp) (hix q hq) hfp.2 hfq.2)
 ·cases h
def selL:List (Nat×Value)→List (Nat×Value)→Option (List (Nat×Value))
 | [],_=>some []
 | (k,_)::r,l=>match lk k l with
  | some v=>match selL r l with
   | some r'=>some ((k,v)::r')
   | none=>none
  | none=>none
theorem selL_ok {l:List (Nat×Value)}:∀ {ks l':List (Nat×Value)},selL ks l=some l'→AllLk l l'
 | [],_,h=>by cases h;trivial
 | (k,_)::r,l',h=>by
  simp only [selL] at h
  split at h
  ·rename_i v e
   split at h
   ·rename_i r' e2;cases h;exact ⟨e,selL_ok e2⟩
   ·cases h
  ·cases h
theorem Fr.sl {N:Fs} {a:Act} {l l':List (Nat×Value)} (F:Fr N a l) (h:selL l' l=some l'):Fr N a l':=F.cut _ (selL_ok h)
theorem Fr.bT {N:Fs} {a:Act} {l:List (Nat×Value)} (F:Fr N a l) (k:Nat) {p:Prop} [Decidable p] (h:p) (hk:lk k l=some (.bool (decide p))):Fr N a ((k,.bool true)::l):=F.bool hk (by rw [decide_eq_true h])
theorem Fr.bF {N:Fs} {a:Act} {l:List (Nat×Value)} (F:Fr N a l) (k:Nat) {p:Prop} [Decidable p] (h:¬ p) (hk:lk k l=some (.bool (decide p))):Fr N a ((k,.bool false)::l):=F.bool hk (by rw [decide_eq_false h])
theorem Fr.nT {N:Fs} {a:Act} {l:List (Nat×Value)} (F:Fr N a l) (k:Nat) {p:Prop} [Decidable p] (h:p) (hk:lk k l=some (.bool (!decide p))):Fr N a ((k,.bool false)::l):=F.bool hk (by rw [decide_eq_true h];rfl)
theorem Fr.nF {N:Fs} {a:Act} {l:List (Nat×Value)} (F:Fr N a l) (k:Nat) {p:Prop} [Decidable p] (h:¬ p) (hk:lk k l=some (.bool (!decide p))):Fr N a ((k,.bool true)::l):=F.bool hk (by rw [decide_eq_false h];rfl)
theorem Fr.vT {N:Fs} {a:Act} {l:List (Nat×Value)} (F:Fr N a l) (k:Nat) {b:Bool} (h:b=true) (hk:lk k l=some (.bool b)):Fr N a ((k,.bool true)::l):=F.bool hk (by rw [h])
theorem Fr.vF {N:Fs} {a:Act} {l:List (Nat×Value)} (F:Fr N a l) (k:Nat) {b:Bool} (h:¬ b=true) (hk:lk k l=some (.bool b)):Fr N a ((k,.bool false)::l):=F.bool hk (by rw [eq_false_of_ne_true h])
def opC (n:Nat) (sl:List (Nat×Value)) (o:Oper):Option (Nat×FuncId×List Value):=match o.guard with
 | some _=>none
 | none=>match o.dst with
  | none=>none
  | some d=>match Nat.blt d n with
   | false=>none
   | true=>match o.op with
    | .call c=>match c.callee with
     | .value (.func f)=>match evs sl c.args.toList with
      | some vs=>some (d,f,vs)
      | none=>none
     | _=>none
    | _=>none
theorem opC_ok {n d:Nat} {f:FuncId} {vs:List Value} {sl:List (Nat×Value)} {o:Oper} (h:opC n sl o=some (d,f,vs)):o.guard=none∧o.dst=some d∧Nat.blt d n=true∧∃ xs ts,o.op=.call { callee:=.value (.func f),args:=List.toArray xs,argTypes:=ts }∧evs sl xs=some vs:=by
 unfold opC at h
 split at h
 ·cases h
 ·rename_i hg
  split at h
  ·cases h
  ·rename_i d' hd
   split at h
   ·cases h
   ·rename_i hN
    split at h
    ·rename_i c ho
     split at h
     ·rename_i f' hc
      split at h
      ·rename_i vs' hv
       cases h
       obtain ⟨cc,⟨ca⟩,ct⟩:=c
       simp only at hc hv
       subst hc
       exact ⟨hg,hd,hN,ca,ct,ho,hv⟩
      ·cases h
     ·cases h
    ·cases h
theorem sc {P:Program} {ops:Array Oper} {W:List Oper→Act→World→Prop} {rest:List Oper} {o:Oper} {a:Act} {N:Fs} {sl:List (Nat×Value)} {d:Nat} {f:FuncId} {vs:List Value} {R:Value→World→Prop} (kw:Walk P ops W) (F:Fr N a sl) (h:opC N.n sl o=some (d,f,vs)) (he:∀ args w,(callFunc f args).run P w=.ok (.enter f args) w)
  (hc:Calls P f vs.toArray w fun e w'=>∃ v,e=.returned v∧R v w') (hk:∀ v w' a',R v w'→Fr N a' ((d,v)::sl)→W rest a' w'):W (o::rest) a w:=by
 obtain ⟨hg,hd,hN,xs,ts,ho,hv⟩:=opC_ok h
 exact s_call kw F hg hd hN (by rw [ho];rfl) (y_call F ho hv he) hc hk
theorem St.mkRc {α:Type} {R:Rp α} (H:St w0 w l) {cs:List Value} {x:α} (hrd:∀ {B:Base},(∀ (j:Nat) (C:HP),l[j]?=some C→∃ S,C.pr B w S)→R.rd B cs x):St w0 w (HP.rc R cs x::l) :=
 H.more fun B _ hp=>hrd fun j C hj=>hp j C hj
theorem St.rcLen {α:Type} {R:Rp α} (H:St w0 w l) (i:Nat) {cs:List Value} {x:α} (hi:l[i]?=some (HP.rc R cs x)):cs.length=R.n:=by
 obtain ⟨B,S,_,h,_⟩:=H.get i hi
 exact R.len h
theorem St.rcFlat {α:Type} {R:Rp α} (H:St w0 w l) (i:Nat) {cs:List Value} {x:α} (hi:l[i]?=some (HP.rc R cs x)):Flat cs:=by
 obtain ⟨B,S,_,h,_⟩:=H.get i hi
 exact R.flat h
end
theorem sq:type_of% @wp_seq:=@wp_seq
theorem bl:type_of% @wp_block:=@wp_block
theorem ct:type_of% @c_then:=@c_then
theorem bn:type_of% @c_blkN:=@c_blkN
theorem cx:type_of% @c_thenX:=@c_thenX
theorem ch:type_of% @c_hit:=@c_hit
theorem lz:type_of% @wpList_nil:=@wpList_nil
theorem sk:type_of% @wp_skip:=@wp_skip
theorem ex:type_of% @wp_exit:=@wp_exit
theorem wr:type_of% @wp_ret:=@wp_ret
theorem br:type_of% @c_blkR:=@c_blkR
theorem tr:type_of% @c_thenR:=@c_thenR
theorem rl:type_of% @r_lit:=@r_lit
theorem bli:type_of% @wpIn_block:=@wpIn_block
theorem lzi:type_of% @wpListIn_nil:=@wpListIn_nil
theorem rli:type_of% @ri_lit:=@ri_lit
theorem cB:type_of% @x_cond:=@x_cond
theorem cT:type_of% @x_condT:=@x_condT
theorem cF:type_of% @x_condF:=@x_condF
end Go.Tri
