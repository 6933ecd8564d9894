/- Texts Cm, ShaA, ShaC, PackA. -/
import Derived.Test.YtapllcabobickaaGreatDoorQ4
import Derived.Test.YtapllcabobickaaGreatDoorQ5
import Derived.Test.YtapllcabobickaaGreatDoorProg
set_option linter.unusedSimpArgs false
set_option linter.unusedVariables false
namespace Go.Tri
open Go.RowKit
section
variable {P:Program} {c:Code} {Q:Exit→Act→World→Prop}
def loopU (P:Program) (c:Code) (Q:Exit→Act→World→Prop):Nat→Act→World→Prop
 | 0,_,_=>False
 | n+1,a,w=>c.wp P (Exit.then (fun a w=>loopU P c Q n a w) Q) a w
theorem x_un {n:Nat} {a:Act} {w:World} (h:c.wp P (Exit.then (fun a w=>loopU P c Q n a w) Q) a w):loopU P c Q (n+1) a w:=h
open Classical in
theorem x_unroll {a:Act} {w:World} (n:Nat) (h:loopU P c Q n a w):(Code.loop c).wp P Q a w:=by
 have key:∀ a w,(∃ n,loopU P c Q n a w)→∃ n,loopU P c Q n a w∧∀ m,m<n→¬ loopU P c Q m a w:=by
  rintro a w ⟨n,h⟩
  induction n using Nat.strongRecOn with
  | _ n ih =>
   by_cases hx:∃ m,m<n∧loopU P c Q m a w
   ·obtain ⟨m,h1,h2⟩:=hx;exact ih m h1 h2
   ·exact ⟨n,h,fun m h1 h2=>hx ⟨m,h1,h2⟩⟩
 refine wp_loop (fun a w=>∃ n,loopU P c Q n a w) (fun a w=>if hx:∃ n,loopU P c Q n a w then Classical.choose (key a w hx) else 0) ⟨n,h⟩ ?_
 intro a w hx
 have hc:=Classical.choose_spec (key a w hx)
 have e:(if hx:∃ n,loopU P c Q n a w then Classical.choose (key a w hx) else 0)=Classical.choose (key a w hx):=dif_pos hx
 simp only [e]
 generalize Classical.choose (key a w hx)=k at hc ⊢
 obtain ⟨h1,h2⟩:=hc
 cases k with
 | zero=>exact h1.elim
 | succ k =>
  refine Code.wp_mono ?_ h1
  rintro (_ | _ | _ | _ | _ | _) a' w' hh
  case normal =>
   have hy:∃ n,loopU P c Q n a' w':=⟨k,hh⟩
   refine ⟨hy,?_⟩
   rw [dif_pos hy]
   have hd:=Classical.choose_spec (key a' w' hy)
   exact Nat.lt_of_not_le fun hle=>hd.2 k (by omega) hh
  all_goals exact hh
end
section
variable {P:Program} {o:Oper} {a:Act} {w:World} {N:Fs} {sl:List (Nat×Value)} {t e:TypeId} {x y:Operand} {k:IntKind} {zz A X C:List Value}
theorem y_idxG (F:Fr N a sl) {n size:Nat} (hA:ArrT P t e n size) (hG:AggT P e size zz) (ho:o.op=.index t x y) {i:Int} {cs:List Value} (hx:ev sl x=some (.agg cs.toArray)) (he:cs=A++(X++C)) (hy:ev sl y=some (.int k i)) (h0:0≤i∧i<n) (hl:A.length=i.toNat * size) (hX:X.length=size) :
  (execOp a.eval o).run P w=.ok (.value (.agg X.toArray)) w:=by
 subst he
 have h3:((A++(X++C)).toArray.extract (i.toNat * size) (i.toNat * size+size))=X.toArray:=by
  rw [← hl,← hX]
  simp
 have:(Instr.index t (.agg (A++(X++C)).toArray) (.int k i)).run P w=.ok (.agg X.toArray) w:=by
  unfold Instr.index
  simp only [asIntOf,Sem.run_bind,Sem.run_pure,Result.andThen_ok,Go.run_underlying hA.ht]
  rw [if_pos h0]
  simp only [Sem.run_bind,hA.run_size,Result.andThen_ok,part,hG.run_isAgg,if_true,hG.run_size,Sem.run_pure,h3]
 unfold execOp
 simp [ho,F.eval hx,F.eval hy,this]
theorem y_idxGE (F:Fr N a sl) {n size:Nat} (hA:ArrT P t e n size) (hG:AggT P e size zz) (ho:o.op=.index t x y) {i:Int} {cs:List Value} (hx:ev sl x=some (.agg cs.toArray)) (he:cs=A++X) (hy:ev sl y=some (.int k i)) (h0:0≤i∧i<n) (hl:A.length=i.toNat * size) (hX:X.length=size) :
  (execOp a.eval o).run P w=.ok (.value (.agg X.toArray)) w :=
 y_idxG (C:=[]) F hA hG ho hx (by rw [List.append_nil];exact he) hy h0 hl hX
theorem y_idxAG (F:Fr N a sl) {n size:Nat} (hA:ArrT P t e n size) (ho:o.op=.indexAddr t x y) {b off:Nat} {i:Int} (hx:ev sl x=some (.pointer (some ⟨b,off,none⟩))) (hy:ev sl y=some (.int k i)) (h0:0≤i∧i<n) :
  (execOp a.eval o).run P w=.ok (.value (.pointer (some ⟨b,off+i.toNat * size,none⟩))) w:=by
 have h:idxO (List.replicate n ()) i=some ():=by
  unfold idxO
  rw [if_pos h0.1,List.getElem?_replicate,if_pos (by omega)]
 exact y_idxA F hA ho hx hy h List.length_replicate
end
section
theorem St.freezeB {w0 w:World} {l:List HP} {A:HP} (h:St w0 w (A::l)) {C:HP} (hC:∀ {B B':Base} (S:Nat→Prop),A.pr B w S→B.le B'→(∀ b o,S b→w.heap[b]?=some o→B' b=some o)→C.pr B' w (fun _=>False)):St w0 w (C::l):=by
 classical
 obtain ⟨hv,B,f,hs,h1,h2,h3⟩:=h
 let B':Base:=fun b=>if f 0 b then w.heap[b]? else B b
 have hle:B.le B':=by
  intro b o hb
  have:¬ f 0 b:=fun hf=>by have:=(h3 0 b (by simp) hf).2.1;rw [hb] at this;cases this
  show (if f 0 b then _ else _)=_
  rw [if_neg this];exact hb
 have hsub:Sub B' w:=by
  intro b o hb
  have hb':(if f 0 b then w.heap[b]? else B b)=some o:=hb
  split at hb'
  ·exact hb'
  ·exact hs b o hb'
 refine ⟨hv,B',fun i=>match i with | 0=>fun _=>False | i+1=>f (i+1),hsub,?_,?_,?_⟩
 ·intro i D hi
  cases i with
  | zero =>
   simp at hi;subst hi
   exact hC (f 0) (h1 0 A rfl) hle fun b o hf ho=>by show (if f 0 b then _ else _)=_;rw [if_pos hf];exact ho
  | succ i=>exact D.mono (h1 (i+1) D (by simpa using hi)) hle
 ·intro i j b hi hj hfi hfj
  cases i with
  | zero=>exact hfi.elim
  | succ i =>
   cases j with
   | zero=>exact hfj.elim
   | succ j=>exact h2 (i+1) (j+1) b hi hj hfi hfj
 ·intro i b hi hf
  cases i with
  | zero=>exact hf.elim
  | succ i =>
   have h4:=h3 (i+1) b hi hf
   refine ⟨h4.1,?_,h4.2.2⟩
   show (if f 0 b then _ else _)=_
   rw [if_neg fun hf0=>by have:=h2 0 (i+1) b (by simp) hi hf0 hf;omega]
   exact h4.2.1
variable {κ β:Type} [DecidableEq κ] {R:Rp β} {ek:κ→Value} {ok:κ→Prop} {agg:Bool} {w0 w:World} {p:Option Nat} {m:κ→Option β} {l:List HP}
theorem St.mmFm (H:St w0 w (HP.mm p ek agg R ok m::l)):St w0 w (HP.fm p ek agg R ok m::l) :=
 H.freezeB fun {B B'} S h hle hw=>by
  obtain ⟨es,h1,h2⟩:=h
  refine ⟨es,h1.mono hle,?_⟩
  cases p with
  | none=>exact h2
  | some b =>
   obtain ⟨⟨es',c,h3,h4,h5,h6⟩,h7⟩:=h2
   exact ⟨es',c,hw b _ h7 h3,h4,h5,h6⟩
end
theorem St.rcSlN {α:Type} {R:Rp α} {w0 w:World} {l:List HP} {n0:Nat} (H:St w0 w l) (i:Nat) {cs:List Value} {x:List α} (hi:l[i]?=some (HP.rc (rSlN n0 R) cs x)):∃ p cap,cs=[.slice p x.length cap]∧St w0 w (HP.nsl n0 R p cap x::l):=by
 obtain ⟨B,H⟩:=H.out
 obtain ⟨S,p,cap,h,h1⟩:=H.at hi
 exact ⟨p,cap,h,(H.more (A:=HP.nsl n0 R p cap x) h1).st⟩
theorem row_midA {w:World} {b off n:Nat} {cs A X C:List Value} (h:Row w b off cs) (he:cs=A++(X++C)) (hA:A.length=n):Row w b (off+n) X:=by
 subst he;exact row_mid h hA
theorem row_midAE {w:World} {b off n:Nat} {cs A X:List Value} (h:Row w b off cs) (he:cs=A++X) (hA:A.length=n):Row w b (off+n) X:=by
 subst he;exact row_midE h hA
theorem St.blkEq {w0 w:World} {l:List HP} {b u:Nat} {cs:List Value} (H:St w0 w l) (j:Nat) (hj:l[j]?=some (HP.blk b cs u)) (cs':List Value) (he:cs=cs'):St w0 w (l.set j (HP.blk b cs' u)):=by
 subst he
 have:l.set j (HP.blk b cs u)=l:=by
  apply List.ext_getElem?
  intro i
  rw [List.getElem?_set]
  split
  ·rename_i e;subst e;split
   ·exact hj.symm
   ·rename_i h;rw [List.getElem?_eq_none (by omega)]
  ·rfl
 rw [this];exact H
theorem flA {A B:List Value} (h:Flat A) (k:Flat B):Flat (A++B):=fun v hv=>(List.mem_append.1 hv).elim (h v) (k v)
section
variable {P:Program} {t:TypeId} {ops:Array Oper} {rest:List Oper} {o:Oper} {a:Act} {W:List Oper→Act→World→Prop} {N:Fs} {l:List (Nat×Value)} {x y:Operand} {w w0:World} {ls:List HP}
theorem s_stC {z1 v x0:Value} (k:Walk P ops W) (F:Fr N a l) (hg:o.guard=none) (hd:o.dst=none) (hz:Zero1 P t z1) (ho:o.op=.store t x y) {b q:Nat} (hx:ev l x=some (.pointer (some ⟨b,q,none⟩))) {old A C:List Value} {u:TypeId} (hy:ev l y=some v) (hv:v.cells=#[v]) (h1:v.oneCell'=true)
  (H:St w0 w ls) (i:Nat) (hi:ls[i]?=some (HP.blk b old u)) (he:old=A++([x0]++C)) (hq:A.length=q)
  (hk:∀ w',St w0 w' (ls.set i (HP.blk b (A++([v]++C)) u))→W rest a w'):W (o::rest) a w:=by
 refine s_store1 k F hg hd hz ho hx hy hv h1 H i hi (by subst he hq;simp) ?_
 intro w' h
 have e:old.set q v=A++([v]++C):=by subst he hq;simp
 rw [e] at h
 exact hk w' h
end
section
variable {P:Program} {fn:Func} {a:Act} {w:World} {l:List (Nat×Value)} {r s t q:ResultVar} {v u x y:Value}
theorem run_resC4 {M:Fs} (F:Fr M a l) (hr:fn.results=#[r,s,t,q]) (h:RV P l w r v) (k:RV P l w s u) (k3:RV P l w t x) (k4:RV P l w q y):(results fn a.tmps).run P w=.ok (.tuple [v,u,x,y].toArray) w:=by
 have h1:=h.run F
 have h2:=k.run F
 have h3:=k3.run F
 have h4:=k4.run F
 have:results fn a.tmps=(do let x←rvSem a.tmps r;let y←rvSem a.tmps s;let z←rvSem a.tmps t;let z'←rvSem a.tmps q;pure (.tuple #[x,y,z,z'])):=by
  unfold results;rw [hr];simp [rvSem];cases r<;>cases s<;>cases t<;>cases q<;>rfl
 rw [this,Sem.run_bind,h1]
 simp only [Result.andThen_ok]
 rw [Sem.run_bind,h2]
 simp only [Result.andThen_ok]
 rw [Sem.run_bind,h3]
 simp only [Result.andThen_ok]
 rw [Sem.run_bind,h4];rfl
theorem x_resC4 {R:Ending→World→Prop} {N:Nat} (F:Fr ⟨N,[]⟩ a l) (hr:fn.results=#[r,s,t,q]) (h1:RV P l w r v) (h2:RV P l w s u) (h3:RV P l w t x) (h4:RV P l w q y) (h:R (.returned (.tuple [v,u,x,y].toArray)) w):bodyPost P fn R .ret a w:=bodyPost_ret (run_resC4 F hr h1 h2 h3 h4) F.defers h
end
end Go.Tri
namespace Go.Proofs.YtapllcabobickaaGreatDoor
open Go.RowKit Go.Tri
set_option maxRecDepth 100000
set_option maxHeartbeats 4000000
theorem w_rotL32 {x:Int} {k:Int}  {w0 w:World} {l:List HP}  {r:Int} (hm:rotL32 x k=some r) (H:St w0 w (l)) :
  Calls Tryz.prog 177 [.int .u32 (x),.int .i64 (k)].toArray w (fun e w'=>∃ v,e=.returned v∧v=.int .u32 (r)∧St w0 w' (l)):=by
 unfold rotL32 at hm
 refine x_enter Tryz.func177 rfl rfl rfl ?_
 intro a F
 refine sb [0] F H rfl fun a F=>nl (sr (bk [0,2,0,0] F H rfl ⟨Tryz.underlying3,Tryz.underlying141,trivial⟩ fun a F=>nb [0,0] F H rfl fun a F=>?_))
 obtain ⟨x1,ex1,hm⟩:=ob hm
 refine sv F rfl (i_shlO F rfl rfl rfl ex1) fun a F=>bb [0,0,0] F H rfl fun a F=>?_
 obtain ⟨x2,ex2,hm⟩:=ob hm
 refine sv F rfl (i_shrO F rfl rfl rfl ex2) fun a F=>bb [0,0] F H rfl fun a F=>nl (wr ?_)
 cases hm
 refine x_ret1 F rfl rfl ?_
 exact ⟨_,rfl,rfl,H⟩
theorem ent177:En Tryz.prog 177:=enters Tryz.func177 (by kernel_rfl) rfl
theorem w_turn {x:Int} {a_:Int} {b_:Int} {c_:Int} {sh:Bool}  {w0 w:World} {l:List HP}  {r:Int} (hm:turn x a_ b_ c_ sh=some r) (H:St w0 w (l)) :
  Calls Tryz.prog 150 [.int .u32 (x),.int .i64 (a_),.int .i64 (b_),.int .i64 (c_),.bool (sh)].toArray w (fun e w'=>∃ v,e=.returned v∧v=.int .u32 (r)∧St w0 w' (l)):=by
 unfold turn at hm
 refine x_enter Tryz.func150 rfl rfl rfl ?_
 intro a F
 refine sb [0] F H rfl fun a F=>nb [0,0,0] F H rfl fun a F=>?_
 obtain ⟨x1,ex1,hm⟩:=ob hm
 refine sd F rfl ent177 (w_rotL32 ex1 H:) ?_;rintro _ w a ⟨rfl,H⟩ F
 refine bb [0] F H rfl fun a F=>nl (sq (sb [0] F H rfl fun a F=>?_))
 refine nl (xm0 0 [0,1,2] [] F H hm rfl rfl (fun r4 z=>(11,.int .u32 (r4))::z) (fun r4 z=>z) (fun r4 hm=>?_) (fun r4 a w hm F H=>?_))
 refine cB F rfl (fun hg5=>?_) (fun hg5=>?_)
 replace hm:=ifT hg5 hm
 refine rl (bb [0,0] F H rfl fun a F=>?_)
 obtain ⟨x6,ex6,hm⟩:=ob hm
 refine sv F rfl (i_shrO F rfl rfl rfl ex6) fun a F=>bb [0] F H rfl fun a F=>lz ?_
 cases hm
 refine ct ?_
 exact ⟨F.sl rfl,H⟩
 replace hm:=ifF (nT hg5) hm
 refine sk ?_
 cases hm
 refine ct ?_
 exact ⟨F.sl rfl,H⟩
 refine ct (sb [0,0,0] F H rfl fun a F=>?_)
 obtain ⟨x7,ex7,hm⟩:=ob hm
 refine sd F rfl ent177 (w_rotL32 ex7 H:) ?_;rintro _ w a ⟨rfl,H⟩ F
 refine bb [0,0,0] F H rfl fun a F=>?_
 obtain ⟨x8,ex8,hm⟩:=ob hm
 refine sd F rfl ent177 (w_rotL32 ex8 H:) ?_;rintro _ w a ⟨rfl,H⟩ F
 refine bb [0,0,0,0] F H rfl fun a F=>nl (wr ?_)
 cases hm
 refine x_ret1 F rfl rfl ?_
 exact ⟨_,rfl,rfl,H⟩
theorem agg191:AggT Tryz.prog 191 8 (List.replicate 8 (.int .u32 0)):=⟨by rw [Tryz.underlying191];rfl,by kernel_rfl,by kernel_rfl⟩
theorem build_233_0:∀ (s0:List Int) (h0:s0.length=8),Tryz.prog.built 233 [(0,.agg (icells .u32 s0).toArray)]=some ((icells .u32 s0++([Value.slice none (([]:List UInt8)).length 0,Value.int .u64 (0)]):List Value)).toArray:=fun s0 h0=>match s0,h0 with | [a0_0,a0_1,a0_2,a0_3,a0_4,a0_5,a0_6,a0_7],_=>by kernel_rfl
theorem w_shaNew   {w0 w:World} {l:List HP}  {r:T_sha_Hasher_o} (hm:shaNew =some r) (H:St w0 w (HP.row 0 (0) (icells .u32 shaStart)::l)) :
  Calls Tryz.prog 90 [].toArray w (fun e w'=>∃ v,e=.returned v∧∃ (b1:Nat),v=.pointer (some ⟨b1,0,none⟩)∧St w0 w' (O_sha_Hasher b1 r::l)):=by
 unfold shaNew at hm
 refine x_enter Tryz.func90 rfl rfl rfl ?_
 intro a F
 refine sb [0] F H rfl fun a F=>nl (sr (bk [999] F H rfl ⟨rfl,(aggn agg191 ((icells_length _ _).trans shaStart_len)),trivial⟩ fun a F=>?_))
 replace H:=H.owNil rByte 5
 refine sv F rfl (y_build F rfl rfl (cs:=icells .u32 shaStart++([Value.slice none (([]:List UInt8)).length 0,Value.int .u64 (0)])) (build_233_0 shaStart shaStart_len)) fun a F=>s_boxA wkP F rfl rfl rfl rfl rfl H fun b2 w a H F=>bb [0] F H rfl fun a F=>?_
 replace H:=H.nf 3 rfl
 refine nl (wr ?_)
 replace H:=O_sha_Hasher_s (x1:=([]:List UInt8)) shaStart_len H
 cases hm
 refine x_ret1 F rfl rfl ?_
 exact ⟨_,rfl,b2,rfl,(H.pm 2 [0] rfl:)⟩
set_option maxRecDepth 100000
set_option maxHeartbeats 4000000
theorem agz191:AggT Tryz.prog 191 8 (icells .u32 (List.replicate 8 0)):=⟨by rw [Tryz.underlying191];rfl,by kernel_rfl,by kernel_rfl⟩
theorem agz189:AggT Tryz.prog 189 64 (icells .u32 (List.replicate 64 0)):=⟨by rw [Tryz.underlying189];rfl,by kernel_rfl,by kernel_rfl⟩
theorem arr235:ArrT Tryz.prog 235 5 64 1:=⟨Tryz.underlying235,by kernel_rfl⟩
theorem elem25:ElemT Tryz.prog 25 5 1 1 (.int .u8 0):=⟨Tryz.underlying25,by kernel_rfl,by kernel_rfl,by decide⟩
theorem plain5:Plain Tryz.prog 5:=by unfold Plain;rw [Tryz.underlying5];rfl
theorem arr189:ArrT Tryz.prog 189 188 64 1:=⟨Tryz.underlying189,by kernel_rfl⟩
theorem plain188:Plain Tryz.prog 188:=by unfold Plain;rw [Tryz.underlying188];rfl
theorem zero188:Zero1 Tryz.prog 188 (.int .u32 0):=⟨by kernel_rfl,rfl⟩
theorem ent150:En Tryz.prog 150:=enters Tryz.func150 (by kernel_rfl) rfl
theorem agg189:AggT Tryz.prog 189 64 (List.replicate 64 (.int .u32 0)):=⟨by rw [Tryz.underlying189];rfl,by kernel_rfl,by kernel_rfl⟩
theorem arr191:ArrT Tryz.prog 191 188 8 1:=⟨Tryz.underlying191,by kernel_rfl⟩
theorem elem265:ElemT Tryz.prog 265 188 1 4 (.int .u32 0):=⟨Tryz.underlying265,by kernel_rfl,by kernel_rfl,by decide⟩
theorem w_mix {state:List Int} {p:List UInt8}  {w0 w:World} {l:List HP} (hl1:(state).length=8) (hl2:(p).length=64) {r:(List Int)} (hm:mix state p=some r) (H:St w0 w (HP.row 1 (0) (icells .u32 shaRounds)::l)) :
  Calls Tryz.prog 122 [.agg (icells .u32 state).toArray,.agg (bcells p).toArray].toArray w (fun e w'=>∃ v,e=.returned v∧v=.agg (icells .u32 r).toArray∧((r).length=8)∧St w0 w' (l)):=by
 unfold mix at hm
 refine x_enter Tryz.func122 rfl rfl rfl ?_
 intro a F
 refine sr (s_boxA wkP F rfl rfl rfl rfl rfl H fun b4 w a H F=>s_boxA wkP F rfl rfl rfl rfl rfl H fun b5 w a H F=>?_)
 replace H:=H.frzB 0 rfl hl2
 refine s_allocA wkP F rfl rfl rfl agz191 rfl H fun b6 w a H F=>?_
 replace H:=H.nf 4 rfl
 refine nl (sr (s_allocA wkP F rfl rfl rfl agz189 rfl H fun b7 w a H F=>?_))
 replace H:=H.nf 5 rfl
 refine nl (sq (sb [0] F H rfl fun a F=>nl ?_))
 obtain ⟨r393,er393,hm393⟩:=ob hm;clear hm;revert er393;intro hm
 refine x_mid (fun aa ww=>Fr ⟨146,[]⟩ aa [(2,.pointer (some ⟨b4,0,none⟩)),(4,.pointer (some ⟨b6,0,none⟩)),(5,.pointer (some ⟨b7,0,none⟩))]∧((r393).length=64)∧St w0 ww (HP.blk b7 (icells .u32 r393) 189::HP.blk b6 (icells .u32 (List.replicate 8 0)) 191::HP.blk b4 (icells .u32 state) 191::HP.row 1 (0) (icells .u32 shaRounds)::l)) ?_ ?_
 refine bl ?_
 refine x_loopO _ (fun (s651:(List Int)×Int) aa ww=>Fr ⟨146,[]⟩ aa [(2,.pointer (some ⟨b4,0,none⟩)),(3,.pointer (some ⟨b5,0,none⟩)),(4,.pointer (some ⟨b6,0,none⟩)),(5,.pointer (some ⟨b7,0,none⟩)),(19,.int .i64 (s651.2))]∧((s651.1).length=64)∧St w0 ww (HP.blk b7 (icells .u32 s651.1) 189::HP.blk b6 (icells .u32 (List.replicate 8 0)) 191::HP.sl rByte (some ⟨b5,0,none⟩) 64 p::HP.blk b4 (icells .u32 state) 191::HP.row 1 (0) (icells .u32 shaRounds)::l)) hm ⟨F.sl rfl,(List.length_replicate (n:=64)),H⟩ ?_
 clear F H hm
 rintro s651 a w o ⟨F,hl652,H⟩ hm
 refine sb [0] F H rfl fun a F=>?_
 refine nl (sq (cPm F rfl hm (fun hg653 hm=>?_) (fun hg653 hm=>?_)))
 refine sk (ct (sq ?_))
 obtain ⟨r716,er716,hm716⟩:=ob hm;clear hm;revert er716;intro hm
 refine x_mid (fun aa ww=>Fr ⟨146,[]⟩ aa [(2,.pointer (some ⟨b4,0,none⟩)),(3,.pointer (some ⟨b5,0,none⟩)),(4,.pointer (some ⟨b6,0,none⟩)),(5,.pointer (some ⟨b7,0,none⟩)),(19,.int .i64 (s651.2))]∧((r716).length=64)∧St w0 ww (HP.blk b7 (icells .u32 r716) 189::HP.blk b6 (icells .u32 (List.replicate 8 0)) 191::HP.sl rByte (some ⟨b5,0,none⟩) 64 p::HP.blk b4 (icells .u32 state) 191::HP.row 1 (0) (icells .u32 shaRounds)::l)) ?_ ?_
 refine bl (sb [0,0] F H rfl fun a F=>nl (sq (sb [0,0] F H rfl fun a F=>?_)))
 refine nl (cPm F rfl hm (fun hg718 hm=>?_) (fun hg718 hm=>?_))
 refine sq (sb (List.replicate 5 0) F H rfl fun a F=>?_)
 obtain ⟨x719,ex719,hm⟩:=ob hm
 replace H:=H.slSubN 1 rfl 2 rfl ex719
 refine sv F rfl (y_slALH F arr235 rfl rfl rfl rfl ex719 hl2) fun a F=>bk [0,0] F H rfl ⟨⟨_,Tryz.underlying25⟩,trivial⟩ fun a F=>?_
 replace H:=H.nf 6 rfl
 refine nl ?_
 obtain ⟨r745,er745,hm745⟩:=ob hm;clear hm;revert er745;intro hm
 refine x_mid (fun aa ww=>Fr ⟨146,[]⟩ aa [(2,.pointer (some ⟨b4,0,none⟩)),(3,.pointer (some ⟨b5,0,none⟩)),(4,.pointer (some ⟨b6,0,none⟩)),(5,.pointer (some ⟨b7,0,none⟩)),(19,.int .i64 (s651.2))]∧((r745).length=64)∧St w0 ww (HP.blk b7 (icells .u32 r745) 189::HP.blk b6 (icells .u32 (List.replicate 8 0)) 191::HP.sl rByte (some ⟨b5,0,none⟩) 64 p::HP.blk b4 (icells .u32 state) 191::HP.row 1 (0) (icells .u32 shaRounds)::l)) ?_ ?_
 refine bl ?_
 refine x_loopO _ (fun (s763:(List Int)×Int) aa ww=>Fr ⟨146,[]⟩ aa [(2,.pointer (some ⟨b4,0,none⟩)),(3,.pointer (some ⟨b5,0,none⟩)),(4,.pointer (some ⟨b6,0,none⟩)),(5,.pointer (some ⟨b7,0,none⟩)),(6,.int .i64 (s651.2)),(19,.int .i64 (s651.2)),(29,.slice (shp (some ⟨b5,0,none⟩) 64 ((IntKind.i64.wrap (4 * s651.2)):Int).toNat 1) (x719).length (64 - ((IntKind.i64.wrap (4 * s651.2)):Int).toNat)),(30,.int .i64 (((x719).length:Int))),(31,.int .i64 (s763.2))]∧((s763.1).length=64)∧St w0 ww (HP.sl rByte (shp (some ⟨b5,0,none⟩) 64 ((IntKind.i64.wrap (4 * s651.2)):Int).toNat 1) (64 - ((IntKind.i64.wrap (4 * s651.2)):Int).toNat) x719::HP.blk b7 (icells .u32 s763.1) 189::HP.blk b6 (icells .u32 (List.replicate 8 0)) 191::HP.sl rByte (some ⟨b5,0,none⟩) 64 p::HP.blk b4 (icells .u32 state) 191::HP.row 1 (0) (icells .u32 shaRounds)::l)) hm ⟨F.sl rfl,hl652,H⟩ ?_
 clear F H hm
 rintro s763 a w o ⟨F,hl764,H⟩ hm
 refine sb [0] F H rfl fun a F=>?_
 refine nl (sq (cPm F rfl hm (fun hg765 hm=>?_) (fun hg765 hm=>?_)))
 refine sk (ct (sq (bl (sr ?_))))
 obtain ⟨x766,ex766,hm⟩:=ob hm
 obtain ⟨b767,o767,hp767,cs768,H⟩:=H.slE 0 rfl ex766
 obtain rfl:=H.rcB 1 rfl
 replace H:=H.dp 1 rfl
 refine sv F rfl (y_idxS F elem25 rfl rfl rfl hp767 ex766) fun a F=>bk [0,0] F H rfl ⟨rfl,plain5,trivial⟩ fun a F=>nl (rl (bb [0,0] F H rfl fun a F=>?_))
 obtain ⟨x769,ex769,hm⟩:=ob hm
 refine sv F rfl (y_idxA F arr189 rfl rfl rfl ex769 hl764) fun a F=>sv F rfl (y_load1 F plain188 rfl rfl (row_ix ((H.blk 2 rfl).row) (icells_idx ex769))) fun a F=>sv F rfl (i_shl F rfl rfl rfl (by decide)) fun a F=>bk [0,3,0] F H rfl ⟨Tryz.underlying5,Tryz.underlying188,trivial⟩ fun a F=>?_
 obtain ⟨x770,ex770,hm⟩:=ob hm
 refine sv F rfl (y_idxA F arr189 rfl rfl rfl ex770 hl764) fun a F=>?_
 refine s_stI wkP F rfl rfl zero188 rfl rfl rfl H 2 rfl ex770 fun w H=>?_
 replace H:=H.nf 7 rfl
 refine lz (bn (ct (rl (bb [0,0] F H rfl fun a F=>?_))))
 refine lz (ct ?_);cases hm
 exact ⟨_,rfl,⟨F.sl rfl,((List.length_set ..).trans hl764),(H.pm 7 [1,2,3,4,5,6] rfl:)⟩⟩
 refine ex (cx (cx ?_));cases hm;refine ⟨_,rfl,?_⟩;rintro rfl
 refine ch (ct ?_)
 exact ⟨F.sl rfl,hl764,(H.pm 6 [1,2,3,4,5] rfl:)⟩
 clear F H hm
 rintro a w ⟨F,hl746,H⟩;have hm:=hm745;clear hm745
 refine ct (ex (cx (ch ?_)))
 cases hm
 refine ct ?_
 exact ⟨F.sl rfl,hl746,H⟩
 refine sk (ct ?_)
 obtain ⟨x772,ex772,hm⟩:=ob hm
 obtain ⟨x773,ex773,hm⟩:=ob hm
 obtain ⟨x774,ex774,hm⟩:=ob hm
 obtain ⟨x775,ex775,hm⟩:=ob hm
 refine mix_regionK [5,15,23] [23] (scL [0,1,2,3,1004,6,7,8,9,11,12,13,14,17,18,19,20,2005,10,2015,16,21,22,3023]) [0] H rfl rfl (by kernel_rfl) (by kernel_rfl) fun w H=>?_
 refine mb [0,0,0] F H rfl fun a F=>?_
 refine m_pure F rfl rfl rfl rfl (fun u hu=>y_idxA F arr189 rfl rfl rfl ex772 hl652) fun a F=>?_
 refine m_read F rfl rfl rfl rfl (y_load1 F plain188 rfl rfl (row_ix ((H.blk 0 rfl).row) (icells_idx ex772))) fun a F=>?_
 refine mb [0,0] F H rfl fun a F=>?_
 refine m_pure F rfl rfl rfl rfl (fun u hu=>y_idxA F arr189 rfl rfl rfl ex773 hl652) fun a F=>?_
 refine m_pure F rfl rfl rfl rfl (fun u hu=>y_load1 F plain188 rfl rfl (row_ix ((hu.choose_spec.blk 0 rfl).row) (icells_idx ex773))) fun a F=>?_
 refine mb [0,0] F H rfl fun a F=>?_
 refine m_pure F rfl rfl rfl rfl (fun u hu=>y_idxA F arr189 rfl rfl rfl ex774 hl652) fun a F=>?_
 refine m_pure F rfl rfl rfl rfl (fun u hu=>y_load1 F plain188 rfl rfl (row_ix ((hu.choose_spec.blk 0 rfl).row) (icells_idx ex774))) fun a F=>?_
 refine mb [0,0] F H rfl fun a F=>?_
 refine m_pure F rfl rfl rfl rfl (fun u hu=>y_idxA F arr189 rfl rfl rfl ex775 hl652) fun a F=>?_
 refine m_pure F rfl rfl rfl rfl (fun u hu=>y_load1 F plain188 rfl rfl (row_ix ((hu.choose_spec.blk 0 rfl).row) (icells_idx ex775))) fun a F=>?_
 refine m_heavy rfl rfl ?_
 obtain ⟨x776,ex776,hm⟩:=ob hm
 refine sd F rfl ent150 (w_turn ex776 H:) ?_;rintro _ w a ⟨rfl,H⟩ F
 refine lz ?_;refine ct ⟨⟨_,H⟩,?_⟩
 refine mb [0] F H rfl fun a F=>m_heavy rfl rfl ?_
 obtain ⟨x777,ex777,hm⟩:=ob hm
 refine sd F rfl ent150 (w_turn ex777 H:) ?_;rintro _ w a ⟨rfl,H⟩ F
 refine lz ?_;refine ct ⟨⟨_,H⟩,?_⟩
 refine mb [0,0] F H rfl fun a F=>?_
 obtain ⟨x778,ex778,hm⟩:=ob hm
 refine m_pure F rfl rfl rfl rfl (fun u hu=>y_idxA F arr189 rfl rfl rfl ex778 hl652) fun a F=>?_
 refine m_last rfl rfl ?_
 refine s_stI wkP F rfl rfl zero188 rfl rfl rfl H 0 rfl ex778 fun w H=>?_
 refine lz ?_;refine ct ?_
 refine m_nil (bn ?_)
 cases hm
 refine ct ?_
 exact ⟨F.sl rfl,((List.length_set ..).trans hl652),H⟩
 clear F H hm
 rintro a w ⟨F,hl717,H⟩;have hm:=hm716;clear hm716
 refine ct (rl (bb [0,0] F H rfl fun a F=>?_))
 refine lz (ct ?_);cases hm
 exact ⟨_,rfl,⟨F.sl rfl,hl717,H⟩⟩
 refine ex (cx (cx ?_));cases hm;refine ⟨_,rfl,?_⟩;rintro rfl
 refine ch (ct ?_)
 exact ⟨F.sl rfl,hl652,(H.pm 5 [0,1,3,4] rfl:)⟩
 clear F H hm
 rintro a w ⟨F,hl394,H⟩;have hm:=hm393;clear hm393
 refine ct (sr (bk [2999] F H rfl ⟨rfl,(aggn agg191 ((icells_length _ _).trans hl1)),trivial⟩ fun a F=>s_allocA wkP F rfl rfl rfl agz191 rfl H fun b780 w a H F=>s_storeA wkP F rfl rfl agg191 rfl rfl rfl H 0 rfl ((icells_length _ _).trans hl1) ((icells_length _ _).trans (List.length_replicate (n:=8))) (icells_flat _ _) fun w H=>?_))
 replace H:=H.nf 5 rfl
 refine nl (sq (sr (bk [4999,0] F H rfl ⟨rfl,(aggn agg189 ((icells_length _ _).trans shaRounds_len)),trivial⟩ fun a F=>nl ?_)))
 obtain ⟨r851,er851,hm851⟩:=ob hm;clear hm;revert er851;intro hm
 refine x_mid (fun aa ww=>Fr ⟨146,[]⟩ aa [(2,.pointer (some ⟨b4,0,none⟩)),(4,.pointer (some ⟨b6,0,none⟩)),(9,.pointer (some ⟨b780,0,none⟩))]∧((r851).length=8)∧St w0 ww (HP.blk b780 (icells .u32 r851) 191::HP.blk b7 (icells .u32 r393) 189::HP.blk b6 (icells .u32 (List.replicate 8 0)) 191::HP.blk b4 (icells .u32 state) 191::HP.row 1 (0) (icells .u32 shaRounds)::l)) ?_ ?_
 refine bl ?_
 refine x_loopO _ (fun (s899:(List Int)×Int) aa ww=>Fr ⟨146,[]⟩ aa [(2,.pointer (some ⟨b4,0,none⟩)),(4,.pointer (some ⟨b6,0,none⟩)),(5,.pointer (some ⟨b7,0,none⟩)),(9,.pointer (some ⟨b780,0,none⟩)),(70,.agg (icells .u32 shaRounds).toArray),(71,.int .i64 (s899.2))]∧((s899.1).length=8)∧St w0 ww (HP.blk b780 (icells .u32 s899.1) 191::HP.blk b7 (icells .u32 r393) 189::HP.blk b6 (icells .u32 (List.replicate 8 0)) 191::HP.blk b4 (icells .u32 state) 191::HP.row 1 (0) (icells .u32 shaRounds)::l)) hm ⟨F.sl rfl,hl1,H⟩ ?_
 clear F H hm
 rintro s899 a w o ⟨F,hl900,H⟩ hm
 refine sb [0] F H rfl fun a F=>?_
 refine nl (sq (cPm F rfl hm (fun hg901 hm=>?_) (fun hg901 hm=>?_)))
 refine sk (ct (sq (bl (sb [0] F H rfl fun a F=>?_))))
 obtain ⟨x902,ex902,hm⟩:=ob hm
 refine sv F rfl (y_idxV F arr189 plain188 rfl rfl rfl (icells_idx ex902) ((icells_length _ _).trans shaRounds_len)) fun a F=>bb [0,0] F H rfl fun a F=>nl (sq ?_)
 obtain ⟨x903,ex903,hm⟩:=ob hm
 obtain ⟨x904,ex904,hm⟩:=ob hm
 refine qr H (by kernel_rfl) (by kernel_rfl) ?_
 refine qv F rfl (fun u hu=>y_idxA F arr191 rfl rfl rfl ex903 hl900) fun a F=>qv F rfl (fun u hu=>y_load1 F plain188 rfl rfl (row_ix ((hu.blk 0 rfl).row) (icells_idx ex903))) fun a F=>qv F rfl (fun u hu=>y_idxA F arr191 rfl rfl rfl ex904 hl900) fun a F=>qv F rfl (fun u hu=>y_load1 F plain188 rfl rfl (row_ix ((hu.blk 0 rfl).row) (icells_idx ex904))) fun a F=>qb [0,0] F rfl fun a F=>?_
 refine q_nil fun w H=>?_
 refine ct (sb [0] F H rfl fun a F=>?_)
 obtain ⟨x905,ex905,hm⟩:=ob hm
 refine sv F rfl (y_idxA F arr191 rfl rfl rfl ex905 hl900) fun a F=>sv F rfl (y_load1 F plain188 rfl rfl (row_ix ((H.blk 0 rfl).row) (icells_idx ex905))) fun a F=>bb [0,0,0] F H rfl fun a F=>?_
 obtain ⟨x906,ex906,hm⟩:=ob hm
 refine sv F rfl (y_idxA F arr191 rfl rfl rfl ex906 hl900) fun a F=>sv F rfl (y_load1 F plain188 rfl rfl (row_ix ((H.blk 0 rfl).row) (icells_idx ex906))) fun a F=>bb [0,0,0] F H rfl fun a F=>nb [0] F H rfl fun a F=>?_
 obtain ⟨x907,ex907,hm⟩:=ob hm
 refine sv F rfl (y_idxA F arr191 rfl rfl rfl ex907 hl900) fun a F=>sv F rfl (y_load1 F plain188 rfl rfl (row_ix ((H.blk 0 rfl).row) (icells_idx ex907))) fun a F=>bb [0,0] F H rfl fun a F=>?_
 obtain ⟨x908,ex908,hm⟩:=ob hm
 refine sv F rfl (y_idxA F arr191 rfl rfl rfl ex908 hl900) fun a F=>sv F rfl (y_load1 F plain188 rfl rfl (row_ix ((H.blk 0 rfl).row) (icells_idx ex908))) fun a F=>bb [0,0] F H rfl fun a F=>?_
 obtain ⟨x909,ex909,hm⟩:=ob hm
 refine sv F rfl (y_idxA F arr191 rfl rfl rfl ex909 hl900) fun a F=>sv F rfl (y_load1 F plain188 rfl rfl (row_ix ((H.blk 0 rfl).row) (icells_idx ex909))) fun a F=>?_
 obtain ⟨x910,ex910,hm⟩:=ob hm
 refine sv F rfl (y_idxA F arr191 rfl rfl rfl ex910 hl900) fun a F=>sv F rfl (y_load1 F plain188 rfl rfl (row_ix ((H.blk 0 rfl).row) (icells_idx ex910))) fun a F=>bb [0,0,0] F H rfl fun a F=>nl (sq ?_)
 obtain ⟨x911,ex911,hm⟩:=ob hm
 obtain ⟨x912,ex912,hm⟩:=ob hm
 obtain ⟨x913,ex913,hm⟩:=ob hm
 refine qr H (by kernel_rfl) (by kernel_rfl) ?_
 refine qv F rfl (fun u hu=>y_idxA F arr191 rfl rfl rfl ex911 hl900) fun a F=>qv F rfl (fun u hu=>y_load1 F plain188 rfl rfl (row_ix ((hu.blk 0 rfl).row) (icells_idx ex911))) fun a F=>qb [0] F rfl fun a F=>?_
 refine q_call F rfl rfl rfl (fun u hu=>y_call F rfl rfl ent150) (fun u hu=>(w_turn ex912 hu).mono fun e u2 he=>by obtain ⟨v,rfl,rfl,H⟩:=he;exact ⟨rfl,H⟩) fun a F=>?_
 refine qb (List.replicate 6 0) F rfl fun a F=>qv F rfl (fun u hu=>y_idxA F arr189 rfl rfl rfl ex913 hl394) fun a F=>qv F rfl (fun u hu=>y_load1 F plain188 rfl rfl (row_ix ((hu.blk 1 rfl).row) (icells_idx ex913))) fun a F=>qb [0,0] F rfl fun a F=>?_
 refine q_nil fun w H=>?_
 refine ct (sq ?_)
 obtain ⟨x914,ex914,hm⟩:=ob hm
 obtain ⟨x915,ex915,hm⟩:=ob hm
 refine mix_regionK [2] [2] (scL [0,1,3002]) [] H rfl rfl (by kernel_rfl) (by kernel_rfl) fun w H=>?_
 refine m_pure F rfl rfl rfl rfl (fun u hu=>y_slAL F arr191 rfl rfl rfl ex914 hl900) fun a F=>?_
 refine m_pure F rfl rfl rfl rfl (fun u hu=>y_slAH F arr191 rfl rfl rfl ex915 hl900) fun a F=>?_
 refine m_last rfl rfl ?_
 refine s_cpy (f:=(Value.int .u32)) wkP F rfl rfl rfl elem265 rfl (fun _=>rfl) rfl (shp_ne (by decide)) rfl H 0 rfl (slB (f:=(Value.int .u32)) (H.blk 0 rfl) (shp_ne (by decide)) ex915 (by decide) (by have:=(slcO_some ex915).2.2;simp at this ⊢;omega)) (by have:=(slcO_some ex914).2.2;have:=(slcO_some ex914).1;simp at *;omega) fun w a H F=>?_
 have hl916:(putAt s899.1 (1:Int).toNat ((x915).take (x914).length)).length=8:=by have h1:=(slcO_some ex914).2.2;have h2:=(slcO_some ex914).1;have h3:=hl900;rw [putAt_len _ _ _ (by simp at *;omega)];exact h3
 refine lz ?_;refine ct ?_
 refine m_nil (ct (sr ?_))
 obtain ⟨x917,ex917,hm⟩:=ob hm
 refine sv F rfl (y_idxA F arr191 rfl rfl rfl ex917 hl916) fun a F=>sv F rfl (y_load1 F plain188 rfl rfl (row_ix ((H.blk 0 rfl).row) (icells_idx ex917))) fun a F=>bb [0,0] F H rfl fun a F=>?_
 obtain ⟨x918,ex918,hm⟩:=ob hm
 refine sv F rfl (y_idxA F arr191 rfl rfl rfl ex918 hl916) fun a F=>?_
 refine s_stI wkP F rfl rfl zero188 rfl rfl rfl H 0 rfl ex918 fun w H=>?_
 replace H:=H.nf 5 rfl
 refine nl (rl (bb [0,0] F H rfl fun a F=>?_))
 obtain ⟨x920,ex920,hm⟩:=ob hm
 refine sd F rfl ent150 (w_turn ex920 H:) ?_;rintro _ w a ⟨rfl,H⟩ F
 refine bb [0,0,0] F H rfl fun a F=>?_
 obtain ⟨x921,ex921,hm⟩:=ob hm
 refine sv F rfl (y_idxA F arr191 rfl rfl rfl ex921 ((List.length_set ..).trans hl916)) fun a F=>?_
 refine s_stI wkP F rfl rfl zero188 rfl rfl rfl H 0 rfl ex921 fun w H=>?_
 replace H:=H.nf 5 rfl
 refine lz (bn (ct (rl (bb [0,0] F H rfl fun a F=>?_))))
 refine lz (ct ?_);cases hm
 exact ⟨_,rfl,⟨F.sl rfl,((List.length_set ..).trans ((List.length_set ..).trans hl916)),H⟩⟩
 refine ex (cx (cx ?_));cases hm;refine ⟨_,rfl,?_⟩;rintro rfl
 refine ch (ct ?_)
 exact ⟨F.sl rfl,hl900,H⟩
 clear F H hm
 rintro a w ⟨F,hl852,H⟩;have hm:=hm851;clear hm851
 refine ct (sq (sr (bk [3999,0] F H rfl ⟨rfl,(aggn agg191 ((icells_length _ _).trans hl1)),trivial⟩ fun a F=>nl ?_)))
 obtain ⟨r942,er942,hm942⟩:=ob hm;clear hm;revert er942;intro hm
 refine x_mid (fun aa ww=>Fr ⟨146,[]⟩ aa [(4,.pointer (some ⟨b6,0,none⟩)),(9,.pointer (some ⟨b780,0,none⟩))]∧((r942).length=8)∧St w0 ww (HP.blk b780 (icells .u32 r942) 191::HP.blk b7 (icells .u32 r393) 189::HP.blk b6 (icells .u32 (List.replicate 8 0)) 191::HP.blk b4 (icells .u32 state) 191::HP.row 1 (0) (icells .u32 shaRounds)::l)) ?_ ?_
 refine bl ?_
 refine x_loopO _ (fun (s956:(List Int)×Int) aa ww=>Fr ⟨146,[]⟩ aa [(4,.pointer (some ⟨b6,0,none⟩)),(9,.pointer (some ⟨b780,0,none⟩)),(133,.agg (icells .u32 state).toArray),(134,.int .i64 (s956.2))]∧((s956.1).length=8)∧St w0 ww (HP.blk b780 (icells .u32 s956.1) 191::HP.blk b7 (icells .u32 r393) 189::HP.blk b6 (icells .u32 (List.replicate 8 0)) 191::HP.blk b4 (icells .u32 state) 191::HP.row 1 (0) (icells .u32 shaRounds)::l)) hm ⟨F.sl rfl,hl852,H⟩ ?_
 clear F H hm
 rintro s956 a w o ⟨F,hl957,H⟩ hm
 refine sb [0] F H rfl fun a F=>?_
 refine nl (sq (cPm F rfl hm (fun hg958 hm=>?_) (fun hg958 hm=>?_)))
 refine sk (ct (sq (bl (sb [0] F H rfl fun a F=>?_))))
 obtain ⟨x959,ex959,hm⟩:=ob hm
 refine sv F rfl (y_idxV F arr191 plain188 rfl rfl rfl (icells_idx ex959) ((icells_length _ _).trans hl1)) fun a F=>bb [0,0] F H rfl fun a F=>nl (rl (bb [0] F H rfl fun a F=>?_))
 obtain ⟨x960,ex960,hm⟩:=ob hm
 refine sv F rfl (y_idxA F arr191 rfl rfl rfl ex960 hl957) fun a F=>sv F rfl (y_load1 F plain188 rfl rfl (row_ix ((H.blk 0 rfl).row) (icells_idx ex960))) fun a F=>bb [0,0] F H rfl fun a F=>?_
 obtain ⟨x961,ex961,hm⟩:=ob hm
 refine sv F rfl (y_idxA F arr191 rfl rfl rfl ex961 hl957) fun a F=>?_
 refine s_stI wkP F rfl rfl zero188 rfl rfl rfl H 0 rfl ex961 fun w H=>?_
 replace H:=H.nf 5 rfl
 refine lz (bn (ct (rl (bb [0,0] F H rfl fun a F=>?_))))
 refine lz (ct ?_);cases hm
 exact ⟨_,rfl,⟨F.sl rfl,((List.length_set ..).trans hl957),H⟩⟩
 refine ex (cx (cx ?_));cases hm;refine ⟨_,rfl,?_⟩;rintro rfl
 refine ch (ct ?_)
 exact ⟨F.sl rfl,hl957,H⟩
 clear F H hm
 rintro a w ⟨F,hl943,H⟩;have hm:=hm942;clear hm942
 refine ct (sr (bk [999] F H rfl ⟨rfl,(aggn agg191 ((icells_length _ _).trans hl943)),trivial⟩ fun a F=>s_storeA wkP F rfl rfl agg191 rfl rfl rfl H 2 rfl ((icells_length _ _).trans hl943) ((icells_length _ _).trans (List.length_replicate (n:=8))) (icells_flat _ _) fun w H=>?_))
 replace H:=H.nf 5 rfl
 refine nl (wr ?_)
 cases hm
 refine x_resC1 F rfl (⟨_,rfl,agg191.run_load (H.blk 2 rfl).row ((icells_length _ _).trans hl943)⟩) ?_
 exact ⟨_,rfl,rfl,hl943,(H.pm 5 [] rfl:)⟩
theorem fld233_2:FieldT Tryz.prog 233 2 9:=by unfold FieldT;rw [Tryz.underlying233];kernel_rfl
theorem plain22:Plain Tryz.prog 22:=by unfold Plain;rw [Tryz.underlying22];rfl
theorem zero22:Zero1 Tryz.prog 22 (.int .u64 0):=⟨by kernel_rfl,rfl⟩
theorem fld233_1:FieldT Tryz.prog 233 1 8:=by unfold FieldT;rw [Tryz.underlying233];kernel_rfl
theorem plain25:Plain Tryz.prog 25:=by unfold Plain;rw [Tryz.underlying25];rfl
theorem zero25:Zero1 Tryz.prog 25 (.slice none 0 0):=⟨by kernel_rfl,rfl⟩
theorem fld233_0:FieldT Tryz.prog 233 0 0:=by unfold FieldT;rw [Tryz.underlying233];kernel_rfl
theorem agg235:AggT Tryz.prog 235 64 (List.replicate 64 (.int .u8 0)):=⟨by rw [Tryz.underlying235];rfl,by kernel_rfl,by kernel_rfl⟩
theorem ent122:En Tryz.prog 122:=enters Tryz.func122 (by kernel_rfl) rfl
theorem w_shaAdd {h:T_sha_Hasher_o} {b:List UInt8} {bo0:Nat} {p1:Option Addr} {c1:Nat} {w0 w:World} {l:List HP}  {r:T_sha_Hasher_o} (hm:shaAdd h b=some r) (H:St w0 w (HP.row 1 (0) (icells .u32 shaRounds)::O_sha_Hasher bo0 h::HP.sl rByte p1 c1 b::l)) :
  Calls Tryz.prog 91 [.pointer (some ⟨bo0,0,none⟩),.slice p1 (b).length c1].toArray w (fun e w'=>∃ v,e=.returned v∧v=.tuple [].toArray∧St w0 w' (O_sha_Hasher_1 bo0 r::l)):=by
 unfold shaAdd at hm
 refine x_enter Tryz.func91 rfl rfl rfl ?_
 intro a F
 refine sr (bk [0,0,9] F H rfl ⟨fld233_2,trivial⟩ fun a F=>?_)
 obtain ⟨p2,c3,hl4,H⟩:=O_sha_Hasher_o (H.pk 1 rfl)
 refine sv F rfl (y_load1 F plain22 rfl rfl ((row_midAE (n:=9) (A:=icells .u32 h.1++([Value.slice p2 (h.2.1).length c3])) (X:=[.int .u64 (h.2.2)]) ((H.blk 0 rfl).row) (by simp only [List.append_assoc,List.cons_append,List.nil_append]) (by simp only [List.length_append,List.length_cons,List.length_nil,icells_length,bcells_length,hl4])) 0 _ rfl)) fun a F=>bk [0,0,2,0,0,9] F H rfl ⟨⟨_,Tryz.underlying25⟩,Tryz.underlying3,Tryz.underlying22,fld233_2,trivial⟩ fun a F=>?_
 refine s_stC wkP F rfl rfl zero22 rfl rfl rfl rfl rfl H 0 rfl (A:=icells .u32 h.1++([Value.slice p2 (h.2.1).length c3])) (C:=([]:List Value)) (x0:=.int .u64 (h.2.2)) (by simp only [List.append_assoc,List.cons_append,List.nil_append,List.append_nil]) (by simp only [List.length_append,List.length_cons,List.length_nil,icells_length,bcells_length,hl4]) fun w H=>?_
 replace H:St w0 w (HP.blk bo0 (icells .u32 h.1++([Value.slice p2 (h.2.1).length c3,Value.int .u64 (IntKind.u64.wrap (h.2.2+(IntKind.u64.wrap (((b).length:Int)))))])) 233::HP.ow rByte 5 p2 c3 h.2.1::HP.row 1 (0) (icells .u32 shaRounds)::HP.sl rByte p1 c1 b::l):=H.blkEq 0 rfl (icells .u32 h.1++([Value.slice p2 (h.2.1).length c3,Value.int .u64 (IntKind.u64.wrap (h.2.2+(IntKind.u64.wrap (((b).length:Int)))))])) (by simp only [List.append_assoc,List.cons_append,List.nil_append,List.append_nil])
 refine nl (sr (bk [0,0,0,8] F H rfl ⟨fld233_1,trivial⟩ fun a F=>?_))
 refine sv F rfl (y_load1 F plain25 rfl rfl (row_at (v:=.slice p2 (h.2.1).length c3) ((H.blk 0 rfl).row) (by simp [List.getElem?_append,icells_length,bcells_length,hl4]))) fun a F=>?_
 refine bb [0] F H rfl fun a F=>?_
 obtain ⟨x6,ex6,hm⟩:=ob hm
 refine s_app wkP F rfl rfl rfl rfl rfl rfl elem25 rfl ex6 H 1 3 rfl rfl fun p5 c5 w a H F=>?_
 refine bk [0,8] F H rfl ⟨fld233_1,trivial⟩ fun a F=>?_
 refine s_store1 wkP F rfl rfl zero25 rfl rfl rfl rfl rfl H 0 rfl (by simp [icells_length,bcells_length,hl4]) fun w H=>?_
 replace H:St w0 w (HP.blk bo0 (icells .u32 h.1++([Value.slice p5 (x6).length c5,Value.int .u64 (IntKind.u64.wrap (h.2.2+(IntKind.u64.wrap (((b).length:Int)))))])) 233::HP.ow rByte 5 p5 c5 x6::HP.row 1 (0) (icells .u32 shaRounds)::HP.sl rByte p1 c1 b::l):=(by have h:=H;simp only [List.set_append,icells_length,bcells_length,hl4] at h;simpa using h)
 refine nl ?_
 replace H:=O_sha_Hasher_s hl4 H
 obtain ⟨p56,c57,hl58,H⟩:=O_sha_Hasher_o (H.pk 0 rfl)
 obtain ⟨r93,er93,hm93⟩:=ob hm;clear hm;revert er93;intro hm
 refine x_mid (fun aa ww=>∃ (p95:Option Addr) (c95:Nat),Fr ⟨52,[]⟩ aa []∧((r93.1).length=8)∧St w0 ww (HP.blk bo0 (icells .u32 r93.1++([Value.slice p95 (r93.2).length c95,Value.int .u64 (((h.1,x6,IntKind.u64.wrap (h.2.2+(IntKind.u64.wrap (((b).length:Int))))).2).2)])) 233::HP.row 1 (0) (icells .u32 shaRounds)::HP.sl rByte p95 c95 r93.2::l)) ?_ ?_
 refine bl ?_
 replace H:=H.frz 1 rfl
 refine x_loopO _ (fun (s118:((List Int)×(List UInt8))) aa ww=>∃ (p120:Option Addr) (c120:Nat),Fr ⟨52,[]⟩ aa [(0,.pointer (some ⟨bo0,0,none⟩))]∧((s118.1).length=8)∧St w0 ww (HP.blk bo0 (icells .u32 s118.1++([Value.slice p120 (s118.2).length c120,Value.int .u64 (((h.1,x6,IntKind.u64.wrap (h.2.2+(IntKind.u64.wrap (((b).length:Int))))).2).2)])) 233::HP.row 1 (0) (icells .u32 shaRounds)::HP.sl rByte p120 c120 s118.2::l)) hm ⟨p56,c57,F.sl rfl,hl58,(H.pm 4 [1,2,0] rfl:)⟩ ?_
 clear F H hm
 rintro s118 a w o ⟨p120,c120,F,hl119,H⟩ hm
 refine sq (sr (bk [0,0,8] F H rfl ⟨fld233_1,trivial⟩ fun a F=>?_))
 refine sv F rfl (y_load1 F plain25 rfl rfl (row_at (v:=.slice p120 (s118.2).length c120) ((H.blk 0 rfl).row) (by simp [List.getElem?_append,icells_length,bcells_length,hl119]))) fun a F=>?_
 refine bk [0,0] F H rfl ⟨⟨_,Tryz.underlying25⟩,trivial⟩ fun a F=>?_
 replace H:=H.nf 3 rfl
 refine nl (cPm F rfl hm (fun hg121 hm=>?_) (fun hg121 hm=>?_))
 refine sk (ct (bl (sq ?_)))
 obtain ⟨x123,ex123,hm⟩:=ob hm
 have hc122:=H.slCap 2 rfl
 replace H:=H.slSubN 1 rfl 2 rfl ex123
 obtain ⟨x125,ex125,hm⟩:=ob hm
 obtain ⟨b124,o124,hp124,H⟩:=H.slRowB 0 rfl (arrO_some ex125).2.1
 refine mix_regionK [12,15] [15] (scL [0,1,2,3,1004,5,6,7,1008,9,10,1011,2012,13,14,3015]) [] H rfl rfl (by kernel_rfl) (by kernel_rfl) fun w H=>?_
 refine mbk [0,0,0,0] F H rfl ⟨fld233_0,trivial⟩ fun a F=>?_
 refine m_read F rfl rfl rfl rfl (y_loadA F agg191 rfl rfl (row_mid (A:=([]:List Value)) (X:=icells .u32 s118.1) (C:=[.slice p120 (s118.2).length c120,.int .u64 (((h.1,x6,IntKind.u64.wrap (h.2.2+(IntKind.u64.wrap (((b).length:Int))))).2).2)]) (w:=_) ((H.blk 2 rfl).row) rfl) ((icells_length _ _).trans hl119)) fun a F=>?_
 refine mbk [0,0,8] F H rfl ⟨fld233_1,trivial⟩ fun a F=>?_
 refine m_read F rfl rfl rfl rfl (y_load1 F plain25 rfl rfl (row_at (v:=.slice p120 (s118.2).length c120) ((H.blk 2 rfl).row) (by simp [List.getElem?_append,icells_length,bcells_length,hl119]))) fun a F=>?_
 refine m_pure F rfl rfl rfl rfl (fun u hu=>y_slH F elem25 rfl rfl rfl ex123 hc122) fun a F=>?_
 refine m_pure F rfl rfl rfl rfl (fun u hu=>y_s2a F Tryz.underlying235 rfl rfl ex125 hp124) fun a F=>?_
 refine mbk [999] F H rfl ⟨rfl,(aggn agg235 ((bcells_length _).trans (arrO_some ex125).1)),trivial⟩ fun a F=>m_heavy rfl rfl ?_
 obtain ⟨x126,ex126,hm⟩:=ob hm
 refine sd F rfl ent122 (w_mix hl119 ((arrO_some ex125).1) ex126 (H.pm 5 [3,0,1,2,3,4] rfl:):) ?_;rintro _ w a ⟨rfl,hl127,H⟩ F
 refine lz ?_;refine ct ⟨⟨_,H⟩,?_⟩
 refine mbk [0,0] F H rfl ⟨fld233_0,trivial⟩ fun a F=>m_last rfl rfl ?_
 refine s_storeF wkP F rfl rfl agg191 rfl rfl rfl H 2 rfl (A:=([]:List Value)) (X:=icells .u32 s118.1) (C:=[.slice p120 (s118.2).length c120,.int .u64 (((h.1,x6,IntKind.u64.wrap (h.2.2+(IntKind.u64.wrap (((b).length:Int))))).2).2)]) rfl rfl ((icells_length _ _).trans hl119) ((icells_length _ _).trans hl127) (icells_flat _ _) fun w H=>?_
 refine lz ?_;refine ct ?_
 refine m_nil (ct (rl (bk [0,0,0,8] F H rfl ⟨fld233_1,trivial⟩ fun a F=>?_)))
 refine sv F rfl (y_load1 F plain25 rfl rfl (row_at (v:=.slice p120 (s118.2).length c120) ((H.blk 2 rfl).row) (by simp [List.getElem?_append,icells_length,bcells_length,hl127]))) fun a F=>?_
 obtain ⟨x129,ex129,hm⟩:=ob hm
 have hc128:=H.slCap 4 rfl
 replace H:=H.slSubN 1 rfl 4 rfl ex129
 refine sv F rfl (y_slL F elem25 rfl rfl rfl ex129 hc128) fun a F=>bk [0,8] F H rfl ⟨fld233_1,trivial⟩ fun a F=>?_
 refine s_store1 wkP F rfl rfl zero25 rfl rfl rfl rfl rfl H 3 rfl (by simp [icells_length,bcells_length,hl127]) fun w H=>?_
 replace H:St w0 w (HP.sl rByte (shp p120 c120 (64:Int).toNat 1) (c120 - (64:Int).toNat) x129::HP.row b124 (o124) (bcells x123)::HP.sl rByte (shp p120 c120 0 1) (c120 - 0) x123::HP.blk bo0 (icells .u32 x126++([Value.slice (shp p120 c120 (64:Int).toNat 1) (x129).length (c120 - (64:Int).toNat),Value.int .u64 (((h.1,x6,IntKind.u64.wrap (h.2.2+(IntKind.u64.wrap (((b).length:Int))))).2).2)])) 233::HP.row 1 (0) (icells .u32 shaRounds)::HP.sl rByte p120 c120 s118.2::l):=(by have h:=H;simp only [List.set_append,icells_length,bcells_length,hl127] at h;simpa using h)
 refine lz (bn (ct ?_));cases hm
 exact ⟨_,rfl,⟨(shp p120 c120 (64:Int).toNat 1),(c120 - (64:Int).toNat),F.sl rfl,hl127,(H.pm 6 [3,4,0] rfl:)⟩⟩
 refine ex (cx (cx ?_));cases hm;refine ⟨_,rfl,?_⟩;rintro rfl
 refine ch (ct ?_)
 exact ⟨p120,c120,F.cut _ trivial,hl119,H⟩
 clear F H hm
 rintro a w ⟨p95,c95,F,hl94,H⟩;have hm:=hm93;clear hm93
 replace H:=O_sha_Hasher_1_s hl94 (H.pm 3 [0,2,1,2] rfl:)
 cases hm
 refine x_end0 F rfl ?_
 exact ⟨_,rfl,rfl,(H.pm 3 [0] rfl:)⟩
theorem agz24:AggT Tryz.prog 24 32 (bcells (List.replicate 32 0)):=⟨by rw [Tryz.underlying24];rfl,by kernel_rfl,by kernel_rfl⟩
theorem build_233_0_1:∀ (s0:List Int) (h0:s0.length=8) (p1:Option Addr) (x1:List UInt8) (c1:Nat),Tryz.prog.built 233 [(0,.agg (icells .u32 s0).toArray),(1,.slice p1 (x1).length c1)]=some ((icells .u32 s0++([Value.slice p1 (x1).length c1,Value.int .u64 (0)]):List Value)).toArray:=fun s0 h0 p1 x1 c1=>match s0,h0 with | [a0_0,a0_1,a0_2,a0_3,a0_4,a0_5,a0_6,a0_7],_=>by kernel_rfl
theorem agz233:AggT Tryz.prog 233 10 (icells .u32 (List.replicate 8 0)++([Value.slice none (([]:List UInt8)).length 0,Value.int .u64 (0)])):=⟨by rw [Tryz.underlying233];rfl,by kernel_rfl,by kernel_rfl⟩
theorem agg233:AggT Tryz.prog 233 10 [.int .u32 0,.int .u32 0,.int .u32 0,.int .u32 0,.int .u32 0,.int .u32 0,.int .u32 0,.int .u32 0,.slice none 0 0,.int .u64 0]:=⟨by rw [Tryz.underlying233];rfl,by kernel_rfl,by kernel_rfl⟩
theorem zero5:Zero1 Tryz.prog 5 (.int .u8 0):=⟨by kernel_rfl,rfl⟩
theorem ent91:En Tryz.prog 91:=enters Tryz.func91 (by kernel_rfl) rfl
theorem arr24:ArrT Tryz.prog 24 5 32 1:=⟨Tryz.underlying24,by kernel_rfl⟩
theorem agg24:AggT Tryz.prog 24 32 (List.replicate 32 (.int .u8 0)):=⟨by rw [Tryz.underlying24];rfl,by kernel_rfl,by kernel_rfl⟩
theorem w_shaHSum {h:T_sha_Hasher_o} {bo0:Nat} {w0 w:World} {l:List HP}  {r:(List UInt8)×T_sha_Hasher_o} (hm:shaHSum h=some r) (H:St w0 w (HP.row 1 (0) (icells .u32 shaRounds)::O_sha_Hasher_1 bo0 h::l)) :
  Calls Tryz.prog 92 [.pointer (some ⟨bo0,0,none⟩)].toArray w (fun e w'=>∃ v,e=.returned v∧v=.agg (bcells r.1).toArray∧((r.1).length=32)∧St w0 w' (O_sha_Hasher_1 bo0 r.2::l)):=by
 unfold shaHSum at hm
 refine x_enter Tryz.func92 rfl rfl rfl ?_
 intro a F
 refine sr (s_allocA wkP F rfl rfl rfl agz24 rfl H fun b2 w a H F=>?_)
 replace H:=H.nf 3 rfl
 refine nl (sq ?_)
 obtain ⟨r17,er17,hm17⟩:=ob hm;clear hm;revert er17;intro hm
 refine x_mid (fun aa ww=>∃ (b18:Nat) (p20:Option Addr) (c20:Nat),Fr ⟨78,[]⟩ aa [(0,.pointer (some ⟨bo0,0,none⟩)),(2,.pointer (some ⟨b2,0,none⟩)),(3,.pointer (some ⟨b18,0,none⟩))]∧((h.1).length=8)∧St w0 ww (HP.blk b2 (bcells (List.replicate 32 0)) 24::HP.row 1 (0) (icells .u32 shaRounds)::O_sha_Hasher_1 bo0 h::HP.blk b18 (icells .u32 h.1++([Value.slice p20 (r17).length c20,Value.int .u64 (0)])) 233::HP.ow rByte 5 p20 c20 r17::l)) ?_ ?_
 obtain ⟨p21,c22,hl23,H⟩:=O_sha_Hasher_1_o (H.pk 2 rfl)
 refine mix_region [4,9,11,12] [12] (.step 0 0 (.step 0 1 (.step 0 2 (.step 0 3 (.step 0 5 (.step 0 6 (.step 0 7 (.step 0 8 (.fork 4 (.fork 9 (.step 0 10 (.step 2 11 (.step 3 12 .done))) 11 (.step 2 9 (.step 0 10 (.step 3 12 .done)))) 11 (.step 2 4 (.step 2 9 (.step 0 10 (.step 3 12 .done))))))))))))) (fun u=>∃ ls,St w0 u (HP.blk bo0 (icells .u32 h.1++([Value.slice p21 (h.2.1).length c22,Value.int .u64 (h.2.2)])) 233::ls)) (by kernel_rfl) (by kernel_rfl) ⟨_,H.drew⟩ ?_
 replace H:=H.drew
 generalize w.drew=w at H ⊢
 refine mbk [0,0,0] F H rfl ⟨fld233_0,trivial⟩ fun a F=>?_
 refine m_pure F rfl rfl rfl rfl (fun u hu=>y_loadA F agg191 rfl rfl (row_mid (A:=([]:List Value)) (X:=icells .u32 h.1) (C:=[.slice p21 (h.2.1).length c22,.int .u64 (h.2.2)]) (w:=_) ((hu.choose_spec.blk 0 rfl).row) rfl) ((icells_length _ _).trans hl23)) fun a F=>?_
 refine mbk [0,0,8] F H rfl ⟨fld233_1,trivial⟩ fun a F=>?_
 refine m_pure F rfl rfl rfl rfl (fun u hu=>y_load1 F plain25 rfl rfl (row_at (v:=.slice p21 (h.2.1).length c22) ((hu.choose_spec.blk 0 rfl).row) (by simp [List.getElem?_append,icells_length,bcells_length,hl23]))) fun a F=>?_
 refine m_fork rfl rfl rfl rfl ?_ ?_
 refine m_heavy rfl rfl (s_build0O (R:=rByte) wkP F rfl rfl rfl elem25 rfl H fun b24 w a H F=>?_)
 refine lz ?_;refine ct ⟨⟨_,(H.pm 5 [1,0,2,3,4] rfl:)⟩,?_⟩
 refine m_fork rfl rfl rfl rfl ?_ ?_
 refine m_heavy rfl rfl ?_
 obtain ⟨x26,ex26,hm⟩:=ob hm
 refine s_app wkP F rfl rfl rfl rfl rfl rfl elem25 rfl ex26 H 0 2 rfl rfl fun p25 c25 w a H F=>?_
 refine lz ?_;refine ct ⟨⟨_,(H.pm 5 [1,0,2,3,4] rfl:)⟩,?_⟩
 refine m_pure F rfl rfl rfl rfl (fun u hu=>y_build F rfl rfl (cs:=icells .u32 h.1++([Value.slice p25 (x26).length c25,Value.int .u64 (0)])) (build_233_0_1 h.1 hl23 p25 x26 c25)) fun a F=>?_
 refine m_heavy rfl rfl ?_
 replace H:=H.owNil rByte 5
 refine s_allocA wkP F rfl rfl rfl agz233 rfl H fun b27 w a H F=>?_
 refine lz ?_;refine ct ⟨⟨_,(H.pm 7 [3,0,1,2,4,5,6] rfl:)⟩,?_⟩
 refine m_last rfl rfl ?_
 refine s_storeA wkP F rfl rfl agg233 rfl rfl rfl H 0 rfl (by simp only [List.length_append,List.length_cons,List.length_nil,icells_length,bcells_length,hl23]) (by simp only [List.length_append,List.length_cons,List.length_nil,icells_length,bcells_length,(List.length_replicate (n:=8))]) (by intro v hv;simp only [List.mem_append,List.mem_cons,List.not_mem_nil,or_false] at hv;first | (rcases hv with h | h<;>first | (subst h;rfl) | exact bcells_flat _ _ h | exact icells_flat _ _ _ h | (rcases h with h | h<;>first | (subst h;rfl) | exact bcells_flat _ _ h | exact icells_flat _ _ _ h | (rcases h with h | h<;>first | (subst h;rfl) | exact bcells_flat _ _ h | (rcases h with h | h<;>first | (subst h;rfl) | (rcases h with h | h<;>(subst h;rfl)))))) | (subst hv;rfl)) fun w H=>?_
 refine lz ?_;refine ct ?_
 refine m_nil ?_
 replace H:=O_sha_Hasher_1_s hl23 (H.pm 7 [3,4,0,1,2,4,5,6] rfl:)
 cases hm
 refine ct ?_
 exact ⟨b27,p25,c25,F.sl rfl,hl23,(H.pm 7 [5,6,0,1,3] rfl:)⟩
 refine m_heavy rfl rfl ?_
 replace H:=H.owNil rByte 5
 refine s_allocA wkP F rfl rfl rfl agz233 rfl H fun b28 w a H F=>?_
 refine lz ?_;refine ct ⟨⟨_,(H.pm 7 [3,0,1,2,4,5,6] rfl:)⟩,?_⟩
 refine m_heavy rfl rfl ?_
 obtain ⟨x30,ex30,hm⟩:=ob hm
 refine s_app wkP F rfl rfl rfl rfl rfl rfl elem25 rfl ex30 H 2 4 rfl rfl fun p29 c29 w a H F=>?_
 refine lz ?_;refine ct ⟨⟨_,(H.pm 7 [3,0,1,2,4,5,6] rfl:)⟩,?_⟩
 refine m_pure F rfl rfl rfl rfl (fun u hu=>y_build F rfl rfl (cs:=icells .u32 h.1++([Value.slice p29 (x30).length c29,Value.int .u64 (0)])) (build_233_0_1 h.1 hl23 p29 x30 c29)) fun a F=>?_
 refine m_last rfl rfl ?_
 refine s_storeA wkP F rfl rfl agg233 rfl rfl rfl H 0 rfl (by simp only [List.length_append,List.length_cons,List.length_nil,icells_length,bcells_length,hl23]) (by simp only [List.length_append,List.length_cons,List.length_nil,icells_length,bcells_length,(List.length_replicate (n:=8))]) (by intro v hv;simp only [List.mem_append,List.mem_cons,List.not_mem_nil,or_false] at hv;first | (rcases hv with h | h<;>first | (subst h;rfl) | exact bcells_flat _ _ h | exact icells_flat _ _ _ h | (rcases h with h | h<;>first | (subst h;rfl) | exact bcells_flat _ _ h | exact icells_flat _ _ _ h | (rcases h with h | h<;>first | (subst h;rfl) | exact bcells_flat _ _ h | (rcases h with h | h<;>first | (subst h;rfl) | (rcases h with h | h<;>(subst h;rfl)))))) | (subst hv;rfl)) fun w H=>?_
 refine lz ?_;refine ct ?_
 refine m_nil ?_
 replace H:=O_sha_Hasher_1_s hl23 (H.pm 7 [3,4,0,1,2,4,5,6] rfl:)
 cases hm
 refine ct ?_
 exact ⟨b28,p29,c29,F.sl rfl,hl23,(H.pm 7 [5,6,0,1,3] rfl:)⟩
 refine m_heavy rfl rfl ?_
 replace H:=H.owNil rByte 5
 refine s_allocA wkP F rfl rfl rfl agz233 rfl H fun b31 w a H F=>?_
 refine lz ?_;refine ct ⟨⟨_,(H.pm 6 [2,0,1,3,4,5] rfl:)⟩,?_⟩
 refine m_heavy rfl rfl (s_build0O (R:=rByte) wkP F rfl rfl rfl elem25 rfl H fun b32 w a H F=>?_)
 refine lz ?_;refine ct ⟨⟨_,(H.pm 7 [3,0,1,2,4,5,6] rfl:)⟩,?_⟩
 refine m_heavy rfl rfl ?_
 obtain ⟨x34,ex34,hm⟩:=ob hm
 refine s_app wkP F rfl rfl rfl rfl rfl rfl elem25 rfl ex34 H 0 4 rfl rfl fun p33 c33 w a H F=>?_
 refine lz ?_;refine ct ⟨⟨_,(H.pm 7 [3,0,1,2,4,5,6] rfl:)⟩,?_⟩
 refine m_pure F rfl rfl rfl rfl (fun u hu=>y_build F rfl rfl (cs:=icells .u32 h.1++([Value.slice p33 (x34).length c33,Value.int .u64 (0)])) (build_233_0_1 h.1 hl23 p33 x34 c33)) fun a F=>?_
 refine m_last rfl rfl ?_
 refine s_storeA wkP F rfl rfl agg233 rfl rfl rfl H 1 rfl (by simp only [List.length_append,List.length_cons,List.length_nil,icells_length,bcells_length,hl23]) (by simp only [List.length_append,List.length_cons,List.length_nil,icells_length,bcells_length,(List.length_replicate (n:=8))]) (by intro v hv;simp only [List.mem_append,List.mem_cons,List.not_mem_nil,or_false] at hv;first | (rcases hv with h | h<;>first | (subst h;rfl) | exact bcells_flat _ _ h | exact icells_flat _ _ _ h | (rcases h with h | h<;>first | (subst h;rfl) | exact bcells_flat _ _ h | exact icells_flat _ _ _ h | (rcases h with h | h<;>first | (subst h;rfl) | exact bcells_flat _ _ h | (rcases h with h | h<;>first | (subst h;rfl) | (rcases h with h | h<;>(subst h;rfl)))))) | (subst hv;rfl)) fun w H=>?_
 refine lz ?_;refine ct ?_
 refine m_nil ?_
 replace H:=O_sha_Hasher_1_s hl23 (H.pm 7 [3,4,0,1,2,4,5,6] rfl:)
 cases hm
 refine ct ?_
 exact ⟨b31,p33,c33,F.sl rfl,hl23,(H.pm 7 [5,6,0,2,1] rfl:)⟩
 clear F H hm
 rintro a w ⟨b18,p20,c20,F,hl19,H⟩;have hm:=hm17;clear hm17
 refine ct (sr ?_)
 obtain ⟨x36,ex36,hm⟩:=ob hm
 refine s_buildC wkP F rfl rfl rfl elem25 zero5 rfl rfl rfl rfl (by simp [Value.cells]) (by decide) H fun b35 w a H F=>?_
 replace H:=H.blkOw1 (R:=rByte) (x:=x36) (fun gg=>(congrArg (fun z=>[Value.int .u8 z]) (u8O_some ex36).symm))
 refine bb [0] F H rfl fun a F=>?_
 replace H:=H.nf 6 rfl
 refine nl (sq (xm2 6 [0,2,3] [1,2,3,4,5] F H hm rfl rfl (fun r68 (p69:Option Addr) (c69:Nat) z=>(4,.slice p69 (r68).length c69)::z) (fun r68 p69 c69 z=>HP.ow rByte 5 p69 c69 r68::z) (fun r68 hm=>?_) (fun r68 a w hm p69 c69 F H=>?_)))
 refine bl (xl2 6 [0,2,3] [1,2,3,4,5] F H hm rfl rfl (fun (s90:(List UInt8)) (p91:Option Addr) (c91:Nat) z=>(4,.slice p91 (s90).length c91)::z) (fun s90 p91 c91 z=>HP.ow rByte 5 p91 c91 s90::z) ⟨(some ⟨b35,0,none⟩),([x36]).length,F.sl rfl,H⟩ (fun s90 a w o p91 c91 F H hm=>sq (sr (bk [0,0,8] F H rfl ⟨fld233_1,trivial⟩ fun a F=>?_))))
 obtain ⟨p92,c93,hl94,H⟩:=O_sha_Hasher_1_o (H.pk 3 rfl)
 refine sv F rfl (y_load1 F plain25 rfl rfl (row_at (v:=.slice p92 (h.2.1).length c93) ((H.blk 0 rfl).row) (by simp [List.getElem?_append,icells_length,bcells_length,hl94]))) fun a F=>?_
 refine bk (List.replicate 5 0) F H rfl ⟨⟨_,Tryz.underlying25⟩,⟨_,Tryz.underlying25⟩,trivial⟩ fun a F=>?_
 obtain ⟨x95,ex95,hm⟩:=ob hm
 refine sv F rfl (i_rem F rfl rfl rfl ex95) fun a F=>bb [0] F H rfl fun a F=>?_
 refine nl (cNm F rfl hm (fun hg96 hm=>?_) (fun hg96 hm=>?_))
 refine sk (ct (bl (rl (bb [0] F H rfl fun a F=>?_))))
 obtain ⟨x98,ex98,hm⟩:=ob hm
 refine s_buildC wkP F rfl rfl rfl elem25 zero5 rfl rfl rfl rfl (by simp [Value.cells]) (by decide) H fun b97 w a H F=>?_
 replace H:=H.blkOw1 (R:=rByte) (x:=x98) (fun gg=>(congrArg (fun z=>[Value.int .u8 z]) (u8O_some ex98).symm))
 replace H:=H.frz 0 rfl
 obtain ⟨x100,ex100,hm⟩:=ob hm
 refine s_app wkP F rfl rfl rfl rfl rfl rfl elem25 rfl ex100 H 3 0 rfl rfl fun p99 c99 w a H F=>?_
 refine bb [0] F H rfl fun a F=>?_
 replace H:=H.nf 8 rfl
 refine lz (bn ?_)
 replace H:=O_sha_Hasher_1_s hl94 (H.pm 8 [1,2,0,2,3,4,5,6,7] rfl:)
 refine ct ?_;cases hm
 exact ⟨_,rfl,⟨p99,c99,F.sl rfl,(H.pm 8 [3,4,5,0,6,7] rfl:)⟩⟩
 refine ex (cx (cx ?_));cases hm;refine ⟨_,rfl,?_⟩;rintro rfl
 refine ch ?_
 replace H:=O_sha_Hasher_1_s hl94 (H.pm 7 [0,1,1,2,3,4,5,6] rfl:)
 refine ct ?_
 exact ⟨p91,c91,F.sl rfl,(H.pm 7 [2,3,4,0,5,6] rfl:)⟩
 refine ct (sr (bk [0,0,9] F H rfl ⟨fld233_2,trivial⟩ fun a F=>?_))
 obtain ⟨p101,c102,hl103,H⟩:=O_sha_Hasher_1_o (H.pk 3 rfl)
 refine sv F rfl (y_load1 F plain22 rfl rfl ((row_midAE (n:=9) (A:=icells .u32 h.1++([Value.slice p101 (h.2.1).length c102])) (X:=[.int .u64 (h.2.2)]) ((H.blk 0 rfl).row) (by simp only [List.append_assoc,List.cons_append,List.nil_append]) (by simp only [List.length_append,List.length_cons,List.length_nil,icells_length,bcells_length,hl103])) 0 _ rfl)) fun a F=>bb [0,0] F H rfl fun a F=>nl (sq (sb [0] F H rfl fun a F=>nl ?_))
 replace H:=O_sha_Hasher_1_s hl103 (H.pm 7 [0,1,1,2,3,4,5,6] rfl:)
 refine xm2 7 [2,3] [0,3,4,5,6] F H hm rfl rfl (fun r126 (p127:Option Addr) (c127:Nat) z=>(4,.slice p127 (r126).length c127)::z) (fun r126 p127 c127 z=>HP.ow rByte 5 p127 c127 r126::z) (fun r126 hm=>?_) (fun r126 a w hm p127 c127 F H=>?_)
 refine bl (xl2 7 [2,3,5] [0,3,4,5,6] F H hm rfl rfl (fun (s142:(List UInt8)×Int) (p143:Option Addr) (c143:Nat) z=>(4,.slice p143 (s142.1).length c143)::(6,.int .i64 (s142.2))::z) (fun s142 p143 c143 z=>HP.ow rByte 5 p143 c143 s142.1::z) ⟨p69,c69,F.sl rfl,(H.pm 7 [2,0,3,4,5,6] rfl:)⟩ (fun s142 a w o p143 c143 F H hm=>sq (sb [0,0] F H rfl fun a F=>?_)))
 refine nl (cPm F rfl hm (fun hg144 hm=>?_) (fun hg144 hm=>?_))
 refine sk (ct (sq (bl (rl (bb [0,0,0,0] F H rfl fun a F=>?_)))))
 obtain ⟨x145,ex145,hm⟩:=ob hm
 refine sv F rfl (i_shrO F rfl rfl rfl ex145) fun a F=>bk [1] F H rfl ⟨Tryz.underlying22,Tryz.underlying5,trivial⟩ fun a F=>?_
 obtain ⟨x147,ex147,hm⟩:=ob hm
 refine s_buildC wkP F rfl rfl rfl elem25 zero5 rfl rfl rfl rfl (by simp [Value.cells]) (by decide) H fun b146 w a H F=>?_
 replace H:=H.blkOw1 (R:=rByte) (x:=x147) (fun gg=>(congrArg (fun z=>[Value.int .u8 z]) (u8O_some ex147).symm))
 replace H:=H.frz 0 rfl
 obtain ⟨x149,ex149,hm⟩:=ob hm
 refine s_app wkP F rfl rfl rfl rfl rfl rfl elem25 rfl ex149 H 1 0 rfl rfl fun p148 c148 w a H F=>?_
 refine bb [0] F H rfl fun a F=>?_
 replace H:=H.nf 7 rfl
 refine lz (bn (ct (rl (bb [0,0,0] F H rfl fun a F=>?_))))
 refine lz (ct ?_);cases hm
 exact ⟨_,rfl,⟨p148,c148,F.sl rfl,(H.pm 7 [1,2,3,4,5,6] rfl:)⟩⟩
 refine ex (cx (cx ?_));cases hm;refine ⟨_,rfl,?_⟩;rintro rfl
 refine ch (ct ?_)
 exact ⟨p143,c143,F.sl rfl,H⟩
 refine ct (sb [0] F H rfl fun a F=>?_)
 replace H:=O_sha_Hasher_s hl19 (H.pm 6 [4,5,0,1,2,3] rfl:)
 replace H:=H.frz 1 rfl
 obtain ⟨x150,ex150,hm⟩:=ob hm
 refine sd F rfl ent91 (w_shaAdd ex150 (H.pm 5 [4,1,0,0,2,3,4] rfl:):) ?_;rintro _ w a ⟨rfl,H⟩ F
 replace H:=H.nf 5 rfl
 refine nl (sq (sr (bk [0] F H rfl ⟨fld233_0,trivial⟩ fun a F=>?_)))
 obtain ⟨p151,c152,hl153,H⟩:=O_sha_Hasher_1_o (H.pk 0 rfl)
 refine sv F rfl (y_loadA F agg191 rfl rfl (row_mid (A:=([]:List Value)) (X:=icells .u32 x150.1) (C:=[.slice p151 (x150.2.1).length c152,.int .u64 (x150.2.2)]) (w:=_) ((H.blk 0 rfl).row) rfl) ((icells_length _ _).trans hl153)) fun a F=>bb [0] F H rfl fun a F=>nl ?_
 replace H:=O_sha_Hasher_1_s hl153 (H.pm 6 [0,1,1,2,3,4,5] rfl:)
 obtain ⟨r284,er284,hm284⟩:=ob hm;clear hm;revert er284;intro hm
 refine x_mid (fun aa ww=>Fr ⟨78,[]⟩ aa [(2,.pointer (some ⟨b2,0,none⟩))]∧((r284).length=32)∧St w0 ww (O_sha_Hasher_1 b18 x150::O_sha_Hasher_1 bo0 h::HP.blk b2 (bcells r284) 24::HP.row 1 (0) (icells .u32 shaRounds)::l)) ?_ ?_
 refine bl ?_
 refine x_loopO _ (fun (s372:(List UInt8)×Int) aa ww=>Fr ⟨78,[]⟩ aa [(2,.pointer (some ⟨b2,0,none⟩)),(56,.agg (icells .u32 x150.1).toArray),(57,.int .i64 (s372.2))]∧((s372.1).length=32)∧St w0 ww (O_sha_Hasher_1 b18 x150::O_sha_Hasher_1 bo0 h::HP.blk b2 (bcells s372.1) 24::HP.row 1 (0) (icells .u32 shaRounds)::l)) hm ⟨F.sl rfl,(List.length_replicate (n:=32)),(H.pm 6 [0,3,4,5] rfl:)⟩ ?_
 clear F H hm
 rintro s372 a w o ⟨F,hl373,H⟩ hm
 refine sb [0] F H rfl fun a F=>?_
 refine nl (sq (cPm F rfl hm (fun hg374 hm=>?_) (fun hg374 hm=>?_)))
 refine sk (ct (sq (bl (sb [0] F H rfl fun a F=>?_))))
 obtain ⟨x375,ex375,hm⟩:=ob hm
 refine sv F rfl (y_idxV F arr191 plain188 rfl rfl rfl (icells_idx ex375) ((icells_length _ _).trans hl153)) fun a F=>bb [0,0] F H rfl fun a F=>nb [0] F H rfl fun a F=>nl ?_
 obtain ⟨r395,er395,hm395⟩:=ob hm;clear hm;revert er395;intro hm
 refine x_mid (fun aa ww=>Fr ⟨78,[]⟩ aa [(2,.pointer (some ⟨b2,0,none⟩)),(56,.agg (icells .u32 x150.1).toArray),(57,.int .i64 (s372.2))]∧((r395).length=32)∧St w0 ww (O_sha_Hasher_1 b18 x150::O_sha_Hasher_1 bo0 h::HP.blk b2 (bcells r395) 24::HP.row 1 (0) (icells .u32 shaRounds)::l)) ?_ ?_
 refine bl ?_
 refine x_loopO _ (fun (s409:(List UInt8)×Int) aa ww=>Fr ⟨78,[]⟩ aa [(2,.pointer (some ⟨b2,0,none⟩)),(7,.int .i64 (s372.2)),(8,.int .u32 (x375)),(56,.agg (icells .u32 x150.1).toArray),(57,.int .i64 (s372.2)),(61,.int .i64 (s409.2))]∧((s409.1).length=32)∧St w0 ww (O_sha_Hasher_1 b18 x150::O_sha_Hasher_1 bo0 h::HP.blk b2 (bcells s409.1) 24::HP.row 1 (0) (icells .u32 shaRounds)::l)) hm ⟨F.sl rfl,hl373,H⟩ ?_
 clear F H hm
 rintro s409 a w o ⟨F,hl410,H⟩ hm
 refine sb [0] F H rfl fun a F=>?_
 refine nl (sq (cPm F rfl hm (fun hg411 hm=>?_) (fun hg411 hm=>?_)))
 refine sk (ct (sq (bl (sb [0,0] F H rfl fun a F=>nl (rl (bb (List.replicate 8 0) F H rfl fun a F=>?_))))))
 obtain ⟨x412,ex412,hm⟩:=ob hm
 refine sv F rfl (i_shrO F rfl rfl rfl ex412) fun a F=>bk [1] F H rfl ⟨Tryz.underlying188,Tryz.underlying5,trivial⟩ fun a F=>?_
 obtain ⟨x413,ex413,hm⟩:=ob hm
 refine sv F rfl (y_idxA F arr24 rfl rfl rfl ex413 hl410) fun a F=>?_
 obtain ⟨x415,ex415,hm⟩:=ob hm
 refine s_stB wkP F rfl rfl zero5 rfl rfl rfl ex415 H 2 rfl ex413 fun w H=>?_
 replace H:=H.nf 4 rfl
 refine lz (bn (ct (rl (bb [0,0] F H rfl fun a F=>?_))))
 refine lz (ct ?_);cases hm
 exact ⟨_,rfl,⟨F.sl rfl,((List.length_set ..).trans hl410),H⟩⟩
 refine ex (cx (cx ?_));cases hm;refine ⟨_,rfl,?_⟩;rintro rfl
 refine ch (ct ?_)
 exact ⟨F.sl rfl,hl410,H⟩
 clear F H hm
 rintro a w ⟨F,hl396,H⟩;have hm:=hm395;clear hm395
 refine bn (ct (rl (bb [0,0] F H rfl fun a F=>?_)))
 refine lz (ct ?_);cases hm
 exact ⟨_,rfl,⟨F.sl rfl,hl396,H⟩⟩
 refine ex (cx (cx ?_));cases hm;refine ⟨_,rfl,?_⟩;rintro rfl
 refine ch (ct ?_)
 exact ⟨F.sl rfl,hl373,H⟩
 clear F H hm
 rintro a w ⟨F,hl285,H⟩;have hm:=hm284;clear hm284
 refine ct (sr (bk [2999] F H rfl ⟨rfl,(aggn agg24 ((bcells_length _).trans hl285)),trivial⟩ fun a F=>s_storeA wkP F rfl rfl agg24 rfl rfl rfl H 2 rfl ((bcells_length _).trans hl285) ((bcells_length _).trans hl285) (bcells_flat _) fun w H=>?_))
 replace H:=H.nf 4 rfl
 refine nl (wr ?_)
 cases hm
 refine x_resC1 F rfl (⟨_,rfl,agg24.run_load (H.blk 2 rfl).row ((bcells_length _).trans hl285)⟩) ?_
 exact ⟨_,rfl,rfl,hl285,(H.pm 4 [1] rfl:)⟩
theorem ent90:En Tryz.prog 90:=enters Tryz.func90 (by kernel_rfl) rfl
theorem ent92:En Tryz.prog 92:=enters Tryz.func92 (by kernel_rfl) rfl
theorem w_shaSum {b:List UInt8} {p1:Option Addr} {c1:Nat} {w0 w:World} {l:List HP}  {r:(List UInt8)} (hm:shaSum b=some r) (H:St w0 w (HP.row 0 (0) (icells .u32 shaStart)::HP.row 1 (0) (icells .u32 shaRounds)::HP.sl rByte p1 c1 b::l)) :
  Calls Tryz.prog 67 [.slice p1 (b).length c1].toArray w (fun e w'=>∃ v,e=.returned v∧v=.agg (bcells r).toArray∧((r).length=32)∧St w0 w' (l)):=by
 unfold shaSum at hm
 refine x_enter Tryz.func67 rfl rfl rfl ?_
 intro a F
 refine sr (s_allocA wkP F rfl rfl rfl agz24 rfl H fun b3 w a H F=>?_)
 replace H:=H.nf 4 rfl
 refine nl (sr ?_)
 obtain ⟨x4,ex4,hm⟩:=ob hm
 refine sd F rfl ent90 (w_shaNew ex4 (H.pm 4 [1,0,1,2,3] rfl:):) ?_;rintro _ w a ⟨b5,rfl,H⟩ F
 refine bb [0] F H rfl fun a F=>?_
 replace H:=H.nf 5 rfl
 refine nb [0,0] F H rfl fun a F=>?_
 obtain ⟨x6,ex6,hm⟩:=ob hm
 refine sd F rfl ent91 (w_shaAdd ex6 (H.pm 5 [3,0,4,1,2,3,4] rfl:):) ?_;rintro _ w a ⟨rfl,H⟩ F
 replace H:=H.nf 5 rfl
 refine nb [0] F H rfl fun a F=>?_
 obtain ⟨x7,ex7,hm⟩:=ob hm
 refine sd F rfl ent92 (w_shaHSum ex7 (H.pm 5 [3,0,1,2,3,4] rfl:):) ?_;rintro _ w a ⟨rfl,hl8,H⟩ F
 refine s_storeA wkP F rfl rfl agg24 rfl rfl rfl H 1 rfl ((bcells_length _).trans hl8) ((bcells_length _).trans (List.length_replicate (n:=32))) (bcells_flat _) fun w H=>?_
 replace H:=H.nf 5 rfl
 refine nl (wr ?_)
 cases hm
 refine x_resC1 F rfl (⟨_,rfl,agg24.run_load (H.blk 1 rfl).row ((bcells_length _).trans hl8)⟩) ?_
 exact ⟨_,rfl,rfl,hl8,(H.pm 5 [] rfl:)⟩
set_option maxRecDepth 100000
set_option maxHeartbeats 4000000
theorem w_cloneB {s:List UInt8} {p1:Option Addr} {c1:Nat} {w0 w:World} {l:List HP}  {r:(List UInt8)} (hm:cloneB s=some r) (H:St w0 w (HP.sl rByte p1 c1 s::l)) :
  Calls Tryz.prog 53 [.slice p1 (s).length c1].toArray w (fun e w'=>∃ v,e=.returned v∧∃ (p2:Option Addr) (c2:Nat),v=.slice p2 (r).length c2∧St w0 w' (HP.ow rByte 5 p2 c2 r::l)):=by
 unfold cloneB at hm
 refine x_enter Tryz.func53 rfl rfl rfl ?_
 intro a F
 refine sb [0] F H rfl fun a F=>nl (sq (sb [0] F H rfl fun a F=>?_))
 obtain _ | ad:=p1
 obtain ⟨hx0,hc0⟩:=H.slNone 0 rfl;subst hc0;try subst hx0
 replace H:=H.dp 0 rfl
 refine sv F rfl (y_eqNil F rfl Tryz.underlying25 rfl rfl (by simp)) fun a F=>nl (cT F rfl (sb [0] F H rfl fun a F=>nl (wr (tr ?_))))
 replace H:=H.owNil rByte 5
 cases hm
 refine x_ret1 F rfl rfl ?_
 exact ⟨_,rfl,none,0,rfl,H⟩
 refine sv F rfl (y_eqSome F rfl Tryz.underlying25 rfl rfl (by simp)) fun a F=>nl (cF F rfl (sk (ct (sr (s_build0O (R:=rByte) wkP F rfl rfl rfl elem25 rfl H fun b3 w a H F=>bb [0] F H rfl fun a F=>?_)))))
 obtain ⟨x5,ex5,hm⟩:=ob hm
 refine s_app wkP F rfl rfl rfl rfl rfl rfl elem25 rfl ex5 H 0 1 rfl rfl fun p4 c4 w a H F=>?_
 refine bb [0] F H rfl fun a F=>?_
 replace H:=H.nf 2 rfl
 refine nl (wr ?_)
 cases hm
 refine x_ret1 F rfl rfl ?_
 exact ⟨_,rfl,p4,c4,rfl,(H.pm 2 [0] rfl:)⟩
theorem fld74_0:FieldT Tryz.prog 74 0 0:=by unfold FieldT;rw [Tryz.underlying74];kernel_rfl
theorem w_penRaw {p:T_pack_Pen_o} {b:List UInt8} {bo0:Nat} {p1:Option Addr} {c1:Nat} {w0 w:World} {l:List HP}  {r:T_pack_Pen_o} (hm:penRaw p b=some r) (H:St w0 w (O_pack_Pen bo0 p::HP.sl rByte p1 c1 b::l)) :
  Calls Tryz.prog 18 [.pointer (some ⟨bo0,0,none⟩),.slice p1 (b).length c1].toArray w (fun e w'=>∃ v,e=.returned v∧v=.tuple [].toArray∧St w0 w' (O_pack_Pen bo0 r::l)):=by
 unfold penRaw at hm
 refine x_enter Tryz.func18 rfl rfl rfl ?_
 intro a F
 refine rl (bk [0,0,0,0] F H rfl ⟨fld74_0,trivial⟩ fun a F=>?_)
 obtain ⟨p2,c3,H⟩:=O_pack_Pen_o (H.pk 0 rfl)
 refine bk [0,0] F H rfl ⟨rfl,plain25,trivial⟩ fun a F=>?_
 obtain ⟨x5,ex5,hm⟩:=ob hm
 refine s_app wkP F rfl rfl rfl rfl rfl rfl elem25 rfl ex5 H 1 2 rfl rfl fun p4 c4 w a H F=>?_
 refine bk [0,0] F H rfl ⟨fld74_0,trivial⟩ fun a F=>s_st1 wkP F rfl rfl zero25 rfl rfl rfl rfl rfl H 0 rfl rfl fun w H=>?_
 replace H:=H.nf 3 rfl
 refine lz ?_
 replace H:=O_pack_Pen_s H
 cases hm
 refine x_end0 F rfl ?_
 exact ⟨_,rfl,rfl,(H.pm 2 [0] rfl:)⟩
theorem w_penUint {p:T_pack_Pen_o} {n:Int} {size:Int} {bo0:Nat} {w0 w:World} {l:List HP}  {r:Int×T_pack_Pen_o} (hm:penUint p n size=some r) (H:St w0 w (O_pack_Pen bo0 p::l)) :
  Calls Tryz.prog 19 [.pointer (some ⟨bo0,0,none⟩),.int .u64 (n),.int .i64 (size)].toArray w (fun e w'=>∃ v,e=.returned v∧v=.int .i64 (r.1)∧St w0 w' (O_pack_Pen bo0 r.2::l)):=by
 unfold penUint at hm
 refine x_enter Tryz.func19 rfl rfl rfl ?_
 intro a F
 refine sb [0] F H rfl fun a F=>nl (sq (sb [0,0,0] F H rfl fun a F=>?_))
 rcases spP 10 F rfl hm with ⟨hg1,hm,F⟩ | ⟨hg1,hm,F⟩
 refine bb (List.replicate 14 0) F H rfl fun a F=>nl (cT F rfl (sb [0] F H rfl fun a F=>nl (wr (tr ?_))))
 cases hm
 refine x_ret1 F rfl rfl ?_
 exact ⟨_,rfl,rfl,H⟩
 refine bb [0,0,0,0] F H rfl fun a F=>?_
 rcases spP 14 F rfl hm with ⟨hg2,hm,F⟩ | ⟨hg2,hm,F⟩
 refine bb (List.replicate 10 0) F H rfl fun a F=>nl (cT F rfl (sb [0] F H rfl fun a F=>nl (wr (tr ?_))))
 cases hm
 refine x_ret1 F rfl rfl ?_
 exact ⟨_,rfl,rfl,H⟩
 refine bb [0,0,0] F H rfl fun a F=>?_
 rcases spP 17 F rfl hm with ⟨hg3,hm,F⟩ | ⟨hg3,hm,F⟩
 refine bb [0,0,0] F H rfl fun a F=>g_onP F rfl rfl rfl rfl ?_
 obtain ⟨x4,ex4,hm⟩:=ob hm
 refine sv F rfl (i_shrO F rfl rfl rfl ex4) fun a F=>bb [0,0,0] F H rfl fun a F=>?_
 refine nl (cPm F rfl hm (fun hg5 hm=>?_) (fun hg5 hm=>?_))
 refine sb [0] F H rfl fun a F=>nl (wr (tr ?_))
 cases hm
 refine x_ret1 F rfl rfl ?_
 exact ⟨_,rfl,rfl,H⟩
 refine sk (ct (sq (sb [0,0,0] F H rfl fun a F=>?_)))
 refine nl (xm0 1 [] [] F H hm rfl rfl (fun r31 z=>z) (fun r31 z=>O_pack_Pen bo0 r31::z) (fun r31 hm=>?_) (fun r31 a w hm F H=>?_))
 refine bl (xl0 1 [0,1] [] F H hm rfl rfl (fun (s48:T_pack_Pen_o×Int) z=>(7,.int .i64 (s48.2))::z) (fun s48 z=>O_pack_Pen bo0 s48.1::z) ⟨F.sl rfl,H⟩ (fun s48 a w o F H hm=>sq (sb [0,0] F H rfl fun a F=>?_)))
 refine nl (cPm F rfl hm (fun hg49 hm=>?_) (fun hg49 hm=>?_))
 refine sk (ct (sq (bl ?_)))
 obtain ⟨p50,c51,H⟩:=O_pack_Pen_o (H.pk 0 rfl)
 obtain ⟨x52,ex52,hm⟩:=ob hm
 refine mix_regionK [10,11,14] [14] (scL [0,1,2,3,4,5,6,7,8,9,2010,2011,12,13,3014]) [0] H rfl rfl (by kernel_rfl) (by kernel_rfl) fun w H=>?_
 refine mbk [0,0,0,0] F H rfl ⟨fld74_0,trivial⟩ fun a F=>?_
 refine m_pure F rfl rfl rfl rfl (fun u hu=>y_load1 F plain25 rfl rfl (row_at (v:=.slice p50 (s48.1).length c51) ((hu.choose_spec.blk 0 rfl).row) rfl)) fun a F=>?_
 refine mb [0,0,0] F H rfl fun a F=>?_
 refine m_pure F rfl rfl rfl rfl (fun u hu=>i_shrO F rfl rfl rfl ex52) fun a F=>?_
 refine mbk [1] F H rfl ⟨Tryz.underlying22,Tryz.underlying5,trivial⟩ fun a F=>m_heavy rfl rfl ?_
 obtain ⟨x54,ex54,hm⟩:=ob hm
 refine s_buildC wkP F rfl rfl rfl elem25 zero5 rfl rfl rfl rfl (by simp [Value.cells]) (by decide) H fun b53 w a H F=>?_
 replace H:=H.blkOw1 (R:=rByte) (x:=x54) (fun gg=>(congrArg (fun z=>[Value.int .u8 z]) (u8O_some ex54).symm))
 refine lz ?_;refine ct ⟨⟨_,(H.pm 3 [1,0,2] rfl:)⟩,?_⟩
 refine m_heavy rfl rfl ?_
 replace H:=H.frz 0 rfl
 obtain ⟨x56,ex56,hm⟩:=ob hm
 refine s_app wkP F rfl rfl rfl rfl rfl rfl elem25 rfl ex56 H 2 0 rfl rfl fun p55 c55 w a H F=>?_
 refine lz ?_;refine ct ⟨⟨_,(H.pm 3 [1,0,2] rfl:)⟩,?_⟩
 refine mbk [0,0] F H rfl ⟨fld74_0,trivial⟩ fun a F=>m_last rfl rfl (s_st1 wkP F rfl rfl zero25 rfl rfl rfl rfl rfl H 1 rfl rfl fun w H=>?_)
 refine lz ?_;refine ct ?_
 refine m_nil (bn (ct (rl (bb [0,0,0] F H rfl fun a F=>?_))))
 replace H:=H.nf 3 rfl
 refine lz ?_
 replace H:=O_pack_Pen_s (H.pm 3 [1,2,0] rfl:)
 refine ct ?_;cases hm
 exact ⟨_,rfl,⟨F.sl rfl,(H.pm 2 [0] rfl:)⟩⟩
 refine ex (cx (cx ?_));cases hm;refine ⟨_,rfl,?_⟩;rintro rfl
 refine ch (ct ?_)
 exact ⟨F.cut _ trivial,H⟩
 refine ct (sb [0] F H rfl fun a F=>nl (wr ?_))
 cases hm
 refine x_ret1 F rfl rfl ?_
 exact ⟨_,rfl,rfl,H⟩
 refine bb (List.replicate 7 0) F H rfl fun a F=>nl (cF F rfl (sk (ct (sq (sb [0,0,0] F H rfl fun a F=>?_)))))
 refine nl (xm0 1 [] [] F H hm rfl rfl (fun r82 z=>z) (fun r82 z=>O_pack_Pen bo0 r82::z) (fun r82 hm=>?_) (fun r82 a w hm F H=>?_))
 refine bl (xl0 1 [0,1] [] F H hm rfl rfl (fun (s99:T_pack_Pen_o×Int) z=>(7,.int .i64 (s99.2))::z) (fun s99 z=>O_pack_Pen bo0 s99.1::z) ⟨F.sl rfl,H⟩ (fun s99 a w o F H hm=>sq (sb [0,0] F H rfl fun a F=>?_)))
 refine nl (cPm F rfl hm (fun hg100 hm=>?_) (fun hg100 hm=>?_))
 refine sk (ct (sq (bl ?_)))
 obtain ⟨p101,c102,H⟩:=O_pack_Pen_o (H.pk 0 rfl)
 obtain ⟨x103,ex103,hm⟩:=ob hm
 refine mix_regionK [10,11,14] [14] (scL [0,1,2,3,4,5,6,7,8,9,2010,2011,12,13,3014]) [0] H rfl rfl (by kernel_rfl) (by kernel_rfl) fun w H=>?_
 refine mbk [0,0,0,0] F H rfl ⟨fld74_0,trivial⟩ fun a F=>?_
 refine m_pure F rfl rfl rfl rfl (fun u hu=>y_load1 F plain25 rfl rfl (row_at (v:=.slice p101 (s99.1).length c102) ((hu.choose_spec.blk 0 rfl).row) rfl)) fun a F=>?_
 refine mb [0,0,0] F H rfl fun a F=>?_
 refine m_pure F rfl rfl rfl rfl (fun u hu=>i_shrO F rfl rfl rfl ex103) fun a F=>?_
 refine mbk [1] F H rfl ⟨Tryz.underlying22,Tryz.underlying5,trivial⟩ fun a F=>m_heavy rfl rfl ?_
 obtain ⟨x105,ex105,hm⟩:=ob hm
 refine s_buildC wkP F rfl rfl rfl elem25 zero5 rfl rfl rfl rfl (by simp [Value.cells]) (by decide) H fun b104 w a H F=>?_
 replace H:=H.blkOw1 (R:=rByte) (x:=x105) (fun gg=>(congrArg (fun z=>[Value.int .u8 z]) (u8O_some ex105).symm))
 refine lz ?_;refine ct ⟨⟨_,(H.pm 3 [1,0,2] rfl:)⟩,?_⟩
 refine m_heavy rfl rfl ?_
 replace H:=H.frz 0 rfl
 obtain ⟨x107,ex107,hm⟩:=ob hm
 refine s_app wkP F rfl rfl rfl rfl rfl rfl elem25 rfl ex107 H 2 0 rfl rfl fun p106 c106 w a H F=>?_
 refine lz ?_;refine ct ⟨⟨_,(H.pm 3 [1,0,2] rfl:)⟩,?_⟩
 refine mbk [0,0] F H rfl ⟨fld74_0,trivial⟩ fun a F=>m_last rfl rfl (s_st1 wkP F rfl rfl zero25 rfl rfl rfl rfl rfl H 1 rfl rfl fun w H=>?_)
 refine lz ?_;refine ct ?_
 refine m_nil (bn (ct (rl (bb [0,0,0] F H rfl fun a F=>?_))))
 replace H:=H.nf 3 rfl
 refine lz ?_
 replace H:=O_pack_Pen_s (H.pm 3 [1,2,0] rfl:)
 refine ct ?_;cases hm
 exact ⟨_,rfl,⟨F.sl rfl,(H.pm 2 [0] rfl:)⟩⟩
 refine ex (cx (cx ?_));cases hm;refine ⟨_,rfl,?_⟩;rintro rfl
 refine ch (ct ?_)
 exact ⟨F.cut _ trivial,H⟩
 refine ct (sb [0] F H rfl fun a F=>nl (wr ?_))
 cases hm
 refine x_ret1 F rfl rfl ?_
 exact ⟨_,rfl,rfl,H⟩
theorem ent19:En Tryz.prog 19:=enters Tryz.func19 (by kernel_rfl) rfl
theorem ent18:En Tryz.prog 18:=enters Tryz.func18 (by kernel_rfl) rfl
theorem w_penText {p:T_pack_Pen_o} {b:List UInt8} {bo0:Nat} {p1:Option Addr} {c1:Nat} {w0 w:World} {l:List HP}  {r:Int×T_pack_Pen_o} (hm:penText p b=some r) (H:St w0 w (O_pack_Pen bo0 p::HP.sl rByte p1 c1 b::l)) :
  Calls Tryz.prog 20 [.pointer (some ⟨bo0,0,none⟩),.slice p1 (b).length c1].toArray w (fun e w'=>∃ v,e=.returned v∧v=.int .i64 (r.1)∧St w0 w' (O_pack_Pen bo0 r.2::l)):=by
 unfold penText at hm
 refine x_enter Tryz.func20 rfl rfl rfl ?_
 intro a F
 refine sb [0] F H rfl fun a F=>nl (sq (sr (bk [0,0,0,2] F H rfl ⟨⟨_,Tryz.underlying25⟩,Tryz.underlying3,Tryz.underlying22,trivial⟩ fun a F=>?_)))
 obtain ⟨x2,ex2,hm⟩:=ob hm
 refine sd F rfl ent19 (w_penUint ex2 H:) ?_;rintro _ w a ⟨rfl,H⟩ F
 refine bb [0] F H rfl fun a F=>?_
 replace H:=H.nf 2 rfl
 refine nl (cNm F rfl hm (fun hg3 hm=>?_) (fun hg3 hm=>?_))
 refine sb [0] F H rfl fun a F=>nl (wr (tr ?_))
 cases hm
 refine x_ret1 F rfl rfl ?_
 exact ⟨_,rfl,rfl,(H.pm 2 [0] rfl:)⟩
 refine sk (ct (sb [0,0] F H rfl fun a F=>?_))
 obtain ⟨x4,ex4,hm⟩:=ob hm
 refine sd F rfl ent18 (w_penRaw ex4 (H.pm 2 [0,1,1] rfl:):) ?_;rintro _ w a ⟨rfl,H⟩ F
 replace H:=H.nf 2 rfl
 refine nb [0] F H rfl fun a F=>nl (wr ?_)
 cases hm
 refine x_ret1 F rfl rfl ?_
 exact ⟨_,rfl,rfl,(H.pm 2 [0] rfl:)⟩
theorem ent53:En Tryz.prog 53:=enters Tryz.func53 (by kernel_rfl) rfl
theorem w_penData {p:T_pack_Pen_o} {bo0:Nat} {w0 w:World} {l:List HP}  {r:(List UInt8)×T_pack_Pen_o} (hm:penData p=some r) (H:St w0 w (O_pack_Pen bo0 p::l)) :
  Calls Tryz.prog 21 [.pointer (some ⟨bo0,0,none⟩)].toArray w (fun e w'=>∃ v,e=.returned v∧∃ (p1:Option Addr) (c1:Nat),v=.slice p1 (r.1).length c1∧St w0 w' (HP.ow rByte 5 p1 c1 r.1::O_pack_Pen_1 bo0 r.2::l)):=by
 unfold penData at hm
 refine x_enter Tryz.func21 rfl rfl rfl ?_
 intro a F
 refine sb [0] F H rfl fun a F=>nl (sr (bk [0,0,0] F H rfl ⟨fld74_0,trivial⟩ fun a F=>?_))
 obtain ⟨p2,c3,H⟩:=O_pack_Pen_o (H.pk 0 rfl)
 refine bk [0] F H rfl ⟨rfl,plain25,trivial⟩ fun a F=>?_
 replace H:=H.frz 1 rfl
 obtain ⟨x4,ex4,hm⟩:=ob hm
 refine sd F rfl ent53 (w_cloneB ex4 (H.pm 2 [0,0,1] rfl:):) ?_;rintro _ w a ⟨p5,c5,rfl,H⟩ F
 refine bb [0] F H rfl fun a F=>?_
 replace H:=H.nf 3 rfl
 refine nl (wr ?_)
 replace H:=O_pack_Pen_1_s (H.pm 3 [2,1,0,1] rfl:)
 cases hm
 refine x_ret1 F rfl rfl ?_
 exact ⟨_,rfl,p5,c5,rfl,(H.pm 3 [1,0] rfl:)⟩
theorem w_newEye {data:List UInt8} {p1:Option Addr} {c1:Nat} {w0 w:World} {l:List HP}  {r:T_pack_Eye_o} (hm:newEye data=some r) (H:St w0 w (HP.sl rByte p1 c1 data::l)) :
  Calls Tryz.prog 26 [.slice p1 (data).length c1].toArray w (fun e w'=>∃ v,e=.returned v∧∃ (b2:Nat),v=.pointer (some ⟨b2,0,none⟩)∧St w0 w' (O_pack_Eye b2 r::l)):=by
 unfold newEye at hm
 refine x_enter Tryz.func26 rfl rfl rfl ?_
 intro a F
 refine sb [0] F H rfl fun a F=>nb [0] F H rfl fun a F=>?_
 obtain ⟨x3,ex3,hm⟩:=ob hm
 refine sd F rfl ent53 (w_cloneB ex3 (H.pm 1 [0,0] rfl:):) ?_;rintro _ w a ⟨p4,c4,rfl,H⟩ F
 refine sv F rfl (y_build F rfl rfl (cs:=[.slice p4 (x3).length c4]) (by kernel_rfl)) fun a F=>s_boxA wkP F rfl rfl rfl rfl rfl H fun b5 w a H F=>bb [0] F H rfl fun a F=>?_
 replace H:=H.nf 3 rfl
 refine nl (wr ?_)
 replace H:=H.frz 1 rfl
 replace H:=O_pack_Eye_s (H.pm 3 [1,0,0,2] rfl:)
 cases hm
 refine x_ret1 F rfl rfl ?_
 exact ⟨_,rfl,b5,rfl,(H.pm 3 [0] rfl:)⟩
theorem fld140_0:FieldT Tryz.prog 140 0 0:=by unfold FieldT;rw [Tryz.underlying140];kernel_rfl
theorem w_eyeRaw {e:T_pack_Eye_o} {n:Int} {bo0:Nat} {w0 w:World} {l:List HP}  {r:(List UInt8)×Int×T_pack_Eye_o} (hm:eyeRaw e n=some r) (H:St w0 w (O_pack_Eye bo0 e::l)) :
  Calls Tryz.prog 28 [.pointer (some ⟨bo0,0,none⟩),.int .i64 (n)].toArray w (fun e w'=>∃ v,e=.returned v∧∃ (p1:Option Addr) (c1:Nat),v=.tuple [.slice p1 (r.1).length c1,.int .i64 (r.2.1)].toArray∧St w0 w' (HP.ow rByte 5 p1 c1 r.1::O_pack_Eye bo0 r.2.2::l)):=by
 unfold eyeRaw at hm
 refine x_enter Tryz.func28 rfl rfl rfl ?_
 intro a F
 refine sb [0,0] F H rfl fun a F=>nl (sq (bl (sb [0,0,0] F H rfl fun a F=>?_)))
 refine nl (cPm F rfl hm (fun hg2 hm=>?_) (fun hg2 hm=>?_))
 refine sb [0,0] F H rfl fun a F=>nl (wr (br (tr ?_)))
 replace H:=H.owNil rByte 5
 cases hm
 refine x_ret2 F rfl rfl rfl ?_
 exact ⟨_,rfl,none,0,rfl,H⟩
 refine sr (bk [0,0,0,0] F H rfl ⟨fld140_0,trivial⟩ fun a F=>?_)
 obtain ⟨p3,c4,H⟩:=O_pack_Eye_o (H.pk 0 rfl)
 refine bk [0,0,0,0] F H rfl ⟨rfl,plain25,⟨_,Tryz.underlying25⟩,trivial⟩ fun a F=>?_
 refine nl (cPm F rfl hm (fun hg5 hm=>?_) (fun hg5 hm=>?_))
 refine sb [0,0] F H rfl fun a F=>nl (wr (br (tr ?_)))
 replace H:=H.owNil rByte 5
 replace H:=O_pack_Eye_s (H.pm 3 [1,2,0,2] rfl:)
 cases hm
 refine x_ret2 F rfl rfl rfl ?_
 exact ⟨_,rfl,none,0,rfl,(H.pm 3 [1,0] rfl:)⟩
 refine sk (bn (ct (sr (bk (List.replicate 5 0) F H rfl ⟨fld140_0,rfl,plain25,trivial⟩ fun a F=>?_))))
 obtain ⟨x7,ex7,hm⟩:=ob hm
 have hc6:=H.slCap 1 rfl
 replace H:=H.slSubN 1 rfl 1 rfl ex7
 refine sv F rfl (y_slH F elem25 rfl rfl rfl ex7 hc6) fun a F=>?_
 obtain ⟨x8,ex8,hm⟩:=ob hm
 refine sd F rfl ent53 (w_cloneB ex8 (H.pm 3 [0,0,1,2] rfl:):) ?_;rintro _ w a ⟨p9,c9,rfl,H⟩ F
 refine bb [0] F H rfl fun a F=>?_
 replace H:=H.nf 4 rfl
 refine nl (sr (bk [0,0,0,0,2000,0] F H rfl ⟨fld140_0,rfl,plain25,trivial⟩ fun a F=>?_))
 obtain ⟨x11,ex11,hm⟩:=ob hm
 have hc10:=H.slCap 3 rfl
 replace H:=H.slSubN 1 rfl 3 rfl ex11
 refine sv F rfl (y_slL F elem25 rfl rfl rfl ex11 hc10) fun a F=>bk [0,0] F H rfl ⟨fld140_0,trivial⟩ fun a F=>s_st1 wkP F rfl rfl zero25 rfl rfl rfl rfl rfl H 3 rfl rfl fun w H=>?_
 replace H:=H.nf 5 rfl
 refine nb [0,0,0] F H rfl fun a F=>nl (wr ?_)
 replace H:=O_pack_Eye_s (H.pm 5 [3,0,0,1,2,4] rfl:)
 cases hm
 refine x_ret2 F rfl rfl rfl ?_
 exact ⟨_,rfl,p9,c9,rfl,(H.pm 5 [2,0] rfl:)⟩
theorem ent28:En Tryz.prog 28:=enters Tryz.func28 (by kernel_rfl) rfl
theorem w_eyeUint {e:T_pack_Eye_o} {size:Int} {bo0:Nat} {w0 w:World} {l:List HP}  {r:Int×Int×T_pack_Eye_o} (hm:eyeUint e size=some r) (H:St w0 w (O_pack_Eye bo0 e::l)) :
  Calls Tryz.prog 27 [.pointer (some ⟨bo0,0,none⟩),.int .i64 (size)].toArray w (fun e w'=>∃ v,e=.returned v∧v=.tuple [.int .u64 (r.1),.int .i64 (r.2.1)].toArray∧St w0 w' (O_pack_Eye bo0 r.2.2::l)):=by
 unfold eyeUint at hm
 refine x_enter Tryz.func27 rfl rfl rfl ?_
 intro a F
 refine sb [0,0] F H rfl fun a F=>nl (sq (sb [0,0,0] F H rfl fun a F=>?_))
 rcases spP 11 F rfl hm with ⟨hg1,hm,F⟩ | ⟨hg1,hm,F⟩
 refine bb [0,0,0] F H rfl fun a F=>nl (cT F rfl (sb [0,0] F H rfl fun a F=>nl (wr (tr ?_))))
 cases hm
 refine x_ret2 F rfl rfl rfl ?_
 exact ⟨_,rfl,rfl,H⟩
 refine bb [0,0,0] F H rfl fun a F=>?_
 refine nl (cPm F rfl hm (fun hg2 hm=>?_) (fun hg2 hm=>?_))
 refine sb [0,0] F H rfl fun a F=>nl (wr (tr ?_))
 cases hm
 refine x_ret2 F rfl rfl rfl ?_
 exact ⟨_,rfl,rfl,H⟩
 refine sk (ct (sb [0,0] F H rfl fun a F=>?_))
 obtain ⟨x3,ex3,hm⟩:=ob hm
 refine sd F rfl ent28 (w_eyeRaw ex3 H:) ?_;rintro _ w a ⟨p4,c4,rfl,H⟩ F
 refine bb (List.replicate 5 0) F H rfl fun a F=>?_
 replace H:=H.nf 2 rfl
 refine nl (sq (sr (bk [0,0,0] F H rfl ⟨⟨_,Tryz.underlying25⟩,trivial⟩ fun a F=>?_)))
 refine nl (xm0 2 [5] [0,1] F H hm rfl rfl (fun r18 z=>(4,.int .u64 (r18))::z) (fun r18 z=>z) (fun r18 hm=>?_) (fun r18 a w hm F H=>?_))
 refine bl (xl0 2 [5,21,22] [0,1] F H hm rfl rfl (fun (s27:Int×Int) z=>(4,.int .u64 (s27.1))::(23,.int .i64 (s27.2))::z) (fun s27 z=>z) ⟨F.sl rfl,H⟩ (fun s27 a w o F H hm=>sb [0] F H rfl fun a F=>?_))
 refine nl (sq (cPm F rfl hm (fun hg28 hm=>?_) (fun hg28 hm=>?_)))
 refine sk (ct (sq (bl (sr ?_))))
 obtain ⟨x29,ex29,hm⟩:=ob hm
 obtain ⟨b30,hp30⟩:=H.owP 0 rfl (idxO_some ex29).2
 refine sv F rfl (y_idxS F elem25 rfl rfl rfl hp30 ex29) fun a F=>sv F rfl (y_load1 F plain5 rfl rfl (H.owB 0 rfl hp30 ex29)) fun a F=>bb [0] F H rfl fun a F=>nl (rl (bb [0] F H rfl fun a F=>sv F rfl (i_shl F rfl rfl rfl (by decide)) fun a F=>bk [0,2,0,0] F H rfl ⟨Tryz.underlying5,Tryz.underlying22,trivial⟩ fun a F=>lz (bn (ct (rl (bb [0,0] F H rfl fun a F=>?_))))))
 refine lz (ct ?_);cases hm
 exact ⟨_,rfl,⟨F.sl rfl,H⟩⟩
 refine ex (cx (cx ?_));cases hm;refine ⟨_,rfl,?_⟩;rintro rfl
 refine ch (ct ?_)
 exact ⟨F.sl rfl,H⟩
 refine ct (sb [0,0,0,0] F H rfl fun a F=>nl (wr ?_))
 cases hm
 refine x_ret2 F rfl rfl rfl ?_
 exact ⟨_,rfl,rfl,(H.pm 2 [1] rfl:)⟩
theorem ent27:En Tryz.prog 27:=enters Tryz.func27 (by kernel_rfl) rfl
theorem w_eyeText {e:T_pack_Eye_o} {bo0:Nat} {w0 w:World} {l:List HP}  {r:(List UInt8)×Int×T_pack_Eye_o} (hm:eyeText e=some r) (H:St w0 w (O_pack_Eye bo0 e::l)) :
  Calls Tryz.prog 29 [.pointer (some ⟨bo0,0,none⟩)].toArray w (fun e w'=>∃ v,e=.returned v∧∃ (p1:Option Addr) (c1:Nat),v=.tuple [.slice p1 (r.1).length c1,.int .i64 (r.2.1)].toArray∧St w0 w' (HP.ow rByte 5 p1 c1 r.1::O_pack_Eye bo0 r.2.2::l)):=by
 unfold eyeText at hm
 refine x_enter Tryz.func29 rfl rfl rfl ?_
 intro a F
 refine sb [0,0] F H rfl fun a F=>nl (sr (bk [0,0,0] F H rfl ⟨fld140_0,trivial⟩ fun a F=>?_))
 obtain ⟨p2,c3,H⟩:=O_pack_Eye_o (H.pk 0 rfl)
 refine bk [0,0] F H rfl ⟨rfl,plain25,trivial⟩ fun a F=>nb [0] F H rfl fun a F=>?_
 replace H:=O_pack_Eye_s (H.pm 2 [0,1,1] rfl:)
 obtain ⟨x4,ex4,hm⟩:=ob hm
 refine sd F rfl ent27 (w_eyeUint ex4 H:) ?_;rintro _ w a ⟨rfl,H⟩ F
 refine bb (List.replicate 5 0) F H rfl fun a F=>?_
 replace H:=H.nf 2 rfl
 refine nl (sq (sb [0,0] F H rfl fun a F=>?_))
 refine nl (cNm F rfl hm (fun hg5 hm=>?_) (fun hg5 hm=>?_))
 refine sb [0,0,0] F H rfl fun a F=>nl (wr (tr ?_))
 replace H:=H.owNil rByte 5
 cases hm
 refine x_ret2 F rfl rfl rfl ?_
 exact ⟨_,rfl,none,0,rfl,(H.pm 3 [0,1] rfl:)⟩
 refine sk (ct (sr (bk [0,0,0] F H rfl ⟨Tryz.underlying22,Tryz.underlying3,trivial⟩ fun a F=>?_)))
 obtain ⟨x6,ex6,hm⟩:=ob hm
 refine sd F rfl ent28 (w_eyeRaw ex6 H:) ?_;rintro _ w a ⟨p7,c7,rfl,H⟩ F
 refine bb (List.replicate 5 0) F H rfl fun a F=>?_
 replace H:=H.nf 3 rfl
 refine nl (sq (sb [0,0] F H rfl fun a F=>?_))
 refine nl (xm0 3 [6,7] [0] F H hm rfl rfl (fun r11 z=>z) (fun r11 z=>O_pack_Eye bo0 r11::z) (fun r11 hm=>?_) (fun r11 a w hm F H=>?_))
 refine cNm F rfl hm (fun hg12 hm=>?_) (fun hg12 hm=>?_)
 refine rl (bk [0,0,0,0] F H rfl ⟨fld140_0,trivial⟩ fun a F=>?_)
 obtain ⟨p13,c14,H⟩:=O_pack_Eye_o (H.pk 1 rfl)
 refine s_st1 wkP F rfl rfl zero25 rfl rfl rfl rfl rfl H 0 rfl rfl fun w H=>?_
 replace H:=H.nf 4 rfl
 refine lz ?_
 replace H:=O_pack_Eye_s (H.pm 4 [0,3,1,2,3] rfl:)
 cases hm
 refine ct ?_
 exact ⟨F.sl rfl,(H.pm 4 [0,2] rfl:)⟩
 refine sk ?_
 cases hm
 refine ct ?_
 exact ⟨F.sl rfl,(H.pm 3 [1,0] rfl:)⟩
 refine ct (sb [0,0,0,0] F H rfl fun a F=>nl (wr ?_))
 cases hm
 refine x_ret2 F rfl rfl rfl ?_
 exact ⟨_,rfl,p7,c7,rfl,(H.pm 2 [1,0] rfl:)⟩
end Go.Proofs.YtapllcabobickaaGreatDoor
