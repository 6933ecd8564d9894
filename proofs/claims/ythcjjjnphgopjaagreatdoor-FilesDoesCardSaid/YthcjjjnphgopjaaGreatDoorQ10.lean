/- Texts LawC, LawB, Spoil, Elf, RefT, P, Pth. -/
import Derived.Test.YthcjjjnphgopjaaGreatDoorQ9
import Derived.Test.YthcjjjnphgopjaaGreatDoorQ4
import Derived.Test.YthcjjjnphgopjaaGreatDoorQ3
import Derived.Test.YthcjjjnphgopjaaGreatDoorQ5
set_option linter.unusedSimpArgs false
set_option linter.unusedVariables false
namespace Go.Proofs.YthcjjjnphgopjaaGreatDoor
open Go.RowKit Go.Tri
set_option maxRecDepth 100000
set_option maxHeartbeats 4000000
theorem ent10:En Tryz.prog 10:=enters Tryz.func10 (by kernel_rfl) rfl
theorem agz25:AggT Tryz.prog 25 6 ([.int .i64 (0),.string (txb ([])),.string (txb ([])),.int .i64 (0),.int .i64 (0),.slice none (([]:List UInt8)).length 0]):=⟨by rw [Tryz.underlying25];rfl,by kernel_rfl,by kernel_rfl⟩
theorem ent17:En Tryz.prog 17:=enters Tryz.func17 (by kernel_rfl) rfl
theorem ent18:En Tryz.prog 18:=enters Tryz.func18 (by kernel_rfl) rfl
theorem ent20:En Tryz.prog 20:=enters Tryz.func20 (by kernel_rfl) rfl
theorem ent19:En Tryz.prog 19:=enters Tryz.func19 (by kernel_rfl) rfl
theorem ent15:En Tryz.prog 15:=enters Tryz.func15 (by kernel_rfl) rfl
set_option maxRecDepth 100000
set_option maxHeartbeats 4000000
theorem ent11:En Tryz.prog 11:=enters Tryz.func11 (by kernel_rfl) rfl
end Go.Proofs.YthcjjjnphgopjaaGreatDoor
namespace Go.Tri
open Go.RowKit
def Live (B:Base) (lb i2:Nat) (w:World):Prop:=∀ b cur e,B b=some (.cells cur e (0,0))→∃ old:List Value,Blk w b old e∧old.length=cur.size∧∀ (o:Nat) (ad:Option Addr) (n c:Nat),cur[o]?=some (.slice ad n c)→old[o]?=some (.slice ad n c)∨(b=lb∧o<i2)
def HP.sp (B:Base) (lb i2:Nat):HP :=
 HP.of (fun _ w S=>(∀ b o,B b=some o→S b)∧Live B lb i2 w)
  (fun ⟨h1,h2⟩ hS=>⟨h1,fun b cur e hb=>by
   obtain ⟨old,g1,g2⟩:=h2 b cur e hb
   exact ⟨old,by unfold Blk at g1 ⊢;rw [hS b (h1 b _ hb)];exact g1,g2⟩⟩)
  (fun h _=>h)
section
variable {w0 w:World} {l:List HP} {p:Option Addr} {cap:Nat} {xs:List (List UInt8×List UInt8)} {B:Base} {lb i2:Nat}
theorem St.boxSp (H:St w0 w (HP.box p cap xs::l)):∃ B:Base,Sub B w∧(HP.nsl 0 (rP2N 0) p cap xs).pr B default (fun _=>False)∧∀ lb,St w0 w (HP.sp B lb 0::l):=by
 obtain ⟨hv,Bo,f,hs,h1,h2,h3⟩:=H
 obtain ⟨B,g1,g2⟩:=h1 0 _ rfl
 refine ⟨B,fun b o hb=>(g1 b o hb).2,g2,fun lb=>⟨hv,Bo,f,hs,fun i A hi=>?_,h2,h3⟩⟩
 cases i with
 | zero =>
  simp at hi;subst hi
  refine ⟨fun b o hb=>(g1 b o hb).1,fun b cur e hb=>⟨cur.toList,?_,by simp,fun o ad n c ho=>.inl (by simpa using ho)⟩⟩
  have:=(g1 b _ hb).2
  unfold Blk;simpa using this
 | succ i=>exact h1 (i+1) A (by simpa using hi)
theorem St.spPut (H:St w0 w (HP.sp B lb i2::l)) {b:Nat} {cur:Array Value} {e:TypeId} (hb:B b=some (.cells cur e (0,0))) :
  ∃ old:List Value,Blk w b old e∧old.length=cur.size∧(∀ (o:Nat) (ad:Option Addr) (n c:Nat),cur[o]?=some (.slice ad n c)→old[o]?=some (.slice ad n c)∨(b=lb∧o<i2)) ∧
   ∀ (new:List Value) (i3:Nat),new.length=old.length→i2≤i3→(∀ (o:Nat) (ad:Option Addr) (n c:Nat),cur[o]?=some (.slice ad n c)→new[o]?=old[o]?∨(b=lb∧o<i3))→St w0 (w.setRow b new.toArray) (HP.sp B lb i3::l):=by
 obtain ⟨_,S,_,⟨g1,g2⟩,_⟩:=H.get 0 rfl
 obtain ⟨old,o1,o2,o3⟩:=g2 b cur e hb
 refine ⟨old,o1,o2,o3,fun new i3 hn hle hk=>?_⟩
 refine H.chg 0 (A:=HP.sp B lb i2) (A':=HP.sp B lb i3) rfl (g:=b) (fun S hA=>hA.1 b _ hb) (Chg.setRow w b _) fun S hA=>⟨hA.1,fun b2 cur2 e2 hb2=>?_⟩
 obtain ⟨old2,p1,p2,p3⟩:=hA.2 b2 cur2 e2 hb2
 by_cases eb:b2=b
 ·subst eb
  rw [hb] at hb2;cases hb2
  have:old2=old:=by
   unfold Blk at p1 o1
   rw [o1] at p1
   simpa using p1.symm
  subst this
  refine ⟨new,o1.set_same new,hn.trans o2,fun o ad n c ho=>?_⟩
  rcases hk o ad n c ho with h | h
  ·rw [h]
   rcases p3 o ad n c ho with h5 | ⟨h5,h6⟩
   ·exact .inl h5
   ·exact .inr ⟨h5,by omega⟩
  ·exact .inr h
 ·refine ⟨old2,p1.chg (Chg.setRow w b _) eb,p2,fun o ad n c ho=>?_⟩
  rcases p3 o ad n c ho with h5 | ⟨h5,h6⟩
  ·exact .inl h5
  ·exact .inr ⟨h5,by omega⟩
def TxOk (B:Base) (q:Option Addr) (ys:List UInt8):Prop:=0<ys.length→∃ kb kcur ke,q=some ⟨kb,0,none⟩∧B kb=some (.cells kcur ke (0,0))∧ys.length≤maxLen∧ys.length≤kcur.size∧∀ t,t<ys.length→∀ ad n c,kcur[t]?≠some (.slice ad n c)
theorem txOk_of {w:World} (hs:Sub B w) {cs:List Value} {ys:List UInt8} (h:(rSlN 0 rByte).rd B cs ys):∃ q c,cs=[.slice q ys.length c]∧TxOk B q ys:=by
 obtain ⟨q,c,e1,⟨css,h1,h2⟩,h3⟩:=h
 rw [Base.ge_zero] at h1 h2 h3
 refine ⟨q,c,e1,fun h0=>?_⟩
 obtain ⟨kb,kcur,ke,hq,hB,hmax⟩:=h3 h0
 refine ⟨kb,kcur,ke,hq,hB,hmax,?_⟩
 have hsl:=h2 w hs
 rw [rdl_bytes_flat h1] at hsl
 obtain ⟨b,off,e2,hrow⟩:=hsl.rowAt (c:=0) rfl h0
 rw [hq] at e2;cases e2
 have hcell:∀ t,t<ys.length→kcur[t]?=some (Value.int .u8 ((ys.getD t 0).toNat:Int)):=fun t ht=>by
  have h5:=hrow t (Value.int .u8 ((ys.getD t 0).toNat:Int)) (by simp [bcells,List.getElem?_map,List.getElem?_eq_getElem ht,List.getD_eq_getElem?_getD])
  unfold World.cell? at h5
  simp only [hs _ _ hB,Nat.zero_add] at h5
  exact h5
 refine ⟨?_,fun t ht ad n c h=>by rw [hcell t ht] at h;cases h⟩
 have h6:=hcell (ys.length - 1) (by omega)
 have:=(Array.getElem?_eq_some_iff.1 h6).1
 omega
theorem pairsOk {w:World} (hs:Sub B w) (h:(HP.nsl 0 (rP2N 0) p cap xs).pr B default (fun _=>False)) (h0:0<xs.length):∃ lb lcur le,p=some ⟨lb,0,none⟩∧B lb=some (.cells lcur le (0,0))∧xs.length≤maxLen∧xs.length * 2≤lcur.size ∧
  ∀ (j:Nat) (x:List UInt8×List UInt8),xs[j]?=some x→∃ kp kc vp vc,lcur[j * 2]?=some (.slice kp x.1.length kc)∧lcur[j * 2+1]?=some (.slice vp x.2.length vc)∧TxOk B kp x.1∧TxOk B vp x.2:=by
 obtain ⟨⟨css,h1,h2⟩,h3⟩:=h
 rw [Base.ge_zero] at h1 h2 h3
 obtain ⟨lb,lcur,le,hp,hB,hmax⟩:=h3 h0
 have hsl:=h2 w hs
 obtain ⟨b,off,e2,hrow⟩:=hsl.rowAt (c:=cap) rfl h0
 rw [hp] at e2;cases e2
 have hk:∀ c∈css,c.length=2:=fun c hc=>by
  obtain ⟨k,hk⟩:=List.mem_iff_getElem?.1 hc
  have hkl:=(List.getElem?_eq_some_iff.1 hk).1
  have hx:xs[k]?=some (xs[k]'(by rw [← h1.len];exact hkl)):=List.getElem?_eq_getElem _
  obtain ⟨c',e1,e2⟩:=RdL.at h1 hx
  rw [hk] at e1;cases e1
  exact (rP2N 0).len e2
 have hcell:∀ (t:Nat) v,css.flatten[t]?=some v→lcur[t]?=some v:=fun t v ht=>by
  have h5:=hrow t v ht
  unfold World.cell? at h5
  simp only [hs _ _ hB,Nat.zero_add] at h5
  exact h5
 have hel:∀ (j:Nat) (x:List UInt8×List UInt8),xs[j]?=some x→∃ kp kc vp vc,css[j]?=some [.slice kp x.1.length kc,.slice vp x.2.length vc]∧TxOk B kp x.1∧TxOk B vp x.2:=fun j x hx=>by
  obtain ⟨c,e1,c1,d1,e2,e3,e4⟩:=RdL.at h1 hx
  obtain ⟨kp,kc,e5,e6⟩:=txOk_of hs e3
  obtain ⟨vp,vc,e7,e8⟩:=txOk_of hs e4
  exact ⟨kp,kc,vp,vc,by rw [e1,e2,e5,e7];rfl,e6,e8⟩
 have hat:∀ (j:Nat) (u v:Value),css[j]?=some [u,v]→css.flatten[j * 2]?=some u∧css.flatten[j * 2+1]?=some v:=fun j u v hj=>by
  have h5:=flatK_at hk hj
  have g0:((css.flatten.drop (j * 2)).take 2)[0]?=some u:=by rw [h5];rfl
  have g1:((css.flatten.drop (j * 2)).take 2)[1]?=some v:=by rw [h5];rfl
  simp only [List.getElem?_take,List.getElem?_drop] at g0 g1
  simpa using ⟨g0,g1⟩
 refine ⟨lb,lcur,le,hp,hB,hmax,?_,fun j x hx=>?_⟩
 ·have hx:xs[xs.length - 1]?=some (xs[xs.length - 1]'(by omega)):=List.getElem?_eq_getElem (by omega)
  obtain ⟨kp,kc,vp,vc,e1,_,_⟩:=hel _ _ hx
  have:=(Array.getElem?_eq_some_iff.1 (hcell _ _ (hat _ _ _ e1).2)).1
  omega
 ·obtain ⟨kp,kc,vp,vc,e1,e2,e3⟩:=hel j x hx
  exact ⟨kp,kc,vp,vc,hcell _ _ (hat j _ _ e1).1,hcell _ _ (hat j _ _ e1).2,e2,e3⟩
end
section
variable {α β:Type} {R:Rp α} {Q:Rp β} {B:Base}
theorem rd_snd {cs:List Value} {k off:Nat} {v:Value} {x:α×β} {z:β} (hk:off=R.n+k) (h:(rPair R Q).rd B cs x) (hd:∀ d,Q.rd B d x.2→Q.rd B (d.set k v) z):(rPair R Q).rd B (cs.set off v) (x.1,z):=by
 obtain ⟨c,d,rfl,h1,h2⟩:=h
 refine ⟨c,d.set k v,?_,h1,hd d h2⟩
 rw [List.set_append_right _ _ (by rw [R.len h1];omega),R.len h1,hk,Nat.add_sub_cancel_left]
theorem rd_one {d:List Value} {v:Value} {x z:α} (hn:R.n=1) (h:R.rd B d x) (hz:R.rd B [v] z):R.rd B (d.set 0 v) z:=by
 have hl:=R.len h
 rw [hn] at hl
 obtain ⟨c0,rfl⟩:=List.length_eq_one_iff.1 hl
 exact hz
theorem ow_at {w:World} {e:TypeId} {b cap:Nat} {xs:List α} {cur:List Value} (h:∃ S,(HP.ow R e (some ⟨b,0,none⟩) cap xs).pr B w S) (hb:Blk w b cur e) {k:Nat} {u:α} (hk:xs[k]?=some u):R.rd B ((cur.drop (k * R.n)).take R.n) u∧k * R.n+R.n≤cur.length:=by
 obtain ⟨S,css0,c0,⟨hl0,⟨h,h'⟩ | ⟨g,cap',cur',h,hb0,hg,hnc,hm,hsz,ht⟩⟩,hS⟩:=h
 ·cases h
 ·cases h
  have e1:cur'=cur.toArray:=by
   unfold Blk at hb
   rw [hb] at hg
   cases hg
   simp
  subst e1
  obtain ⟨c,hc,hr⟩:=c0.at hk
  have hkl:=(List.getElem?_eq_some_iff.1 hk).1
  have hmul:(k+1) * R.n≤xs.length * R.n:=Nat.mul_le_mul_right _ hkl
  have hmul2:xs.length * R.n≤cap * R.n:=Nat.mul_le_mul_right _ hnc
  have hkk:(k+1) * R.n=k * R.n+R.n:=Nat.succ_mul k R.n
  simp only [List.size_toArray] at hsz
  have h2:=flat_at c0 hc (R.len hr)
  rw [← ht] at h2
  simp only [Nat.zero_add] at h2
  have e2:((cur.take (xs.length * R.n)).drop (k * R.n)).take R.n=(cur.drop (k * R.n)).take R.n:=by
   rw [List.drop_take,List.take_take,Nat.min_eq_left (by omega)]
  refine ⟨?_,by omega⟩
  rw [← e2]
  have h3:List.take R.n (List.drop (k * R.n) (List.take (xs.length * R.n) cur))=c:=by simpa using h2
  rw [h3];exact hr
end
section
variable {α:Type} {R:Rp α} {P:Program} {o:Oper} {rest:List Oper} {a:Act} {N:Fs} {l:List (Nat×Value)} {w0 w:World} {ls:List HP} {ops:Array Oper} {W:List Oper→Act→World→Prop} {x y:Operand} {t e:TypeId} {p:Option Addr} {cap:Nat} {xs:List α}
theorem s_owSetP (kw:Walk P ops W) (F:Fr N a l) (hg:o.guard=none) (hd:o.dst=none) {z1:Value} (hz:Zero1 P t z1) (ho:o.op=.store t x y) {n off:Nat} (hR:R.n=n) (hoff:Nat.blt off n=true) {b:Nat} {q:Int} (hx:ev l x=some (.pointer (some ⟨b,0+q.toNat * n+off,none⟩))) {v:Value} (hy:ev l y=some v) (hv:v.cells=#[v]) (h1:v.oneCell'=true)
  (H:St w0 w ls) (i:Nat) (hi:ls[i]?=some (HP.ow R e p cap xs)) (hp:p=some ⟨b,0,none⟩) {u:α} (hq:idxO xs q=some u) {zz:α} (hrd:∀ {B:Base},(∀ (j:Nat) (C:HP),ls[j]?=some C→∃ S,C.pr B w S)→∀ cs,R.rd B cs u→R.rd B (cs.set off v) zz)
  (hk:∀ w',St w0 w' (ls.set i (HP.ow R e p cap (xs.set q.toNat zz)))→W rest a w'):W (o::rest) a w:=by
 obtain ⟨_,h2⟩:=idxO_some hq
 have hlt:=(List.getElem?_eq_some_iff.1 h2).1
 subst hp hR
 have hoff':off<R.n:=by simpa [Nat.blt_eq] using hoff
 obtain ⟨cur,hb⟩:∃ cur:List Value,Blk w b cur e:=by
  obtain ⟨B,H'⟩:=H.out
  obtain ⟨S0,css0,c0,⟨hl0,⟨h,h'⟩ | ⟨g,cap',cur,h,hb0,hg,hnc,hm,hsz,ht⟩⟩,hS⟩:=H'.at hi
  ·cases h
  ·cases h
   exact ⟨cur.toList,by unfold Blk;simpa using hg⟩
 obtain ⟨cur',hb',hl,hS⟩:=H.owPut i hi rfl hlt (c:=((cur.drop (q.toNat * R.n)).take R.n).set off v) (z:=zz) (fun {B} g=>hrd g _ (ow_at (g i _ hi) hb h2).1)
 have ec:cur'=cur:=by
  unfold Blk at hb hb'
  rw [hb] at hb'
  cases hb';rfl
 subst ec
 have e1:cur'.take (q.toNat * R.n)++((cur'.drop (q.toNat * R.n)).take R.n).set off v++cur'.drop (q.toNat * R.n+R.n)=cur'.set (0+q.toNat * R.n+off) v:=by
  rw [Nat.zero_add]
  conv=>rhs;rw [← List.take_append_drop (q.toNat * R.n) cur']
  rw [List.set_append_right _ _ (by rw [List.length_take];omega),List.length_take,Nat.min_eq_left (by omega),Nat.add_sub_cancel_left,List.append_assoc]
  congr 1
  conv=>rhs;rw [← List.take_append_drop R.n (cur'.drop (q.toNat * R.n))]
  rw [List.set_append_left _ _ (by rw [List.length_take,List.length_drop];omega),List.drop_drop]
 rw [e1] at hS
 exact s_none kw F hg hd (by rw [ho];rfl) (y_store1 F hz ho hx hy hv h1 hb' (by omega)) (hk _ hS)
end
end Go.Tri
namespace Go.Proofs.YthcjjjnphgopjaaGreatDoor
open Go.RowKit Go.Tri
set_option maxRecDepth 100000
set_option maxHeartbeats 4000000
theorem w_rFindO {list:List T_triremeref11_Node} {p:List UInt8} {p1:Option Addr} {c1:Nat} {w0 w:World} {l:List HP}  {r:Int} (hm:rFindO list p=some r) (H:St w0 w (HP.ow R_triremeref11_Node 50 p1 c1 list::l)) :
  Calls Tryz.prog 27 [.slice p1 (list).length c1,.string (txb (p))].toArray w (fun e w'=>∃ v,e=.returned v∧v=.int .i64 (r)∧St w0 w' (HP.ow R_triremeref11_Node 50 p1 c1 list::l)):=by
 unfold rFindO at hm
 refine x_enter Tryz.func27 rfl rfl rfl ?_
 intro a F
 refine sb [0] F H rfl fun a F=>nl (sq (sb [0] F H rfl fun a F=>?_))
 refine nl (xr0 1 [] [0] F H hm rfl rfl (fun r24 z=>z) (fun r24 z=>z) (fun o24 hm hm24=>?_) (fun r24 a w hm F H=>?_))
 refine bl (xl0 1 [0,1] [0] F H hm rfl rfl (fun (s39:Int) z=>(5,.int .i64 (s39))::z) (fun s39 z=>z) ⟨F.sl rfl,H⟩ (fun s39 a w o F H hm=>sq (sr (bk [0,0,0,0] F H rfl ⟨⟨_,Tryz.underlying30⟩,trivial⟩ fun a F=>?_))))
 refine nl (cPm F rfl hm (fun hg40 hm=>?_) (fun hg40 hm=>?_))
 refine sk (ct (sq (bl (sb [0,0] F H rfl fun a F=>?_))))
 obtain ⟨x41,ex41,hm⟩:=ob hm
 obtain ⟨b42,hp42⟩:=H.owP 0 rfl (idxO_some ex41).2
 obtain ⟨css43,H⟩:=H.oxOpen 0 rfl
 obtain ⟨cs43,hcs43,hcl43,H⟩:=H.oxEl 0 rfl (idxO_some ex41).2
 refine sv F rfl (y_idxS F elem30 rfl rfl rfl hp42 ex41) fun a F=>bk [0] F H rfl ⟨fld50_0,trivial⟩ fun a F=>?_
 have G:=F;replace H:=rc_triremeref11_Node (H.pk 0 rfl);obtain ⟨p44,c45,rfl,J⟩:=H;have H:=J;have F:=G;clear G J
 refine sv F rfl (y_load1 F plain9 rfl rfl (row_at (v:=.string (txb (x41.1))) (H.oxRow 1 rfl hp42 hcs43 hcl43) rfl)) fun a F=>bb [0] F H rfl fun a F=>sv F rfl (y_eqT (l:=x41.1) (m:=p) F rfl rfl rfl) fun a F=>nl ?_
 replace H:=H.oxShut 1 rfl
 refine cPm F rfl hm (fun hg46 hm=>?_) (fun hg46 hm=>?_)
 refine sb [0,0] F H rfl fun a F=>?_
 replace H:=H.nf 2 rfl
 refine nl (wr (br (tr (tr ?_))));cases hm;refine ⟨_,rfl,?_⟩;rintro rfl
 refine br (tr ?_)
 replace hm:=elimR hm24
 refine tr ?_
 cases hm
 refine x_ret1 F rfl rfl ?_
 exact ⟨_,rfl,rfl,(H.pm 2 [1] rfl:)⟩
 refine sk (bn (ct (rl (bb [0,0,0] F H rfl fun a F=>?_))))
 replace H:=H.nf 2 rfl
 refine lz (ct ?_);cases hm
 exact ⟨_,rfl,⟨F.sl rfl,(H.pm 2 [1] rfl:)⟩⟩
 refine ex (cx (cx ?_));cases hm;refine ⟨_,rfl,?_⟩;rintro rfl
 refine ch (ct ?_)
 exact ⟨_,rfl,F.cut _ trivial,H⟩
 refine ct (sb [0] F H rfl fun a F=>nl (wr ?_))
 cases hm
 refine x_ret1 F rfl rfl ?_
 exact ⟨_,rfl,rfl,H⟩
theorem w_rCopyPairs {list:List T_api_Pair} {p1:Option Addr} {c1:Nat} {w0 w:World} {l:List HP}  {r:(List T_api_Pair)} (hm:rCopyPairs list=some r) (H:St w0 w (HP.sl R_api_Pair p1 c1 list::l)) :
  Calls Tryz.prog 12 [.slice p1 (list).length c1].toArray w (fun e w'=>∃ v,e=.returned v∧∃ (p2:Option Addr) (c2:Nat),v=.slice p2 (r).length c2∧St w0 w' (HP.nsl w0.heap.size (rP2N w0.heap.size) p2 c2 r::l)):=by
 unfold rCopyPairs at hm
 refine x_enter Tryz.func12 rfl rfl rfl ?_
 intro a F
 refine sb [0] F H rfl fun a F=>nl (sr (s_build0O (R:=(rP2N w0.heap.size)) wkP F rfl rfl rfl elem22 rfl H fun b3 w a H F=>bb [0] F H rfl fun a F=>?_))
 replace H:=H.nf 2 rfl
 refine nl (sq (sb [0] F H rfl fun a F=>?_))
 refine nl (xm2 2 [] [] F H hm rfl rfl (fun r251 (p252:Option Addr) (c252:Nat) z=>(3,.slice p252 (r251).length c252)::z) (fun r251 p252 c252 z=>HP.ow (rP2N w0.heap.size) 60 p252 c252 r251::z) (fun r251 hm=>?_) (fun r251 a w hm p252 c252 F H=>?_))
 refine bl (xl2 2 [0] [1] F H hm rfl rfl (fun (s417:(List T_api_Pair)×Int) (p418:Option Addr) (c418:Nat) z=>(3,.slice p418 (s417.1).length c418)::(4,.int .i64 (s417.2))::z) (fun s417 p418 c418 z=>HP.ow (rP2N w0.heap.size) 60 p418 c418 s417.1::z) ⟨(some ⟨b3,0,none⟩),0,F.sl rfl,H⟩ (fun s417 a w o p418 c418 F H hm=>sq (sr (bk [0,0,0,0] F H rfl ⟨⟨_,Tryz.underlying22⟩,trivial⟩ fun a F=>?_))))
 refine nl (cPm F rfl hm (fun hg419 hm=>?_) (fun hg419 hm=>?_))
 refine sk (ct (sq (bl (xm2 2 [0,4] [1] F H hm rfl rfl (fun r459 (p460:Option Addr) (c460:Nat) z=>(3,.slice p460 (r459).length c460)::z) (fun r459 p460 c460 z=>HP.ow (rP2N w0.heap.size) 60 p460 c460 r459::z) (fun r459 hm=>?_) (fun r459 a w hm p460 c460 F H=>?_)))))
 obtain ⟨x461,ex461,hm⟩:=ob hm
 obtain ⟨b462,o462,hp462,cs463,H⟩:=H.slE 1 rfl ex461
 have G:=F;replace H:=rc_api_Pair (H.pk 1 rfl);obtain ⟨p464,c465,p466,c467,rfl,J⟩:=H;have H:=J;have F:=G;clear G J
 obtain ⟨x468,ex468,hm⟩:=ob hm
 obtain ⟨cs469,H⟩:=H.slF 4 rfl hp462 ex468
 have G:=F;replace H:=rc_api_Pair (H.pk 1 rfl);obtain ⟨p470,c471,p472,c473,rfl,J⟩:=H;have H:=J;have F:=G;clear G J
 refine mix_region [1,7,8,14,16,17] [] (.step 0 0 (.step 0 2 (.step 0 3 (.step 0 4 (.step 0 5 (.step 0 6 (.step 0 9 (.step 0 10 (.step 0 11 (.step 0 12 (.step 0 13 (.fork 1 (.fork 7 (.step 2 8 (.step 2 14 (.step 0 15 (.step 2 16 (.step 2 17 (.step 0 18 .done)))))) 8 (.step 2 7 (.step 2 14 (.step 0 15 (.step 2 16 (.step 2 17 (.step 0 18 .done))))))) 8 (.step 2 1 (.step 2 7 (.step 2 14 (.step 0 15 (.step 2 16 (.step 2 17 (.step 0 18 .done))))))))))))))))))) (fun u=>∃ ls,St w0 u (HP.row b462 (o462+(s417.2:Int).toNat * 2) ([.slice p470 (x468.1).length c471,.slice p472 (x468.2).length c473])::HP.row b462 (o462+(s417.2:Int).toNat * 2) ([.slice p464 (x461.1).length c465,.slice p466 (x461.2).length c467])::ls)) (by kernel_rfl) (by kernel_rfl) ⟨_,(H.drew.pm 8 [2,5,0,1,2,3,4,5,6,7] rfl:)⟩ ?_
 replace H:=H.drew
 generalize w.drew=w at H ⊢
 refine mb [0,0,0] F H rfl fun a F=>?_
 refine m_pure F rfl rfl rfl rfl (fun u hu=>y_idxS F elem22 rfl rfl rfl hp462 ex461) fun a F=>?_
 refine mbk [0] F H rfl ⟨fld60_0,trivial⟩ fun a F=>?_
 refine m_pure F rfl rfl rfl rfl (fun u hu=>y_load1 F plain23 rfl rfl (row_at (v:=.slice p464 (x461.1).length c465) (hu.choose_spec.rowAt 1 rfl) rfl)) fun a F=>?_
 refine mb [0,0] F H rfl fun a F=>?_
 refine m_pure F rfl rfl rfl rfl (fun u hu=>y_idxS F elem22 rfl rfl rfl hp462 ex468) fun a F=>?_
 refine mbk [1] F H rfl ⟨fld60_1,trivial⟩ fun a F=>?_
 refine m_pure F rfl rfl rfl rfl (fun u hu=>y_load1 F plain23 rfl rfl (row_at (v:=.slice p472 (x468.2).length c473) (hu.choose_spec.rowAt 0 rfl) rfl)) fun a F=>?_
 refine m_fork rfl rfl rfl rfl ?_ ?_
 refine m_heavy rfl rfl (s_build0O (R:=rByte) wkP F rfl rfl rfl elem23 rfl H fun b474 w a H F=>?_)
 refine lz ?_;refine ct ⟨⟨_,(H.pm 9 [3,6,0,1,2,3,4,5,6,7,8] rfl:)⟩,?_⟩
 refine m_fork rfl rfl rfl rfl ?_ ?_
 refine m_heavy rfl rfl ?_
 obtain ⟨x476,ex476,hm⟩:=ob hm
 refine s_app wkP F rfl rfl rfl rfl rfl rfl elem23 rfl ex476 H 0 4 rfl rfl fun p475 c475 w a H F=>?_
 refine lz ?_;refine ct ⟨⟨_,(H.pm 9 [3,6,0,1,2,3,4,5,6,7,8] rfl:)⟩,?_⟩
 refine m_heavy rfl rfl (s_build0O (R:=rByte) wkP F rfl rfl rfl elem23 rfl H fun b477 w a H F=>?_)
 refine lz ?_;refine ct ⟨⟨_,(H.pm 10 [4,7,0,1,2,3,4,5,6,7,8,9] rfl:)⟩,?_⟩
 refine m_heavy rfl rfl ?_
 obtain ⟨x479,ex479,hm⟩:=ob hm
 refine s_app wkP F rfl rfl rfl rfl rfl rfl elem23 rfl ex479 H 0 3 rfl rfl fun p478 c478 w a H F=>?_
 refine lz ?_;refine ct ⟨⟨_,(H.pm 10 [4,7,0,1,2,3,4,5,6,7,8,9] rfl:)⟩,?_⟩
 refine m_pure F rfl rfl rfl rfl (fun u hu=>y_build F rfl rfl (cs:=[.slice p475 (x476).length c475,.slice p478 (x479).length c478]) (by kernel_rfl)) fun a F=>?_
 refine m_heavy rfl rfl ?_
 replace H:=H.frzNB 1 rfl
 replace H:=H.frzNB 1 rfl
 refine s_build1 wkP F rfl rfl rfl agg60 elem22 rfl rfl rfl (by decide) H fun b480 w a H F=>?_
 replace H:=H.blkOw1 (R:=(rP2N w0.heap.size)) (x:=(x476,x479)) (fun gg=>⟨_,_,rfl,⟨_,_,rfl,(gg 2 _ rfl).choose_spec⟩,⟨_,_,rfl,(gg 1 _ rfl).choose_spec⟩⟩)
 refine lz ?_;refine ct ⟨⟨_,(H.pm 11 [5,8,0,1,2,3,4,5,6,7,8,9,10] rfl:)⟩,?_⟩
 refine m_heavy rfl rfl ?_
 replace H:=H.frz 0 rfl
 obtain ⟨x482,ex482,hm⟩:=ob hm
 refine s_app wkP F rfl rfl rfl rfl rfl rfl elem22 rfl ex482 H 9 0 rfl rfl fun p481 c481 w a H F=>?_
 refine lz ?_;refine ct ⟨⟨_,(H.pm 11 [5,8,0,1,2,3,4,5,6,7,8,9,10] rfl:)⟩,?_⟩
 refine mb [0] F H rfl fun a F=>m_nil ?_
 cases hm
 refine ct ?_
 exact ⟨p481,c481,F.sl rfl,(H.pm 11 [9,10] rfl:)⟩
 refine m_heavy rfl rfl (s_build0O (R:=rByte) wkP F rfl rfl rfl elem23 rfl H fun b483 w a H F=>?_)
 refine lz ?_;refine ct ⟨⟨_,(H.pm 10 [4,7,0,1,2,3,4,5,6,7,8,9] rfl:)⟩,?_⟩
 refine m_heavy rfl rfl ?_
 obtain ⟨x485,ex485,hm⟩:=ob hm
 refine s_app wkP F rfl rfl rfl rfl rfl rfl elem23 rfl ex485 H 1 5 rfl rfl fun p484 c484 w a H F=>?_
 refine lz ?_;refine ct ⟨⟨_,(H.pm 10 [4,7,0,1,2,3,4,5,6,7,8,9] rfl:)⟩,?_⟩
 refine m_heavy rfl rfl ?_
 obtain ⟨x487,ex487,hm⟩:=ob hm
 refine s_app wkP F rfl rfl rfl rfl rfl rfl elem23 rfl ex487 H 0 3 rfl rfl fun p486 c486 w a H F=>?_
 refine lz ?_;refine ct ⟨⟨_,(H.pm 10 [4,7,0,1,2,3,4,5,6,7,8,9] rfl:)⟩,?_⟩
 refine m_pure F rfl rfl rfl rfl (fun u hu=>y_build F rfl rfl (cs:=[.slice p484 (x485).length c484,.slice p486 (x487).length c486]) (by kernel_rfl)) fun a F=>?_
 refine m_heavy rfl rfl ?_
 replace H:=H.frzNB 1 rfl
 replace H:=H.frzNB 1 rfl
 refine s_build1 wkP F rfl rfl rfl agg60 elem22 rfl rfl rfl (by decide) H fun b488 w a H F=>?_
 replace H:=H.blkOw1 (R:=(rP2N w0.heap.size)) (x:=(x485,x487)) (fun gg=>⟨_,_,rfl,⟨_,_,rfl,(gg 2 _ rfl).choose_spec⟩,⟨_,_,rfl,(gg 1 _ rfl).choose_spec⟩⟩)
 refine lz ?_;refine ct ⟨⟨_,(H.pm 11 [5,8,0,1,2,3,4,5,6,7,8,9,10] rfl:)⟩,?_⟩
 refine m_heavy rfl rfl ?_
 replace H:=H.frz 0 rfl
 obtain ⟨x490,ex490,hm⟩:=ob hm
 refine s_app wkP F rfl rfl rfl rfl rfl rfl elem22 rfl ex490 H 9 0 rfl rfl fun p489 c489 w a H F=>?_
 refine lz ?_;refine ct ⟨⟨_,(H.pm 11 [5,8,0,1,2,3,4,5,6,7,8,9,10] rfl:)⟩,?_⟩
 refine mb [0] F H rfl fun a F=>m_nil ?_
 cases hm
 refine ct ?_
 exact ⟨p489,c489,F.sl rfl,(H.pm 11 [9,10] rfl:)⟩
 refine m_heavy rfl rfl (s_build0O (R:=rByte) wkP F rfl rfl rfl elem23 rfl H fun b491 w a H F=>?_)
 refine lz ?_;refine ct ⟨⟨_,(H.pm 9 [3,6,0,1,2,3,4,5,6,7,8] rfl:)⟩,?_⟩
 refine m_heavy rfl rfl (s_build0O (R:=rByte) wkP F rfl rfl rfl elem23 rfl H fun b492 w a H F=>?_)
 refine lz ?_;refine ct ⟨⟨_,(H.pm 10 [4,7,0,1,2,3,4,5,6,7,8,9] rfl:)⟩,?_⟩
 refine m_heavy rfl rfl ?_
 obtain ⟨x494,ex494,hm⟩:=ob hm
 refine s_app wkP F rfl rfl rfl rfl rfl rfl elem23 rfl ex494 H 0 5 rfl rfl fun p493 c493 w a H F=>?_
 refine lz ?_;refine ct ⟨⟨_,(H.pm 10 [4,7,0,1,2,3,4,5,6,7,8,9] rfl:)⟩,?_⟩
 refine m_heavy rfl rfl ?_
 obtain ⟨x496,ex496,hm⟩:=ob hm
 refine s_app wkP F rfl rfl rfl rfl rfl rfl elem23 rfl ex496 H 1 3 rfl rfl fun p495 c495 w a H F=>?_
 refine lz ?_;refine ct ⟨⟨_,(H.pm 10 [4,7,0,1,2,3,4,5,6,7,8,9] rfl:)⟩,?_⟩
 refine m_pure F rfl rfl rfl rfl (fun u hu=>y_build F rfl rfl (cs:=[.slice p493 (x494).length c493,.slice p495 (x496).length c495]) (by kernel_rfl)) fun a F=>?_
 refine m_heavy rfl rfl ?_
 replace H:=H.frzNB 0 rfl
 replace H:=H.frzNB 1 rfl
 refine s_build1 wkP F rfl rfl rfl agg60 elem22 rfl rfl rfl (by decide) H fun b497 w a H F=>?_
 replace H:=H.blkOw1 (R:=(rP2N w0.heap.size)) (x:=(x494,x496)) (fun gg=>⟨_,_,rfl,⟨_,_,rfl,(gg 2 _ rfl).choose_spec⟩,⟨_,_,rfl,(gg 1 _ rfl).choose_spec⟩⟩)
 refine lz ?_;refine ct ⟨⟨_,(H.pm 11 [5,8,0,1,2,3,4,5,6,7,8,9,10] rfl:)⟩,?_⟩
 refine m_heavy rfl rfl ?_
 replace H:=H.frz 0 rfl
 obtain ⟨x499,ex499,hm⟩:=ob hm
 refine s_app wkP F rfl rfl rfl rfl rfl rfl elem22 rfl ex499 H 9 0 rfl rfl fun p498 c498 w a H F=>?_
 refine lz ?_;refine ct ⟨⟨_,(H.pm 11 [5,8,0,1,2,3,4,5,6,7,8,9,10] rfl:)⟩,?_⟩
 refine mb [0] F H rfl fun a F=>m_nil ?_
 cases hm
 refine ct ?_
 exact ⟨p498,c498,F.sl rfl,(H.pm 11 [9,10] rfl:)⟩
 refine bn (ct (rl (bb [0,0,0] F H rfl fun a F=>?_)))
 refine lz (ct ?_);cases hm
 exact ⟨_,rfl,⟨p460,c460,F.sl rfl,H⟩⟩
 refine ex (cx (cx ?_));cases hm;refine ⟨_,rfl,?_⟩;rintro rfl
 refine ch (ct ?_)
 exact ⟨p418,c418,F.sl rfl,(H.pm 2 [0] rfl:)⟩
 refine ct (sb [0,0] F H rfl fun a F=>nl (wr ?_))
 replace H:=H.frzP2 0 rfl
 cases hm
 refine x_ret1 F rfl rfl ?_
 exact ⟨_,rfl,p252,c252,rfl,H⟩
theorem w_rCopyOp {oq:T_api_Op} {cs1:List Value} {w0 w:World} {l:List HP}  {r:T_api_Op} (hm:rCopyOp oq=some r) (H:St w0 w (HP.rc R_api_Op cs1 oq::l)) :
  Calls Tryz.prog 13 [.agg cs1.toArray].toArray w (fun e w'=>∃ v,e=.returned v∧∃ (cs2:List Value),v=.agg cs2.toArray∧St w0 w' (HP.rc R_api_Op cs2 r::l)):=by
 unfold rCopyOp at hm
 refine x_enter Tryz.func13 rfl rfl rfl ?_
 intro a F
 refine sr (s_boxA wkP F rfl rfl rfl rfl rfl H fun b3 w a H F=>?_)
 replace H:=H.owNil rByte 5
 refine s_allocA wkP F rfl rfl rfl agz25 rfl H fun b4 w a H F=>?_
 replace H:=H.nf 4 rfl
 refine nl (sr (bk [0] F H rfl ⟨fld25_0,trivial⟩ fun a F=>?_))
 have G:=F;replace H:=rc_api_Op (H.pk 3 rfl);obtain ⟨p5,c6,rfl,J⟩:=H;have H:=J;have F:=G;clear G J
 refine bk [3000,1,3001,2,3002,3,3003,4,3004] F H rfl ⟨rfl,plain3,fld25_1,rfl,plain9,fld25_2,rfl,plain9,fld25_3,rfl,plain3,fld25_4,rfl,plain3,trivial⟩ fun a F=>?_
 replace H:=H.owNil rByte 5
 refine sv F rfl (y_build F rfl rfl (cs:=[.int .i64 (oq.1),.string (txb (oq.2.1)),.string (txb (oq.2.2.1)),.int .i64 (oq.2.2.2.1),.int .i64 (oq.2.2.2.2.1),.slice none (([]:List UInt8)).length 0]) (by kernel_rfl)) fun a F=>?_
 replace H:=H.owNil rByte 5
 refine s_allocA wkP F rfl rfl rfl agz25 rfl H fun b7 w a H F=>s_storeA wkP F rfl rfl agg25 rfl rfl rfl H 0 rfl rfl rfl (fl rfl) fun w H=>?_
 replace H:=H.nf 7 rfl
 refine nl (sr (s_build0O (R:=rByte) wkP F rfl rfl rfl elem23 rfl H fun b8 w a H F=>bk [5,7005] F H rfl ⟨fld25_5,rfl,plain23,trivial⟩ fun a F=>?_))
 obtain ⟨x10,ex10,hm⟩:=ob hm
 refine s_app wkP F rfl rfl rfl rfl rfl rfl elem23 rfl ex10 H 0 4 rfl rfl fun p9 c9 w a H F=>?_
 refine bk [5] F H rfl ⟨fld25_5,trivial⟩ fun a F=>s_st1 wkP F rfl rfl zero23 rfl rfl rfl rfl rfl H 1 rfl rfl fun w H=>?_
 replace H:=H.nf 8 rfl
 refine nl (sr (bk [1999] F H rfl ⟨rfl,(aggn agg25 rfl),trivial⟩ fun a F=>s_storeA wkP F rfl rfl agg25 rfl rfl rfl H 5 rfl rfl rfl (fl rfl) fun w H=>?_))
 replace H:=H.nf 8 rfl
 refine nl (wr ?_)
 replace H:=H.frz 0 rfl
 replace H:=mk_api_Op H oq.1 oq.2.1 oq.2.2.1 oq.2.2.2.1 oq.2.2.2.2.1 0 rfl
 cases hm
 refine x_resC1 F rfl (⟨_,rfl,agg25.run_load (H.blk 6 rfl).row rfl⟩) ?_
 exact ⟨_,rfl,[.int .i64 (oq.1),.string (txb (oq.2.1)),.string (txb (oq.2.2.1)),.int .i64 (oq.2.2.2.1),.int .i64 (oq.2.2.2.2.1),.slice p9 (x10).length c9],rfl,(H.pm 9 [0] rfl:)⟩
theorem w_rSameOp {a_:T_api_Op} {b_:T_api_Op} {cs1:List Value} {cs2:List Value} {w0 w:World} {l:List HP}  {r:Bool} (hm:rSameOp a_ b_=some r) (H:St w0 w (HP.rc R_api_Op cs1 a_::HP.rc R_api_Op cs2 b_::l)) :
  Calls Tryz.prog 21 [.agg cs1.toArray,.agg cs2.toArray].toArray w (fun e w'=>∃ v,e=.returned v∧v=.bool (r)∧St w0 w' (l)):=by
 unfold rSameOp at hm
 refine x_enter Tryz.func21 rfl rfl rfl ?_
 intro a F
 refine sr (s_boxA wkP F rfl rfl rfl rfl rfl H fun b3 w a H F=>s_boxA wkP F rfl rfl rfl rfl rfl H fun b4 w a H F=>bb [0] F H rfl fun a F=>?_)
 replace H:=H.nf 4 rfl
 refine nl (sr (bk [0] F H rfl ⟨fld25_0,trivial⟩ fun a F=>?_))
 have G:=F;replace H:=rc_api_Op (H.pk 2 rfl);obtain ⟨p5,c6,rfl,J⟩:=H;have H:=J;have F:=G;clear G J
 refine bk [2000,0] F H rfl ⟨rfl,plain3,fld25_0,trivial⟩ fun a F=>?_
 have G:=F;replace H:=rc_api_Op (H.pk 3 rfl);obtain ⟨p7,c8,rfl,J⟩:=H;have H:=J;have F:=G;clear G J
 refine bk [2000,0,0] F H rfl ⟨rfl,plain3,trivial⟩ fun a F=>?_
 rcases spP 10 F rfl hm with ⟨hg9,hm,F⟩ | ⟨hg9,hm,F⟩
 refine bk [1,3001,1,2001] F H rfl ⟨fld25_1,rfl,plain9,fld25_1,rfl,plain9,trivial⟩ fun a F=>g_onP F rfl rfl rfl rfl (sv F rfl (y_eqT (l:=a_.2.1) (m:=b_.2.1) F rfl rfl rfl) fun a F=>bb [0,0] F H rfl fun a F=>?_)
 rcases spP 17 F rfl hm with ⟨hg10,hm,F⟩ | ⟨hg10,hm,F⟩
 refine bk [2,3002,2,2002] F H rfl ⟨fld25_2,rfl,plain9,fld25_2,rfl,plain9,trivial⟩ fun a F=>g_onP F rfl rfl rfl rfl (sv F rfl (y_eqT (l:=a_.2.2.1) (m:=b_.2.2.1) F rfl rfl rfl) fun a F=>bb [0,0] F H rfl fun a F=>?_)
 rcases spP 24 F rfl hm with ⟨hg11,hm,F⟩ | ⟨hg11,hm,F⟩
 refine bk [3,3003,3,2003,0,0,0] F H rfl ⟨fld25_3,rfl,plain3,fld25_3,rfl,plain3,trivial⟩ fun a F=>?_
 rcases spP 31 F rfl hm with ⟨hg12,hm,F⟩ | ⟨hg12,hm,F⟩
 refine bk [4,3004,4,2004,0,0,0] F H rfl ⟨fld25_4,rfl,plain3,fld25_4,rfl,plain3,trivial⟩ fun a F=>?_
 rcases spP 38 F rfl hm with ⟨hg13,hm,F⟩ | ⟨hg13,hm,F⟩
 refine bk [5,3005] F H rfl ⟨fld25_5,rfl,plain23,trivial⟩ fun a F=>g_onP F rfl rfl rfl rfl (sv F rfl (y_b2s F Tryz.underlying23 Tryz.underlying9 Tryz.underlying5 rfl rfl (H) 1 rfl) fun a F=>bk [5,2005] F H rfl ⟨fld25_5,rfl,plain23,trivial⟩ fun a F=>g_onP F rfl rfl rfl rfl (sv F rfl (y_b2s F Tryz.underlying23 Tryz.underlying9 Tryz.underlying5 rfl rfl (H) 0 rfl) fun a F=>g_onP F rfl rfl rfl rfl (sv F rfl (y_eqT (l:=a_.2.2.2.2.2) (m:=b_.2.2.2.2.2) F rfl rfl rfl) fun a F=>bb [0,0] F H rfl fun a F=>nl (wr ?_))))
 cases hm
 refine x_ret1 F rfl rfl ?_
 exact ⟨_,rfl,rfl,(H.pm 4 [] rfl:)⟩
 refine bb (List.replicate 9 0) F H rfl fun a F=>nl (wr ?_)
 cases hm
 refine x_ret1 F rfl rfl ?_
 exact ⟨_,rfl,rfl,(H.pm 4 [] rfl:)⟩
 refine bb (List.replicate 16 0) F H rfl fun a F=>nl (wr ?_)
 cases hm
 refine x_ret1 F rfl rfl ?_
 exact ⟨_,rfl,rfl,(H.pm 4 [] rfl:)⟩
 refine bb (List.replicate 23 0) F H rfl fun a F=>nl (wr ?_)
 cases hm
 refine x_ret1 F rfl rfl ?_
 exact ⟨_,rfl,rfl,(H.pm 4 [] rfl:)⟩
 refine bb (List.replicate 30 0) F H rfl fun a F=>nl (wr ?_)
 cases hm
 refine x_ret1 F rfl rfl ?_
 exact ⟨_,rfl,rfl,(H.pm 4 [] rfl:)⟩
 refine bb (List.replicate 37 0) F H rfl fun a F=>nl (wr ?_)
 cases hm
 refine x_ret1 F rfl rfl ?_
 exact ⟨_,rfl,rfl,(H.pm 4 [] rfl:)⟩
theorem w_rRising {list:List T_api_Pair} {p1:Option Addr} {c1:Nat} {w0 w:World} {l:List HP}  {r:Bool} (hm:rRising list=some r) (H:St w0 w (HP.sl R_api_Pair p1 c1 list::l)) :
  Calls Tryz.prog 30 [.slice p1 (list).length c1].toArray w (fun e w'=>∃ v,e=.returned v∧v=.bool (r)∧St w0 w' (l)):=by
 unfold rRising at hm
 refine x_enter Tryz.func30 rfl rfl rfl ?_
 intro a F
 refine sb [0] F H rfl fun a F=>nl (sq (sb [0] F H rfl fun a F=>?_))
 refine nl (xr0 1 [] [] F H hm rfl rfl (fun r48 z=>z) (fun r48 z=>z) (fun o48 hm hm48=>?_) (fun r48 a w hm F H=>?_))
 refine bl (xl0 1 [0] [0] F H hm rfl rfl (fun (s79:Int) z=>(3,.int .i64 (s79))::z) (fun s79 z=>z) ⟨F.sl rfl,H⟩ (fun s79 a w o F H hm=>sq (sr (bk [0,0,0,0] F H rfl ⟨⟨_,Tryz.underlying22⟩,trivial⟩ fun a F=>?_))))
 refine nl (cPm F rfl hm (fun hg80 hm=>?_) (fun hg80 hm=>?_))
 refine sk (ct (sq (bl (sq ?_))))
 obtain ⟨x81,ex81,hm⟩:=ob hm
 obtain ⟨b82,o82,hp82,cs83,H⟩:=H.slE 0 rfl ex81
 have G:=F;replace H:=rc_api_Pair (H.pk 1 rfl);obtain ⟨p84,c85,p86,c87,rfl,J⟩:=H;have H:=J;have F:=G;clear G J
 obtain ⟨x88,ex88,hm⟩:=ob hm
 obtain ⟨cs89,H⟩:=H.slF 3 rfl hp82 ex88
 have G:=F;replace H:=rc_api_Pair (H.pk 1 rfl);obtain ⟨p90,c91,p92,c93,rfl,J⟩:=H;have H:=J;have F:=G;clear G J
 refine qr H (by kernel_rfl) (by kernel_rfl) ?_
 refine qb [0,0,0] F rfl fun a F=>qv F rfl (fun u hu=>y_idxS F elem22 rfl rfl rfl hp82 ex81) fun a F=>qbk [0,5000] F rfl ⟨fld60_0,rfl,plain23,trivial⟩ fun a F=>qv F rfl (fun u hu=>y_b2s F Tryz.underlying23 Tryz.underlying9 Tryz.underlying5 rfl rfl (hu) 3 rfl) fun a F=>qb [0,0] F rfl fun a F=>qv F rfl (fun u hu=>y_idxS F elem22 rfl rfl rfl hp82 ex88) fun a F=>qbk [0,2000] F rfl ⟨fld60_0,rfl,plain23,trivial⟩ fun a F=>qv F rfl (fun u hu=>y_b2s F Tryz.underlying23 Tryz.underlying9 Tryz.underlying5 rfl rfl (hu) 0 rfl) fun a F=>qv F rfl (fun u hu=>y_geqT (l:=x81.1) (m:=x88.1) F rfl rfl rfl) fun a F=>?_
 refine q_nil fun w H=>?_
 refine ct (cB F rfl (fun hg94=>?_) (fun hg94=>?_))
 replace hm:=ifT hg94 hm
 refine sb [0] F H rfl fun a F=>?_
 refine nl (wr (br (tr (tr ?_))));cases hm;refine ⟨_,rfl,?_⟩;rintro rfl
 refine br (tr ?_)
 replace hm:=elimR hm48
 refine tr ?_
 cases hm
 refine x_ret1 F rfl rfl ?_
 exact ⟨_,rfl,rfl,(H.pm 7 [] rfl:)⟩
 replace hm:=ifF (nT hg94) hm
 refine sk (bn (ct (rl (bb [0,0,0] F H rfl fun a F=>?_))))
 refine lz (ct ?_);cases hm
 exact ⟨_,rfl,⟨F.sl rfl,(H.pm 7 [6] rfl:)⟩⟩
 refine ex (cx (cx ?_));cases hm;refine ⟨_,rfl,?_⟩;rintro rfl
 refine ch (ct ?_)
 exact ⟨_,rfl,F.cut _ trivial,(H.pm 1 [] rfl:)⟩
 refine ct (sb [0] F H rfl fun a F=>nl (wr ?_))
 cases hm
 refine x_ret1 F rfl rfl ?_
 exact ⟨_,rfl,rfl,H⟩
theorem ent30:En Tryz.prog 30:=enters Tryz.func30 (by kernel_rfl) rfl
theorem w_rNodes {pairs:List T_api_Pair} {p1:Option Addr} {c1:Nat} {w0 w:World} {l:List HP}  {r:(List T_triremeref11_Node)×Bool} (hm:rNodes pairs=some r) (H:St w0 w (HP.sl R_api_Pair p1 c1 pairs::l)) :
  Calls Tryz.prog 14 [.slice p1 (pairs).length c1].toArray w (fun e w'=>∃ v,e=.returned v∧∃ (p2:Option Addr) (c2:Nat),v=.tuple [.slice p2 (r.1).length c2,.bool (r.2)].toArray∧St w0 w' (HP.sl R_triremeref11_Node p2 c2 r.1::l)):=by
 unfold rNodes at hm
 refine x_enter Tryz.func14 rfl rfl rfl ?_
 intro a F
 refine sb [0,0] F H rfl fun a F=>nl (sr (s_build0O (R:=R_triremeref11_Node) wkP F rfl rfl rfl elem30 rfl H fun b3 w a H F=>bb [0] F H rfl fun a F=>?_))
 replace H:=H.nf 2 rfl
 refine nl (sq (sb [0] F H rfl fun a F=>?_))
 refine nl (xm2 2 [0] [1] F H hm rfl rfl (fun r161 (p162:Option Addr) (c162:Nat) z=>(4,.slice p162 (r161).length c162)::z) (fun r161 p162 c162 z=>HP.ow R_triremeref11_Node 50 p162 c162 r161::z) (fun r161 hm=>?_) (fun r161 a w hm p162 c162 F H=>?_))
 refine bl (xl2 2 [0] [1] F H hm rfl rfl (fun (s267:(List T_triremeref11_Node)×Int) (p268:Option Addr) (c268:Nat) z=>(4,.slice p268 (s267.1).length c268)::(5,.int .i64 (s267.2))::z) (fun s267 p268 c268 z=>HP.ow R_triremeref11_Node 50 p268 c268 s267.1::z) ⟨(some ⟨b3,0,none⟩),0,F.sl rfl,H⟩ (fun s267 a w o p268 c268 F H hm=>sq (sr (bk [0,0,0,0] F H rfl ⟨⟨_,Tryz.underlying22⟩,trivial⟩ fun a F=>?_))))
 refine nl (cPm F rfl hm (fun hg269 hm=>?_) (fun hg269 hm=>?_))
 refine sk (ct (sq (xm2 2 [0,5] [1] F H hm rfl rfl (fun r294 (p295:Option Addr) (c295:Nat) z=>(4,.slice p295 (r294).length c295)::z) (fun r294 p295 c295 z=>HP.ow R_triremeref11_Node 50 p295 c295 r294::z) (fun r294 hm=>?_) (fun r294 a w hm p295 c295 F H=>?_))))
 refine bl (sq ?_)
 obtain ⟨x296,ex296,hm⟩:=ob hm
 obtain ⟨b297,o297,hp297,cs298,H⟩:=H.slE 1 rfl ex296
 have G:=F;replace H:=rc_api_Pair (H.pk 1 rfl);obtain ⟨p299,c300,p301,c302,rfl,J⟩:=H;have H:=J;have F:=G;clear G J
 obtain ⟨x303,ex303,hm⟩:=ob hm
 obtain ⟨cs304,H⟩:=H.slF 4 rfl hp297 ex303
 have G:=F;replace H:=rc_api_Pair (H.pk 1 rfl);obtain ⟨p305,c306,p307,c308,rfl,J⟩:=H;have H:=J;have F:=G;clear G J
 refine qr H (by kernel_rfl) (by kernel_rfl) ?_
 refine qb [0,0] F rfl fun a F=>qv F rfl (fun u hu=>y_idxS F elem22 rfl rfl rfl hp297 ex296) fun a F=>qbk [0,5000,0,0] F rfl ⟨fld60_0,rfl,plain23,trivial⟩ fun a F=>qv F rfl (fun u hu=>y_idxS F elem22 rfl rfl rfl hp297 ex303) fun a F=>qbk [1,2001,0,0] F rfl ⟨fld60_1,rfl,plain23,trivial⟩ fun a F=>?_
 refine q_nil fun w H=>?_
 refine ct (sq (sr (bk [0,0,0,0] F H rfl ⟨⟨_,Tryz.underlying23⟩,trivial⟩ fun a F=>?_)))
 rcases spP 34 F rfl hm with ⟨hg309,hm,F⟩ | ⟨hg309,hm,F⟩
 refine bb (List.replicate 10 0) F H rfl fun a F=>nl (cT F rfl ?_)
 refine ex (cx (ch ?_))
 cases hm
 refine ct ?_
 exact ⟨p268,c268,F.sl rfl,(H.pm 8 [6,7] rfl:)⟩
 refine bb [0] F H rfl fun a F=>g_onP F rfl rfl rfl rfl ?_
 obtain ⟨x310,ex310,hm⟩:=ob hm
 obtain ⟨b311,o311,hp311,cs312,H⟩:=H.slE 3 rfl ex310
 obtain rfl:=H.rcB 1 rfl
 replace H:=H.dp 1 rfl
 refine sv F rfl (y_idxS F elem23 rfl rfl rfl hp311 ex310) fun a F=>bk [0,0,0,0] F H rfl ⟨rfl,plain5,trivial⟩ fun a F=>?_
 rcases spN 40 F rfl hm with ⟨hg313,hm,F⟩ | ⟨hg313,hm,F⟩
 refine bk [0,0,0,0] F H rfl ⟨⟨_,Tryz.underlying23⟩,trivial⟩ fun a F=>?_
 refine nl (cPm F rfl hm (fun hg314 hm=>?_) (fun hg314 hm=>?_))
 refine ex (cx (ch ?_))
 cases hm
 refine ct ?_
 exact ⟨p268,c268,F.sl rfl,(H.pm 9 [7,8] rfl:)⟩
 refine sk (ct ?_)
 obtain ⟨x316,ex316,hm⟩:=ob hm
 have hc315:=H.slCap 4 rfl
 replace H:=H.slSubN 1 rfl 4 rfl ex316
 replace H:=H.owNil rByte 5
 refine mix_regionK [8,9] [] (scL [0,1,2,3,4,5,6,7,2008,2009,10]) [1,4] H rfl rfl (by kernel_rfl) (by kernel_rfl) fun w H=>?_
 refine mb [0,0] F H rfl fun a F=>?_
 refine m_pure F rfl rfl rfl rfl (fun u hu=>y_slL F elem23 rfl rfl rfl ex316 hc315) fun a F=>?_
 refine m_pure F rfl rfl rfl rfl (fun u hu=>y_b2s F Tryz.underlying23 Tryz.underlying9 Tryz.underlying5 rfl rfl (hu.choose_spec) 0 rfl) fun a F=>?_
 refine mb [0] F H rfl fun a F=>?_
 refine m_pure F rfl rfl rfl rfl (fun u hu=>y_b2s F Tryz.underlying23 Tryz.underlying9 Tryz.underlying5 rfl rfl (hu.choose_spec) 1 rfl) fun a F=>?_
 refine m_pure F rfl rfl rfl rfl (fun u hu=>y_eqT (l:=x303.2) (m:=[100]) F rfl rfl rfl) fun a F=>?_
 refine m_pure F rfl rfl rfl rfl (fun u hu=>y_build F rfl rfl (cs:=[.string (txb (x316)),.bool (decide (x303.2=([100]))),.slice none (([]:List UInt8)).length 0]) (by kernel_rfl)) fun a F=>?_
 refine m_heavy rfl rfl ?_
 replace H:=H.frz 0 rfl
 refine s_build1 wkP F rfl rfl rfl agg50 elem30 rfl rfl rfl (by decide) H fun b317 w a H F=>?_
 replace H:=H.blkOw1 (R:=R_triremeref11_Node) (x:=(x316,decide (x303.2=([100])),([]:List UInt8))) (fun gg=>⟨_,_,rfl,rfl,⟨_,_,rfl,rfl,⟨_,_,rfl,(gg 1 _ rfl).choose_spec⟩⟩⟩)
 refine lz ?_;refine ct ⟨⟨_,(H.pm 12 [2,5,0,1,2,3,4,5,6,7,8,9,10,11] rfl:)⟩,?_⟩
 refine m_heavy rfl rfl ?_
 replace H:=H.frz 0 rfl
 obtain ⟨x319,ex319,hm⟩:=ob hm
 refine s_app wkP F rfl rfl rfl rfl rfl rfl elem30 rfl ex319 H 10 0 rfl rfl fun p318 c318 w a H F=>?_
 refine lz ?_;refine ct ⟨⟨_,(H.pm 12 [2,5,0,1,2,3,4,5,6,7,8,9,10,11] rfl:)⟩,?_⟩
 refine mb [0] F H rfl fun a F=>m_nil (bn ?_)
 cases hm
 refine ct ?_
 exact ⟨p318,c318,F.sl rfl,(H.pm 12 [10,11] rfl:)⟩
 refine bb [0,0,0,0] F H rfl fun a F=>nl (cT F rfl ?_)
 refine ex (cx (ch ?_))
 cases hm
 refine ct ?_
 exact ⟨p268,c268,F.sl rfl,(H.pm 9 [7,8] rfl:)⟩
 refine ct (rl (bb [0,0,0] F H rfl fun a F=>?_))
 refine lz (ct ?_);cases hm
 exact ⟨_,rfl,⟨p295,c295,F.sl rfl,H⟩⟩
 refine ex (cx (cx ?_));cases hm;refine ⟨_,rfl,?_⟩;rintro rfl
 refine ch (ct ?_)
 exact ⟨p268,c268,F.sl rfl,H⟩
 refine ct (sq (sb [0] F H rfl fun a F=>?_))
 refine nl (xr2 2 [0] [1] F H hm rfl rfl (fun r567 (p568:Option Addr) (c568:Nat) z=>(4,.slice p568 (r567).length c568)::z) (fun r567 p568 c568 z=>HP.ow R_triremeref11_Node 50 p568 c568 r567::z) (fun o567 hm hm567=>?_) (fun r567 a w hm p568 c568 F H=>?_))
 refine bl (xl2 2 [0] [1] F H hm rfl rfl (fun (s733:(List T_triremeref11_Node)×Int) (p734:Option Addr) (c734:Nat) z=>(4,.slice p734 (s733.1).length c734)::(8,.int .i64 (s733.2))::z) (fun s733 p734 c734 z=>HP.ow R_triremeref11_Node 50 p734 c734 s733.1::z) ⟨p162,c162,F.sl rfl,H⟩ (fun s733 a w o p734 c734 F H hm=>sq (sr (bk [0,0,0,0] F H rfl ⟨⟨_,Tryz.underlying22⟩,trivial⟩ fun a F=>?_))))
 refine nl (cPm F rfl hm (fun hg735 hm=>?_) (fun hg735 hm=>?_))
 refine sk (ct (sq (xr2 2 [0,8] [1] F H hm rfl rfl (fun r775 (p776:Option Addr) (c776:Nat) z=>(4,.slice p776 (r775).length c776)::z) (fun r775 p776 c776 z=>HP.ow R_triremeref11_Node 50 p776 c776 r775::z) (fun o775 hm hm775=>?_) (fun r775 a w hm p776 c776 F H=>?_))))
 refine bl (sb [0,0] F H rfl fun a F=>?_)
 obtain ⟨x777,ex777,hm⟩:=ob hm
 obtain ⟨b778,o778,hp778,cs779,H⟩:=H.slE 1 rfl ex777
 refine sv F rfl (y_idxS F elem22 rfl rfl rfl hp778 ex777) fun a F=>bk [0] F H rfl ⟨fld60_0,trivial⟩ fun a F=>?_
 have G:=F;replace H:=rc_api_Pair (H.pk 1 rfl);obtain ⟨p780,c781,p782,c783,rfl,J⟩:=H;have H:=J;have F:=G;clear G J
 refine bk [2000,0] F H rfl ⟨rfl,plain23,trivial⟩ fun a F=>nl (sq (sr (bk [0,0,0,0] F H rfl ⟨⟨_,Tryz.underlying23⟩,trivial⟩ fun a F=>?_)))
 rcases spP 69 F rfl hm with ⟨hg784,hm,F⟩ | ⟨hg784,hm,F⟩
 refine bb (List.replicate 5 0) F H rfl fun a F=>nl (cT F rfl ?_)
 refine ex (cx (ch ?_))
 cases hm
 refine ct ?_
 exact ⟨_,rfl,p734,c734,F.sl rfl,(H.pm 5 [3,4] rfl:)⟩
 refine bb [0] F H rfl fun a F=>g_onP F rfl rfl rfl rfl ?_
 obtain ⟨x785,ex785,hm⟩:=ob hm
 obtain ⟨b786,o786,hp786,cs787,H⟩:=H.slE 0 rfl ex785
 obtain rfl:=H.rcB 1 rfl
 replace H:=H.dp 1 rfl
 refine sv F rfl (y_idxS F elem23 rfl rfl rfl hp786 ex785) fun a F=>bk [0,0,0] F H rfl ⟨rfl,plain5,trivial⟩ fun a F=>?_
 refine nl (cNm F rfl hm (fun hg788 hm=>?_) (fun hg788 hm=>?_))
 refine ex (cx (ch ?_))
 cases hm
 refine ct ?_
 exact ⟨_,rfl,p734,c734,F.sl rfl,(H.pm 6 [4,5] rfl:)⟩
 refine sk (ct (sr (bk (List.replicate 5 0) F H rfl ⟨⟨_,Tryz.underlying23⟩,trivial⟩ fun a F=>?_)))
 obtain ⟨x790,ex790,hm⟩:=ob hm
 have hc789:=H.slCap 1 rfl
 replace H:=H.slSubN 1 rfl 1 rfl ex790
 refine sv F rfl (y_slLH F elem23 rfl rfl rfl rfl ex790 hc789) fun a F=>sv F rfl (y_b2s F Tryz.underlying23 Tryz.underlying9 Tryz.underlying5 rfl rfl (H) 0 rfl) fun a F=>?_
 obtain ⟨x791,ex791,hm⟩:=ob hm
 refine sd F rfl ent27 (w_rFindO ex791 (H.pm 7 [5,0,1,2,3,4,6] rfl:):) ?_;rintro _ w a ⟨rfl,H⟩ F
 refine bb [0] F H rfl fun a F=>?_
 replace H:=H.nf 7 rfl
 refine nl (sq (sb [0,0,0] F H rfl fun a F=>?_))
 rcases spP 85 F rfl hm with ⟨hg792,hm,F⟩ | ⟨hg792,hm,F⟩
 refine bb (List.replicate 6 0) F H rfl fun a F=>nl (cT F rfl (sb [0,0,0] F H rfl fun a F=>nl (wr (tr (br (tr ?_))))))
 cases hm
 replace hm:=elimR hm775
 refine tr (tr ?_);cases hm;refine ⟨_,rfl,?_⟩;rintro rfl
 refine br (tr ?_)
 replace hm:=elimR hm567
 refine tr ?_
 replace H:=H.frz 0 rfl
 cases hm
 refine x_ret2 F rfl rfl rfl ?_
 exact ⟨_,rfl,p734,c734,rfl,(H.pm 7 [0] rfl:)⟩
 refine bb [0,0] F H rfl fun a F=>g_onP F rfl rfl rfl rfl ?_
 obtain ⟨x793,ex793,hm⟩:=ob hm
 obtain ⟨b794,hp794⟩:=H.owP 0 rfl (idxO_some ex793).2
 obtain ⟨css795,H⟩:=H.oxOpen 0 rfl
 obtain ⟨cs795,hcs795,hcl795,H⟩:=H.oxEl 0 rfl (idxO_some ex793).2
 refine sv F rfl (y_idxS F elem30 rfl rfl rfl hp794 ex793) fun a F=>bk [1] F H rfl ⟨fld50_1,trivial⟩ fun a F=>g_onP F rfl rfl rfl rfl ?_
 have G:=F;replace H:=rc_triremeref11_Node (H.pk 0 rfl);obtain ⟨p796,c797,rfl,J⟩:=H;have H:=J;have F:=G;clear G J
 refine sv F rfl (y_load1 F plain4 rfl rfl (row_at (v:=.bool (x793.2.1)) (H.oxRow 1 rfl hp794 hcs795 hcl795) rfl)) fun a F=>bb [0] F H rfl fun a F=>nl ?_
 replace H:=H.oxShut 1 rfl
 refine cB F rfl (fun hg798=>?_) (fun hg798=>?_)
 replace hm:=ifT hg798 hm
 refine sb [0,0,0] F H rfl fun a F=>?_
 replace H:=H.nf 8 rfl
 refine nl (wr (tr (br (tr ?_))))
 cases hm
 replace hm:=elimR hm775
 refine tr (tr ?_);cases hm;refine ⟨_,rfl,?_⟩;rintro rfl
 refine br (tr ?_)
 replace hm:=elimR hm567
 refine tr ?_
 replace H:=H.frz 1 rfl
 cases hm
 refine x_ret2 F rfl rfl rfl ?_
 exact ⟨_,rfl,p734,c734,rfl,(H.pm 8 [0] rfl:)⟩
 replace hm:=ifF (nT hg798) hm
 refine sk (ct ?_)
 obtain ⟨x799,ex799,hm⟩:=ob hm
 obtain ⟨css800,H⟩:=H.oxOpen 1 rfl
 obtain ⟨cs800,hcs800,hcl800,H⟩:=H.oxEl 1 rfl (idxO_some ex799).2
 have G:=F;replace H:=rc_triremeref11_Node (H.pk 0 rfl);obtain ⟨p801,c802,rfl,J⟩:=H;have H:=J;have F:=G;clear G J
 obtain ⟨x803,ex803,hm⟩:=ob hm
 obtain ⟨cs804,H⟩:=H.slF 8 rfl hp778 ex803
 have G:=F;replace H:=rc_api_Pair (H.pk 1 rfl);obtain ⟨p805,c806,p807,c808,rfl,J⟩:=H;have H:=J;have F:=G;clear G J
 refine mix_regionK [2,8,14,17] [17] (scL [0,1,3,4,5,6,7,9,10,11,12,13,2002,2008,2014,15,16,3017]) [2,5] H rfl rfl (by kernel_rfl) (by kernel_rfl) fun w H=>?_
 refine mb [0,0,0,0] F H rfl fun a F=>?_
 refine m_pure F rfl rfl rfl rfl (fun u hu=>y_idxS F elem30 rfl rfl rfl hp794 ex799) fun a F=>?_
 refine mbk [2] F H rfl ⟨fld50_2,trivial⟩ fun a F=>?_
 refine m_pure F rfl rfl rfl rfl (fun u hu=>y_load1 F plain23 rfl rfl (row_at (v:=.slice p801 (x799.2.2).length c802) (hu.choose_spec.oxRow 1 rfl hp794 hcs800 hcl800) rfl)) fun a F=>?_
 refine mb [0,0] F H rfl fun a F=>?_
 refine m_pure F rfl rfl rfl rfl (fun u hu=>y_idxS F elem22 rfl rfl rfl hp778 ex803) fun a F=>?_
 refine mbk [1] F H rfl ⟨fld60_1,trivial⟩ fun a F=>?_
 refine m_pure F rfl rfl rfl rfl (fun u hu=>y_load1 F plain23 rfl rfl (row_at (v:=.slice p807 (x803.2).length c808) (hu.choose_spec.rowAt 0 rfl) rfl)) fun a F=>?_
 refine m_heavy rfl rfl (s_build0O (R:=rByte) wkP F rfl rfl rfl elem23 rfl H fun b809 w a H F=>?_)
 refine lz ?_;refine ct ⟨⟨_,(H.pm 13 [3,6,0,1,2,3,4,5,7,8,9,10,11,12] rfl:)⟩,?_⟩
 refine m_heavy rfl rfl ?_
 obtain ⟨x811,ex811,hm⟩:=ob hm
 refine s_app wkP F rfl rfl rfl rfl rfl rfl elem23 rfl ex811 H 0 4 rfl rfl fun p810 c810 w a H F=>?_
 refine lz ?_;refine ct ⟨⟨_,(H.pm 13 [3,6,0,1,2,3,4,5,7,8,9,10,11,12] rfl:)⟩,?_⟩
 refine m_heavy rfl rfl ?_
 obtain ⟨x813,ex813,hm⟩:=ob hm
 refine s_app wkP F rfl rfl rfl rfl rfl rfl elem23 rfl ex813 H 0 2 rfl rfl fun p812 c812 w a H F=>?_
 refine lz ?_;refine ct ⟨⟨_,(H.pm 13 [3,6,0,1,2,3,4,5,7,8,9,10,11,12] rfl:)⟩,?_⟩
 obtain ⟨x814,ex814,hm⟩:=ob hm
 obtain ⟨cs815,hcs815,hcl815,H⟩:=H.oxEl 6 rfl (idxO_some ex814).2
 refine m_pure F rfl rfl rfl rfl (fun u hu=>y_idxS F elem30 rfl rfl rfl hp794 ex814) fun a F=>?_
 refine mbk [2] F H rfl ⟨fld50_2,trivial⟩ fun a F=>m_last rfl rfl ?_
 replace H:=H.frz 1 rfl
 replace H:=H.oxShut 7 rfl
 refine s_owSetP wkP F rfl rfl zero23 rfl rfl rfl rfl rfl rfl rfl H 7 rfl hp794 ex814 (zz:=(x814.1,x814.2.1,x813)) (fun gg cs h=>rd_snd (k:=1) rfl h fun d h=>rd_snd (k:=0) rfl h fun d h=>rd_one rfl h ⟨_,_,rfl,(gg 0 _ rfl).choose_spec⟩) fun w H=>?_
 replace H:St w0 w (HP.sl rByte p812 c812 x813::HP.rc R_triremeref11_Node cs815 x814::HP.sl rByte p805 c806 x803.1::HP.sl rByte p807 c808 x803.2::HP.row b778 (o778+(s733.2:Int).toNat * 2) ([.slice p805 (x803.1).length c806,.slice p807 (x803.2).length c808])::HP.sl rByte p801 c802 x799.2.2::HP.sl rByte p796 c797 x793.2.2::HP.ow R_triremeref11_Node 50 p734 c734 ((s733.1).set (x791:Int).toNat (x814.1,x814.2.1,x813))::HP.sl rByte (shp p780 c781 (1:Int).toNat 1) (c781 - (1:Int).toNat) x790::HP.row b786 (o786+(0:Int).toNat * 1) ([.int .u8 (((x785).toNat:Int))])::HP.sl rByte p780 c781 x777.1::HP.sl rByte p782 c783 x777.2::HP.row b778 (o778+(s733.2:Int).toNat * 2) ([.slice p780 (x777.1).length c781,.slice p782 (x777.2).length c783])::HP.sl R_api_Pair p1 c1 pairs::l):=(by have h:=H;first | exact h | (simp only [List.length_set] at h ⊢;exact h))
 replace F:=F.bool (k:=4) (u:=.slice p734 ((s733.1).set (x791:Int).toNat (x814.1,x814.2.1,x813)).length c734) rfl (by simp only [List.length_set])
 replace F:=F.bool (k:=75) (u:=.slice p734 ((s733.1).set (x791:Int).toNat (x814.1,x814.2.1,x813)).length c734) rfl (by simp only [List.length_set])
 replace F:=F.bool (k:=86) (u:=.slice p734 ((s733.1).set (x791:Int).toNat (x814.1,x814.2.1,x813)).length c734) rfl (by simp only [List.length_set])
 replace F:=F.bool (k:=93) (u:=.slice p734 ((s733.1).set (x791:Int).toNat (x814.1,x814.2.1,x813)).length c734) rfl (by simp only [List.length_set])
 replace F:=F.bool (k:=96) (u:=.slice p734 ((s733.1).set (x791:Int).toNat (x814.1,x814.2.1,x813)).length c734) rfl (by simp only [List.length_set])
 refine lz ?_;refine ct ?_
 refine m_nil (bn ?_)
 cases hm
 refine ct ?_
 exact ⟨_,rfl,p734,c734,F.sl rfl,(H.pm 14 [7,13] rfl:)⟩
 refine ct (rl (bb [0,0,0] F H rfl fun a F=>?_))
 refine lz (ct ?_);cases hm
 exact ⟨_,rfl,⟨p776,c776,F.sl rfl,H⟩⟩
 refine ex (cx (cx ?_));cases hm;refine ⟨_,rfl,?_⟩;rintro rfl
 refine ch (ct ?_)
 exact ⟨_,rfl,p734,c734,F.sl rfl,H⟩
 refine ct (sq (sb [0] F H rfl fun a F=>?_))
 refine nl (xr0 2 [0,4] [0,1] F H hm rfl rfl (fun r937 z=>z) (fun r937 z=>z) (fun o937 hm hm937=>?_) (fun r937 a w hm F H=>?_))
 refine bl (xl0 2 [0,4] [0,1] F H hm rfl rfl (fun (s1018:Int) z=>(11,.int .i64 (s1018))::z) (fun s1018 z=>z) ⟨F.sl rfl,H⟩ (fun s1018 a w o F H hm=>sq (sr (bk [0,0,0,0] F H rfl ⟨⟨_,Tryz.underlying30⟩,trivial⟩ fun a F=>?_))))
 refine nl (cPm F rfl hm (fun hg1019 hm=>?_) (fun hg1019 hm=>?_))
 refine sk (ct (sq (xr0 2 [0,4,11] [0,1] F H hm rfl rfl (fun r1039 z=>z) (fun r1039 z=>z) (fun o1039 hm hm1039=>?_) (fun r1039 a w hm F H=>?_))))
 refine bl (sb [0,0] F H rfl fun a F=>?_)
 obtain ⟨x1040,ex1040,hm⟩:=ob hm
 obtain ⟨b1041,hp1041⟩:=H.owP 0 rfl (idxO_some ex1040).2
 obtain ⟨css1042,H⟩:=H.oxOpen 0 rfl
 obtain ⟨cs1042,hcs1042,hcl1042,H⟩:=H.oxEl 0 rfl (idxO_some ex1040).2
 refine sv F rfl (y_idxS F elem30 rfl rfl rfl hp1041 ex1040) fun a F=>sv F rfl (y_loadA F agg50 rfl rfl (H.oxRow 1 rfl hp1041 hcs1042 hcl1042) (H.rcLen 0 rfl)) fun a F=>?_
 replace H:=H.owNil rByte 5
 refine s_allocA wkP F rfl rfl rfl agz50 rfl H fun b1043 w a H F=>s_storeA wkP F rfl rfl agg50 rfl rfl rfl H 0 rfl (H.rcLen 2 rfl) rfl (H.rcFlat 2 rfl) fun w H=>?_
 replace H:=H.nf 5 rfl
 refine nl ?_
 replace H:=H.oxShut 3 rfl
 refine sq (sr (bk [0] F H rfl ⟨fld50_0,trivial⟩ fun a F=>?_))
 have G:=F;replace H:=rc_triremeref11_Node (H.pk 2 rfl);obtain ⟨p1044,c1045,rfl,J⟩:=H;have H:=J;have F:=G;clear G J
 refine bk [1000] F H rfl ⟨rfl,plain9,trivial⟩ fun a F=>?_
 obtain ⟨x1046,ex1046,hm⟩:=ob hm
 refine sd F rfl ent28 (w_m_triremeref09_Right ex1046 H:) ?_;rintro _ w a ⟨rfl,H⟩ F
 refine bb [0,0] F H rfl fun a F=>?_
 by_cases hg1047:(!x1046)=true
 replace hm:=ifT hg1047 hm
 replace F:=F.vT 124 hg1047 rfl
 refine bb (List.replicate 5 0) F H rfl fun a F=>?_
 replace H:=H.nf 5 rfl
 refine nl (cT F rfl (sb [0,0,0] F H rfl fun a F=>nl (wr (tr (br (tr ?_))))))
 cases hm
 replace hm:=elimR hm1039
 refine tr (tr ?_);cases hm;refine ⟨_,rfl,?_⟩;rintro rfl
 refine br (tr ?_)
 replace hm:=elimR hm937
 refine tr ?_
 replace H:=H.frz 3 rfl
 cases hm
 refine x_ret2 F rfl rfl rfl ?_
 exact ⟨_,rfl,p568,c568,rfl,(H.pm 5 [0] rfl:)⟩
 replace hm:=ifF hg1047 hm
 replace F:=F.vF 124 hg1047 rfl
 refine bk [2,1002,0,0,0] F H rfl ⟨fld50_2,rfl,plain23,⟨_,Tryz.underlying23⟩,trivial⟩ fun a F=>?_
 replace H:=H.nf 5 rfl
 refine nl (cPm F rfl hm (fun hg1048 hm=>?_) (fun hg1048 hm=>?_))
 refine sb [0,0,0] F H rfl fun a F=>nl (wr (tr (br (tr ?_))))
 cases hm
 replace hm:=elimR hm1039
 refine tr (tr ?_);cases hm;refine ⟨_,rfl,?_⟩;rintro rfl
 refine br (tr ?_)
 replace hm:=elimR hm937
 refine tr ?_
 replace H:=H.frz 3 rfl
 cases hm
 refine x_ret2 F rfl rfl rfl ?_
 exact ⟨_,rfl,p568,c568,rfl,(H.pm 5 [0] rfl:)⟩
 refine sk (ct (sq (sr (bk [0,1000] F H rfl ⟨fld50_0,rfl,plain9,trivial⟩ fun a F=>sv F rfl (y_eqT (l:=x1040.1) (m:=[47]) F rfl rfl rfl) fun a F=>?_))))
 refine nl (cPm F rfl hm (fun hg1049 hm=>?_) (fun hg1049 hm=>?_))
 refine sq (sr (bk [1,1001,0] F H rfl ⟨fld50_1,rfl,plain4,trivial⟩ fun a F=>?_))
 refine nl (cB F rfl (fun hg1050=>?_) (fun hg1050=>?_))
 replace hm:=ifT hg1050 hm
 refine sb [0,0,0] F H rfl fun a F=>nl (wr (tr (tr (br (tr ?_)))))
 cases hm
 replace hm:=elimR hm1039
 refine tr (tr ?_);cases hm;refine ⟨_,rfl,?_⟩;rintro rfl
 refine br (tr ?_)
 replace hm:=elimR hm937
 refine tr ?_
 replace H:=H.frz 3 rfl
 cases hm
 refine x_ret2 F rfl rfl rfl ?_
 exact ⟨_,rfl,p568,c568,rfl,(H.pm 5 [0] rfl:)⟩
 replace hm:=ifF (nT hg1050) hm
 refine sk (ct (ex (cx (ch ?_))))
 cases hm
 refine ct ?_
 exact ⟨_,rfl,F.sl rfl,(H.pm 5 [3,4] rfl:)⟩
 refine sk (ct (sr (bk [0,0,1000] F H rfl ⟨fld50_0,rfl,plain9,trivial⟩ fun a F=>?_)))
 obtain ⟨x1051,ex1051,hm⟩:=ob hm
 refine sd F rfl ent29 (w_m_triremeref09_Parent ex1051 H:) ?_;rintro _ w a ⟨rfl,H⟩ F
 obtain ⟨x1052,ex1052,hm⟩:=ob hm
 refine sd F rfl ent27 (w_rFindO ex1052 (H.pm 5 [3,0,1,2,4] rfl:):) ?_;rintro _ w a ⟨rfl,H⟩ F
 refine bb [0] F H rfl fun a F=>?_
 replace H:=H.nf 5 rfl
 refine nb [0,0,0] F H rfl fun a F=>?_
 rcases spP 145 F rfl hm with ⟨hg1053,hm,F⟩ | ⟨hg1053,hm,F⟩
 refine bb (List.replicate 7 0) F H rfl fun a F=>nl (cT F rfl (sb [0,0,0] F H rfl fun a F=>nl (wr (br (tr ?_)))))
 cases hm
 replace hm:=elimR hm1039
 refine tr (tr ?_);cases hm;refine ⟨_,rfl,?_⟩;rintro rfl
 refine br (tr ?_)
 replace hm:=elimR hm937
 refine tr ?_
 replace H:=H.frz 0 rfl
 cases hm
 refine x_ret2 F rfl rfl rfl ?_
 exact ⟨_,rfl,p568,c568,rfl,(H.pm 5 [0] rfl:)⟩
 refine bb [0,0] F H rfl fun a F=>g_onP F rfl rfl rfl rfl ?_
 obtain ⟨x1054,ex1054,hm⟩:=ob hm
 obtain ⟨css1055,H⟩:=H.oxOpen 0 rfl
 obtain ⟨cs1055,hcs1055,hcl1055,H⟩:=H.oxEl 0 rfl (idxO_some ex1054).2
 refine sv F rfl (y_idxS F elem30 rfl rfl rfl hp1041 ex1054) fun a F=>bk [1] F H rfl ⟨fld50_1,trivial⟩ fun a F=>g_onP F rfl rfl rfl rfl ?_
 have G:=F;replace H:=rc_triremeref11_Node (H.pk 0 rfl);obtain ⟨p1056,c1057,rfl,J⟩:=H;have H:=J;have F:=G;clear G J
 refine sv F rfl (y_load1 F plain4 rfl rfl (row_at (v:=.bool (x1054.2.1)) (H.oxRow 1 rfl hp1041 hcs1055 hcl1055) rfl)) fun a F=>bb [0,0] F H rfl fun a F=>nl ?_
 replace H:=H.oxShut 1 rfl
 refine cB F rfl (fun hg1058=>?_) (fun hg1058=>?_)
 replace hm:=ifT hg1058 hm
 refine sb [0,0,0] F H rfl fun a F=>?_
 replace H:=H.nf 6 rfl
 refine nl (wr (br (tr ?_)))
 cases hm
 replace hm:=elimR hm1039
 refine tr (tr ?_);cases hm;refine ⟨_,rfl,?_⟩;rintro rfl
 refine br (tr ?_)
 replace hm:=elimR hm937
 refine tr ?_
 replace H:=H.frz 1 rfl
 cases hm
 refine x_ret2 F rfl rfl rfl ?_
 exact ⟨_,rfl,p568,c568,rfl,(H.pm 6 [0] rfl:)⟩
 replace hm:=ifF (nT hg1058) hm
 refine sk (bn ?_)
 cases hm
 refine ct ?_
 exact ⟨_,rfl,F.sl rfl,(H.pm 6 [1,5] rfl:)⟩
 refine ct (rl (bb [0,0,0] F H rfl fun a F=>?_))
 refine lz (ct ?_);cases hm
 exact ⟨_,rfl,⟨F.sl rfl,H⟩⟩
 refine ex (cx (cx ?_));cases hm;refine ⟨_,rfl,?_⟩;rintro rfl
 refine ch (ct ?_)
 exact ⟨_,rfl,F.sl rfl,H⟩
 refine ct (sb [0,0] F H rfl fun a F=>?_)
 obtain ⟨x1059,ex1059,hm⟩:=ob hm
 refine sd F rfl ent27 (w_rFindO ex1059 H:) ?_;rintro _ w a ⟨rfl,H⟩ F
 refine bb [0,0] F H rfl fun a F=>?_
 rcases spP 158 F rfl hm with ⟨hg1060,hm,F⟩ | ⟨hg1060,hm,F⟩
 refine bb [0] F H rfl fun a F=>g_onP F rfl rfl rfl rfl ?_
 obtain ⟨x1061,ex1061,hm⟩:=ob hm
 refine sd F rfl ent30 (w_rRising ex1061 (H.pm 2 [1,0,1] rfl:):) ?_;rintro _ w a ⟨rfl,H⟩ F
 refine bb [0,0] F H rfl fun a F=>?_
 by_cases hg1062:x1061=true
 replace hm:=ifT hg1062 hm
 replace F:=F.vT 162 hg1062 rfl
 refine bb [0] F H rfl fun a F=>g_onP F rfl rfl rfl rfl ?_
 replace H:=H.frz 0 rfl
 obtain ⟨x1063,ex1063,hm⟩:=ob hm
 refine sd F rfl ent20 (w_m_triremeref11_Pairs ex1063 (H.pm 2 [0,0,1] rfl:):) ?_;rintro _ w a ⟨p1064,c1064,rfl,H⟩ F
 refine bb [0] F H rfl fun a F=>g_onP F rfl rfl rfl rfl ?_
 obtain ⟨x1065,ex1065,hm⟩:=ob hm
 refine sd F rfl ent19 (w_rSamePairs ex1065 (H.pm 3 [0,2,0,1,2] rfl:):) ?_;rintro _ w a ⟨rfl,H⟩ F
 refine bb [0,0,0] F H rfl fun a F=>?_
 replace H:=H.nf 3 rfl
 refine nl (wr ?_)
 cases hm
 refine x_ret2 F rfl rfl rfl ?_
 exact ⟨_,rfl,p568,c568,rfl,(H.pm 3 [1] rfl:)⟩
 replace hm:=ifF hg1062 hm
 replace F:=F.vF 162 hg1062 rfl
 refine bb (List.replicate 7 0) F H rfl fun a F=>?_
 replace H:=H.nf 2 rfl
 refine nl (wr ?_)
 replace H:=H.frz 0 rfl
 cases hm
 refine x_ret2 F rfl rfl rfl ?_
 exact ⟨_,rfl,p568,c568,rfl,(H.pm 2 [0] rfl:)⟩
 refine bb (List.replicate 11 0) F H rfl fun a F=>?_
 replace H:=H.nf 2 rfl
 refine nl (wr ?_)
 replace H:=H.frz 0 rfl
 cases hm
 refine x_ret2 F rfl rfl rfl ?_
 exact ⟨_,rfl,p568,c568,rfl,(H.pm 2 [0] rfl:)⟩
theorem w_spoil22 {p:Option Addr} {c:Nat} {xs:List (List UInt8×List UInt8)} {w0 w:World} {l:List HP} (H:St w0 w (HP.box p c xs::l)) :
  Calls Tryz.prog 22 [.slice p xs.length c].toArray w (fun e w'=>∃ v,e=.returned v∧v=.tuple [].toArray∧St w0 w' l):=by
 obtain ⟨B,hsB,hnsl,hsp⟩:=H.boxSp
 refine x_enter Tryz.func22 rfl rfl rfl ?_
 intro a F
 replace F:Fr ⟨49,[]⟩ a [(0,.slice p xs.length c)]:=F
 refine wp_seq ?_
 refine r_lit ?_
 refine sv F rfl (y_assign F rfl rfl) fun a F=>?_
 refine wpList_nil ?_
 refine c_then ?_
 refine wp_block ?_
 by_cases h0:0<xs.length
 case neg =>
  have H:=hsp 0
  refine x_loop (fun (i:Nat) aa ww=>Fr ⟨49,[]⟩ aa [(0,.slice p xs.length c),(2,.int .i64 0)]∧St w0 ww (HP.sp B 0 0::l)) (fun i=>0) 0 ⟨F.cut _ ⟨rfl,rfl,trivial⟩,H⟩ ?_
  clear F H
  rintro i a w ⟨F,H⟩
  refine wp_seq ?_
  refine wp_seq ?_
  refine r_lit ?_
  refine sv F rfl (y_move F rfl rfl) fun a F=>?_
  refine sv F rfl (y_move F rfl rfl) fun a F=>?_
  refine sv F rfl (y_lenS F rfl Tryz.underlying22 rfl) fun a F=>?_
  refine sv F rfl (y_lss F rfl rfl rfl) fun a F=>?_
  refine wpList_nil ?_
  refine c_then ?_
  refine x_condP F rfl (fun hc=>absurd hc (by omega)) (fun hc=>?_)
  refine wp_exit ?_
  refine c_thenX ?_
  refine c_thenX ?_
  refine c_hit ?_
  refine x_end0 F rfl ?_
  exact ⟨_,rfl,rfl,H.tail⟩
 obtain ⟨lb,lcur,le,hp,hlB,hlm,hls,hlel⟩:=pairsOk hsB hnsl h0
 replace H:=hsp lb
 refine x_loop (fun (i:Nat) aa ww=>i≤xs.length∧Fr ⟨49,[]⟩ aa [(0,.slice p xs.length c),(2,.int .i64 ((i:Nat):Int))]∧St w0 ww (HP.sp B lb (i * 2)::l)) (fun i=>xs.length - i) 0 ⟨Nat.zero_le _,F.cut _ ⟨rfl,rfl,trivial⟩,by simpa using H⟩ ?_
 clear F H
 rintro i a w ⟨hi,F,H⟩
 refine wp_seq ?_
 refine wp_seq ?_
 refine r_lit ?_
 refine sv F rfl (y_move F rfl rfl) fun a F=>sv F rfl (y_move F rfl rfl) fun a F=>sv F rfl (y_lenS F rfl Tryz.underlying22 rfl) fun a F=>sv F rfl (y_lss F rfl rfl rfl) fun a F=>?_
 refine wpList_nil ?_
 refine c_then ?_
 refine x_condP F rfl (fun hc=>?_) (fun hc=>?_)
 case refine_2 =>
  refine wp_exit ?_
  refine c_thenX ?_
  refine c_thenX ?_
  refine c_hit ?_
  refine x_end0 F rfl ?_
  exact ⟨_,rfl,rfl,H.tail⟩
 refine wp_skip ?_
 refine c_then ?_
 have hil:i<xs.length:=by omega
 obtain ⟨x,hx⟩:∃ x,xs[i]?=some x:=⟨_,List.getElem?_eq_getElem hil⟩
 have hidx:idxO xs ((i:Nat):Int)=some x:=by unfold idxO;rw [if_pos (by omega)];simpa using hx
 obtain ⟨kp,kc,vp,vc,hk1,hv1,hkok,hvok⟩:=hlel i x hx
 replace F:=F.cut [(0,.slice p xs.length c),(2,.int .i64 ((i:Nat):Int))] ⟨rfl,rfl,trivial⟩
 refine wp_seq ?_
 refine wp_block ?_
 refine wp_seq ?_
 refine wp_seq ?_
 refine r_lit ?_
 refine sv F rfl (y_assign F rfl rfl) fun a F=>?_
 refine wpList_nil ?_
 refine c_then ?_
 refine wp_block ?_
 refine x_loop (fun (k:Nat) aa ww=>k≤x.1.length∧Fr ⟨49,[]⟩ aa [(0,.slice p xs.length c),(2,.int .i64 ((i:Nat):Int)),(3,.int .i64 ((k:Nat):Int))]∧St w0 ww (HP.sp B lb (i * 2)::l)) (fun k=>x.1.length - k) 0 ⟨Nat.zero_le _,F.cut _ ⟨rfl,rfl,rfl,trivial⟩,H⟩ ?_
 clear F H
 rintro k a w ⟨hk,F,H⟩
 obtain ⟨old,o1,o2,o3,oput⟩:=H.spPut hlB
 have hcell:w.cell? ⟨lb,0+(((i:Nat):Int)).toNat * 2+0,none⟩=some (.slice kp x.1.length kc):=by
   rw [o1.cell]
   rcases o3 _ _ _ _ hk1 with h | ⟨_,h⟩
   · rw [← h];congr 1;simp
   · omega
 refine wp_seq ?_
 refine wp_seq ?_
 refine r_lit ?_
 refine sv F rfl (y_move F rfl rfl) fun a F=>sv F rfl (y_move F rfl rfl) fun a F=>sv F rfl (y_move F rfl rfl) fun a F=>sv F rfl (y_idxS F elem22 rfl rfl rfl hp hidx) fun a F=>sv F rfl (y_fieldAddr F fld60_0 rfl rfl) fun a F=>sv F rfl (y_load1 F plain23 rfl rfl hcell) fun a F=>sv F rfl (y_lenS F rfl Tryz.underlying23 rfl) fun a F=>sv F rfl (y_lss F rfl rfl rfl) fun a F=>?_
 refine wpList_nil ?_
 refine c_then ?_
 refine x_condP F rfl (fun hc=>?_) (fun hc=>?_)
 · refine wp_skip ?_
   refine c_then ?_
   have hkl:k<x.1.length:=by omega
   obtain ⟨kb,kcur,ke,hq,hkB,hkm,hks,hki⟩:=hkok (by omega)
   obtain ⟨old2,q1,q2,q3,qput⟩:=H.spPut hkB
   have hix:idxO x.1 ((k:Nat):Int)=some (x.1.getD k 0):=by unfold idxO;rw [if_pos (by omega)];simp [List.getD_eq_getElem?_getD,List.getElem?_eq_getElem hkl]
   refine wp_seq ?_
   refine wp_block ?_
   refine r_lit ?_
   refine sv F rfl (y_move F rfl rfl) fun a F=>?_
   refine sv F rfl (y_move F rfl rfl) fun a F=>?_
   refine sv F rfl (y_idxS F elem22 rfl rfl rfl hp hidx) fun a F=>?_
   refine sv F rfl (y_fieldAddr F fld60_0 rfl rfl) fun a F=>?_
   refine sv F rfl (y_load1 F plain23 rfl rfl hcell) fun a F=>?_
   refine sv F rfl (y_move F rfl rfl) fun a F=>?_
   refine sv F rfl (y_idxS F elem23 rfl rfl rfl hq hix) fun a F=>?_
   have H2:=qput (old2.set (0+(((k:Nat):Int)).toNat * 1) (.int .u8 238)) (i * 2) (by simp) (Nat.le_refl _) (fun o ad n c ho=>.inl (by
     refine List.getElem?_set_ne fun e=>?_
     have e2:o=k:=by rw [← e];simp
     rw [e2] at ho
     exact hki k hkl ad n c ho))
   refine s_none wkP F rfl rfl rfl (y_store1 F zero5 rfl rfl rfl rfl rfl q1 (by rw [q2];simp;omega)) ?_
   refine wpList_nil ?_
   refine c_blkN ?_
   refine c_then ?_
   refine r_lit ?_
   refine sv F rfl (y_move F rfl rfl) fun a F=>?_
   refine sv F rfl (y_add F rfl rfl rfl (wrap_i64 (r:=((k+1:Nat):Int)) (by omega) (by omega) (by unfold maxLen at hkm;omega))) fun a F=>?_
   refine sv F rfl (y_assign F rfl rfl) fun a F=>?_
   refine wpList_nil ?_
   exact c_then ⟨k+1,⟨hkl,F.cut _ ⟨rfl,rfl,rfl,trivial⟩,H2⟩,by show x.1.length - (k+1)<x.1.length - k;omega⟩
 refine wp_exit ?_
 refine c_thenX ?_
 refine c_thenX ?_
 refine c_hit ?_
 replace F:=F.cut [(0,.slice p xs.length c),(2,.int .i64 ((i:Nat):Int))] ⟨rfl,rfl,trivial⟩
 refine c_then ?_
 refine wp_seq ?_
 refine wp_seq ?_
 refine r_lit ?_
 refine sv F rfl (y_assign F rfl rfl) fun a F=>?_
 refine wpList_nil ?_
 refine c_then ?_
 refine wp_block ?_
 refine x_loop (fun (k:Nat) aa ww=>k≤x.2.length∧Fr ⟨49,[]⟩ aa [(0,.slice p xs.length c),(2,.int .i64 ((i:Nat):Int)),(4,.int .i64 ((k:Nat):Int))]∧St w0 ww (HP.sp B lb (i * 2)::l)) (fun k=>x.2.length - k) 0 ⟨Nat.zero_le _,F.cut _ ⟨rfl,rfl,rfl,trivial⟩,H⟩ ?_
 clear F H
 rintro k a w ⟨hk,F,H⟩
 obtain ⟨old,o1,o2,o3,oput⟩:=H.spPut hlB
 have hcell:w.cell? ⟨lb,0+(((i:Nat):Int)).toNat * 2+1,none⟩=some (.slice vp x.2.length vc):=by
   rw [o1.cell]
   rcases o3 _ _ _ _ hv1 with h | ⟨_,h⟩
   · rw [← h];congr 1;simp
   · omega
 refine wp_seq ?_
 refine wp_seq ?_
 refine r_lit ?_
 refine sv F rfl (y_move F rfl rfl) fun a F=>sv F rfl (y_move F rfl rfl) fun a F=>sv F rfl (y_move F rfl rfl) fun a F=>sv F rfl (y_idxS F elem22 rfl rfl rfl hp hidx) fun a F=>sv F rfl (y_fieldAddr F fld60_1 rfl rfl) fun a F=>sv F rfl (y_load1 F plain23 rfl rfl hcell) fun a F=>sv F rfl (y_lenS F rfl Tryz.underlying23 rfl) fun a F=>sv F rfl (y_lss F rfl rfl rfl) fun a F=>?_
 refine wpList_nil ?_
 refine c_then ?_
 refine x_condP F rfl (fun hc=>?_) (fun hc=>?_)
 · refine wp_skip ?_
   refine c_then ?_
   have hkl:k<x.2.length:=by omega
   obtain ⟨kb,kcur,ke,hq,hkB,hkm,hks,hki⟩:=hvok (by omega)
   obtain ⟨old2,q1,q2,q3,qput⟩:=H.spPut hkB
   have hix:idxO x.2 ((k:Nat):Int)=some (x.2.getD k 0):=by unfold idxO;rw [if_pos (by omega)];simp [List.getD_eq_getElem?_getD,List.getElem?_eq_getElem hkl]
   refine wp_seq ?_
   refine wp_block ?_
   refine r_lit ?_
   refine sv F rfl (y_move F rfl rfl) fun a F=>?_
   refine sv F rfl (y_move F rfl rfl) fun a F=>?_
   refine sv F rfl (y_idxS F elem22 rfl rfl rfl hp hidx) fun a F=>?_
   refine sv F rfl (y_fieldAddr F fld60_1 rfl rfl) fun a F=>?_
   refine sv F rfl (y_load1 F plain23 rfl rfl hcell) fun a F=>?_
   refine sv F rfl (y_move F rfl rfl) fun a F=>?_
   refine sv F rfl (y_idxS F elem23 rfl rfl rfl hq hix) fun a F=>?_
   have H2:=qput (old2.set (0+(((k:Nat):Int)).toNat * 1) (.int .u8 238)) (i * 2) (by simp) (Nat.le_refl _) (fun o ad n c ho=>.inl (by
     refine List.getElem?_set_ne fun e=>?_
     have e2:o=k:=by rw [← e];simp
     rw [e2] at ho
     exact hki k hkl ad n c ho))
   refine s_none wkP F rfl rfl rfl (y_store1 F zero5 rfl rfl rfl rfl rfl q1 (by rw [q2];simp;omega)) ?_
   refine wpList_nil ?_
   refine c_blkN ?_
   refine c_then ?_
   refine r_lit ?_
   refine sv F rfl (y_move F rfl rfl) fun a F=>?_
   refine sv F rfl (y_add F rfl rfl rfl (wrap_i64 (r:=((k+1:Nat):Int)) (by omega) (by omega) (by unfold maxLen at hkm;omega))) fun a F=>?_
   refine sv F rfl (y_assign F rfl rfl) fun a F=>?_
   refine wpList_nil ?_
   exact c_then ⟨k+1,⟨hkl,F.cut _ ⟨rfl,rfl,rfl,trivial⟩,H2⟩,by show x.2.length - (k+1)<x.2.length - k;omega⟩
 refine wp_exit ?_
 refine c_thenX ?_
 refine c_thenX ?_
 refine c_hit ?_
 replace F:=F.cut [(0,.slice p xs.length c),(2,.int .i64 ((i:Nat):Int))] ⟨rfl,rfl,trivial⟩
 refine c_then ?_
 obtain ⟨old,o1,o2,o3,oput⟩:=H.spPut hlB
 refine r_lit ?_
 refine sv F rfl (y_move F rfl rfl) fun a F=>sv F rfl (y_move F rfl rfl) fun a F=>sv F rfl (y_build (cs:=[.slice none 0 0,.slice none 0 0]) F rfl rfl (by kernel_rfl)) fun a F=>sv F rfl (y_idxS F elem22 rfl rfl rfl hp hidx) fun a F=>?_
 have H2:=oput (old.take (0+(((i:Nat):Int)).toNat * 2)++[.slice none 0 0,.slice none 0 0]++old.drop (0+(((i:Nat):Int)).toNat * 2+2)) ((i+1) * 2) (by simp;omega) (by omega) (fun o ad n c ho=>by
   by_cases h1:o<(i+1) * 2
   · exact .inr ⟨rfl,h1⟩
   · left
     have e0:0+(((i:Nat):Int)).toNat * 2=i * 2:=by simp
     rw [e0,List.append_assoc,List.getElem?_append_right (by simp;omega),List.length_take,Nat.min_eq_left (by omega),List.getElem?_append_right (by simp;omega),List.getElem?_drop]
     congr 1
     simp;omega)
 refine s_none wkP F rfl rfl rfl (y_storeA F agg60 rfl rfl rfl o1 rfl (by rw [o2];simp;omega) (by intro v hv;simp at hv;subst hv;rfl)) ?_
 refine wpList_nil ?_
 refine c_blkN ?_
 refine c_then ?_
 refine r_lit ?_
 refine sv F rfl (y_move F rfl rfl) fun a F=>?_
 refine sv F rfl (y_add F rfl rfl rfl (wrap_i64 (r:=((i+1:Nat):Int)) (by omega) (by omega) (by unfold maxLen at hlm;omega))) fun a F=>?_
 refine sv F rfl (y_assign F rfl rfl) fun a F=>?_
 refine wpList_nil ?_
 exact c_then ⟨i+1,⟨hil,F.cut _ ⟨rfl,rfl,trivial⟩,H2⟩,by show xs.length - (i+1)<xs.length - i;omega⟩
theorem ent12:En Tryz.prog 12:=enters Tryz.func12 (by kernel_rfl) rfl
theorem ent13:En Tryz.prog 13:=enters Tryz.func13 (by kernel_rfl) rfl
theorem ent14:En Tryz.prog 14:=enters Tryz.func14 (by kernel_rfl) rfl
theorem ent21:En Tryz.prog 21:=enters Tryz.func21 (by kernel_rfl) rfl
theorem ent22:En Tryz.prog 22:=enters Tryz.func22 (by kernel_rfl) rfl
theorem w_lDoes {ps:List T_api_Pair} {oq:T_api_Op} {p1:Option Addr} {c1:Nat} {cs2:List Value} {w0 w:World} {l:List HP}  {r:Bool} (hm:lDoes ps oq=some r) (H:St w0 w (HP.sl R_api_Pair p1 c1 ps::HP.rc R_api_Op cs2 oq::l)) :
  Calls Tryz.prog 3 [.slice p1 (ps).length c1,.agg cs2.toArray].toArray w (fun e w'=>∃ v,e=.returned v∧v=.bool (r)∧St w0 w' (l)):=by
 unfold lDoes at hm
 refine x_enter Tryz.func3 rfl rfl rfl ?_
 intro a F
 refine sr (s_boxA wkP F rfl rfl rfl rfl rfl H fun b3 w a H F=>bb [0] F H rfl fun a F=>?_)
 replace H:=H.nf 3 rfl
 refine nl (sq (sr ?_))
 obtain ⟨x4,ex4,hm⟩:=ob hm
 refine sd F rfl ent10 (w_lSpeaks ex4 H:) ?_;rintro _ w a ⟨rfl,H⟩ F
 refine bb [0] F H rfl fun a F=>?_
 replace H:=H.nf 3 rfl
 refine nl (cB F rfl (fun hg5=>?_) (fun hg5=>?_))
 replace hm:=ifT hg5 hm
 refine sb [0] F H rfl fun a F=>nl (wr (tr ?_))
 cases hm
 refine x_ret1 F rfl rfl ?_
 exact ⟨_,rfl,rfl,(H.pm 3 [] rfl:)⟩
 replace hm:=ifF (nT hg5) hm
 refine sk (ct (sq (sr (bk [0,999] F H rfl ⟨rfl,(aggn agg25 (H.rcLen 2 rfl)),trivial⟩ fun a F=>?_))))
 obtain ⟨x6,ex6,hm⟩:=ob hm
 refine sd F rfl ent11 (w_lGreat ex6 (H.pm 3 [1,2,0,1,2] rfl:):) ?_;rintro _ w a ⟨rfl,H⟩ F
 replace H:=H.nf 3 rfl
 refine nl (cB F rfl (fun hg7=>?_) (fun hg7=>?_))
 replace hm:=ifT hg7 hm
 refine sb [0] F H rfl fun a F=>nl (wr (tr ?_))
 cases hm
 refine x_ret1 F rfl rfl ?_
 exact ⟨_,rfl,rfl,(H.pm 3 [] rfl:)⟩
 replace hm:=ifF (nT hg7) hm
 refine sk (ct (sq (xm4 3 [0,3] [0,1,2] F H hm rfl rfl (fun r21 (p22:Option Addr) (c22:Nat) (b23:Nat) (cs24:List Value) z=>(5,.slice p22 (r21.1).length c22)::(6,.pointer (some ⟨b23,0,none⟩))::z) (fun r21 p22 c22 b23 cs24 z=>HP.box p22 c22 r21.1::HP.blk b23 (cs24) 25::HP.rc R_api_Op cs24 r21.2::z) (fun r21 hm=>?_) (fun r21 a w hm p22 c22 b23 cs24 F H=>?_))))
 refine mix_region [1,3,4,6] [6] (.step 0 0 (.step 0 2 (.fork 1 (.fork 3 (.step 2 4 (.step 0 5 (.step 3 6 .done))) 4 (.step 2 3 (.step 0 5 (.step 3 6 .done)))) 4 (.step 2 1 (.step 2 3 (.step 0 5 (.step 3 6 .done))))))) (fun u=>∃ ls,St w0 u (HP.blk b3 (cs2) 25::HP.rc R_api_Op cs2 oq::ls)) (by kernel_rfl) (by kernel_rfl) ⟨_,(H.drew.pm 3 [0,2,1,2] rfl:)⟩ ?_
 replace H:=H.drew
 generalize w.drew=w at H ⊢
 refine mb [0] F H rfl fun a F=>?_
 refine m_pure F rfl rfl rfl rfl (fun u hu=>y_loadA F agg25 rfl rfl ((hu.choose_spec.blk 0 rfl).row) (hu.choose_spec.rcLen 1 rfl)) fun a F=>?_
 refine m_fork rfl rfl rfl rfl ?_ ?_
 refine m_heavy rfl rfl ?_
 obtain ⟨x25,ex25,hm⟩:=ob hm
 have H0:=H
 refine sd F rfl ent12 (w_rCopyPairs ex25 (sealC (H.sealP 1 rfl rfl) (sealN _)).st:) ?_;rintro _ w a ⟨p26,c26,rfl,H⟩ F
 replace H:=H0.unsealP2 H;clear H0
 refine lz ?_;refine ct ⟨⟨_,(H.pm 4 [1,3,0,2,3] rfl:)⟩,?_⟩
 refine m_fork rfl rfl rfl rfl ?_ ?_
 refine m_heavy rfl rfl ?_
 obtain ⟨x27,ex27,hm⟩:=ob hm
 refine sd F rfl ent13 (w_rCopyOp ex27 (H.pm 4 [3,0,1,2,3] rfl:):) ?_;rintro _ w a ⟨cs28,rfl,H⟩ F
 refine lz ?_;refine ct ⟨⟨_,(H.pm 5 [2,4,0,1,3,4] rfl:)⟩,?_⟩
 refine m_heavy rfl rfl ?_
 replace H:=H.owNil rByte 5
 refine s_allocA wkP F rfl rfl rfl agz25 rfl H fun b29 w a H F=>?_
 refine lz ?_;refine ct ⟨⟨_,(H.pm 7 [4,6,0,1,2,3,5,6] rfl:)⟩,?_⟩
 refine mb [0] F H rfl fun a F=>m_last rfl rfl (s_storeA wkP F rfl rfl agg25 rfl rfl rfl H 0 rfl (H.rcLen 2 rfl) rfl (H.rcFlat 2 rfl) fun w H=>?_)
 refine lz ?_;refine ct ?_
 refine m_nil ?_
 cases hm
 refine ct ?_
 exact ⟨p26,c26,b29,cs28,F.sl rfl,(H.pm 7 [3,0,2,4,5,6] rfl:)⟩
 refine m_heavy rfl rfl ?_
 replace H:=H.owNil rByte 5
 refine s_allocA wkP F rfl rfl rfl agz25 rfl H fun b30 w a H F=>?_
 refine lz ?_;refine ct ⟨⟨_,(H.pm 6 [3,5,0,1,2,4,5] rfl:)⟩,?_⟩
 refine m_heavy rfl rfl ?_
 obtain ⟨x31,ex31,hm⟩:=ob hm
 refine sd F rfl ent13 (w_rCopyOp ex31 (H.pm 6 [5,0,1,2,3,4,5] rfl:):) ?_;rintro _ w a ⟨cs32,rfl,H⟩ F
 refine lz ?_;refine ct ⟨⟨_,(H.pm 7 [4,6,0,1,2,3,5,6] rfl:)⟩,?_⟩
 refine mb [0] F H rfl fun a F=>m_last rfl rfl (s_storeA wkP F rfl rfl agg25 rfl rfl rfl H 1 rfl (H.rcLen 0 rfl) rfl (H.rcFlat 0 rfl) fun w H=>?_)
 refine lz ?_;refine ct ?_
 refine m_nil ?_
 cases hm
 refine ct ?_
 exact ⟨p26,c26,b30,cs32,F.sl rfl,(H.pm 7 [3,1,0,4,5,6] rfl:)⟩
 refine m_heavy rfl rfl ?_
 replace H:=H.owNil rByte 5
 refine s_allocA wkP F rfl rfl rfl agz25 rfl H fun b33 w a H F=>?_
 refine lz ?_;refine ct ⟨⟨_,(H.pm 5 [2,4,0,1,3,4] rfl:)⟩,?_⟩
 refine m_heavy rfl rfl ?_
 obtain ⟨x34,ex34,hm⟩:=ob hm
 have H0:=H
 refine sd F rfl ent12 (w_rCopyPairs ex34 (sealC (H.sealP 3 rfl rfl) (sealN _)).st:) ?_;rintro _ w a ⟨p35,c35,rfl,H⟩ F
 replace H:=H0.unsealP2 H;clear H0
 refine lz ?_;refine ct ⟨⟨_,(H.pm 6 [3,5,0,1,2,4,5] rfl:)⟩,?_⟩
 refine m_heavy rfl rfl ?_
 obtain ⟨x36,ex36,hm⟩:=ob hm
 refine sd F rfl ent13 (w_rCopyOp ex36 (H.pm 6 [5,0,1,2,3,4,5] rfl:):) ?_;rintro _ w a ⟨cs37,rfl,H⟩ F
 refine lz ?_;refine ct ⟨⟨_,(H.pm 7 [4,6,0,1,2,3,5,6] rfl:)⟩,?_⟩
 refine mb [0] F H rfl fun a F=>m_last rfl rfl (s_storeA wkP F rfl rfl agg25 rfl rfl rfl H 2 rfl (H.rcLen 0 rfl) rfl (H.rcFlat 0 rfl) fun w H=>?_)
 refine lz ?_;refine ct ?_
 refine m_nil ?_
 cases hm
 refine ct ?_
 exact ⟨p35,c35,b33,cs37,F.sl rfl,(H.pm 7 [1,2,0,4,5,6] rfl:)⟩
 refine ct (sb [0] F H rfl fun a F=>?_)
 obtain ⟨x38,ex38,hm⟩:=ob hm
 refine sd F rfl ent14 (w_rNodes ex38 (H.pm 6 [4,0,1,2,3,4,5] rfl:):) ?_;rintro _ w a ⟨p39,c39,rfl,H⟩ F
 refine bb (List.replicate 5 0) F H rfl fun a F=>?_
 replace H:=H.nf 7 rfl
 refine nl (sq (sb [0] F H rfl fun a F=>?_))
 obtain ⟨x40,ex40,hm⟩:=ob hm
 have H0:=H
 refine sd F rfl ent15 (w_fCheck ex40 (sealC (H.sealB 1 rfl) (sealN _)).st:) ?_;rintro _ w a ⟨rfl,H⟩ F
 replace H:=H0.unseal0 H;clear H0
 refine bb [0,0] F H rfl fun a F=>sv F rfl (y_neqBool (p:=decide (x40=0)) (q:=x38.2) F rfl Tryz.underlying4 rfl rfl) fun a F=>?_
 replace H:=H.nf 7 rfl
 refine nl (cNm F rfl hm (fun hg41 hm=>?_) (fun hg41 hm=>?_))
 refine sb [0] F H rfl fun a F=>nl (wr (tr ?_))
 cases hm
 refine x_ret1 F rfl rfl ?_
 exact ⟨_,rfl,rfl,(H.pm 7 [] rfl:)⟩
 refine sk (ct (sr (bk [0,2999] F H rfl ⟨rfl,(aggn agg25 (H.rcLen 3 rfl)),trivial⟩ fun a F=>?_)))
 obtain ⟨x42,ex42,hm⟩:=ob hm
 refine sd F rfl ent16 (w_fDoB ex42 (H.pm 7 [1,3,0,2,3,4,5,6] rfl:):) ?_;rintro _ w a ⟨p43,c43,cs44,rfl,H⟩ F
 refine bb [0,0,0] F H rfl fun a F=>?_
 replace H:=H.owNil rByte 5
 replace H:=H.owNil rStr 9
 refine s_allocA wkP F rfl rfl rfl agz37 rfl H fun b45 w a H F=>bb [0] F H rfl fun a F=>s_storeA wkP F rfl rfl agg37 rfl rfl rfl H 0 rfl (H.rcLen 4 rfl) rfl (H.rcFlat 4 rfl) fun w H=>?_
 replace H:=H.nf 12 rfl
 refine nl (sq (sb [0,0] F H rfl fun a F=>?_))
 refine nl (cB F rfl (fun hg46=>?_) (fun hg46=>?_))
 replace hm:=ifT hg46 hm
 refine sb [0] F H rfl fun a F=>?_
 obtain ⟨x47,ex47,hm⟩:=ob hm
 have H0:=H
 refine sd F rfl ent15 (w_fCheck ex47 (sealC (H.sealB 5 rfl) (sealN _)).st:) ?_;rintro _ w a ⟨rfl,H⟩ F
 replace H:=H0.unseal0 H;clear H0
 refine bb [0,0] F H rfl fun a F=>?_
 replace H:=H.nf 12 rfl
 refine nl (wr (tr ?_))
 cases hm
 refine x_ret1 F rfl rfl ?_
 exact ⟨_,rfl,rfl,(H.pm 12 [] rfl:)⟩
 replace hm:=ifF (nT hg46) hm
 refine sk (ct (sr (bk [0,9999] F H rfl ⟨rfl,(aggn agg25 (H.rcLen 11 rfl)),trivial⟩ fun a F=>?_)))
 obtain ⟨x48,ex48,hm⟩:=ob hm
 refine sd F rfl ent17 (w_m_triremeref11_Do ex48 (H.pm 12 [6,11,0,1,2,3,4,5,6,7,8,9,10,11] rfl:):) ?_;rintro _ w a ⟨p49,c49,cs50,rfl,H⟩ F
 refine bb [0,0,0] F H rfl fun a F=>?_
 replace H:=H.owNil rByte 5
 replace H:=H.owNil rStr 9
 refine s_allocA wkP F rfl rfl rfl agz37 rfl H fun b51 w a H F=>bb [0] F H rfl fun a F=>s_storeA wkP F rfl rfl agg37 rfl rfl rfl H 0 rfl (H.rcLen 4 rfl) rfl (H.rcFlat 4 rfl) fun w H=>?_
 replace H:=H.nf 17 rfl
 refine nl (sq (sr (bk [5999,999] F H rfl ⟨rfl,(aggn agg37 (H.rcLen 9 rfl)),rfl,(aggn agg37 (H.rcLen 4 rfl)),trivial⟩ fun a F=>?_)))
 obtain ⟨x52,ex52,hm⟩:=ob hm
 refine sd F rfl ent18 (w_rSameAns ex52 (H.pm 17 [9,4,0,1,2,3,4,5,6,7,8,9,10,11,12,13,14,15,16] rfl:):) ?_;rintro _ w a ⟨rfl,H⟩ F
 refine bb [0,0] F H rfl fun a F=>?_
 by_cases hg53:(!x52)=true
 replace hm:=ifT hg53 hm
 replace F:=F.vT 53 hg53 rfl
 refine bb (List.replicate 18 0) F H rfl fun a F=>?_
 replace H:=H.nf 17 rfl
 refine nl (cT F rfl (sb [0] F H rfl fun a F=>nl (wr (tr ?_))))
 cases hm
 refine x_ret1 F rfl rfl ?_
 exact ⟨_,rfl,rfl,(H.pm 17 [] rfl:)⟩
 replace hm:=ifF hg53 hm
 replace F:=F.vF 53 hg53 rfl
 refine bb [0,0] F H rfl fun a F=>g_onP F rfl rfl rfl rfl ?_
 obtain ⟨x54,ex54,hm⟩:=ob hm
 refine sd F rfl ent20 (w_m_triremeref11_Pairs ex54 (H.pm 17 [3,0,1,2,3,4,5,6,7,8,9,10,11,12,13,14,15,16] rfl:):) ?_;rintro _ w a ⟨p55,c55,rfl,H⟩ F
 refine g_onP F rfl rfl rfl rfl ?_
 obtain ⟨x56,ex56,hm⟩:=ob hm
 refine sd F rfl ent19 (w_rSamePairs ex56 (H.pm 18 [9,0,0,1,2,3,4,5,6,7,8,9,10,11,12,13,14,15,16,17] rfl:):) ?_;rintro _ w a ⟨rfl,H⟩ F
 refine bb [0,0,0] F H rfl fun a F=>?_
 by_cases hg57:(!x56)=true
 replace hm:=ifT hg57 hm
 replace F:=F.vT 60 hg57 rfl
 refine bb (List.replicate 11 0) F H rfl fun a F=>?_
 replace H:=H.nf 18 rfl
 refine nl (cT F rfl (sb [0] F H rfl fun a F=>nl (wr (tr ?_))))
 cases hm
 refine x_ret1 F rfl rfl ?_
 exact ⟨_,rfl,rfl,(H.pm 18 [] rfl:)⟩
 replace hm:=ifF hg57 hm
 replace F:=F.vF 60 hg57 rfl
 refine bb [0,0] F H rfl fun a F=>g_onP F rfl rfl rfl rfl ?_
 obtain ⟨x58,ex58,hm⟩:=ob hm
 have H0:=H
 refine sd F rfl ent19 (w_rSamePairs ex58 (sealC (H.sealB 11 rfl) (sealC (H.sealP 16 rfl rfl) (sealN _))).st:) ?_;rintro _ w a ⟨rfl,H⟩ F
 replace H:=H0.unseal0 H;clear H0
 refine bb [0,0,0] F H rfl fun a F=>?_
 by_cases hg59:(!x58)=true
 replace hm:=ifT hg59 hm
 replace F:=F.vT 66 hg59 rfl
 refine bb (List.replicate 5 0) F H rfl fun a F=>?_
 replace H:=H.nf 18 rfl
 refine nl (cT F rfl (sb [0] F H rfl fun a F=>nl (wr (tr ?_))))
 cases hm
 refine x_ret1 F rfl rfl ?_
 exact ⟨_,rfl,rfl,(H.pm 18 [] rfl:)⟩
 replace hm:=ifF hg59 hm
 replace F:=F.vF 66 hg59 rfl
 refine bk [13999,15999] F H rfl ⟨rfl,(aggn agg25 (H.rcLen 14 rfl)),rfl,(aggn agg25 (H.rcLen 17 rfl)),trivial⟩ fun a F=>g_onP F rfl rfl rfl rfl ?_
 obtain ⟨x60,ex60,hm⟩:=ob hm
 refine sd F rfl ent21 (w_rSameOp ex60 (H.pm 18 [14,17,0,1,2,3,4,5,6,7,8,9,10,11,12,13,14,15,16,17] rfl:):) ?_;rintro _ w a ⟨rfl,H⟩ F
 refine bb [0,0] F H rfl fun a F=>?_
 replace H:=H.nf 18 rfl
 refine nl (cB F rfl (fun hg61=>?_) (fun hg61=>?_))
 replace hm:=ifT hg61 hm
 refine sb [0] F H rfl fun a F=>nl (wr (tr ?_))
 cases hm
 refine x_ret1 F rfl rfl ?_
 exact ⟨_,rfl,rfl,(H.pm 18 [] rfl:)⟩
 replace hm:=ifF (nT hg61) hm
 refine sk (ct (sb [0] F H rfl fun a F=>?_))
 refine s_call wkP F rfl rfl rfl rfl (y_call F rfl rfl ent22) (w_spoil22 (H.pm 18 [11,0,1,2,3,4,5,6,7,8,9,10,12,13,14,15,16,17] rfl:)) ?_;rintro _ w a ⟨rfl,H⟩ F
 replace H:=H.nf 17 rfl
 refine nb [0,0] F H rfl fun a F=>?_
 obtain ⟨x62,ex62,hm⟩:=ob hm
 refine sd F rfl ent20 (w_m_triremeref11_Pairs ex62 (H.pm 17 [4,0,1,2,3,4,5,6,7,8,9,10,11,12,13,14,15,16] rfl:):) ?_;rintro _ w a ⟨p63,c63,rfl,H⟩ F
 obtain ⟨x64,ex64,hm⟩:=ob hm
 refine sd F rfl ent19 (w_rSamePairs ex64 (H.pm 18 [10,0,0,1,2,3,4,5,6,7,8,9,10,11,12,13,14,15,16,17] rfl:):) ?_;rintro _ w a ⟨rfl,H⟩ F
 refine bb [0] F H rfl fun a F=>?_
 replace H:=H.nf 18 rfl
 refine nl (wr ?_)
 cases hm
 refine x_ret1 F rfl rfl ?_
 exact ⟨_,rfl,rfl,(H.pm 18 [] rfl:)⟩
end Go.Proofs.YthcjjjnphgopjaaGreatDoor
namespace Go.Tri
open Go.RowKit
def iterF {σ:Type} (step:Nat→σ→σ):Nat→Nat→σ→σ
 | 0,_,s=>s
 | m+1,i,s=>iterF step m (i+1) (step i s)
theorem loop_for {σ ρ:Type} {f:σ×Int→Option ((σ×Int) ⊕ ρ)} (step:Nat→σ→σ) (fin:σ→ρ) (n:Nat) (I:Nat→σ→Prop)
  (hs:∀ i s,i<n→I i s→f (s,(i:Int))=some (.inl (step i s,((i+1:Nat):Int)))∧I (i+1) (step i s)) (he:∀ s,I n s→f (s,(n:Int))=some (.inr (fin s))) :
  ∀ (m i:Nat) (s:σ),i+m=n→I i s→loopO f (s,(i:Int))=some (fin (iterF step m i s))∧I n (iterF step m i s)
 | 0,i,s,h,hi=>by
  have:i=n:=by omega
  subst this
  rw [loopO_eq,he s hi]
  exact ⟨rfl,hi⟩
 | m+1,i,s,h,hi=>by
  obtain ⟨h1,h2⟩:=hs i s (by omega) hi
  rw [loopO_eq,h1]
  exact loop_for step fin n I hs he m (i+1) (step i s) (by omega) h2
theorem loop_for0 {σ ρ:Type} {f:σ×Int→Option ((σ×Int) ⊕ ρ)} (step:Nat→σ→σ) (fin:σ→ρ) (n:Nat) (I:Nat→σ→Prop)
  (hs:∀ i s,i<n→I i s→f (s,(i:Int))=some (.inl (step i s,((i+1:Nat):Int)))∧I (i+1) (step i s)) (he:∀ s,I n s→f (s,(n:Int))=some (.inr (fin s))) {s0:σ} (h0:I 0 s0) :
  loopO f (s0,0)=some (fin (iterF step n 0 s0))∧I n (iterF step n 0 s0):=loop_for step fin n I hs he n 0 s0 (by omega) h0
theorem iterF_congr {σ:Type} {f g:Nat→σ→σ} (I:Nat→σ→Prop) (n:Nat) (h:∀ i s,i<n→I i s→f i s=g i s∧I (i+1) (f i s)):∀ (m i:Nat) (s:σ),i+m=n→I i s→iterF f m i s=iterF g m i s
 | 0,_,_,_,_=>rfl
 | m+1,i,s,hm,hi=>by
  obtain ⟨h1,h2⟩:=h i s (by omega) hi
  show iterF f m (i+1) (f i s)=iterF g m (i+1) (g i s)
  rw [← h1]
  exact iterF_congr I n h m (i+1) (f i s) (by omega) h2
theorem idxO_nat {α:Type} {xs:List α} {i:Nat} {x:α} (h:xs[i]?=some x):idxO xs (i:Int)=some x:=by
 unfold idxO;rw [if_pos (by omega)];simpa using h
theorem idxO_get {α:Type} {xs:List α} {i:Nat} (h:i<xs.length):idxO xs (i:Int)=some xs[i]:=idxO_nat (List.getElem?_eq_getElem h)
theorem idxO_getD {α:Type} {xs:List α} {i:Int} {n:Nat} (d:α) (hi:i=(n:Int)) (h:n<xs.length):idxO xs i=some (xs.getD n d):=by
 subst hi
 rw [idxO_get h];simp [List.getD,List.getElem?_eq_getElem h]
theorem slcO_of {α:Type} {xs:List α} {i j:Nat} (h1:i≤j) (h2:j≤xs.length):slcO xs (i:Int) (j:Int)=some ((xs.take j).drop i):=by
 unfold slcO;rw [if_pos ⟨by omega,by omega,by omega⟩];simp
theorem appO_of {α:Type} [Cap α] {xs ys:List α} (h:xs.length+ys.length≤274877906944):appO xs ys=some (xs++ys):=by
 unfold appO;rw [if_pos (Nat.le_trans h Cap.le)]
theorem appO_byte {xs ys:List UInt8} (h:xs.length+ys.length≤140737488355328):appO xs ys=some (xs++ys):=by
 unfold appO;rw [if_pos (show xs.length+ys.length≤Cap.cap UInt8 from h)]
theorem wrap_u8' (n:Int):IntKind.u8.wrap n=n % 256:=by
 unfold IntKind.wrap;simp [IntKind.signed,IntKind.bits]
theorem i64_id {n:Int} (h1:-9223372036854775808≤n) (h2:n≤9223372036854775807):IntKind.i64.wrap n=n:=wrap_i64 rfl h1 h2
theorem i64_nat {n:Nat} (h2:n≤9223372036854775807):IntKind.i64.wrap (n:Int)=n:=wrap_i64 rfl (by omega) (by omega)
theorem u64_id {n:Int} (h1:0≤n) (h2:n<18446744073709551616):IntKind.u64.wrap n=n:=wrap_u64 rfl h1 (by omega)
theorem u8_ok (c:UInt8):u8O (c.toNat:Int)=some c:=by
 unfold u8O
 have:=c.toNat_lt
 rw [if_pos ⟨by omega,by omega⟩]
 simp [u8]
theorem u8O_of {n:Int} (h1:0≤n) (h2:n<256):u8O n=some (u8 n):=by unfold u8O;rw [if_pos ⟨h1,h2⟩]
theorem loop_down {σ ρ:Type} {f:σ×Int→Option ((σ×Int) ⊕ ρ)} (step:Nat→σ→σ) (fin:σ→ρ) (I:Nat→σ→Prop)
  (hs:∀ i s,I (i+1) s→f (s,(i:Int))=some (.inl (step i s,(i:Int) - 1))∧I i (step i s)) (he:∀ s,I 0 s→f (s,-1)=some (.inr (fin s))) :
  ∀ (n:Nat) (s:σ),I n s→loopO f (s,(n:Int) - 1)=some (fin ((List.range n).reverse.foldl (fun s i=>step i s) s))
 | 0,s,h=>by
  rw [loopO_eq]
  have:f (s,((0:Nat):Int) - 1)=some (.inr (fin s)):=he s h
  rw [this];rfl
 | n+1,s,h=>by
  obtain ⟨h1,h2⟩:=hs n s h
  rw [loopO_eq]
  have e:((n+1:Nat):Int) - 1=n:=by omega
  rw [e,h1]
  show loopO f (step n s,(n:Int) - 1)=_
  rw [loop_down step fin I hs he n (step n s) h2,List.range_succ,List.reverse_append]
  rfl
theorem remO_nat (n m:Nat) (h:m≠0):remO (n:Int) (m:Int)=some ((n % m:Nat):Int):=by
 unfold remO
 rw [if_neg (by omega),Int.tmod_eq_emod_of_nonneg (by omega)];rfl
theorem quoO_nat (n m:Nat) (h:m≠0) (hn:n≤9223372036854775807):quoO .i64 (n:Int) (m:Int)=some ((n / m:Nat):Int):=by
 unfold quoO
 rw [if_neg (by omega),Int.tdiv_eq_ediv_of_nonneg (by omega)]
 have:((n:Int) / (m:Int))=((n / m:Nat):Int):=rfl
 rw [this,i64_nat (Nat.le_trans (Nat.div_le_self _ _) hn)]
theorem shrI_nat (k:IntKind) (n c:Nat) (hc:c≤k.bits):shrI k (n:Int) (c:Int)=((n / 2 ^ c:Nat):Int):=by
 unfold shrI
 rw [show min (c:Int).toNat k.bits=c by omega,Int.fdiv_eq_ediv_of_nonneg _ (by exact_mod_cast Nat.zero_le (2 ^ c))]
 push_cast;rfl
theorem loop_run {σ ρ:Type} {f:σ→Option (σ ⊕ ρ)} (I:Nat→σ→Prop) (Q:ρ→Prop) (n:Nat)
  (hs:∀ i s,i<n→I i s→(∃ s',f s=some (.inl s')∧I (i+1) s')∨(∃ r,f s=some (.inr r)∧Q r))
  (he:∀ s,I n s→∃ r,f s=some (.inr r)∧Q r):∀ (m i:Nat) (s:σ),i+m=n→I i s→∃ r,loopO f s=some r∧Q r
 | 0,i,s,h,hi=>by
  obtain rfl:i=n:=by omega
  obtain ⟨r,h1,h2⟩:=he s hi
  exact ⟨r,by rw [loopO_eq,h1];rfl,h2⟩
 | m+1,i,s,h,hi=>by
  rcases hs i s (by omega) hi with ⟨s',h1,h2⟩ | ⟨r,h1,h2⟩
  ·obtain ⟨r,h3,h4⟩:=loop_run I Q n hs he m (i+1) s' (by omega) h2
   exact ⟨r,by rw [loopO_eq,h1];exact h3,h4⟩
  ·exact ⟨r,by rw [loopO_eq,h1];rfl,h2⟩
theorem bind_runP {σ ρ τ:Type} {f:σ→Option (σ ⊕ ρ)} {k:ρ→Option τ} {C:Option τ→Prop} (I:Nat→σ→Prop) (Q:ρ→Prop) (n:Nat) {s0:σ} (h0:I 0 s0)
  (hs:∀ i s,i<n→I i s→(∃ s',f s=some (.inl s')∧I (i+1) s')∨(∃ r,f s=some (.inr r)∧Q r))
  (he:∀ s,I n s→∃ r,f s=some (.inr r)∧Q r) (hk:∀ r,Q r→C (k r)):C (Option.bind (loopO f s0) k):=by
 obtain ⟨r,h1,h2⟩:=loop_run I Q n hs he n 0 s0 (by omega) h0
 rw [h1];exact hk r h2
theorem bind_run {σ ρ τ:Type} {f:σ→Option (σ ⊕ ρ)} {k:ρ→Option τ} {t:τ} (I:Nat→σ→Prop) (Q:ρ→Prop) (n:Nat) {s0:σ} (h0:I 0 s0)
  (hs:∀ i s,i<n→I i s→(∃ s',f s=some (.inl s')∧I (i+1) s')∨(∃ r,f s=some (.inr r)∧Q r))
  (he:∀ s,I n s→∃ r,f s=some (.inr r)∧Q r) (hk:∀ r,Q r→k r=some t):Option.bind (loopO f s0) k=some t :=
 bind_runP (C:=fun o=>o=some t) I Q n h0 hs he hk
section
variable {α σ ρ:Type}
theorem loop_fs (xs:List α) (g:α→Option ρ) (e:ρ) {f:Int→Option (Int ⊕ ρ)} (h1:∀ (i:Nat) (h:i<xs.length),f (i:Int)=some (match g xs[i] with | none=>.inl ((i+1:Nat):Int) | some r=>.inr r)) (h2:f (xs.length:Int)=some (.inr e)):loopO f 0=some ((xs.findSome? g).getD e):=by
 have key:∀ (m i:Nat),i+m=xs.length→loopO f (i:Int)=some (((xs.drop i).findSome? g).getD e):=by
  intro m
  induction m with
  | zero =>
   intro i h
   obtain rfl:i=xs.length:=by omega
   rw [loopO_eq,h2];simp
  | succ m ih =>
   intro i h
   have hi:i<xs.length:=by omega
   rw [loopO_eq,h1 i hi,List.drop_eq_getElem_cons hi]
   cases hg:g xs[i] with
   | none=>simp only [Option.bind_some,List.findSome?_cons,hg];exact ih (i+1) (by omega)
   | some r=>simp only [Option.bind_some,List.findSome?_cons,hg,Option.getD_some]
 have:=key xs.length 0 (by omega)
 simpa using this
theorem loop_foldM {τ:Type} (mk:σ→Int→τ) (xs:List α) (g:σ→α→σ) (fin:σ→ρ) (s0:σ) (I:Nat→σ→Prop) {f:τ→Option (τ ⊕ ρ)} (h0:I 0 s0) (h1:∀ (i:Nat) (s:σ) (h:i<xs.length),I i s→f (mk s (i:Int))=some (.inl (mk (g s xs[i]) ((i+1:Nat):Int)))∧I (i+1) (g s xs[i])) (h2:∀ s,I xs.length s→f (mk s (xs.length:Int))=some (.inr (fin s))):loopO f (mk s0 0)=some (fin (xs.foldl g s0))∧I xs.length (xs.foldl g s0):=by
 have key:∀ (m i:Nat) (s:σ),i+m=xs.length→I i s→loopO f (mk s (i:Int))=some (fin ((xs.drop i).foldl g s))∧I xs.length ((xs.drop i).foldl g s):=by
  intro m
  induction m with
  | zero =>
   intro i s h hi
   obtain rfl:i=xs.length:=by omega
   rw [loopO_eq,h2 s hi];simp [hi]
  | succ m ih =>
   intro i s h hs
   have hi:i<xs.length:=by omega
   obtain ⟨h3,h4⟩:=h1 i s hi hs
   rw [loopO_eq,h3,List.drop_eq_getElem_cons hi]
   exact ih (i+1) _ (by omega) h4
 have:=key xs.length 0 s0 (by omega) h0
 simpa using this
theorem foldO_eq {β:Type} {f:σ→β→Option (σ ⊕ ρ)} (g:σ→β→σ):∀ (l:List β) (s:σ),(∀ x∈l,∀ s,f s x=some (.inl (g s x)))→foldO f s l=some (.inl (l.foldl g s))
 | [],_,_=>rfl
 | x::l,s,h=>by
  show (f s x).bind _=_
  rw [h x List.mem_cons_self]
  exact foldO_eq g l _ fun y hy=>h y (List.mem_cons_of_mem _ hy)
theorem foldO_inv {β:Type} {f:σ→β→Option (σ ⊕ ρ)} (g:σ→β→σ) (I:List β→σ→Prop) (l0:List β):∀ (l pre:List β) (s:σ),pre++l=l0→I pre s→(∀ pre x post s,pre++x::post=l0→I pre s→f s x=some (.inl (g s x))∧I (pre++[x]) (g s x))→foldO f s l=some (.inl (l.foldl g s))∧I l0 (l.foldl g s)
 | [],pre,s,he,hi,_=>⟨rfl,by simpa [← he] using hi⟩
 | x::l,pre,s,he,hi,h=>by
  obtain ⟨h1,h2⟩:=h pre x l s he hi
  have h3:=foldO_inv g I l0 l (pre++[x]) (g s x) (by simpa using he) h2 h
  refine ⟨?_,h3.2⟩
  show (f s x).bind _=_
  rw [h1];exact h3.1
end
def nmC (c:UInt8):Bool:=decide (33≤c.toNat)&&decide (c.toNat≤126)&&decide (c.toNat≠47)
def isNm (x:List UInt8):Bool:=x.all nmC&&decide (x≠[])&&decide (x.length≤8)
def NP (xs:List (List UInt8)):Prop:=∀ x∈xs,isNm x=true
def pth (xs:List (List UInt8)):List UInt8:=47::jn xs
theorem isNm_ne {x:List UInt8} (h:isNm x=true):∀ c∈x,c≠47:=by
 intro c hc e
 simp only [isNm,Bool.and_eq_true,List.all_eq_true] at h
 have:=h.1.1 c hc
 simp only [nmC,Bool.and_eq_true,decide_eq_true_eq] at this
 exact this.2 (by rw [e];rfl)
theorem isNm_z {x:List UInt8} (h:isNm x=true):∀ c∈x,c≠0:=by
 intro c hc e
 simp only [isNm,Bool.and_eq_true,List.all_eq_true] at h
 have:=h.1.1 c hc
 simp only [nmC,Bool.and_eq_true,decide_eq_true_eq] at this
 have h0:=this.1.1
 rw [e] at h0
 exact absurd h0 (by decide)
theorem isNm_nil {x:List UInt8} (h:isNm x=true):x≠[]:=by
 simp only [isNm,Bool.and_eq_true,decide_eq_true_eq] at h
 exact h.1.2
theorem jn_nil:jn []=[]:=rfl
theorem jn_one (x:List UInt8):jn [x]=x:=by simp [jn,Lib.join,List.intercalate,List.intersperse]
theorem jn_cons (x y:List UInt8) (r:List (List UInt8)):jn (x::y::r)=x++47::jn (y::r):=by simp [jn,Lib.join,List.intercalate,List.intersperse]
theorem jn_app:∀ (a b:List (List UInt8)),a≠[]→b≠[]→jn (a++b)=jn a++47::jn b
 | [],_,h,_=>(h rfl).elim
 | [x],y::r,_,_=>by rw [jn_one];exact jn_cons x y r
 | [_],[],_,h=>(h rfl).elim
 | x::y::a,b,_,h=>by
  have:=jn_app (y::a) b (by simp) h
  rw [List.cons_append,List.cons_append,jn_cons,jn_cons,← List.cons_append,this];simp
theorem sp_ne (r:List UInt8):sp r≠[]:=by
 cases r with
 | nil=>simp [sp]
 | cons c r =>
  simp only [sp]
  split
  ·simp
  ·split<;>simp
theorem jn_sp:∀ r:List UInt8,jn (sp r)=r
 | []=>rfl
 | c::r=>by
  have ih:=jn_sp r
  obtain ⟨h,t,e⟩:∃ h t,sp r=h::t:=by
   cases hs:sp r with
   | nil=>exact (sp_ne r hs).elim
   | cons h t=>exact ⟨h,t,rfl⟩
  simp only [sp]
  rw [e] at ih ⊢
  split
  ·rename_i hc
   rw [jn_cons,ih,hc];rfl
  ·cases t with
   | nil=>rw [jn_one] at ih ⊢;rw [ih]
   | cons y t=>rw [jn_cons] at ih ⊢;rw [← ih];rfl
theorem sp_one:∀ {x:List UInt8},(∀ c∈x,c≠47)→sp x=[x]
 | [],_=>rfl
 | c::x,h=>by
  have:=sp_one (x:=x) fun c hc=>h c (List.mem_cons_of_mem _ hc)
  simp [sp,this,h c List.mem_cons_self]
theorem sp_app:∀ {x:List UInt8} (r:List UInt8),(∀ c∈x,c≠47)→sp (x++47::r)=x::sp r
 | [],r,_=>by simp [sp]
 | c::x,r,h=>by
  have:=sp_app (x:=x) r fun c hc=>h c (List.mem_cons_of_mem _ hc)
  simp [sp,this,h c List.mem_cons_self]
theorem sp_jn:∀ {xs:List (List UInt8)},xs≠[]→(∀ x∈xs,∀ c∈x,c≠47)→sp (jn xs)=xs
 | [],h,_=>(h rfl).elim
 | [x],_,h=>by rw [jn_one];exact sp_one (h x List.mem_cons_self)
 | x::y::r,_,h=>by
  rw [jn_cons,sp_app _ (h x List.mem_cons_self),sp_jn (by simp) fun z hz=>h z (List.mem_cons_of_mem _ hz)]
theorem sp_len (r:List UInt8):(sp r).length≤r.length+1:=by
 induction r with
 | nil=>simp [sp]
 | cons c r ih =>
  simp only [sp]
  split
  ·simp;omega
  ·split
   ·rename_i e;rw [e] at ih;simp at ih ⊢;omega
   ·simp
def okP (p:List UInt8):Bool:=decide (p=[47]) || ((p.head?==some 47)&&decide (p.length≤24)&&(sp p.tail).all isNm)
def nmP (p:List UInt8):List (List UInt8):=if p=[47] then [] else if okP p=true then sp p.tail else []
theorem NP.sl {xs:List (List UInt8)} (h:NP xs):∀ x∈xs,∀ c∈x,c≠47:=fun x hx=>isNm_ne (h x hx)
theorem jn_ne {xs:List (List UInt8)} (h:NP xs) (hn:xs≠[]):jn xs≠[]:=by
 intro e
 have:=sp_jn hn h.sl
 rw [e] at this
 have h1:([]:List UInt8)∈xs:=by rw [← this];simp [sp]
 exact isNm_nil (h _ h1) rfl
theorem pth_ok {xs:List (List UInt8)} (h:NP xs) (hl:(pth xs).length≤24):okP (pth xs)=true:=by
 unfold okP
 by_cases hn:xs=[]
 ·subst hn;rfl
 ·have h1:(pth xs).head?=some 47:=rfl
  have h2:(pth xs).tail=jn xs:=rfl
  rw [h1,h2,sp_jn hn h.sl]
  simp only [Bool.or_eq_true,Bool.and_eq_true,decide_eq_true_eq,List.all_eq_true]
  exact .inr ⟨⟨rfl,hl⟩,h⟩
theorem pth_nm {xs:List (List UInt8)} (h:NP xs) (hl:(pth xs).length≤24):nmP (pth xs)=xs:=by
 unfold nmP
 by_cases hn:xs=[]
 ·subst hn;rfl
 ·have h2:(pth xs).tail=jn xs:=rfl
  rw [if_neg (fun e=>jn_ne h hn (by simpa [pth] using e)),if_pos (pth_ok h hl),h2,sp_jn hn h.sl]
theorem okP_pth {p:List UInt8} (h:okP p=true):NP (nmP p)∧p=pth (nmP p)∧p.length≤24:=by
 have h':=h
 unfold okP at h
 simp only [Bool.or_eq_true,Bool.and_eq_true,decide_eq_true_eq,List.all_eq_true] at h
 by_cases hp:p=[47]
 ·subst hp;exact ⟨fun x hx=>by simp [nmP] at hx,rfl,by decide⟩
 ·obtain ⟨⟨h1,h2⟩,h3⟩:=h.resolve_left hp
  unfold nmP
  rw [if_neg hp,if_pos h']
  refine ⟨h3,?_,h2⟩
  unfold pth
  rw [jn_sp]
  cases p with
  | nil=>simp at h1
  | cons c p=>simp at h1;subst h1;rfl
theorem nmP_bad {p:List UInt8} (h:okP p=false):nmP p=[]:=by
 unfold nmP
 split
 ·rfl
 ·rw [if_neg (by rw [h];decide)]
theorem nmP_root:nmP [47]=[]:=rfl
theorem nmP_ne {p:List UInt8} (h:okP p=true) (hr:p≠[47]):nmP p≠[]:=fun e=>hr (by rw [(okP_pth h).2.1,e];rfl)
theorem nmP_len (p:List UInt8):(nmP p).length≤p.length+1:=by
 unfold nmP
 split
 ·simp
 ·split
  ·have:=sp_len p.tail;simp at this;omega
  ·simp
theorem jn_take {xs:List (List UInt8)} (i:Nat):(jn (xs.take i)).length≤(jn xs).length:=by
 by_cases h1:xs.take i=[]
 ·rw [h1];simp [jn_nil]
 ·by_cases h2:xs.drop i=[]
  ·rw [List.take_of_length_le (List.drop_eq_nil_iff.1 h2)];exact Nat.le_refl _
  ·have:=jn_app _ _ h1 h2
   rw [List.take_append_drop] at this
   rw [this];simp
theorem jn_nmP (p:List UInt8):(jn (nmP p)).length≤p.length:=by
 by_cases h:okP p=true
 ·have:=(okP_pth h).2.1
  have h2:=congrArg List.length this
  simp only [pth,List.length_cons] at h2
  omega
 ·rw [nmP_bad (by simpa using h)];simp [jn_nil]
end Go.Tri
namespace Go.Proofs.YthcjjjnphgopjaaGreatDoor
open Go.RowKit Go.Tri
theorem name_eq (x:List UInt8) (h:x.length≤1500000000):m_path_Name x=some (isNm x):=by
 unfold m_path_Name
 rw [loop_fs x (fun c=>if nmC c=true then none else some (.inr false)) (.inl ()) (fun i hi=>?_) ?_]
 ·simp only [Option.bind_some]
  by_cases ha:x.all nmC=true
  ·have:x.findSome? (fun c=>if nmC c=true then none else some (Sum.inr false:Unit ⊕ Bool))=none:=by
    rw [List.findSome?_eq_none_iff]
    intro c hc
    rw [if_pos (List.all_eq_true.1 ha c hc)]
   rw [this]
   show (if x=[] then some false else some (decide ((x.length:Int)≤8)))=_
   unfold isNm
   rw [ha]
   by_cases hx:x=[]
   ·simp [hx]
   ·rw [if_neg hx];simp [hx];omega
  ·have:x.findSome? (fun c=>if nmC c=true then none else some (Sum.inr false:Unit ⊕ Bool))=some (.inr false):=by
    have ha':¬ ∀ c∈x,nmC c=true:=fun h=>ha (List.all_eq_true.2 h)
    clear ha h
    induction x with
    | nil=>exact (ha' (by simp)).elim
    | cons c x ih =>
     rw [List.findSome?_cons]
     by_cases hc:nmC c=true
     ·rw [if_pos hc]
      exact ih fun h=>ha' fun d hd=>by
       rcases List.mem_cons.1 hd with rfl | hd
       ·exact hc
       ·exact h d hd
     ·rw [if_neg hc]
   rw [this]
   show some false=_
   unfold isNm
   rw [show x.all nmC=false by simpa using ha];rfl
 ·rw [if_neg (by omega)]
 ·rw [if_pos (by omega),idxO_get hi]
  simp only [Option.bind_some]
  unfold nmC
  by_cases h1:(x[i].toNat:Int)<33
  ·rw [if_pos h1,if_neg (by simp;omega)]
  ·rw [if_neg h1]
   by_cases h2:126<(x[i].toNat:Int)
   ·rw [if_pos h2,if_neg (by simp;omega)]
   ·rw [if_neg h2]
    by_cases h3:(x[i].toNat:Int)=47
    ·rw [if_pos h3,if_neg (by simp;omega)]
    ·rw [if_neg h3,if_pos (by simp;omega),i64_id (by omega) (by omega)]
     rfl
theorem anyBad_eq (xs:List (List UInt8)) (hx:xs.length≤2000000001) (h:∀ x∈xs,x.length≤1500000000):anyBad xs=some (!xs.all isNm):=by
 unfold anyBad ixName
 have key:∀ (i:Nat) (hi:i<xs.length),m_path_names_1 xs[i]=some (!isNm xs[i]):=fun i hi=>by
  unfold m_path_names_1
  rw [name_eq _ (h _ (List.getElem_mem _))];rfl
 refine (congrArg (fun o=>Option.bind o _) (bind_run (t:=if xs.all isNm=true then (-1:Int) else ((xs.findIdx fun x=>!isNm x:Nat):Int)) (fun k (s:Int)=>s=(k:Int)∧∀ j (hj:j<xs.length),j<k→isNm xs[j]=true) (fun r=>(r=.inl ()∧xs.all isNm=true)∨(∃ k:Nat,r=.inr (k:Int)∧∃ hk:k<xs.length,isNm xs[k]=false∧∀ j (hj:j<xs.length),j<k→isNm xs[j]=true)) xs.length ⟨rfl,fun j hj hk=>by omega⟩ ?_ ?_ ?_)).trans ?_
 ·rintro i _ hi ⟨rfl,hne⟩
  simp only [key i hi,idxO_get hi,Option.bind_some]
  rw [if_pos (by omega)]
  by_cases hb:isNm xs[i]=true
  ·rw [if_neg (by rw [hb];decide),i64_id (by omega) (by omega)]
   exact .inl ⟨_,rfl,rfl,fun j hj hk=>by
    by_cases e:j=i
    ·subst e;exact hb
    ·exact hne j hj (by omega)⟩
  ·have hb:isNm xs[i]=false:=by simpa using hb
   rw [if_pos (by rw [hb];rfl)]
   exact .inr ⟨_,rfl,.inr ⟨i,rfl,hi,hb,hne⟩⟩
 ·rintro _ ⟨rfl,hne⟩
  refine ⟨.inl (),by rw [if_neg (by omega)],.inl ⟨rfl,List.all_eq_true.2 fun x hx=>?_⟩⟩
  obtain ⟨j,hj,rfl⟩:=List.getElem_of_mem hx
  exact hne j hj hj
 ·rintro _ (⟨rfl,h1⟩ | ⟨k,rfl,hk,hb,hne⟩)
  ·rw [if_pos h1];rfl
  ·have hall:¬ xs.all isNm=true:=fun hh=>by
    have:=List.all_eq_true.1 hh _ (List.getElem_mem hk)
    rw [hb] at this;cases this
   have hf:xs.findIdx (fun x=>!isNm x)=k:=by
    rw [List.findIdx_eq hk]
    exact ⟨by simp [hb],fun j hj=>by simp [hne j (by omega) hj]⟩
   rw [if_neg hall,hf];rfl
 ·simp only [Option.bind_some]
  by_cases ha:xs.all isNm=true
  ·rw [if_pos ha,ha];rfl
  ·rw [if_neg ha,show xs.all isNm=false by simpa using ha]
   simp
theorem sp_lens (r:List UInt8):∀ x∈sp r,x.length≤r.length:=by
 induction r with
 | nil=>intro x hx;simp [sp] at hx;simp [hx]
 | cons c r ih =>
  intro x hx
  simp only [sp] at hx
  split at hx
  ·rcases List.mem_cons.1 hx with rfl | hx
   ·simp
   ·have:=ih x hx;simp;omega
  ·split at hx
   ·rename_i h t e
    rw [e] at ih
    rcases List.mem_cons.1 hx with rfl | hx
    ·have:=ih h List.mem_cons_self;simp;omega
    ·have:=ih x (List.mem_cons_of_mem _ hx);simp;omega
   ·simp at hx;simp [hx]
theorem names_eq (p:List UInt8) (h:p.length≤1500000000):pNames p=some (nmP p,okP p):=by
 unfold pNames
 by_cases hr:p=[47]
 ·rw [if_pos hr,hr];rfl
 rw [if_neg hr]
 have hcut:cutPre p [47]=some (if p.head?=some 47 then p.tail else p,decide (p.head?=some 47)):=by
  unfold cutPre Lib.trimPrefix Lib.hasPrefix
  cases p with
  | nil=>rfl
  | cons c p =>
   by_cases hc:c=47
   ·subst hc;simp [List.isPrefixOf]
   ·have:([47]:List UInt8).isPrefixOf (c::p)=false:=by simp [List.isPrefixOf,Ne.symm hc]
    rw [this];simp [hc]
 rw [hcut]
 simp only [Option.bind_some]
 generalize hq:(if p.head?=some 47 then p.tail else p)=q
 have hql:q.length≤p.length:=by
  rw [← hq];split
  ·simp
  ·exact Nat.le_refl _
 have hsplit:strSplit q [47]=some (sp q):=by
  unfold strSplit genSplit splitO
  rw [if_pos ⟨rfl,rfl,rfl,by omega⟩];rfl
 rw [hsplit]
 simp only [Option.bind_some]
 by_cases h1:p.head?=some 47
 ·rw [if_pos h1] at hq
  subst hq
  rw [if_neg (by simp [h1])]
  by_cases h2:24<(p.length:Int)
  ·rw [if_pos h2]
   have hk:okP p=false:=by
    unfold okP
    rw [decide_eq_false hr,decide_eq_false (show ¬ p.length≤24 by omega)];simp
   rw [nmP_bad hk,hk]
  ·rw [if_neg h2,anyBad_eq _ (by have:=sp_len p.tail;omega) fun x hx=>by have:=sp_lens _ x hx;omega]
   simp only [Option.bind_some]
   have hk:okP p=(sp p.tail).all isNm:=by
    unfold okP
    rw [decide_eq_false hr,decide_eq_true (show p.length≤24 by omega),h1];simp
   by_cases h3:(sp p.tail).all isNm=true
   ·rw [h3] at hk
    rw [if_neg (by rw [h3];decide)]
    unfold nmP
    rw [if_neg hr,if_pos hk,hk]
   ·have h3':(sp p.tail).all isNm=false:=by simpa using h3
    rw [h3'] at hk
    rw [if_pos (by rw [h3'];rfl),nmP_bad hk,hk]
 ·have hk:okP p=false:=by
   unfold okP
   rw [decide_eq_false hr]
   simp [h1]
  rw [if_pos (by simp [h1]),nmP_bad hk,hk]
theorem check_eq (p:List UInt8) (h:p.length≤1500000000):m_path_Check p=some (if okP p=true then 0 else 90):=by
 unfold m_path_Check
 rw [names_eq p h]
 simp only [Option.bind_some]
 cases okP p<;>rfl
theorem join_eq (xs:List (List UInt8)) (h1:xs.length≤2000000000) (h2:(jn xs).length≤2000000000):m_path_join xs=some (pth xs):=by
 unfold m_path_join strJoin joinO
 rw [if_pos ⟨rfl,h1,h2⟩]
 simp only [Option.bind_some]
 rw [appO_byte (by simp;omega)];rfl
def par (p:List UInt8):List UInt8:=if nmP p=[] then [] else pth (nmP p).dropLast
def bas (p:List UInt8):List UInt8:=(nmP p).getLast?.getD []
theorem parent_eq (p:List UInt8) (h:p.length≤1500000000):m_path_Parent p=some (par p):=by
 unfold m_path_Parent par
 rw [names_eq p (by omega)]
 simp only [Option.bind_some]
 have hl:=nmP_len p
 have hj:=jn_nmP p
 by_cases h0:nmP p=[]
 ·rw [if_pos (by rw [h0];rfl),if_pos h0]
 ·have hp:0<(nmP p).length:=List.length_pos_iff.2 h0
  rw [if_neg (by omega),if_neg h0,i64_id (by omega) (by omega)]
  rw [show ((nmP p).length:Int) - 1=(((nmP p).length - 1:Nat):Int) by omega,show (0:Int)=((0:Nat):Int) from rfl,slcO_of (Nat.zero_le _) (by omega)]
  simp only [Option.bind_some,List.drop_zero]
  have ht:(nmP p).take ((nmP p).length - 1)=(nmP p).dropLast:=by rw [List.dropLast_eq_take]
  have:=jn_take (xs:=nmP p) ((nmP p).length - 1)
  rw [ht] at this ⊢
  rw [join_eq _ (by simp;omega) (by omega)];rfl
theorem base_eq (p:List UInt8) (h:p.length≤1500000000):m_path_Base p=some (bas p):=by
 unfold m_path_Base bas
 rw [names_eq p (by omega)]
 simp only [Option.bind_some]
 have hl:=nmP_len p
 by_cases h0:nmP p=[]
 ·rw [if_pos (by rw [h0];rfl),h0];rfl
 ·have hp:0<(nmP p).length:=List.length_pos_iff.2 h0
  rw [if_neg (by omega),i64_id (by omega) (by omega),show ((nmP p).length:Int) - 1=(((nmP p).length - 1:Nat):Int) by omega,idxO_get (by omega)]
  simp only [Option.bind_some]
  rw [List.getLast?_eq_getElem?,List.getElem?_eq_getElem (by omega)];rfl
theorem equalT_eq (x y:List (List UInt8)) (hx:x.length≤2000000001):m_slices_Equal___string_string_ x y=some (decide (x=y)):=by
 unfold m_slices_Equal___string_string_
 by_cases hl:(x.length:Int)=(y.length:Int)
 ·rw [if_pos hl]
  refine bind_run (fun k (s:Int)=>s=(k:Int)∧∀ j,j<k→x.getD j []=y.getD j []) (fun r=>(r=.inl ()∧x=y)∨(r=.inr false∧x≠y)) x.length ⟨rfl,fun j hj=>by omega⟩ ?_ ?_ ?_
  ·rintro k _ hk ⟨rfl,hne⟩
   rw [if_pos (by omega),idxO_getD [] rfl hk,idxO_getD [] rfl (show k<y.length by omega)]
   simp only [Option.bind_some]
   by_cases e:x.getD k []=y.getD k []
   ·rw [if_pos e,i64_id (by omega) (by omega)]
    exact .inl ⟨_,rfl,rfl,fun j hj=>by
     by_cases ej:j=k
     ·subst ej;exact e
     ·exact hne j (by omega)⟩
   ·rw [if_neg e]
    exact .inr ⟨_,rfl,.inr ⟨rfl,fun h=>e (by rw [h])⟩⟩
  ·rintro _ ⟨rfl,hne⟩
   refine ⟨.inl (),?_,.inl ⟨rfl,List.ext_getElem (by omega) fun j h1 h2=>?_⟩⟩
   ·rw [if_neg (by omega)]
   ·have:=hne j h1
    simpa [List.getD_eq_getElem?_getD,List.getElem?_eq_getElem h1,List.getElem?_eq_getElem h2] using this
  ·rintro _ (⟨rfl,h1⟩ | ⟨rfl,h1⟩)
   ·simp [h1]
   ·simp [h1]
 ·rw [if_neg hl,decide_eq_false fun h=>hl (by rw [h])]
def wthn (p q:List UInt8):Bool:=okP p&&okP q&&decide (nmP p <+: nmP q)
theorem within_eq (p q:List UInt8) (hp:p.length≤1500000000) (hq:q.length≤1500000000):m_path_Within p q=some (wthn p q):=by
 unfold m_path_Within wthn
 rw [names_eq p (by omega),names_eq q (by omega)]
 simp only [Option.bind_some]
 have hl:=nmP_len p
 cases okP p with
 | false=>rfl
 | true =>
  cases okP q with
  | false=>rfl
  | true =>
   rw [if_pos rfl,if_pos rfl]
   by_cases hle:((nmP p).length:Int)≤((nmP q).length:Int)
   ·rw [if_pos hle,show (0:Int)=((0:Nat):Int) from rfl,slcO_of (Nat.zero_le _) (by omega)]
    simp only [Option.bind_some,List.drop_zero]
    rw [equalT_eq _ _ (by omega)]
    simp only [Option.bind_some,Bool.true_and]
    congr 1
    rw [decide_eq_decide]
    constructor
    ·intro h;rw [h];exact List.take_prefix _ _
    ·intro h;exact List.prefix_iff_eq_take.1 h
   ·rw [if_neg hle]
    congr 1
    symm
    simp only [Bool.true_and,decide_eq_false_iff_not]
    intro h
    have:=h.length_le
    omega
theorem anc_eq (p:List UInt8) (h:p.length≤1500000000):m_path_Ancestors p=some ((List.range (nmP p).length).map fun i=>pth ((nmP p).take i)):=by
  unfold m_path_Ancestors
  rw [names_eq p (by omega)]
  simp only [Option.bind_some]
  have hl:=nmP_len p
  have hj:=jn_nmP p
  have key:=loop_for0 (σ:=List (List UInt8)) (ρ:=List (List UInt8)) (f:=(fun (s47:(List (List UInt8))×Int)=>if s47.2<(((nmP p,okP p).1).length:Int) then ((slcO (nmP p,okP p).1 0 s47.2).bind fun x51 =>
(m_path_join x51).bind fun x52 =>
(appO s47.1 ([x52])).bind fun x55 =>
some (.inl (x55,IntKind.i64.wrap (s47.2+1))))
 else (some (.inr s47.1)))) (fun i s=>s++[pth ((nmP p).take i)]) id (nmP p).length (fun i s=>s=(List.range i).map fun j=>pth ((nmP p).take j)) (fun i s hi hs=>?_) (fun s hs=>?_) (s0:=[]) rfl
  · rw [key.1]
    simp only [Option.bind_some,id]
    rw [key.2]
  · have ht:=jn_take (xs:=nmP p) i
    refine ⟨?_,by rw [hs,List.range_succ,List.map_append];rfl⟩
    show (if (i:Int)<((nmP p).length:Int) then _ else _)=_
    rw [if_pos (by omega),show (0:Int)=((0:Nat):Int) from rfl,slcO_of (Nat.zero_le _) (by show i≤(nmP p).length;omega)]
    simp only [Option.bind_some,List.drop_zero]
    rw [join_eq _ (by simp;omega) (by omega)]
    simp only [Option.bind_some]
    rw [appO_of (by rw [hs];simp;omega)]
    simp only [Option.bind_some]
    rw [i64_id (by omega) (by omega)];rfl
  · show (if ((nmP p).length:Int)<((nmP p).length:Int) then _ else _)=_
    rw [if_neg (by omega)];rfl
end Go.Proofs.YthcjjjnphgopjaaGreatDoor
