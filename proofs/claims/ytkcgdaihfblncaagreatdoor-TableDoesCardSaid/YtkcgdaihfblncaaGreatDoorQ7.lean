/- Texts Elf. -/
import Derived.Test.YtkcgdaihfblncaaGreatDoorQ4
set_option linter.unusedSimpArgs false
set_option linter.unusedVariables false
namespace Go.Tri
open Go.RowKit
section
variable {α β:Type} {R:Rp α} {Q:Rp β} {B:Base}
theorem aH0 {cs:List Value} {k off:Nat} {v:Value} {x:α×β} {z:β} (hk:off=R.n+k) (h:(bP R Q).rd B cs x) (hd:∀ d,Q.rd B d x.2->Q.rd B (d.set k v) z):(bP R Q).rd B (cs.set off v) (x.1,z):=by
 obtain ⟨c,d,rfl,h1,h2⟩:=h
 refine ⟨c,d.set k v,?_,h1,hd d h2⟩
 rw [List.set_append_right _ _ (by rw [R.len h1];omega),R.len h1,hk,Nat.add_sub_cancel_left]
theorem aQe {cs:List Value} {v:Value} {x:α×β} {z:α} (hn:R.n=1) (h:(bP R Q).rd B cs x) (hz:R.rd B [v] z):(bP R Q).rd B (cs.set 0 v) (z,x.2):=by
 obtain ⟨c,d,rfl,h1,h2⟩:=h
 have hl:=R.len h1
 rw [hn] at hl
 obtain ⟨c0,rfl⟩:=List.length_eq_one_iff.1 hl
 exact ⟨[v],d,rfl,hz,h2⟩
theorem aMh {d:List Value} {v:Value} {x z:α} (hn:R.n=1) (h:R.rd B d x) (hz:R.rd B [v] z):R.rd B (d.set 0 v) z:=by
 have hl:=R.len h
 rw [hn] at hl
 obtain ⟨c0,rfl⟩:=List.length_eq_one_iff.1 hl
 exact hz
theorem ow_at {w:World} {e:TypeId} {b cap:Nat} {xs:List α} {cur:List Value} (h:∃ S,(HP.ow R e (some ⟨b,0,none⟩) cap xs).pr B w S) (hb:Blk w b cur e) {k:Nat} {u:α} (hk:xs[k]?=some u):R.rd B ((cur.drop (k*R.n)).take R.n) u/\k*R.n+R.n<=cur.length:=by
 obtain ⟨S,css0,c0,⟨hl0,⟨h,h'⟩ | ⟨g,cap',cur',h,hb0,hg,hnc,hm,hsz,ht⟩⟩,hS⟩:=h
 ·cases h
 ·cases h
  have e1:cur'=cur.toArray:=by
   unfold Blk at hb
   rw [hb] at hg
   cases hg
   simp
  subst e1
  obtain ⟨c,hc,hr⟩:=c0.at hk
  have hkl:=(List.getElem?_eq_some_iff.1 hk).1
  have hmul:(k+1)*R.n<=xs.length*R.n:=Nat.mul_le_mul_right _ hkl
  have hmul2:xs.length*R.n<=cap*R.n:=Nat.mul_le_mul_right _ hnc
  have hkk:(k+1)*R.n=k*R.n+R.n:=Nat.succ_mul k R.n
  simp only [List.size_toArray] at hsz
  have h2:=wA c0 hc (R.len hr)
  rw [<- ht] at h2
  simp only [Nat.zero_add] at h2
  have e2:((cur.take (xs.length*R.n)).drop (k*R.n)).take R.n=(cur.drop (k*R.n)).take R.n:=by
   rw [List.drop_take,List.take_take,Nat.min_eq_left (by omega)]
  refine ⟨?_,by omega⟩
  rw [<- e2]
  have h3:List.take R.n (List.drop (k*R.n) (List.take (xs.length*R.n) cur))=c:=by simpa using h2
  rw [h3];exact hr
end
section
variable {α:Type} {R:Rp α} {P:Program} {o:Oper} {rest:List Oper} {a:Act} {N:Fs} {l:List (Nat×Value)} {w0 w:World} {ls:List HP} {ops:Array Oper} {W:List Oper->Act->World->Prop} {x y:Operand} {t e:TypeId} {p:Option Addr} {cap:Nat} {xs:List α}
theorem aOl (kw:bN P ops W) (F:Fr N a l) (hg:o.guard=none) (hd:o.dst=none) {z1:Value} (hz:Zero1 P t z1) (ho:o.op=.store t x y) {n off:Nat} (hR:R.n=n) (hoff:Nat.blt off n=true) {b:Nat} {q:Int} (hx:ev l x=some (.pointer (some ⟨b,0+q.toNat*n+off,none⟩))) {v:Value} (hy:ev l y=some v) (hv:v.cells=#[v]) (h1:v.oneCell'=true)
  (H:St w0 w ls) (i:Nat) (hi:ls[i]?=some (HP.ow R e p cap xs)) (hp:p=some ⟨b,0,none⟩) {u:α} (hq:aD xs q=some u) {zz:α} (hrd:∀ {B:Base},(∀ (j:Nat) (C:HP),ls[j]?=some C->∃ S,C.pr B w S)->∀ cs,R.rd B cs u->R.rd B (cs.set off v) zz)
  (hk:∀ w',St w0 w' (ls.set i (HP.ow R e p cap (xs.set q.toNat zz)))->W rest a w'):W (o::rest) a w:=by
 obtain ⟨_,h2⟩:=eR hq
 have hlt:=(List.getElem?_eq_some_iff.1 h2).1
 subst hp hR
 have hoff':off<R.n:=by simpa [Nat.blt_eq] using hoff
 obtain ⟨cur,hb⟩:∃ cur:List Value,Blk w b cur e:=by
  obtain ⟨B,H'⟩:=H.out
  obtain ⟨S0,css0,c0,⟨hl0,⟨h,h'⟩ | ⟨g,cap',cur,h,hb0,hg,hnc,hm,hsz,ht⟩⟩,hS⟩:=H'.at hi
  ·cases h
  ·cases h
   exact ⟨cur.toList,by unfold Blk;simpa using hg⟩
 obtain ⟨cur',hb',hl,hS⟩:=H.owPut i hi rfl hlt (c:=((cur.drop (q.toNat*R.n)).take R.n).set off v) (z:=zz) (fun {B} g=>hrd g _ (ow_at (g i _ hi) hb h2).1)
 have ec:cur'=cur:=by
  unfold Blk at hb hb'
  rw [hb] at hb'
  cases hb';rfl
 subst ec
 have e1:cur'.take (q.toNat*R.n)++((cur'.drop (q.toNat*R.n)).take R.n).set off v++cur'.drop (q.toNat*R.n+R.n)=cur'.set (0+q.toNat*R.n+off) v:=by
  rw [Nat.zero_add]
  conv=>rhs;rw [<- List.take_append_drop (q.toNat*R.n) cur']
  rw [List.set_append_right _ _ (by rw [List.length_take];omega),List.length_take,Nat.min_eq_left (by omega),Nat.add_sub_cancel_left,List.append_assoc]
  congr 1
  conv=>rhs;rw [<- List.take_append_drop R.n (cur'.drop (q.toNat*R.n))]
  rw [List.set_append_left _ _ (by rw [List.length_take,List.length_drop];omega),List.drop_drop]
 rw [e1] at hS
 exact fF kw F hg hd (by rw [ho];rfl) (yE F hz ho hx hy hv h1 hb' (by omega)) (hk _ hS)
end
end Go.Tri
