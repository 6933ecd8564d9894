/- Texts Str, Op, Seal, Srt, Ins, Mod, Up, StrA. -/
import Derived.Test.YtnagibpmfabkjaaGreatDoorQ3
import Derived.Lib.SplitLaws
import Derived.Lib.Join
import Derived.Below
import Derived.Test.YtnagibpmfabkjaaGreatDoorQ0
import Derived.Shelf.SlicesE.DeleteFunc
import Derived.Sort.EncStr
import Derived.Shelf.SlSortCmp.NoneTotal
import GoSem.ClaimJoined
import Derived.ChangeMaps5
import Derived.Test.YtnagibpmfabkjaaGreatDoorRows
import Derived.Deep.DeepHandedRow
import Derived.Test.YtnagibpmfabkjaaGreatDoorProg
import Derived.Test.YtnagibpmfabkjaaGreatDoorShelf
set_option linter.unusedSimpArgs false
set_option linter.unusedVariables false
namespace Go.Tri
open Go.RowKit
def sp:List UInt8→List (List UInt8)
 | []=>[[]]
 | c::r=>if c=47 then []::sp r else match sp r with | h::t=>(c::h)::t | []=>[[c]]
theorem split_sp:∀ s:List UInt8,Lib.splitK [47] 0 (Lib.count s [47]) s=sp s
 | []=>by rw [Lib.count_miss (by simp [Lib.index])];rfl
 | c::r=>by
  have ih:=split_sp r
  by_cases h:c=47
  ·subst h
   rw [Lib.count_cons_eq,Nat.add_comm,Lib.splitK]
   have hix:Lib.index (47::r) [47]=0:=by rw [Lib.index];simp [List.isPrefixOf]
   rw [hix]
   simp only [sp,if_true]
   rw [if_neg (by decide)]
   simpa using ih
  ·have hp:([47]:List UInt8).isPrefixOf (c::r)=false:=by simp [List.isPrefixOf,Ne.symm h]
   have hix:Lib.index (c::r) [47]=if Lib.index r [47]==-1 then -1 else Lib.index r [47]+1:=by rw [Lib.index,hp];simp
   rw [Lib.count_cons_ne c 47 r h]
   simp only [sp,h,if_false]
   by_cases hm:Lib.index r [47]=-1
   ·rw [Lib.count_miss hm] at ih ⊢
    rw [← ih];rfl
   ·have hge:=Lib.index_ge r [47]
    obtain ⟨j,hj⟩:∃ j:Nat,Lib.index r [47]=j:=⟨(Lib.index r [47]).toNat,by omega⟩
    rw [Lib.count_hit (by simp) hj,Nat.add_comm] at ih ⊢
    rw [Lib.splitK,hj,if_neg (by simp)] at ih
    rw [Lib.splitK,hix,hj,if_neg (show ¬ (((j:Int)==-1)=true) by simp),if_neg (by simp;omega),← ih]
    simp only [Int.toNat_natCast,Nat.add_zero]
    rw [show ((j:Int)+1).toNat=j+1 by omega]
    rfl
def jn (xs:List (List UInt8)):List UInt8:=Lib.join xs [47]
def splitO (s sep:List UInt8) (sv n:Int):Option (List (List UInt8)):=if sep=[47]∧sv=0∧n=-1∧s.length≤2000000000 then some (sp s) else none
theorem splitO_some {s sep:List UInt8} {sv n:Int} {r:List (List UInt8)} (h:splitO s sep sv n=some r):sep=[47]∧sv=0∧n=-1∧s.length≤2000000000∧r=sp s:=by
 unfold splitO at h
 split at h
 ·rename_i h0;cases h;exact ⟨h0.1,h0.2.1,h0.2.2.1,h0.2.2.2,rfl⟩
 ·cases h
def joinO (xs:List (List UInt8)) (sep:List UInt8):Option (List UInt8):=if sep=[47]∧xs.length≤2000000000∧(jn xs).length≤2000000000 then some (jn xs) else none
theorem joinO_some {xs:List (List UInt8)} {sep r:List UInt8} (h:joinO xs sep=some r):sep=[47]∧xs.length≤2000000000∧(jn xs).length≤2000000000∧r=jn xs:=by
 unfold joinO at h
 split at h
 ·rename_i h0;cases h;exact ⟨h0.1,h0.2.1,h0.2.2,rfl⟩
 ·cases h
def indexO (s sub:List UInt8):Option Int:=match sub with
 | [c]=>some (Lib.indexByte s c)
 | _=>none
theorem indexO_some {s sub:List UInt8} {r:Int} (h:indexO s sub=some r):∃ c,sub=[c]∧r=Lib.indexByte s c:=by
 unfold indexO at h
 split at h
 ·rename_i c;cases h;exact ⟨c,rfl,rfl⟩
 ·cases h
theorem St.below {w0 w w':World} {l:List HP} (H:St w0 w l) (hb:Below w.heap.size w w'):St w0 w' l:=by
 obtain ⟨hv,B,f,hs,h1,h2,h3⟩:=H
 have hold:∀ b,b<w.heap.size→w'.heap[b]?=w.heap[b]?:=fun b hlt=>hb.block b hlt
 refine ⟨⟨hb.os.trans hv.1,hb.tape.trans hv.2.1,hb.output.trans hv.2.2.1,Nat.le_trans hv.2.2.2 hb.size⟩,B,f,fun b o h=>?_,fun i A hi=>A.loc (h1 i A hi) fun b hf=>hold b (h3 i b (List.getElem?_eq_some_iff.1 hi).1 hf).1,h2,fun i b hi hf=>?_⟩
 ·rw [hold b (hs.lt h)];exact hs b o h
 ·have:=h3 i b hi hf
  exact ⟨Nat.lt_of_lt_of_le this.1 hb.size,this.2⟩
theorem St.newTexts {w0 w:World} {l:List HP} (H:St w0 w l) (e:TypeId) (xs:List (List UInt8)) (hm:xs.length≤maxLen):St w0 (w.alloc (.cells (xs.map fun x=>Value.string (txb x)).toArray e)) (HP.ow rStr e (some ⟨w.heap.size,0,none⟩) xs.length xs::l):=by
 have hf:(xs.map fun x=>[Value.string (txb x)]).flatten=xs.map fun x=>Value.string (txb x):=by
  induction xs with
  | nil=>rfl
  | cons x xs ih=>simp only [List.length_cons] at hm;simp [ih (by omega)]
 have hr:∀ B:Base,RdL rStr B (xs.map fun x=>[Value.string (txb x)]) xs:=fun B=>by
  clear hm hf
  induction xs with
  | nil=>trivial
  | cons x xs ih=>exact ⟨rfl,ih⟩
 refine H.add _ _ fun {B} S hS=>⟨_,hr B,?_⟩
 rw [hf]
 exact ⟨⟨by simp [rStr,Rp.enc],.inr ⟨_,xs.length,_,rfl,Nat.zero_le _,heapNew w _,Nat.le_refl _,hm,by simp [rStr,Rp.enc],by simp only [rStr,Rp.enc,Nat.mul_one];rw [List.take_of_length_le];simp⟩⟩,fun b hb=>by simp [Value.ownBlock] at hb;exact hb▸hS⟩
end Go.Tri
namespace Go.Tri
open Go.RowKit Go.ChangeShapes Go.WideShapes Go.ChangeAt Go.Deep
def baseOf (w:World):Base:=fun b=>w.heap[b]?
theorem sub_row {w w':World} {b off:Nat} {cs:List Value} (hs:Sub (baseOf w) w') (h:Row w b off cs):Row w' b off cs:=by
 intro j v hj
 have h1:=h j v hj
 unfold World.cell? at h1 ⊢
 simp only at h1 ⊢
 cases hb:w.heap[b]? with
 | none=>rw [hb] at h1;cases h1
 | some o=>rw [hs b o hb];rw [hb] at h1;exact h1
theorem sub_sl {w w':World} {v:Value} {n:Nat} {cs:List Value} (hs:Sub (baseOf w) w') (h:Sl w v n cs):Sl w' v n cs:=by
 rcases h with h | h | ⟨b,off,cap,h1,h2,h3⟩
 ·exact .inl h
 ·exact .inr (.inl h)
 ·exact .inr (.inr ⟨b,off,cap,h1,h2,sub_row hs h3⟩)
section
variable {α H:Type} (enc:TypeId×Value→H) (P:Program) (w:World) (base:Nat) (spare:Nat→Bool) (held:Bool)
def Opn (R:Rp α) (e:TypeId):Prop:=∀ (fuel:Nat) (cs:List Value) (x:DataW H×List MemPlace),DataW.trod enc P w base spare held fuel e cs=some x→∃ y,R.rd (baseOf w) cs y
end
section
variable {α H:Type} {enc:TypeId×Value→H} {P:Program} {w:World} {base:Nat} {spare:Nat→Bool} {held:Bool} {R:Rp α} {e t:TypeId}
theorem opn_int {k:IntKind} (ht:P.underlying t=some (.int k)):Opn enc P w base spare held (rInt k) t:=fun fuel cs x h=>by
 obtain ⟨n0,g0,_,w0⟩:=DataW.trod_int ht h
 exact ⟨n0,g0⟩
theorem opn_byte (ht:P.underlying t=some (.int .u8)):Opn enc P w base spare held rByte t:=fun fuel cs x h=>by
 obtain ⟨n0,g0,_,w0⟩:=DataW.trod_int ht h
 have hb:0≤n0∧n0≤255:=by
  simp [Lit.wf,IntKind.min,IntKind.max,IntKind.signed,IntKind.bits] at w0;omega
 refine ⟨UInt8.ofNat n0.toNat,?_⟩
 show cs=[.int .u8 ((UInt8.ofNat n0.toNat).toNat:Int)]
 rw [g0]
 have:((UInt8.ofNat n0.toNat).toNat:Int)=n0:=by simp;omega
 rw [this]
end
def HP.all (w0:World):HP:=HP.pe (fun B=>∀ b o,w0.heap[b]?=some o→B b=some o)
  (fun h hl b o hb=>hl b o (h b o hb))
theorem St.start0 (w0:World) (l:List HP) (h:∀ A∈l,A.pr (baseOf w0) w0 (fun _=>False)):St w0 w0 l :=
 ⟨⟨rfl,rfl,rfl,Nat.le_refl _⟩,baseOf w0,fun _ _=>False,fun b o h=>h,fun i A hi=>h A (List.mem_of_getElem? hi),fun _ _ _ _ _ hf=>hf.elim,fun _ _ _ hf=>hf.elim⟩
theorem all_start (w0 w:World) (S:Nat→Prop):(HP.all w0).pr (baseOf w0) w S:=fun b o h=>h
theorem St.finish {w0 w:World} (H:St w0 w [HP.all w0]):Below w0.heap.size w0 w:=by
 obtain ⟨⟨h1,h2,h3,h4⟩,B,f,hs,ha,_⟩:=H
 refine ⟨h1,h2,h3,h4,fun k hk=>?_⟩
 have:=hs k _ (ha 0 _ rfl k _ (Array.getElem?_eq_getElem hk))
 rw [this,Array.getElem?_eq_getElem hk]
end Go.Tri
namespace Go.Tri
open Go.RowKit
def Base.ge (B:Base) (n:Nat):Base:=fun b=>if n≤b then B b else none
theorem Base.ge_mono {B B':Base} (h:B.le B') (n:Nat):(B.ge n).le (B'.ge n):=fun b o hb=>by
 unfold Base.ge at hb ⊢
 split at hb
 ·rename_i hn;rw [if_pos hn];exact h b o hb
 ·cases hb
section
variable {α:Type} {R:Rp α} {w0 w w':World} {l:List HP} {p:Option Addr} {cap n0:Nat} {xs:List α} {e:TypeId}
def HP.nsl (n0:Nat) (R:Rp α) (p:Option Addr) (cap:Nat) (xs:List α):HP :=
 HP.pe (fun B=>(HP.sl R p cap xs).pr (B.ge n0) default (fun _=>False)∧(0<xs.length→∃ b cur e,p=some ⟨b,0,none⟩∧(B.ge n0) b=some (.cells cur e (0,0))∧xs.length≤maxLen))
  (fun h hl=>⟨HP.mono (HP.sl R p cap xs) h.1 (Base.ge_mono hl n0),fun h0=>by obtain ⟨b,cur,e,h1,h2,h3⟩:=h.2 h0;exact ⟨b,cur,e,h1,Base.ge_mono hl n0 _ _ h2,h3⟩⟩)
def rSlN (n0:Nat) (R:Rp α):Rp (List α):=⟨1,fun B cs xs=>∃ p cap,cs=[.slice p xs.length cap]∧(HP.nsl n0 R p cap xs).pr B default (fun _=>False),fun ⟨p,cap,h,k⟩ hl=>⟨p,cap,h,HP.mono _ k hl⟩,fun ⟨p,cap,h,k⟩=>by rw [h];rfl,fun ⟨p,cap,h,k⟩=>by rw [h];intro v hv;simp at hv;subst hv;rfl⟩
end
section
variable {κ β:Type} [DecidableEq κ] {w0 w w':World} {l:List HP} {p:Option Nat} {ek:κ→Value} {agg:Bool} {R R':Rp β} {ok:κ→Prop} {m:κ→Option β}
end
section
variable {α:Type} {R R':Rp α} {B B':Base} {n0:Nat}
abbrev rP2:Rp (List UInt8×List UInt8):=rPair (rSl rByte) (rSl rByte)
abbrev rP2N (n0:Nat):Rp (List UInt8×List UInt8):=rPair (rSlN n0 rByte) (rSlN n0 rByte)
end
section
variable {w0 w w':World} {l:List HP} {p:Option Addr} {cap n0:Nat} {xs:List (List UInt8×List UInt8)}
def HP.box (p:Option Addr) (cap:Nat) (xs:List (List UInt8×List UInt8)):HP :=
 HP.of (fun _ w S=>∃ B:Base,(∀ b o,B b=some o→S b∧w.heap[b]?=some o)∧(HP.nsl 0 (rP2N 0) p cap xs).pr B default (fun _=>False))
  (fun ⟨B,h1,h2⟩ hS=>⟨B,fun b o hb=>⟨(h1 b o hb).1,by rw [hS b (h1 b o hb).1];exact (h1 b o hb).2⟩,h2⟩)
  (fun h _=>h)
end
end Go.Tri
namespace Go.Tri
open Go.RowKit Go.Sort Go.Proofs
theorem rdl_str {B:Base}:∀ {css:List (List Value)} {xs:List (List UInt8)},RdL rStr B css xs→css.flatten=xs.map encStr
 | [],[],_=>rfl
 | [],_::_,h=>h.elim
 | _::_,[],h=>h.elim
 | c::css,x::xs,⟨h1,h2⟩=>by
  have h1:c=[.string (txb x)]:=h1
  rw [List.flatten_cons,rdl_str h2,h1];rfl
theorem rdl_str' {B:Base}:∀ xs:List (List UInt8),RdL rStr B (xs.map fun x=>[encStr x]) xs
 | []=>trivial
 | x::xs=>⟨rfl,rdl_str' xs⟩
theorem flat_str (xs:List (List UInt8)):(xs.map fun x=>[encStr x]).flatten=xs.map encStr:=by
 induction xs with
 | nil=>rfl
 | cons x xs ih=>simp [ih]
section
variable {w0 w:World} {ls:List HP} {e:TypeId} {b cap:Nat} {xs:List (List UInt8)}
theorem St.putStr (H:St w0 w ls) (i:Nat) (hi:ls[i]?=some (HP.ow rStr e (some ⟨b,0,none⟩) cap xs)):Holds encStr w b 0 xs.toArray∧b<w.heap.size∧xs.length≤cap ∧
  ∀ (d':List (List UInt8)) (k n:Nat) (os:Array Obj),d'.length=xs.length→k≤d'.length→St w0 (grow (putRow encStr (Sort.ahead w n) b 0 d'.toArray) os) (ls.set i (HP.ow rStr e (some ⟨b,0,none⟩) cap (d'.take k))):=by
 obtain ⟨B,H⟩:=H.out
 obtain ⟨S0,css,c0,⟨hl0,⟨h,h'⟩ | ⟨g,cap',cur,h,hb0,hg,hnc,hm,hsz,ht⟩⟩,hS⟩:=H.at hi
 ·cases h
 cases h
 have h1:rStr.n=1:=rfl
 have hbl:b<w.heap.size:=(Array.getElem?_eq_some_iff.1 hg).1
 rw [rdl_str c0,h1,Nat.mul_one] at ht
 have hF:∀ t (hx:t<xs.length),cur[t]?=some (encStr xs[t]):=by
  intro t hx
  have e3:(xs.map encStr)[t]?=some (encStr xs[t]):=by simp [hx]
  rw [← ht,List.getElem?_take_of_lt hx] at e3
  simpa using e3
 refine ⟨fun t h5=>?_,hbl,hnc,fun d' k n os hd hk=>?_⟩
 ·have h2:t<xs.length:=by simpa using h5
  refine ⟨?_,?_⟩
  ·unfold World.cell?
   simp only [hg,Nat.zero_add]
   rw [hF t h2]
   simp [getElem!_pos,h2]
  ·unfold World.frozen?
   simp only [hg]
   simp
 ·have hw:(grow (putRow encStr (Sort.ahead w n) b 0 d'.toArray) os).heap=(w.heap.modify b (onCells (putCells encStr 0 d'.toArray)))++os:=rfl
  have hold:∀ k,k<w.heap.size→k≠b→(grow (putRow encStr (Sort.ahead w n) b 0 d'.toArray) os).heap[k]?=w.heap[k]?:=by
   intro k hk hne
   rw [hw,Array.getElem?_append_left (by simpa using hk),Array.getElem?_modify,if_neg (Ne.symm hne)]
  have hnew:(grow (putRow encStr (Sort.ahead w n) b 0 d'.toArray) os).heap[b]?=some (.cells (putCells encStr 0 d'.toArray cur) e (0,0)):=by
   rw [hw,Array.getElem?_append_left (by simpa using hbl),Array.getElem?_modify,if_pos rfl,hg];rfl
  have hsz2:w.heap.size≤(grow (putRow encStr (Sort.ahead w n) b 0 d'.toArray) os).heap.size:=by rw [hw];simp
  have hpc:((putCells encStr 0 d'.toArray cur).toList).take k=(d'.take k).map encStr:=by
   apply List.ext_getElem?
   intro t
   by_cases h:t<k
   ·have hts:t<cur.size:=by rw [hsz,h1];omega
    have hfs:t<d'.length:=by omega
    rw [List.getElem?_take_of_lt h]
    simp only [Array.getElem?_toList,List.getElem?_map,List.getElem?_take_of_lt h]
    unfold putCells
    rw [Array.getElem?_mapIdx,Array.getElem?_eq_getElem hts,Option.map_some,if_pos ⟨Nat.zero_le _,by simpa using hfs⟩,List.getElem?_eq_getElem hfs]
    simp [getElem!_pos,hfs]
   ·rw [List.getElem?_eq_none (by simp;omega),List.getElem?_eq_none (by simp;omega)]
  refine (H.st).upd i hi (fun {B} S hA hb=>?_) rfl rfl rfl hsz2
  obtain ⟨css1,c1,hA1,hA2⟩:=hA
  have hSb:S b:=hA2 b rfl
  have hkl:(d'.take k).length=k:=by rw [List.length_take,Nat.min_eq_left hk]
  refine ⟨S,⟨_,rdl_str' (d'.take k),⟨?_,.inr ⟨b,cap,_,rfl,Nat.zero_le _,hnew,?_,hm,?_,?_⟩⟩,fun b' hb'=>hA2 b' hb'⟩,fun k hk=>.inl hk,fun k hk=>Nat.lt_of_lt_of_le (hb k hk).1 hsz2,fun k hk hn=>hold k hk (fun e=>hn (e▸hSb))⟩
  ·rw [flat_str];simp [h1]
  ·rw [hkl];omega
  ·rw [← hsz];simp [putCells]
  ·rw [flat_str,hkl,h1,Nat.mul_one];exact hpc
end
abbrev PE (B:Base):={p:List Value×(List UInt8×List UInt8) // rP2.rd B p.1 p.2}
instance (B:Base):Inhabited (PE B):=⟨⟨([.slice none 0 0,.slice none 0 0],([],[])),⟨[.slice none 0 0],[.slice none 0 0],rfl,rSl_nil _ _,rSl_nil _ _⟩⟩⟩
def encP {B:Base} (x:PE B):List Value:=x.1.1
def cmpP {B:Base} (x y:PE B):Int:=Lib.compareBytes x.1.2.1 y.1.2.1
theorem encP_len {B:Base} (x:PE B):(encP x).length=2:=rP2.len x.2
theorem encP_one {B:Base} (x:PE B):∀ v∈encP x,v.oneCell'=true:=fun v hv=>rP2.flat x.2 v hv
theorem cmpP_swo {B:Base}:SWO (ltOf (cmpP (B:=B))) where
 irrefl x:=by simp [ltOf,cmpP,cmp_self]
 trans x y z h1 h2:=decide_eq_true (cmp_trans _ _ _ (of_decide_eq_true h1) (of_decide_eq_true h2))
 ntrans x y z h1 h2:=by
  replace h1:¬ Lib.compareBytes x.1.2.1 y.1.2.1<0:=of_decide_eq_false h1
  replace h2:¬ Lib.compareBytes y.1.2.1 z.1.2.1<0:=of_decide_eq_false h2
  refine decide_eq_false fun h3=>?_
  replace h3:Lib.compareBytes x.1.2.1 z.1.2.1<0:=h3
  by_cases hz:Lib.compareBytes y.1.2.1 x.1.2.1=0
  ·rw [cmp_zero _ _ hz] at h2;exact h2 h3
  ·have:Lib.compareBytes y.1.2.1 x.1.2.1<0:=by rw [cmp_swap];rw [cmp_swap] at hz;omega
   exact h2 (cmp_trans _ _ _ this h3)
theorem rdl_pe {B:Base}:∀ {css:List (List Value)} {xs:List (List UInt8×List UInt8)},RdL rP2 B css xs→∃ d:List (PE B),d.map (·.1.2)=xs∧css=d.map encP
 | [],[],_=>⟨[],rfl,rfl⟩
 | c::css,x::xs,h=>by
  obtain ⟨d,h1,h2⟩:=rdl_pe h.2
  exact ⟨⟨(c,x),h.1⟩::d,by simp [h1],by simp [h2,encP]⟩
 | [],_::_,h=>h.elim
 | _::_,[],h=>h.elim
theorem rdl_pe' {B:Base}:∀ d:List (PE B),RdL rP2 B (d.map encP) (d.map (·.1.2))
 | []=>trivial
 | x::d=>⟨x.2,rdl_pe' d⟩
theorem pflat_len {B:Base} (d:List (PE B)):(d.map encP).flatten.length=d.length * 2:=by
 induction d with
 | nil=>rfl
 | cons x d ih=>simp only [List.map_cons,List.flatten_cons,List.length_append,encP_len,ih,List.length_cons];omega
theorem pflat_get {B:Base} (d:List (PE B)) (t:Nat) (h:t<d.length * 2):(d.map encP).flatten[t]?=(encP ((d.toArray)[t / 2]!))[t % 2]?:=by
 have hj:t / 2<d.length:=by omega
 have hc:(d.map encP)[t / 2]?=some (encP (d[t / 2]'hj)):=by simp [List.getElem?_eq_getElem hj]
 have h1:=flatK_at (K:=2) (css:=d.map encP) (fun c hc=>by obtain ⟨x,_,rfl⟩:=List.mem_map.1 hc;exact encP_len x) hc
 have e1:(d.toArray)[t / 2]! = d[t / 2]'hj:=by simp [getElem!_pos,hj]
 rw [e1,← h1,List.getElem?_take_of_lt (by omega),List.getElem?_drop]
 congr 1;omega
theorem pflat_list {B:Base} (d:List (PE B)):(flatK encP 2 d.toArray).toList=(d.map encP).flatten:=by
 apply List.ext_getElem?
 intro t
 by_cases h:t<d.length * 2
 ·have e2:t<(flatK encP 2 d.toArray).size:=by simpa using h
  rw [pflat_get d t h]
  have e3:=get_flatK encP 2 d.toArray t (by simpa using h)
  rw [getElem!_pos (flatK encP 2 d.toArray) t e2] at e3
  rw [Array.getElem?_toList,Array.getElem?_eq_getElem e2,e3]
  have e4:t % 2<(encP (d.toArray[t / 2]!)).length:=by rw [encP_len];omega
  rw [List.getElem?_eq_getElem e4,getElem!_pos (encP (d.toArray[t / 2]!)) _ e4]
 ·rw [List.getElem?_eq_none (by simpa using h),List.getElem?_eq_none (by rw [pflat_len];omega)]
section
variable {w0 w:World} {ls:List HP} {e:TypeId} {b cap:Nat} {xs:List (List UInt8×List UInt8)}
theorem St.sortP (H:St w0 w ls) (i:Nat) (hi:ls[i]?=some (HP.ow rP2 e (some ⟨b,0,none⟩) cap xs)):∃ (B:Base) (d:List (PE B)),d.map (·.1.2)=xs∧HoldsK encP 2 w b 0 d.toArray∧b<w.heap.size ∧
  (∀ (d':Array (PE B)) (n:Nat) (os:Array Obj),Sub B (sortWorldK encP 2 w b 0 n d' os)) ∧
  ∀ (d':Array (PE B)) (n:Nat) (os:Array Obj),d'.size=d.length→St w0 (sortWorldK encP 2 w b 0 n d' os) (ls.set i (HP.ow rP2 e (some ⟨b,0,none⟩) cap (d'.toList.map (·.1.2)))):=by
 obtain ⟨hv,B,f,hs,g1,g2,g3⟩:=H
 obtain ⟨css,c0,⟨hl0,⟨h,h'⟩ | ⟨g,cap',cur,h,hb0,hg,hnc,hm,hsz,ht⟩⟩,hS⟩:=g1 i _ hi
 ·cases h
 cases h
 have hil:i<ls.length:=(List.getElem?_eq_some_iff.1 hi).1
 obtain ⟨d,hd,rfl⟩:=rdl_pe c0
 have hlen:d.length=xs.length:=by rw [← hd];simp
 have hn2:rP2.n=2:=rfl
 have hbl:b<w.heap.size:=(Array.getElem?_eq_some_iff.1 hg).1
 have hBb:B b=none:=(g3 i b hil (hS b rfl)).2.1
 have hF:∀ t,t<d.length * 2→cur[t]?=some ((flatK encP 2 d.toArray)[t]!):=by
  intro t h1
  have e2:t<(flatK encP 2 d.toArray).size:=by simpa using h1
  have e3:(flatK encP 2 d.toArray).toList[t]?=some ((flatK encP 2 d.toArray)[t]!):=by
   rw [Array.getElem?_toList,Array.getElem?_eq_getElem e2,getElem!_pos _ t e2]
  rw [pflat_list,← ht,List.getElem?_take_of_lt (by rw [hn2,← hlen];exact h1)] at e3
  simpa using e3
 have hold:∀ (d':Array (PE B)) (n:Nat) (os:Array Obj) k,k<w.heap.size→k≠b→(sortWorldK encP 2 w b 0 n d' os).heap[k]?=w.heap[k]?:=by
  intro d' n os k hk hne
  have hw:(sortWorldK encP 2 w b 0 n d' os).heap=(w.heap.modify b (onCells (putCells id 0 (flatK encP 2 d'))))++os:=rfl
  rw [hw,Array.getElem?_append_left (by simpa using hk),Array.getElem?_modify,if_neg (Ne.symm hne)]
 refine ⟨B,d,hd,fun t h1=>?_,hbl,fun d' n os b' o hb'=>?_,fun d' n os hs2=>?_⟩
 ·have h2:=hF t (by simpa using h1)
  refine ⟨?_,?_⟩
  ·unfold World.cell?
   simp only [hg,Nat.zero_add]
   exact h2
  ·unfold World.frozen?
   simp only [hg]
   simp
 ·rw [hold d' n os b' (hs.lt hb') (fun e=>by rw [e,hBb] at hb';cases hb')];exact hs b' o hb'
 ·have hw:(sortWorldK encP 2 w b 0 n d' os).heap=(w.heap.modify b (onCells (putCells id 0 (flatK encP 2 d'))))++os:=rfl
  have hnew:(sortWorldK encP 2 w b 0 n d' os).heap[b]?=some (.cells (putCells id 0 (flatK encP 2 d') cur) e (0,0)):=by
   rw [hw,Array.getElem?_append_left (by simpa using hbl),Array.getElem?_modify,if_pos rfl,hg];rfl
  have hsz2:w.heap.size≤(sortWorldK encP 2 w b 0 n d' os).heap.size:=by rw [hw];simp
  have hcap:xs.length * 2≤cap * 2:=Nat.mul_le_mul_right _ hnc
  have hpc:((putCells id 0 (flatK encP 2 d') cur).toList).take (xs.length * 2)=(d'.toList.map encP).flatten:=by
   rw [← pflat_list,Array.toArray_toList]
   apply List.ext_getElem?
   intro t
   by_cases h:t<xs.length * 2
   ·have hts:t<cur.size:=by rw [hsz,hn2];omega
    have hfs:t<(flatK encP 2 d').size:=by simp;rw [hs2,hlen];exact h
    rw [List.getElem?_take_of_lt h]
    simp only [Array.getElem?_toList]
    unfold putCells
    rw [Array.getElem?_mapIdx,Array.getElem?_eq_getElem hts,Option.map_some,if_pos ⟨Nat.zero_le _,by omega⟩,Array.getElem?_eq_getElem hfs]
    rw [Nat.sub_zero,getElem!_pos (flatK encP 2 d') t hfs];rfl
   ·rw [List.getElem?_eq_none (by simp;omega),List.getElem?_eq_none (by simp;rw [hs2,hlen];omega)]
  have hSb:f i b:=hS b rfl
  have hA':(HP.ow rP2 e (some ⟨b,0,none⟩) cap (d'.toList.map (·.1.2))).pr B (sortWorldK encP 2 w b 0 n d' os) (f i):=by
   refine ⟨d'.toList.map encP,rdl_pe' _,⟨?_,.inr ⟨b,cap,_,?_,Nat.zero_le _,hnew,?_,hm,?_,?_⟩⟩,fun b' hb'=>hS b' hb'⟩
   ·rw [pflat_len];simp [hn2]
   ·simp [hs2,hlen]
   ·simp [hs2,hlen];exact hnc
   ·rw [← hsz];simp [putCells]
   ·rw [hn2,show (d'.toList.map (·.1.2)).length=xs.length by simp [hs2,hlen]];exact hpc
  refine ⟨⟨hv.1,hv.2.1,hv.2.2.1,Nat.le_trans hv.2.2.2 hsz2⟩,B,f,fun b' o hb'=>?_,fun j C hj=>?_,fun j k b' hj hk=>g2 j k b' (by simpa using hj) (by simpa using hk),fun j b' hj hf=>?_⟩
  ·rw [hold d' n os b' (hs.lt hb') (fun e=>by rw [e,hBb] at hb';cases hb')];exact hs b' o hb'
  ·rw [List.getElem?_set] at hj
   by_cases e1:i=j
   ·subst e1;rw [if_pos rfl,if_pos hil] at hj;cases hj;exact hA'
   ·rw [if_neg e1] at hj
    have hjl:=(List.getElem?_eq_some_iff.1 hj).1
    exact C.loc (g1 j C hj) fun b' hb'=>hold d' n os b' (g3 j b' hjl hb').1 fun e=>e1 (g2 i j b hil hjl hSb (e▸hb'))
  ·have:=g3 j b' (by simpa using hj) hf
   exact ⟨Nat.lt_of_lt_of_le this.1 hsz2,this.2⟩
end
theorem pe_key {B:Base} {w:World} (hs:Sub B w) (x:PE B):∃ q c v,x.1.1=[.slice q x.1.2.1.length c,v]∧Sl w (.slice q x.1.2.1.length c) x.1.2.1.length (bcells x.1.2.1):=by
 obtain ⟨c1,d1,h1,⟨q,c,h2,css,h3,h4⟩,⟨q2,c2,h5,_⟩⟩:=x.2
 refine ⟨q,c,.slice q2 x.1.2.2.length c2,by rw [h1,h2,h5];rfl,?_⟩
 have:=h4 w hs
 rwa [rdl_bytes_flat h3] at this
abbrev P2:=List UInt8×List UInt8
def leP (a b:P2):Bool:=decide (Lib.compareBytes a.1 b.1≤0)
def sortPairs (xs:List P2):List P2:=xs.mergeSort leP
def sortPO (xs:List P2):Option (List P2):=if (xs.map (·.1)).Nodup∧xs.length≤100000000 then some (sortPairs xs) else none
theorem sortPO_some {xs r:List P2} (h:sortPO xs=some r):(xs.map (·.1)).Nodup∧xs.length≤100000000∧r=sortPairs xs:=by
 unfold sortPO at h
 split at h
 ·rename_i h0;cases h;exact ⟨h0.1,h0.2,rfl⟩
 ·cases h
def ltP (a b:P2):Prop:=ltK a.1 b.1
theorem pairs_same:∀ {l l':List P2},l.Pairwise ltP→l'.Pairwise ltP→(∀ k,k∈l↔k∈l')→l=l'
 | [],[],_,_,_=>rfl
 | [],b::l',_,_,h=>absurd ((h b).2 (by simp)) (by simp)
 | a::l,[],_,_,h=>absurd ((h a).1 (by simp)) (by simp)
 | a::l,b::l',h1,h2,h=>by
  obtain ⟨h3,h4⟩:=List.pairwise_cons.1 h1
  obtain ⟨h5,h6⟩:=List.pairwise_cons.1 h2
  have hirr:∀ x,¬ ltP x x:=fun x hx=>by unfold ltP ltK at hx;rw [cmp_self] at hx;omega
  have hab:a=b:=by
   rcases List.mem_cons.1 ((h a).1 (by simp)) with e | e
   ·exact e
   ·rcases List.mem_cons.1 ((h b).2 (by simp)) with e2 | e2
    ·exact e2.symm
    ·exact absurd (show ltP a a from cmp_trans _ _ _ (h3 b e2) (h5 a e)) (hirr a)
  subst hab
  rw [pairs_same h4 h6 fun k=>?_]
  constructor
  ·intro hk
   rcases List.mem_cons.1 ((h k).1 (List.mem_cons_of_mem _ hk)) with e | e
   ·subst e;exact absurd (h3 k hk) (hirr k)
   ·exact e
  ·intro hk
   rcases List.mem_cons.1 ((h k).2 (List.mem_cons_of_mem _ hk)) with e | e
   ·subst e;exact absurd (h5 k hk) (hirr k)
   ·exact e
theorem strict_of {l:List P2} (hn:(l.map (·.1)).Nodup) (h:l.Pairwise (fun a b=>¬ ltK b.1 a.1)):l.Pairwise ltP:=by
 have hn':l.Pairwise (fun a b=>a.1≠b.1):=by rw [List.nodup_iff_pairwise_ne,List.pairwise_map] at hn;exact hn
 refine (h.and hn').imp fun {a b} h=>?_
 obtain ⟨h1,h2⟩:=h
 unfold ltP
 unfold ltK at *
 have h3:=cmp_zero a.1 b.1
 have h4:=cmp_swap a.1 b.1
 have:Lib.compareBytes a.1 b.1≠0:=fun e=>h2 (h3 e)
 omega
theorem leP_trans (a b c:P2) (h1:leP a b=true) (h2:leP b c=true):leP a c=true:=leK_trans a.1 b.1 c.1 h1 h2
theorem leP_total (a b:P2):(leP a b || leP b a)=true:=leK_total a.1 b.1
theorem sortPairs_strict {xs:List P2} (hn:(xs.map (·.1)).Nodup):(sortPairs xs).Pairwise ltP:=by
 have hp:=List.mergeSort_perm xs leP
 refine strict_of ((hp.map _).nodup_iff.2 hn) ?_
 refine (List.pairwise_mergeSort (fun a b c=>leP_trans a b c) (fun a b=>leP_total a b) xs).imp fun {a b} h=>?_
 have h:Lib.compareBytes a.1 b.1≤0:=of_decide_eq_true h
 have:=cmp_swap a.1 b.1
 unfold ltK;omega
theorem sortPairs_eq {xs ks:List P2} (hn:(xs.map (·.1)).Nodup) (hp:ks.Perm xs) (hs:ks.Pairwise (fun a b=>¬ ltK b.1 a.1)):ks=sortPairs xs :=
 pairs_same (strict_of ((hp.map _).nodup_iff.2 hn) hs) (sortPairs_strict hn) fun k=>(hp.trans (List.mergeSort_perm xs leP).symm).mem_iff
theorem sort_pairs {B:Base} {d:List (PE B)} {d':Array (PE B)} (hp:PermIn 0 d.toArray.size d.toArray d') (hs:SortedIn (ltOf cmpP) 0 d.toArray.size d'):d'.size=d.length∧(d'.toList.map (·.1.2)).Perm (d.map (·.1.2))∧(d'.toList.map (·.1.2)).Pairwise (fun a b=>¬ ltK b.1 a.1):=by
 obtain ⟨h1,_,h2⟩:=hp
 have hsz:d'.size=d.length:=by simpa using h1
 have e1:(d'.extract 0 d.toArray.size).toList=d'.toList:=by simp [← hsz]
 have e2:(d.toArray.extract 0 d.toArray.size).toList=d:=by simp
 rw [e1,e2] at h2
 refine ⟨hsz,h2.map _,?_⟩
 rw [List.pairwise_map,List.pairwise_iff_getElem]
 intro i j hi hj hij
 have hi':i<d'.size:=by simpa using hi
 have hj':j<d'.size:=by simpa using hj
 have:=hs i j (Nat.zero_le _) hij (by simpa [hsz] using hj')
 rw [getElem!_pos d' j hj',getElem!_pos d' i hi'] at this
 have h5:¬ (Lib.compareBytes (d'[j]).1.2.1 (d'[i]).1.2.1<0):=of_decide_eq_false this
 show ¬ ltK _ _
 simpa [ltK] using h5
def sortTO (xs:List (List UInt8)):Option (List (List UInt8)):=if xs.length≤100000000 then some (xs.mergeSort fun x y=>decide (x≤y)) else none
theorem sortTO_some {xs r:List (List UInt8)} (h:sortTO xs=some r):xs.length≤100000000∧r=xs.mergeSort fun x y=>decide (x≤y):=by
 unfold sortTO at h
 split at h
 ·rename_i h0;cases h;exact ⟨h0,rfl⟩
 ·cases h
def delO (xs:List (List UInt8)) (tgt:List UInt8):Option (List (List UInt8)):=if xs.length≤100000000 then some (xs.filter fun x=>!leqB x tgt) else none
theorem delO_some {xs r:List (List UInt8)} {tgt:List UInt8} (h:delO xs tgt=some r):xs.length≤100000000∧r=xs.filter fun x=>!leqB x tgt:=by
 unfold delO at h
 split at h
 ·rename_i h0;cases h;exact ⟨h0,rfl⟩
 ·cases h
theorem St.apart {w0 w:World} {ls:List HP} {e:TypeId} {b b3 cap:Nat} {xs:List (List UInt8)} {cs:List Value} {t:TypeId} (H:St w0 w ls) (i j:Nat) (hi:ls[i]?=some (HP.ow rStr e (some ⟨b,0,none⟩) cap xs)) (hj:ls[j]?=some (HP.blk b3 cs t)) (hij:i≠j):Blk w b3 cs t∧b3<w.heap.size∧b3≠b:=by
 obtain ⟨_,B,f,hs,g1,g2,g3⟩:=H
 have hil:=(List.getElem?_eq_some_iff.1 hi).1
 have hjl:=(List.getElem?_eq_some_iff.1 hj).1
 obtain ⟨css,c0,_,hS⟩:=g1 i _ hi
 obtain ⟨k1,k2⟩:=g1 j _ hj
 exact ⟨k1,(g3 j b3 hjl k2).1,fun e=>hij (g2 i j b hil hjl (hS b rfl) (e▸k2))⟩
end Go.Tri
namespace Go.Tri
open Go.RowKit Go.WideShapes
section
variable {P:Program} {t e:TypeId} {size bytes:Nat} {z:Value} {ops:Array Oper} {rest:List Oper} {o:Oper} {a:Act} {w0 w:World} {Q:Exit→Act→World→Prop} {ls:List HP}
theorem wl_appendSt (hE:ElemT P t e size bytes z) {s x:Operand} (ho:o.op=.call { callee:=.builtin .append,args:=#[s,x],argTypes:=#[t,t] }) (hgd:Region.wanted o (yielded ops a.tmps)=true) {v u:Value} (hs:a.eval s=v) (hx:a.eval x=u)
  (H:St w0 w ls) (i:Nat) {n m:Nat} {xs news:List Value} (hi:ls[i]?=some (HP.own e size v n xs)) (hsrc:Sl w u m news) (hl:news.length=m * size) (h1:Flat news) (h63:n+m≤maxLen) (hbytes:(n+m) * bytes≤140737488355328)
  (hk:∀ v' w',St w0 w' (ls.set i (HP.own e size v' (n+m) (xs++news)))→wpList P ops Q rest (a.put o.dst v') w'):wpList P ops Q (o::rest) a w:=by
 refine BigFrame.wpList_want hgd fun K' hK'=>?_
 obtain ⟨v',w',hrun,H2⟩:=run_appendSt (P:=P) H i hi hE hsrc hl h1 h63 hbytes o.type
 have ex:execOp a.eval o=(do pure (.value (← Builtin.append_ #[t,t] o.type #[v,u]))):=by
  unfold execOp;rw [ho];simp [resolve,invoke,Go.builtin,hs,hx]
 unfold Oper.wp
 rw [ex,Sem.run_bind,hrun]
 exact hK' _ _ (hk v' w' H2)
theorem run_appendR (hE:ElemT P t e size bytes z) {b n cap bo so m c:Nat} {cur news:List Value} {u ty:TypeId} (hb:Blk w b cur u) (hr:Row w bo so news) (hn:news.length=m * size) (hf:Flat news) (hroom:n+m≤cap) (hfit:n * size+news.length≤cur.length) :
  (Builtin.append_ #[t,t] ty #[.slice (some ⟨b,0,none⟩) n cap,.slice (some ⟨bo,so,none⟩) m c]).run P w =
   .ok (.slice (some ⟨b,0,none⟩) (n+m) cap) (w.setRow b (cur.take (n * size)++news++cur.drop (n * size+news.length)).toArray):=by
 obtain ⟨i,hi,_,hs,_⟩:=hE.parts
 have hfc:=run_firstCells_some (P:=P) w size m ⟨bo,so,none⟩ m c news hn (fun j v hj=>by rw [add_none];exact hr j v hj)
 have hst:=run_storeCells_at (P:=P) b (n * size) u news 0 cur.toArray w hb (by simpa using hfit) hf
 simp only [Nat.add_zero] at hst
 simp [Builtin.append_,Go.run_underlying hE.ht,sizeOf,typeInfo,hi,hs,Builtin.lenOf,hroom,hfc,Addr.add_lit,hst]
theorem wl_appendR (hE:ElemT P t e size bytes z) {s x:Operand} (ho:o.op=.call { callee:=.builtin .append,args:=#[s,x],argTypes:=#[t,t] }) (hgd:Region.wanted o (yielded ops a.tmps)=true) {b n cap:Nat} (hs:a.eval s=.slice (some ⟨b,0,none⟩) n cap)
  {bo so m c:Nat} (hx:a.eval x=.slice (some ⟨bo,so,none⟩) m c) {cur news:List Value} {u:TypeId} (hb:Blk w b cur u) (hr:Row w bo so news) (hn:news.length=m * size) (hf:Flat news) (hroom:n+m≤cap) (hfit:n * size+news.length≤cur.length)
  (hk:∀ w',Blk w' b (cur.take (n * size)++news++cur.drop (n * size+news.length)) u→Chg b w w'→wpList P ops Q rest (a.put o.dst (.slice (some ⟨b,0,none⟩) (n+m) cap)) w'):wpList P ops Q (o::rest) a w:=by
 refine BigFrame.wpList_want hgd fun K' hK'=>?_
 have ex:execOp a.eval o=(do pure (.value (← Builtin.append_ #[t,t] o.type #[.slice (some ⟨b,0,none⟩) n cap,.slice (some ⟨bo,so,none⟩) m c]))):=by
  unfold execOp;rw [ho];simp [resolve,invoke,Go.builtin,hs,hx]
 unfold Oper.wp
 rw [ex,Sem.run_bind,run_appendR hE hb hr hn hf hroom hfit]
 exact hK' _ _ (hk _ (hb.set_same _) (Chg.setRow w b _))
theorem run_clearR (hE:ElemT P t e size bytes z) {b off n:Nat} {cur:List Value} {u:TypeId} (hb:Blk w b cur u) (hn:0<n) (hfl:Flat z.cells.toList) (hfit:off+n * size≤cur.length) :
  ∃ zs:List Value,zs.length=n * size∧∀ (c:Nat) (ty:TypeId),(Builtin.clear_ #[t] ty #[.slice (some ⟨b,off,none⟩) n c]).run P w=.ok (.tuple #[]) (w.setRow b (cur.take off++zs++cur.drop (off+zs.length)).toArray):=by
 obtain ⟨i,hi,hz,hs,_⟩:=hE.parts
 have hzl:(Builtin.zeroCells z.cells n).toList.length=n * size:=by
  rw [Array.length_toList,size_zeroCells,hE.hz]
 have hzf:Flat (Builtin.zeroCells z.cells n).toList:=by
  intro v hv
  simp only [Builtin.zeroCells,Array.toList_map,List.mem_map,Array.toList_range,List.mem_range] at hv
  obtain ⟨q,hq,rfl⟩:=hv
  have h0:0<z.cells.size:=Nat.pos_of_ne_zero fun h=>by rw [h,Nat.mul_zero] at hq;omega
  exact hfl _ (by rw [getElem!_pos z.cells _ (Nat.mod_lt _ h0)];exact Array.getElem_mem_toList _)
 refine ⟨_,hzl,fun c ty=>?_⟩
 have hst:=run_storeCells_at (P:=P) b off u (Builtin.zeroCells z.cells n).toList 0 cur.toArray w hb (by rw [hzl];simpa using hfit) hzf
 simp only [Nat.add_zero] at hst
 have hv:∀ w,(zeroValue e).run P w=.ok z w:=fun w=>by unfold zeroValue;rw [Sem.run_bind,run_typeInfo hi];show Sem.run P (match i.zero with | some v=>pure v | none=>_) w=_;rw [hz];rfl
 obtain ⟨m,rfl⟩:∃ m,n=m+1:=⟨n - 1,by omega⟩
 simp [Builtin.clear_,Go.run_underlying hE.ht,hv,hst]
end
theorem Chg.trans {g:Nat} {w1 w2 w3:World} (h:Chg g w1 w2) (k:Chg g w2 w3):Chg g w1 w3 :=
 ⟨k.os.trans h.os,k.tape.trans h.tape,k.output.trans h.output,k.size.trans h.size,fun q hq=>(k.oth q hq).trans (h.oth q hq)⟩
theorem Chg.drewN (g:Nat) (w:World) (n:Nat):Chg g w (w.drewN n):=⟨rfl,rfl,rfl,rfl,fun _ _=>rfl⟩
theorem cut_room (cur xs zs:List Value) (a b k:Nat) (hx:cur.take (a+k+b)=xs) (hl:a+k+b≤cur.length) (hz:zs.length=k) (C1 C2:List Value) (h1:C1=cur.take a++xs.drop (a+k)++cur.drop (a+b)) (h2:C2=C1.take (a+b)++zs++C1.drop (a+b+zs.length)) :
  C1.length=cur.length∧C2.length=cur.length∧C2.take (a+b)=xs.take a++xs.drop (a+k):=by
 have hxl:xs.length=a+k+b:=by rw [← hx,List.length_take];omega
 have e1:C1.length=cur.length:=by rw [h1];simp only [List.length_append,List.length_take,List.length_drop];omega
 have e2:C1.take (a+b)=xs.take a++xs.drop (a+k):=by
  rw [h1,List.take_append_of_le_length (by simp only [List.length_append,List.length_take,List.length_drop];omega),List.take_of_length_le (by simp only [List.length_append,List.length_take,List.length_drop];omega),← hx,List.take_take,Nat.min_eq_left (by omega)]
 refine ⟨e1,?_,?_⟩
 ·rw [h2];simp only [List.length_append,List.length_take,List.length_drop];omega
 ·rw [h2,List.append_assoc,List.take_append_of_le_length (by simp only [List.length_take];omega),List.take_take,Nat.min_self,e2]
def InsSt (e size:Nat) (w0:World) (l:List HP) (i n q:Nat) (xs cs:List Value) (en:Ending) (w':World):Prop :=
 ∃ v',en=.returned v'∧St w0 w' (l.set i (HP.own e size v' (n+1) (xs.take (q * size)++cs++xs.drop (q * size))))
def DelSt (e size:Nat) (w0:World) (l:List HP) (i g cap q r:Nat) (xs:List Value) (en:Ending) (w':World):Prop :=
 en=.returned (.slice (some ⟨g,0,none⟩) (q+r) cap)∧St w0 w' (l.set i (HP.own e size (.slice (some ⟨g,0,none⟩) (q+r) cap) (q+r) (xs.take (q * size)++xs.drop ((q+1) * size))))
def insO {α:Type} (xs:List α) (i:Int) (vs:List α):Option (List α):=if 0≤i∧i≤xs.length∧xs.length≤1000∧vs.length=1 then some (xs.take i.toNat++vs++xs.drop i.toNat) else none
def cutO {α:Type} (xs:List α) (i j:Int):Option (List α):=if 0≤i∧j=i+1∧j≤xs.length then some (xs.take i.toNat++xs.drop (i.toNat+1)) else none
theorem ins_st {P:Program} {f:FuncId} {e k:Nat} {α:Type} {R:Rp α} (hk:R.n=k) (hp:0<k)
  (hEnd:∀ {w0 w:World} {l:List HP} {s:Value} {n:Nat} {xs:List Value} (_:St w0 w l) (i:Nat) (_:l[i]?=some (HP.own e k s n xs)) (_:n≤1000) (bv cv:Nat) (cs:List Value) (_:Row w bv 0 cs) (_:cs.length=k) (_:Flat cs),
   Calls P f #[s,.int .i64 n,.slice (some ⟨bv,0,none⟩) 1 (cv+1)] w (InsSt e k w0 l i n n xs cs))
  (hRoom:∀ {w0 w:World} {l:List HP} {g cap n q:Nat} {xs cur:List Value} (_:St w0 w l) (i:Nat) (_:l[i]?=some (HP.own e k (.slice (some ⟨g,0,none⟩) n cap) n xs)) (_:Blk w g cur e) (_:cur.length=cap * k) (_:cur.take (n * k)=xs) (_:Flat xs) (_:cap≤maxLen) (_:n≤1000) (_:q<n) (_:n+1≤cap)
   (bv cv:Nat) (cs cb:List Value) (_:Blk w bv cb e) (_:Row w bv 0 cs) (_:cs.length=k) (_:Flat cs) (_:cb≠[]) (_:bv≠g),
   Calls P f #[.slice (some ⟨g,0,none⟩) n cap,.int .i64 q,.slice (some ⟨bv,0,none⟩) 1 (cv+1)] w (InsSt e k w0 l i n q xs cs))
  (hGrow:∀ {w0 w:World} {l:List HP} {g n q:Nat} {xs:List Value} (_:St w0 w l) (i:Nat) (_:l[i]?=some (HP.own e k (.slice (some ⟨g,0,none⟩) n n) n xs)) (_:Row w g 0 xs) (_:xs.length=n * k) (_:Flat xs) (_:g<w.heap.size) (_:n≤1000) (_:q<n)
   (bv cv:Nat) (cs:List Value) (_:Row w bv 0 cs) (_:cs.length=k) (_:Flat cs) (_:bv<w.heap.size),
   Calls P f #[.slice (some ⟨g,0,none⟩) n n,.int .i64 q,.slice (some ⟨bv,0,none⟩) 1 (cv+1)] w (InsSt e k w0 l i n q xs cs))
  {p q:Option Addr} {cap c2:Nat} {xs vs zs:List α} {i:Int} (em:insO xs i vs=some zs) {w0 w:World} {l:List HP} (H:St w0 w (HP.ow R e p cap xs::HP.ow R e q c2 vs::l)) :
  Calls P f [.slice p xs.length cap,.int .i64 i,.slice q vs.length c2].toArray w fun en w'=>∃ v,en=.returned v∧∃ (p':Option Addr) (c':Nat),v=.slice p' zs.length c'∧St w0 w' (HP.ow R e p' c' zs::l):=by
 subst hk
 unfold insO at em
 split at em
 ·rename_i hc
  obtain ⟨hi0,hil,hn,hv1⟩:=hc
  cases em
  obtain ⟨x,rfl⟩:∃ x,vs=[x]:=List.length_eq_one_iff.1 hv1
  obtain ⟨k,rfl⟩:=Int.eq_ofNat_of_zero_le hi0
  simp only [Int.toNat_natCast]
  obtain ⟨css,c1,H1⟩:=H.owOpen 0 rfl
  obtain ⟨dss,d1,H2⟩:=H1.owOpen 2 rfl
  simp only [List.set_cons_succ,List.set_cons_zero] at H2
  have o1:=H2.owns 2 rfl
  have o2:=H2.owns 3 rfl
  have hfx:Flat css.flatten:=by obtain ⟨B,S,hs,h,_⟩:=H2.get 1 (A:=HP.rdl R css xs) rfl;exact RdL.flat h
  have hfd:Flat dss.flatten:=by obtain ⟨B,S,hs,h,_⟩:=H2.get 0 (A:=HP.rdl R dss [x]) rfl;exact RdL.flat h
  have hdl:dss.flatten.length=R.n:=by rw [d1];simp
  have hne:∀ b,(Value.slice p xs.length cap).ownBlock=some b→(Value.slice q [x].length c2).ownBlock=some b→False:=by
   obtain ⟨hv,B,f,hs,h1,h2,h3⟩:=H2
   intro b hb hb'
   have a1:=(h1 2 _ rfl).2 b hb
   have a2:=(h1 3 _ rfl).2 b hb'
   have:=h2 2 3 b (by simp) (by simp) a1 a2
   omega
  obtain ⟨_,⟨h,h'⟩ | ⟨g2,cap2,cur2,h,_,hg2,hc2,hm2,hs2,ht2⟩⟩:=o2
  ·simp at h'
  cases h
  obtain ⟨cv,rfl⟩:∃ cv,c2=cv+1:=⟨c2 - 1,by simp at hc2;omega⟩
  have hb2:Blk w g2 cur2.toList e:=by unfold Blk;simpa using hg2
  have hrow2:Row w g2 0 dss.flatten:=by
   have:=hb2.row
   rw [← List.take_append_drop ([x].length * R.n) cur2.toList,ht2] at this
   exact this.left
  have hcb:∀ (cur2:Array Value) (cv:Nat),cur2.size=(cv+1) * R.n→cur2.toList≠[]:=fun cur2 cv hs h0=>by
   have h1:cur2.size=0:=by rw [← Array.length_toList,h0];rfl
   rw [h1] at hs
   exact absurd hs (Nat.ne_of_lt (Nat.mul_pos (Nat.succ_pos cv) hp))
  have key:Calls P f #[.slice p xs.length cap,.int .i64 (k:Int),.slice (some ⟨g2,0,none⟩) 1 (cv+1)] w (InsSt e R.n w0 (HP.rdl R dss [x]::HP.rdl R css xs::HP.own e R.n (.slice p xs.length cap) xs.length css.flatten::HP.own e R.n (.slice (some ⟨g2,0,none⟩) [x].length (cv+1)) [x].length dss.flatten::l) 2 xs.length k css.flatten dss.flatten):=by
   by_cases hk:k=xs.length
   ·subst hk
    exact hEnd H2 2 rfl hn g2 cv _ hrow2 hdl hfd
   ·obtain ⟨_,⟨h,h'⟩ | ⟨g,cap',cur,h,_,hg,hc,hm,hs,ht⟩⟩:=o1
    ·simp only [h',Int.ofNat_zero] at hil;omega
    cases h
    have hbk:Blk w g cur.toList e:=by unfold Blk;simpa using hg
    have hgb:g2≠g:=fun he=>hne g rfl (by rw [he];rfl)
    by_cases hr:xs.length+1≤cap
    ·exact hRoom H2 2 rfl hbk (by simpa using hs) ht hfx hm hn (by omega) hr g2 cv _ cur2.toList hb2 hrow2 hdl hfd (hcb cur2 cv hs2) hgb
    ·obtain rfl:cap=xs.length:=by omega
     have hrow:Row w g 0 css.flatten:=by
      have:=hbk.row
      rw [← List.take_append_drop (xs.length * R.n) cur.toList,ht] at this
      exact this.left
     exact hGrow H2 2 rfl hrow c1 hfx hbk.lt hn (by omega) g2 cv _ hrow2 hdl hfd hb2.lt
  refine key.mono ?_
  rintro en w' ⟨v',rfl,H3⟩
  simp only [List.set_cons_succ,List.set_cons_zero] at H3
  obtain ⟨p',c',rfl,_,_⟩:=H3.ownForm 2 rfl
  have hzl:(xs.take k++[x]++xs.drop k).length=xs.length+1:=by simp;omega
  refine ⟨_,rfl,p',c',by rw [hzl],?_⟩
  obtain ⟨B,H4⟩:=H3.out
  obtain ⟨_,r1⟩:=H4.at (i:=0) (A:=HP.rdl R dss [x]) rfl
  obtain ⟨_,r2⟩:=H4.at (i:=1) (A:=HP.rdl R css xs) rfl
  have r3:RdL R B (css.take k++dss++css.drop k) (xs.take k++[x]++xs.drop k):=(RdL.append (RdL.append (RdL.take k r2) r1) (RdL.drop k r2))
  have hfl:(css.take k++dss++css.drop k).flatten=css.flatten.take (k * R.n)++dss.flatten++css.flatten.drop (k * R.n):=by
   rw [List.flatten_append,List.flatten_append,flat_take k r2,flat_drop k r2]
  have H5:=(H4.set 2 (C:=HP.ow R e p' c' (xs.take k++[x]++xs.drop k)) rfl fun S h=>⟨_,r3,by rw [hfl,hzl];exact h⟩).st
  simp only [List.set_cons_succ,List.set_cons_zero] at H5
  exact H5.pm 4 [2] rfl
 ·cases em
theorem del_st {P:Program} {f:FuncId} {e k:Nat} {α:Type} {R:Rp α} (hk:R.n=k) (hp:0<k)
  (hDel:∀ {w0 w:World} {l:List HP} {g cap q r:Nat} {xs cur:List Value} (_:St w0 w l) (i:Nat) (_:l[i]?=some (HP.own e k (.slice (some ⟨g,0,none⟩) (q+1+r) cap) (q+1+r) xs)) (_:Blk w g cur e) (_:cur.length=cap * k) (_:cur.take ((q+1+r) * k)=xs) (_:Flat xs) (_:cap≤maxLen) (_:q+1+r≤cap),
   Calls P f #[.slice (some ⟨g,0,none⟩) (q+1+r) cap,.int .i64 (q:Int),.int .i64 ((q+1:Nat):Int)] w (DelSt e k w0 l i g cap q r xs))
  {p:Option Addr} {cap:Nat} {xs zs:List α} {i j:Int} (em:cutO xs i j=some zs) {w0 w:World} {l:List HP} (H:St w0 w (HP.ow R e p cap xs::l)) :
  Calls P f [.slice p xs.length cap,.int .i64 i,.int .i64 j].toArray w fun en w'=>∃ v,en=.returned v∧∃ (p':Option Addr) (c':Nat),v=.slice p' zs.length c'∧St w0 w' (HP.ow R e p' c' zs::l):=by
 subst hk
 unfold cutO at em
 split at em
 ·rename_i hc
  obtain ⟨hi0,rfl,hjl⟩:=hc
  cases em
  obtain ⟨q,rfl⟩:=Int.eq_ofNat_of_zero_le hi0
  simp only [Int.toNat_natCast]
  obtain ⟨r,hr⟩:∃ r,xs.length=q+1+r:=⟨xs.length - (q+1),by omega⟩
  obtain ⟨css,c1,H1⟩:=H.owOpen 0 rfl
  simp only [List.set_cons_zero] at H1
  have o1:=H1.owns 1 rfl
  have hfx:Flat css.flatten:=by obtain ⟨B,S,hs,h,_⟩:=H1.get 0 (A:=HP.rdl R css xs) rfl;exact RdL.flat h
  obtain ⟨_,⟨h,h'⟩ | ⟨g,cap',cur,h,_,hg,hc,hm,hs,ht⟩⟩:=o1
  ·omega
  cases h
  have hbk:Blk w g cur.toList e:=by unfold Blk;simpa using hg
  have key:=hDel (q:=q) (r:=r) (cap:=cap) H1 1 (by rw [← hr];rfl) hbk (by simpa using hs) (by rw [← hr];exact ht) hfx hm (by omega)
  rw [← hr] at key
  have hz:(xs.take q++xs.drop (q+1)).length=q+r:=by simp;omega
  refine key.mono ?_
  rintro en w' ⟨rfl,H3⟩
  simp only [List.set_cons_succ,List.set_cons_zero] at H3
  refine ⟨_,rfl,_,cap,by rw [hz],?_⟩
  obtain ⟨B,H4⟩:=H3.out
  obtain ⟨_,r2⟩:=H4.at (i:=0) (A:=HP.rdl R css xs) rfl
  have r3:RdL R B (css.take q++css.drop (q+1)) (xs.take q++xs.drop (q+1)):=RdL.append (RdL.take q r2) (RdL.drop (q+1) r2)
  have hfl:(css.take q++css.drop (q+1)).flatten=css.flatten.take (q * R.n)++css.flatten.drop ((q+1) * R.n):=by
   rw [List.flatten_append,flat_take q r2,flat_drop (q+1) r2]
  have H5:=(H4.set 1 (C:=HP.ow R e (some ⟨g,0,none⟩) cap (xs.take q++xs.drop (q+1))) rfl fun S h=>⟨_,r3,by rw [hfl,hz];exact h⟩).st
  simp only [List.set_cons_succ,List.set_cons_zero] at H5
  exact H5.tail
 ·cases em
end Go.Tri
namespace Go.Proofs.YtnagibpmfabkjaaGreatDoor
open Go.RowKit Go.Tri
abbrev T_api_Pair:Type:=(List UInt8)×(List UInt8)
abbrev R_api_Pair:Rp T_api_Pair:=(rPair (rSl rByte) (rSl rByte))
abbrev T_pack_Pen_o:Type:=(List UInt8)
def O_pack_Pen (b:Nat) (x:T_pack_Pen_o):HP:=HP.ex fun (i:(Option Addr)×Nat)=>[HP.blk b ([.slice i.1 (x).length i.2]) 157,HP.ow rByte 5 i.1 i.2 x]
theorem O_pack_Pen_o {w0 w:World} {l:List HP} {b:Nat} {x:T_pack_Pen_o} (H:St w0 w (O_pack_Pen b x::l)):∃ (i1:Option Addr) (c1:Nat),St w0 w (HP.blk b ([.slice i1 (x).length c1]) 157::HP.ow rByte 5 i1 c1 x::l):=by
 obtain ⟨⟨i1,c1⟩,H⟩:=H.exOpen
 exact ⟨i1,c1,H⟩
theorem O_pack_Pen_s {w0 w:World} {l:List HP} {b:Nat} {i1:Option Addr} {c1:Nat} {x0:List UInt8}  (H:St w0 w (HP.blk b ([.slice i1 (x0).length c1]) 157::HP.ow rByte 5 i1 c1 x0::l)):St w0 w (O_pack_Pen b x0::l):=by
 unfold O_pack_Pen
 exact St.exShut (i1,c1) H
def O_pack_Pen_1 (b:Nat) (x:T_pack_Pen_o):HP:=HP.ex fun (i:(Option Addr)×Nat)=>[HP.blk b ([.slice i.1 (x).length i.2]) 157,HP.sl rByte i.1 i.2 x]
theorem O_pack_Pen_1_s {w0 w:World} {l:List HP} {b:Nat} {i1:Option Addr} {c1:Nat} {x0:List UInt8}  (H:St w0 w (HP.blk b ([.slice i1 (x0).length c1]) 157::HP.sl rByte i1 c1 x0::l)):St w0 w (O_pack_Pen_1 b x0::l):=by
 unfold O_pack_Pen_1
 exact St.exShut (i1,c1) H
abbrev T_files_file:Type:=Bool×(List UInt8)
abbrev R_files_file:Rp T_files_file:=(rPair rBool (rSl rByte))
theorem rc_files_file {w0 w:World} {l:List HP} {cs:List Value} {x:T_files_file} (H:St w0 w (HP.rc R_files_file cs x::l)):∃ (p2:Option Addr) (c2:Nat),cs=[.bool (x.1),.slice p2 (x.2).length c2]∧St w0 w (HP.sl rByte p2 c2 x.2::l):=by
 obtain ⟨u1,v1,rfl,H⟩:=H.rcPair 0 rfl
 replace H:=H.dp 2 rfl
 obtain rfl:=H.rcBool 0 rfl
 replace H:=H.dp 0 rfl
 obtain ⟨p2,c2,rfl,H⟩:=H.rcSl 0 rfl
 replace H:=H.dp 1 rfl
 exact ⟨p2,c2,rfl,H⟩
abbrev T_api_Op:Type:=Int×(List UInt8)×(List UInt8)×Int×Int×(List UInt8)
abbrev R_api_Op:Rp T_api_Op:=(rPair (rInt .i64) (rPair rStr (rPair rStr (rPair (rInt .i64) (rPair (rInt .i64) (rSl rByte))))))
abbrev T_api_Answer:Type:=Int×Int×(List UInt8)×(List (List UInt8))
abbrev R_api_Answer:Rp T_api_Answer:=(rPair (rInt .i64) (rPair (rInt .i64) (rPair (rSl rByte) (rSl rStr))))
theorem rc_api_Op {w0 w:World} {l:List HP} {cs:List Value} {x:T_api_Op} (H:St w0 w (HP.rc R_api_Op cs x::l)):∃ (p6:Option Addr) (c6:Nat),cs=[.int .i64 (x.1),.string (txb (x.2.1)),.string (txb (x.2.2.1)),.int .i64 (x.2.2.2.1),.int .i64 (x.2.2.2.2.1),.slice p6 (x.2.2.2.2.2).length c6]∧St w0 w (HP.sl rByte p6 c6 x.2.2.2.2.2::l):=by
 obtain ⟨u1,v1,rfl,H⟩:=H.rcPair 0 rfl
 replace H:=H.dp 2 rfl
 obtain rfl:=H.rcI 0 rfl
 replace H:=H.dp 0 rfl
 obtain ⟨u2,v2,rfl,H⟩:=H.rcPair 0 rfl
 replace H:=H.dp 2 rfl
 obtain rfl:=H.rcStr 0 rfl
 replace H:=H.dp 0 rfl
 obtain ⟨u3,v3,rfl,H⟩:=H.rcPair 0 rfl
 replace H:=H.dp 2 rfl
 obtain rfl:=H.rcStr 0 rfl
 replace H:=H.dp 0 rfl
 obtain ⟨u4,v4,rfl,H⟩:=H.rcPair 0 rfl
 replace H:=H.dp 2 rfl
 obtain rfl:=H.rcI 0 rfl
 replace H:=H.dp 0 rfl
 obtain ⟨u5,v5,rfl,H⟩:=H.rcPair 0 rfl
 replace H:=H.dp 2 rfl
 obtain rfl:=H.rcI 0 rfl
 replace H:=H.dp 0 rfl
 obtain ⟨p6,c6,rfl,H⟩:=H.rcSl 0 rfl
 replace H:=H.dp 1 rfl
 exact ⟨p6,c6,rfl,H⟩
theorem rc_api_Pair {w0 w:World} {l:List HP} {cs:List Value} {x:T_api_Pair} (H:St w0 w (HP.rc R_api_Pair cs x::l)):∃ (p2:Option Addr) (c2:Nat) (p3:Option Addr) (c3:Nat),cs=[.slice p2 (x.1).length c2,.slice p3 (x.2).length c3]∧St w0 w (HP.sl rByte p2 c2 x.1::HP.sl rByte p3 c3 x.2::l):=by
 obtain ⟨u1,v1,rfl,H⟩:=H.rcPair 0 rfl
 replace H:=H.dp 2 rfl
 obtain ⟨p2,c2,rfl,H⟩:=H.rcSl 0 rfl
 replace H:=H.dp 1 rfl
 obtain ⟨p3,c3,rfl,H⟩:=H.rcSl 1 rfl
 replace H:=H.dp 2 rfl
 exact ⟨p2,c2,p3,c3,rfl,(H.pm 2 [1,0] rfl:)⟩
theorem rc_api_Answer {w0 w:World} {l:List HP} {cs:List Value} {x:T_api_Answer} (H:St w0 w (HP.rc R_api_Answer cs x::l)):∃ (p4:Option Addr) (c4:Nat) (p5:Option Addr) (c5:Nat),cs=[.int .i64 (x.1),.int .i64 (x.2.1),.slice p4 (x.2.2.1).length c4,.slice p5 (x.2.2.2).length c5]∧St w0 w (HP.sl rByte p4 c4 x.2.2.1::HP.sl rStr p5 c5 x.2.2.2::l):=by
 obtain ⟨u1,v1,rfl,H⟩:=H.rcPair 0 rfl
 replace H:=H.dp 2 rfl
 obtain rfl:=H.rcI 0 rfl
 replace H:=H.dp 0 rfl
 obtain ⟨u2,v2,rfl,H⟩:=H.rcPair 0 rfl
 replace H:=H.dp 2 rfl
 obtain rfl:=H.rcI 0 rfl
 replace H:=H.dp 0 rfl
 obtain ⟨u3,v3,rfl,H⟩:=H.rcPair 0 rfl
 replace H:=H.dp 2 rfl
 obtain ⟨p4,c4,rfl,H⟩:=H.rcSl 0 rfl
 replace H:=H.dp 1 rfl
 obtain ⟨p5,c5,rfl,H⟩:=H.rcSl 1 rfl
 replace H:=H.dp 2 rfl
 exact ⟨p4,c4,p5,c5,rfl,(H.pm 2 [1,0] rfl:)⟩
abbrev T_api_Snap:Type:=(List UInt8)×Int×(List T_api_Pair)
abbrev R_api_Snap:Rp T_api_Snap:=(rPair rStr (rPair (rInt .u64) (rSl R_api_Pair)))
theorem rc_api_Snap {w0 w:World} {l:List HP} {cs:List Value} {x:T_api_Snap} (H:St w0 w (HP.rc R_api_Snap cs x::l)):∃ (p3:Option Addr) (c3:Nat),cs=[.string (txb (x.1)),.int .u64 (x.2.1),.slice p3 (x.2.2).length c3]∧St w0 w (HP.sl R_api_Pair p3 c3 x.2.2::l):=by
 obtain ⟨u1,v1,rfl,H⟩:=H.rcPair 0 rfl
 replace H:=H.dp 2 rfl
 obtain rfl:=H.rcStr 0 rfl
 replace H:=H.dp 0 rfl
 obtain ⟨u2,v2,rfl,H⟩:=H.rcPair 0 rfl
 replace H:=H.dp 2 rfl
 obtain rfl:=H.rcI 0 rfl
 replace H:=H.dp 0 rfl
 obtain ⟨p3,c3,rfl,H⟩:=H.rcSl 0 rfl
 replace H:=H.dp 1 rfl
 exact ⟨p3,c3,rfl,H⟩
abbrev T_api_State:Type:=(List T_api_Pair)×(List T_api_Snap)
abbrev R_api_State:Rp T_api_State:=(rPair (rSl R_api_Pair) (rSl R_api_Snap))
theorem rc_api_State {w0 w:World} {l:List HP} {cs:List Value} {x:T_api_State} (H:St w0 w (HP.rc R_api_State cs x::l)):∃ (p2:Option Addr) (c2:Nat) (p3:Option Addr) (c3:Nat),cs=[.slice p2 (x.1).length c2,.slice p3 (x.2).length c3]∧St w0 w (HP.sl R_api_Pair p2 c2 x.1::HP.sl R_api_Snap p3 c3 x.2::l):=by
 obtain ⟨u1,v1,rfl,H⟩:=H.rcPair 0 rfl
 replace H:=H.dp 2 rfl
 obtain ⟨p2,c2,rfl,H⟩:=H.rcSl 0 rfl
 replace H:=H.dp 1 rfl
 obtain ⟨p3,c3,rfl,H⟩:=H.rcSl 1 rfl
 replace H:=H.dp 2 rfl
 exact ⟨p2,c2,p3,c3,rfl,(H.pm 2 [1,0] rfl:)⟩
abbrev T_api_State_o:Type:=(List T_api_Pair)×(List T_api_Snap)
def O_api_State (b:Nat) (x:T_api_State_o):HP:=HP.ex fun (i:(Option Addr)×Nat×(Option Addr)×Nat)=>[HP.blk b ([.slice i.1 (x.1).length i.2.1,.slice i.2.2.1 (x.2).length i.2.2.2]) 27,HP.sl R_api_Pair i.1 i.2.1 x.1,HP.ow R_api_Snap 41 i.2.2.1 i.2.2.2 x.2]
theorem O_api_State_o {w0 w:World} {l:List HP} {b:Nat} {x:T_api_State_o} (H:St w0 w (O_api_State b x::l)):∃ (i1:Option Addr) (c1:Nat) (i2:Option Addr) (c2:Nat),St w0 w (HP.blk b ([.slice i1 (x.1).length c1,.slice i2 (x.2).length c2]) 27::HP.sl R_api_Pair i1 c1 x.1::HP.ow R_api_Snap 41 i2 c2 x.2::l):=by
 obtain ⟨⟨i1,c1,i2,c2⟩,H⟩:=H.exOpen
 exact ⟨i1,c1,i2,c2,H⟩
theorem O_api_State_s {w0 w:World} {l:List HP} {b:Nat} {i1:Option Addr} {c1:Nat} {i2:Option Addr} {c2:Nat} {x0:List T_api_Pair} {x1:List T_api_Snap}  (H:St w0 w (HP.blk b ([.slice i1 (x0).length c1,.slice i2 (x1).length c2]) 27::HP.sl R_api_Pair i1 c1 (x0)::HP.ow R_api_Snap 41 i2 c2 (x1)::l)):St w0 w (O_api_State b (x0,x1)::l):=by
 unfold O_api_State
 exact St.exShut (i1,c1,i2,c2) H
noncomputable def cutPre (s:List UInt8) (p:List UInt8):Option ((List UInt8)×Bool):=some (Lib.trimPrefix s p,Lib.hasPrefix s p)
noncomputable def genSplit (s:List UInt8) (sep:List UInt8) (sv:Int) (n:Int):Option (List (List UInt8)):=splitO s sep sv n
noncomputable def strJoin (xs:List (List UInt8)) (sep:List UInt8):Option (List UInt8):=joinO xs sep
noncomputable def slIndex (s:List UInt8) (p:List UInt8):Option Int:=indexO s p
noncomputable def m_internal_stringslite_Cut (x0_:List UInt8) (x1_:List UInt8):Option ((List UInt8)×(List UInt8)×Bool) :=
(slIndex x0_ x1_).bind fun x1 =>
if 0≤x1 then ((slcO x0_ 0 x1).bind fun x3 =>
(slcO x0_ (IntKind.i64.wrap (x1+((x1_).length:Int))) ((x0_).length:Int)).bind fun x4 =>
some (x3,x4,true))
 else (some (x0_,[],false))
noncomputable def m_strings_Cut (x0_:List UInt8) (x1_:List UInt8):Option ((List UInt8)×(List UInt8)×Bool) :=
(m_internal_stringslite_Cut x0_ x1_).bind fun x1 =>
some (x1.1,x1.2.1,x1.2.2)
noncomputable def strSplit (s:List UInt8) (sep:List UInt8):Option (List (List UInt8)) :=
(genSplit s sep 0 (-1)).bind fun x2 =>
some x2
noncomputable def m_path_Name (x0_:List UInt8):Option Bool :=
Option.bind (α:=(Unit) ⊕ Bool) (loopO (fun (s38:Int)=>if s38<((x0_).length:Int) then ((idxO x0_ s38).bind fun x40 =>
if ((x40).toNat:Int)<33 then (some (.inr (.inr false)))
 else ((idxO x0_ s38).bind fun x42 =>
if 126<((x42).toNat:Int) then (some (.inr (.inr false)))
 else ((idxO x0_ s38).bind fun x44 =>
if ((x44).toNat:Int)=47 then (some (.inr (.inr false)))
 else (some (.inl (IntKind.i64.wrap (s38+1)))))))
 else (some (.inr (.inl ())))) 0) fun o23=>Sum.elim (fun r23=>if x0_=([]) then (some false)
 else (some (decide (((x0_).length:Int)≤8)))) (fun rv=>some rv) o23
noncomputable def m_path_names_1 (x0_:List UInt8):Option Bool :=
(m_path_Name x0_).bind fun x1 =>
some (!x1)
noncomputable def ixName (s:List (List UInt8)):Option Int :=
Option.bind (α:=(Unit) ⊕ Int) (loopO (fun (s34:Int)=>if s34<((s).length:Int) then ((idxO s s34).bind fun x36 =>
(m_path_names_1 x36).bind fun x39 =>
if x39=true then (some (.inr (.inr s34)))
 else (some (.inl (IntKind.i64.wrap (s34+1)))))
 else (some (.inr (.inl ())))) 0) fun o21=>Sum.elim (fun r21=>some (-1)) (fun rv=>some rv) o21
noncomputable def anyBad (s:List (List UInt8)):Option Bool :=
(ixName s).bind fun x2 =>
some (decide (0≤x2))
noncomputable def pNames (p:List UInt8):Option ((List (List UInt8))×Bool) :=
if p=([47]) then (some (([]:List (List UInt8)),true))
 else ((cutPre p ([47])).bind fun x3 =>
(strSplit x3.1 ([47])).bind fun x4 =>
if (!x3.2)=true then (some (([]:List (List UInt8)),false))
 else (if 24<((p).length:Int) then (some (([]:List (List UInt8)),false))
 else ((anyBad x4).bind fun x8 =>
if x8=true then (some (([]:List (List UInt8)),false))
 else (some (x4,true)))))
noncomputable def m_path_join (x0_:List (List UInt8)):Option (List UInt8) :=
(strJoin x0_ ([47])).bind fun x2 =>
(appO ([47]) x2).bind fun x3 =>
some x3
noncomputable def m_path_Check (x0_:List UInt8):Option Int :=
(pNames x0_).bind fun x1 =>
if (!x1.2)=true then (some 90)
 else (some 0)
noncomputable def m_path_Parent (x0_:List UInt8):Option (List UInt8) :=
(pNames x0_).bind fun x1 =>
if ((x1.1).length:Int)=0 then (some ([]))
 else ((slcO x1.1 0 (IntKind.i64.wrap (((x1.1).length:Int) - 1))).bind fun x5 =>
(m_path_join x5).bind fun x6 =>
some x6)
noncomputable def m_path_Base (x0_:List UInt8):Option (List UInt8) :=
(pNames x0_).bind fun x1 =>
if ((x1.1).length:Int)=0 then (some ([]))
 else ((idxO x1.1 (IntKind.i64.wrap (((x1.1).length:Int) - 1))).bind fun x4 =>
some x4)
noncomputable def m_slices_Equal___string_string_ (x0_:List (List UInt8)) (x1_:List (List UInt8)):Option Bool :=
if ((x0_).length:Int)=((x1_).length:Int) then (Option.bind (α:=(Unit) ⊕ Bool) (loopO (fun (s46:Int)=>if s46<((x0_).length:Int) then ((idxO x0_ s46).bind fun x48 =>
(idxO x1_ s46).bind fun x51 =>
if x48=x51 then (some (.inl (IntKind.i64.wrap (s46+1))))
 else (some (.inr (.inr false))))
 else (some (.inr (.inl ())))) 0) fun o29=>Sum.elim (fun r29=>some true) (fun rv=>some rv) o29)
 else (some false)
noncomputable def m_path_Within (x0_:List UInt8) (x1_:List UInt8):Option Bool :=
(pNames x0_).bind fun x1 =>
(pNames x1_).bind fun x3 =>
if x1.2=true then (if x3.2=true then (if ((x1.1).length:Int)≤((x3.1).length:Int) then ((slcO x3.1 0 ((x1.1).length:Int)).bind fun x9 =>
(m_slices_Equal___string_string_ x1.1 x9).bind fun x10 =>
some x10)
 else (some false))
 else (some false))
 else (some false)
noncomputable def m_path_Ancestors (x0_:List UInt8):Option (List (List UInt8)) :=
(pNames x0_).bind fun x2 =>
Option.bind (α:=((List (List UInt8)))) (loopO (fun (s47:(List (List UInt8))×Int)=>if s47.2<((x2.1).length:Int) then ((slcO x2.1 0 s47.2).bind fun x51 =>
(m_path_join x51).bind fun x52 =>
(appO s47.1 ([x52])).bind fun x55 =>
some (.inl (x55,IntKind.i64.wrap (s47.2+1))))
 else (some (.inr s47.1))) ([],0)) fun r29=>some r29
noncomputable def sortT (xs:List (List UInt8)):Option (List (List UInt8)):=sortTO xs
noncomputable def sortPs (xs:List T_api_Pair):Option (List T_api_Pair):=sortPO xs
noncomputable def cloneB (s:List UInt8):Option (List UInt8) :=
(appO ([]:List UInt8) s).bind fun x5 =>
some x5
noncomputable def penRaw (p:T_pack_Pen_o) (b:List UInt8):Option T_pack_Pen_o :=
(appO p b).bind fun x5 =>
some x5
noncomputable def penUint (p:T_pack_Pen_o) (n:Int) (size:Int):Option (Int×T_pack_Pen_o) :=
if size<1 then (some (1,p))
 else (if 8<size then (some (1,p))
 else (if size<8 then ((shrO .u64 n (IntKind.i64.wrap (8 * size))).bind fun x4 =>
if 0<x4 then (some (1,p))
 else (Option.bind (α:=(T_pack_Pen_o)) (loopO (fun (s48:T_pack_Pen_o×Int)=>if 0≤s48.2 then ((shrO .u64 n (IntKind.i64.wrap (8 * s48.2))).bind fun x52 =>
(u8O (IntKind.u8.wrap (x52))).bind fun x54 =>
(appO s48.1 ([x54])).bind fun x56 =>
some (.inl (x56,IntKind.i64.wrap (s48.2 - 1))))
 else (some (.inr s48.1))) (p,IntKind.i64.wrap (size - 1))) fun r31=>some (0,r31)))
 else (Option.bind (α:=(T_pack_Pen_o)) (loopO (fun (s99:T_pack_Pen_o×Int)=>if 0≤s99.2 then ((shrO .u64 n (IntKind.i64.wrap (8 * s99.2))).bind fun x103 =>
(u8O (IntKind.u8.wrap (x103))).bind fun x105 =>
(appO s99.1 ([x105])).bind fun x107 =>
some (.inl (x107,IntKind.i64.wrap (s99.2 - 1))))
 else (some (.inr s99.1))) (p,IntKind.i64.wrap (size - 1))) fun r82=>some (0,r82))))
noncomputable def penData (p:T_pack_Pen_o):Option ((List UInt8)×T_pack_Pen_o) :=
(cloneB p).bind fun x4 =>
some (x4,p)
noncomputable def sLook (s:(List UInt8)→Option T_files_file) (p:List UInt8):Option (T_files_file×Int) :=
(m_path_Check p).bind fun x4 =>
if x4=0 then ((m_path_Ancestors p).bind fun x6 =>
Option.bind (α:=(Unit) ⊕ (T_files_file×Int)) (loopO (fun (s65:Int)=>if s65<((x6).length:Int) then ((idxO x6 s65).bind fun x67 =>
if (!((s x67).isSome))=true then (some (.inr (.inr ((false,([]:List UInt8)),91))))
 else (if (!(((s x67).getD (false,[])).1))=true then (some (.inr (.inr ((false,([]:List UInt8)),93))))
 else (some (.inl (IntKind.i64.wrap (s65+1))))))
 else (some (.inr (.inl ())))) 0) fun o42=>Sum.elim (fun r42=>if (!((s p).isSome))=true then (some ((false,([]:List UInt8)),91))
 else (some (((s p).getD (false,[])),0))) (fun rv=>some rv) o42)
 else (some ((false,([]:List UInt8)),x4))
noncomputable def sRegular (s:(List UInt8)→Option T_files_file) (p:List UInt8):Option (T_files_file×Int) :=
(sLook s p).bind fun x4 =>
if x4.2=0 then (if x4.1.1=true then (some ((false,([]:List UInt8)),94))
 else (some ((x4.1.1,x4.1.2),x4.2)))
 else (some (x4.1,x4.2))
noncomputable def sRoom (s:(List UInt8)→Option T_files_file) (p:List UInt8):Option Int :=
(m_path_Check p).bind fun x2 =>
if x2=0 then (if p=([47]) then (some 92)
 else ((m_path_Parent p).bind fun x5 =>
(sLook s x5).bind fun x6 =>
if x6.2=0 then (if (!x6.1.1)=true then (some 93)
 else (if ((s p).isSome)=true then (some 92)
 else (some 0)))
 else (some x6.2)))
 else (some x2)
noncomputable def sized (data:List UInt8) (n:Int):Option (List UInt8) :=
(mkO n (0:UInt8)).bind fun x4 =>
some (putAt x4 0 ((data).take (x4).length))
noncomputable def sWrite (s:(List UInt8)→Option T_files_file) (o:T_api_Op):Option (T_api_Answer×((List UInt8)→Option T_files_file)) :=
(sRegular s o.2.1).bind fun x8 =>
Option.bind (α:=(Int)) (if o.1=3 then (some o.2.2.2.1)
 else (some o.2.2.2.2.1)) fun r12=>Option.bind (α:=(T_files_file×((List UInt8)→Option T_files_file)×(Int×Int))) (Option.bind (α:=(T_files_file×((List UInt8)→Option T_files_file)×(Int×Int))) (if x8.2=0 then (Option.bind (α:=(T_files_file×((List UInt8)→Option T_files_file)×(Int×Int))) (if r12<0 then (some (x8.1,s,(1,0)))
 else (if 192<r12 then (some (x8.1,s,(97,0)))
 else (if o.1=3 then (Option.bind (α:=(T_files_file×((List UInt8)→Option T_files_file)×(Int×Int))) (if 192<(IntKind.i64.wrap (r12+((o.2.2.2.2.2).length:Int))) then (some (x8.1,s,(97,0)))
 else (Option.bind (α:=(T_files_file×((List UInt8)→Option T_files_file)×Int)) (if o.1=4 then ((sized x8.1.2 r12).bind fun x1172 =>
some ((x8.1.1,x8.1.2),fset o.2.1 (false,x1172) s,0))
 else (Option.bind (α:=(T_files_file×((List UInt8)→Option T_files_file))) (if 0<((o.2.2.2.2.2).length:Int) then ((sized x8.1.2 (max ((x8.1.2).length:Int) (IntKind.i64.wrap (r12+((o.2.2.2.2.2).length:Int))))).bind fun x1187 =>
(slcO x1187 r12 ((x1187).length:Int)).bind fun x1190 =>
some ((x8.1.1,x8.1.2),fset o.2.1 (false,(putAt x1187 (r12:Int).toNat ((o.2.2.2.2.2).take (x1190).length))) s))
 else (some (x8.1,s))) fun r1182=>some (r1182.1,r1182.2,((o.2.2.2.2.2).length:Int)))) fun r1167=>some (r1167.1,r1167.2.1,(0,r1167.2.2)))) fun r1141=>some (r1141.1,r1141.2.1,(r1141.2.2.1,r1141.2.2.2)))
 else (Option.bind (α:=(T_files_file×((List UInt8)→Option T_files_file)×Int)) (if o.1=4 then ((sized x8.1.2 r12).bind fun x1220 =>
some ((x8.1.1,x8.1.2),fset o.2.1 (false,x1220) s,0))
 else (Option.bind (α:=(T_files_file×((List UInt8)→Option T_files_file))) (if 0<((o.2.2.2.2.2).length:Int) then ((sized x8.1.2 (max ((x8.1.2).length:Int) (IntKind.i64.wrap (r12+((o.2.2.2.2.2).length:Int))))).bind fun x1235 =>
(slcO x1235 r12 ((x1235).length:Int)).bind fun x1238 =>
some ((x8.1.1,x8.1.2),fset o.2.1 (false,(putAt x1235 (r12:Int).toNat ((o.2.2.2.2.2).take (x1238).length))) s))
 else (some (x8.1,s))) fun r1230=>some (r1230.1,r1230.2,((o.2.2.2.2.2).length:Int)))) fun r1215=>some (r1215.1,r1215.2.1,(0,r1215.2.2)))))) fun r1087=>some (r1087.1,r1087.2.1,(r1087.2.2.1,r1087.2.2.2)))
 else (some (x8.1,s,(x8.2,0)))) fun r933=>some (r933.1,r933.2.1,(r933.2.2.1,r933.2.2.2))) fun r626=>some ((r626.2.2.1,r626.2.2.2,([]:List UInt8),([]:List (List UInt8))),r626.2.1)
noncomputable def sRead (s:(List UInt8)→Option T_files_file) (o:T_api_Op):Option T_api_Answer :=
(sRegular s o.2.1).bind fun x8 =>
Option.bind (α:=(T_files_file×(Int×Int×(List UInt8)))) (Option.bind (α:=(T_files_file×(Int×Int×(List UInt8)))) (if x8.2=0 then (if o.2.2.2.1<0 then (some (x8.1,(1,0,([]:List UInt8))))
 else (Option.bind (α:=(T_files_file×(Int×Int×(List UInt8)))) (if o.2.2.2.2.1<0 then (some (x8.1,(1,0,([]:List UInt8))))
 else ((slcO x8.1.2 (min o.2.2.2.1 ((x8.1.2).length:Int)) ((x8.1.2).length:Int)).bind fun x107 =>
(slcO x107 0 (min (min o.2.2.2.2.1 64) (IntKind.i64.wrap (((x8.1.2).length:Int) - (min o.2.2.2.1 ((x8.1.2).length:Int)))))).bind fun x109 =>
(cloneB x109).bind fun x110 =>
some ((x8.1.1,x8.1.2),(0,((x8.1.2).length:Int),x110)))) fun r100=>some (r100.1,(r100.2.1,r100.2.2.1,r100.2.2.2))))
 else (some (x8.1,(x8.2,0,([]:List UInt8))))) fun r86=>some (r86.1,(r86.2.1,r86.2.2.1,r86.2.2.2))) fun r60=>some (r60.2.1,r60.2.2.1,r60.2.2.2,([]:List (List UInt8)))
noncomputable def sBelow (s:(List UInt8)→Option T_files_file) (p:List UInt8):Option (List (List UInt8)) :=
detM s (fun l76=>(foldO (fun (s76:(List (List UInt8))) (x76:(List UInt8)×T_files_file)=>Option.bind (α:=((List (List UInt8)))) (if x76.1=([47]) then (some s76)
 else ((m_path_Parent x76.1).bind fun x100 =>
Option.bind (α:=((List (List UInt8)))) (if x100=p then ((m_path_Base x76.1).bind fun x109 =>
(appO s76 ([x109])).bind fun x112 =>
some x112)
 else (some s76)) fun r106=>some r106)) fun r96=>some (.inl r96)) ([]) l76).bind (Sum.elim (fun (s76:(List (List UInt8)))=>(sortT s76).bind fun x79 =>
some x79) some))
noncomputable def sRename (s:(List UInt8)→Option T_files_file) (o:T_api_Op):Option (Int×((List UInt8)→Option T_files_file)) :=
(m_path_Check o.2.1).bind fun x6 =>
if x6=0 then ((m_path_Check o.2.2.1).bind fun x8 =>
if x8=0 then ((sLook s o.2.1).bind fun x10 =>
if x10.2=0 then (if o.2.1=([47]) then (some (96,s))
 else ((m_path_Within o.2.1 o.2.2.1).bind fun x15 =>
if x15=true then (some (96,s))
 else ((sRoom s o.2.2.1).bind fun x17 =>
if x17=0 then (detM s (fun l141=>(foldO (fun (s141:((List UInt8)→Option (List UInt8))) (x141:(List UInt8)×T_files_file)=>Option.bind (α:=(((List UInt8)→Option (List UInt8))) ⊕ (Int×((List UInt8)→Option T_files_file))) ((m_path_Within o.2.1 x141.1).bind fun x188 =>
Option.bind (α:=(((List UInt8)→Option (List UInt8))) ⊕ (Int×((List UInt8)→Option T_files_file))) (if x188=true then ((slcO x141.1 ((o.2.1).length:Int) ((x141.1).length:Int)).bind fun x197 =>
(appO o.2.2.1 x197).bind fun x198 =>
if 24<(((((fset x141.1 x198 s141) x141.1).getD [])).length:Int) then (some (.inr (90,s)))
 else (some (.inl (fset x141.1 x198 s141))))
 else (some (.inl s141))) fun o195=>Sum.elim (fun r195=>some (.inl r195)) (fun rv=>some (.inr rv)) o195) fun o186=>Sum.elim (fun r186=>some (.inl r186)) (fun rv=>some (.inr rv)) o186) (fnil:(List UInt8)→Option (List UInt8)) l141).bind (Sum.elim (fun (s141:((List UInt8)→Option (List UInt8)))=>Option.bind (α:=(((List UInt8)→Option T_files_file))) (detM s141 (fun l166=>(foldO (fun (s166:((List UInt8)→Option T_files_file)) (x166:(List UInt8)×(List UInt8))=>some (.inl (fdel x166.1 (fset x166.2 ((s166 x166.1).getD (false,[])) s166)))) s l166).bind (Sum.elim (fun (s166:((List UInt8)→Option T_files_file))=>some s166) some))) fun r157=>some (0,r157)) some)))
 else (some (x17,s)))))
 else (some (x10.2,s)))
 else (some (90,s)))
 else (some (90,s))
noncomputable def sRemove (s:(List UInt8)→Option T_files_file) (p:List UInt8):Option (Int×((List UInt8)→Option T_files_file)) :=
(sLook s p).bind fun x2 =>
if x2.2=0 then (if p=([47]) then (some (96,s))
 else ((sBelow s p).bind fun x7 =>
if 0<((x7).length:Int) then (some (95,s))
 else (some (0,fdel p s))))
 else (some (x2.2,s))
noncomputable def cloneT (s:List (List UInt8)):Option (List (List UInt8)) :=
(appO ([]:List (List UInt8)) s).bind fun x5 =>
some x5
noncomputable def sList (s:(List UInt8)→Option T_files_file) (o:T_api_Op):Option T_api_Answer :=
(sLook s o.2.1).bind fun x8 =>
Option.bind (α:=(T_files_file×(Int×Int×(List (List UInt8))))) (Option.bind (α:=(T_files_file×(Int×Int×(List (List UInt8))))) (if x8.2=0 then (Option.bind (α:=((Int×Int×(List (List UInt8))))) (if (!x8.1.1)=true then (some (93,0,([]:List (List UInt8))))
 else ((sBelow s o.2.1).bind fun x104 =>
(delO x104 o.2.2.1).bind fun x106 =>
(slcO x106 0 (min ((x106).length:Int) 6)).bind fun x109 =>
(cloneT x109).bind fun x110 =>
some (0,((x104).length:Int),x110))) fun r101=>some ((x8.1.1,x8.1.2),(r101.1,r101.2.1,r101.2.2)))
 else (some (x8.1,(x8.2,0,([]:List (List UInt8)))))) fun r86=>some (r86.1,(r86.2.1,r86.2.2.1,r86.2.2.2))) fun r60=>some (r60.2.1,r60.2.2.1,([]:List UInt8),r60.2.2.2)
noncomputable def sStat (s:(List UInt8)→Option T_files_file) (p:List UInt8):Option T_api_Answer :=
(sLook s p).bind fun x4 =>
Option.bind (α:=(T_files_file×(Int×Int×(List UInt8)))) (Option.bind (α:=(T_files_file×(Int×Int×(List UInt8)))) (if x4.2=0 then (Option.bind (α:=((Int×(List UInt8)))) (if x4.1.1=true then ((u8O 100).bind fun x87 =>
(sBelow s p).bind fun x88 =>
some (((x88).length:Int),[x87]))
 else ((u8O 102).bind fun x91 =>
some (((x4.1.2).length:Int),[x91]))) fun r83=>some ((x4.1.1,x4.1.2),(0,r83.1,r83.2)))
 else (some (x4.1,(x4.2,0,([]:List UInt8))))) fun r70=>some (r70.1,(r70.2.1,r70.2.2.1,r70.2.2.2))) fun r48=>some (r48.2.1,r48.2.2.1,r48.2.2.2,([]:List (List UInt8)))
noncomputable def sDo (s:(List UInt8)→Option T_files_file) (o:T_api_Op):Option (T_api_Answer×((List UInt8)→Option T_files_file)) :=
Option.bind (α:=(Int×((List UInt8)→Option T_files_file)) ⊕ (T_api_Answer×((List UInt8)→Option T_files_file))) (Option.bind (α:=(Bool)) (if o.1=1 then (some (decide (o.1=1)))
 else (some (decide (o.1=2)))) fun r384=>Option.bind (α:=(Int×((List UInt8)→Option T_files_file)) ⊕ (T_api_Answer×((List UInt8)→Option T_files_file))) (if r384=true then ((sRoom s o.2.1).bind fun x573 =>
Option.bind (α:=(((List UInt8)→Option T_files_file))) (if x573=0 then (some (fset o.2.1 (decide (o.1=2),([]:List UInt8)) s))
 else (some s)) fun r575=>some (.inl (x573,r575)))
 else (Option.bind (α:=(Bool)) (if o.1=3 then (some (decide (o.1=3)))
 else (some (decide (o.1=4)))) fun r578=>Option.bind (α:=(Int×((List UInt8)→Option T_files_file)) ⊕ (T_api_Answer×((List UInt8)→Option T_files_file))) (if r578=true then ((sWrite s (o.1,o.2.1,o.2.2.1,o.2.2.2.1,o.2.2.2.2.1,o.2.2.2.2.2)).bind fun x670 =>
some (.inr (x670.1,x670.2)))
 else (Option.bind (α:=(Int×((List UInt8)→Option T_files_file)) ⊕ (T_api_Answer×((List UInt8)→Option T_files_file))) (if o.1=5 then ((sRead s (o.1,o.2.1,o.2.2.1,o.2.2.2.1,o.2.2.2.2.1,o.2.2.2.2.2)).bind fun x716 =>
some (.inr (x716,s)))
 else (Option.bind (α:=(Int×((List UInt8)→Option T_files_file)) ⊕ (T_api_Answer×((List UInt8)→Option T_files_file))) (if o.1=6 then ((sRename s (o.1,o.2.1,o.2.2.1,o.2.2.2.1,o.2.2.2.2.1,o.2.2.2.2.2)).bind fun x739 =>
some (.inl (x739.1,x739.2)))
 else (Option.bind (α:=(Int×((List UInt8)→Option T_files_file)) ⊕ (T_api_Answer×((List UInt8)→Option T_files_file))) (if o.1=7 then ((sRemove s o.2.1).bind fun x750 =>
some (.inl (x750.1,x750.2)))
 else (if o.1=8 then ((sList s (o.1,o.2.1,o.2.2.1,o.2.2.2.1,o.2.2.2.2.1,o.2.2.2.2.2)).bind fun x752 =>
some (.inr (x752,s)))
 else (if o.1=9 then ((sStat s o.2.1).bind fun x755 =>
some (.inr (x755,s)))
 else (some (.inl (1,s)))))) fun o748=>Sum.elim (fun r748=>some (.inl (r748.1,r748.2))) (fun rv=>some (.inr rv)) o748)) fun o737=>Sum.elim (fun r737=>some (.inl (r737.1,r737.2))) (fun rv=>some (.inr rv)) o737)) fun o714=>Sum.elim (fun r714=>some (.inl (r714.1,r714.2))) (fun rv=>some (.inr rv)) o714)) fun o668=>Sum.elim (fun r668=>some (.inl (r668.1,r668.2))) (fun rv=>some (.inr rv)) o668)) fun o571=>Sum.elim (fun r571=>some (.inl (r571.1,r571.2))) (fun rv=>some (.inr rv)) o571) fun o382=>Sum.elim (fun r382=>some ((r382.1,0,([]:List UInt8),([]:List (List UInt8))),r382.2)) (fun rv=>some rv) o382
noncomputable def fRead (list:List T_api_Pair):Option ((List UInt8)→Option T_files_file) :=
Option.bind (α:=(((List UInt8)→Option (List UInt8))×((List UInt8)→Option T_files_file))) (loopO (fun (s877:((List UInt8)→Option (List UInt8))×((List UInt8)→Option T_files_file)×Int)=>if s877.2.2<((list).length:Int) then (Option.bind (α:=(((List UInt8)→Option (List UInt8))×((List UInt8)→Option T_files_file))) ((idxO list s877.2.2).bind fun x966 =>
Option.bind (α:=((List UInt8)×(List UInt8))) (if 0<((x966.1).length:Int) then ((slcO x966.1 0 1).bind fun x982 =>
(slcO x966.1 1 ((x966.1).length:Int)).bind fun x984 =>
some (x982,x984))
 else (some ([],[]))) fun r979=>Option.bind (α:=(((List UInt8)→Option (List UInt8))×((List UInt8)→Option T_files_file))) (Option.bind (α:=(((List UInt8)→Option (List UInt8))×((List UInt8)→Option T_files_file))) (if r979.1=([99]) then ((m_strings_Cut r979.2 ([0])).bind fun x1037 =>
(appO ((s877.1 x1037.1).getD []) x966.2).bind fun x1040 =>
some (fset x1037.1 x1040 s877.1,s877.2.1))
 else (Option.bind (α:=(((List UInt8)→Option T_files_file))) (if r979.1=([110]) then (if ((x966.2).length:Int)=1 then ((idxO x966.2 0).bind fun x1049 =>
some (fset r979.2 (decide (((x1049).toNat:Int)=100),([]:List UInt8)) s877.2.1))
 else (some (fset r979.2 (false,([]:List UInt8)) s877.2.1)))
 else (some s877.2.1)) fun r1046=>some (s877.1,r1046))) fun r1035=>some (r1035.1,r1035.2)) fun r1018=>some (r1018.1,r1018.2)) fun r965=>some (.inl (r965.1,r965.2,IntKind.i64.wrap (s877.2.2+1))))
 else (some (.inr (s877.1,s877.2.1)))) ((fnil:(List UInt8)→Option (List UInt8)),(fnil:(List UInt8)→Option T_files_file),0)) fun r528=>detM r528.2 (fun l1109=>(foldO (fun (s1109:((List UInt8)→Option T_files_file)) (x1109:(List UInt8)×T_files_file)=>Option.bind (α:=(((List UInt8)→Option T_files_file))) (Option.bind (α:=(((List UInt8)→Option T_files_file))) (if (!x1109.2.1)=true then (some (fset x1109.1 (false,((r528.1 x1109.1).getD [])) s1109))
 else (some s1109)) fun r1133=>some r1133) fun r1124=>some (.inl r1124)) r528.2 l1109).bind (Sum.elim (fun (s1109:((List UInt8)→Option T_files_file))=>some s1109) some))
noncomputable def sPairs (s:(List UInt8)→Option T_files_file):Option (List T_api_Pair) :=
detM s (fun l733=>(foldO (fun (s733:(List T_api_Pair)) (x733:(List UInt8)×T_files_file)=>Option.bind (α:=((List T_api_Pair))) ((appO ([110]) x733.1).bind fun x923 =>
if x733.2.1=true then ((u8O 100).bind fun x929 =>
(appO s733 ([(x923,[x929])])).bind fun x932 =>
some x932)
 else ((u8O 102).bind fun x935 =>
(penRaw ([]:List UInt8) ([x935])).bind fun x936 =>
(penUint x936 (IntKind.u64.wrap (((x733.2.2).length:Int))) 2).bind fun x937 =>
(penData x937.2).bind fun x938 =>
(appO s733 ([(x923,x938.1)])).bind fun x942 =>
(chunkN 64 (x733.2.2).length).bind fun x945 =>
Option.bind (α:=(Int×(List T_api_Pair)) ⊕ Empty) (foldO (fun (s1047:Int×(List T_api_Pair)) (x1047:List UInt8)=>Option.bind (α:=((List T_api_Pair))) ((appO ([99]) x733.1).bind fun x1074 =>
(u8O 0).bind fun x1077 =>
(u8O (IntKind.u8.wrap (s1047.1))).bind fun x1078 =>
(appO x1074 ([x1077,x1078])).bind fun x1080 =>
(cloneB x1047).bind fun x1081 =>
(appO s1047.2 ([(x1080,x1081)])).bind fun x1085 =>
some x1085) fun r1072=>some (.inl (IntKind.i64.wrap (s1047.1+1),r1072))) (0,x942) (chunkL x945 x733.2.2)) fun o1047=>Sum.elim (fun s1047=>some s1047.2) (fun r1047=>none) o1047)) fun r917=>some (.inl r917)) ([]:List T_api_Pair) l733).bind (Sum.elim (fun (s733:(List T_api_Pair))=>(sortPs s733).bind fun x737 =>
some x737) some))
noncomputable def mClone (s:(List UInt8)→Option T_files_file):Option ((List UInt8)→Option T_files_file):=some s
noncomputable def fDo (files:List T_api_Pair) (o:T_api_Op):Option ((List T_api_Pair)×T_api_Answer) :=
(fRead files).bind fun x7 =>
(mClone x7).bind fun x9 =>
(sDo x7 o).bind fun x11 =>
if x11.1.1=0 then ((sPairs x11.2).bind fun x21 =>
some (x21,(x11.1.1,x11.1.2.1,x11.1.2.2.1,x11.1.2.2.2)))
 else ((sPairs x9).bind fun x19 =>
some (x19,(x11.1.1,x11.1.2.1,x11.1.2.2.1,x11.1.2.2.2)))
noncomputable def fNew :Option (List T_api_Pair) :=
(sPairs (fset ([47]) (true,([]:List UInt8)) (fnil:(List UInt8)→Option T_files_file))).bind fun x3 =>
some x3
noncomputable def cloneBy (s:List UInt8):Option (List UInt8) :=
(appO ([]:List UInt8) s).bind fun x5 =>
some x5
noncomputable def strCmp0 (a:List UInt8) (b:List UInt8):Option Int:=some (Lib.compareBytes a b)
noncomputable def strCmp (a:List UInt8) (b:List UInt8):Option Int :=
(strCmp0 a b).bind fun x1 =>
some x1
noncomputable def nCompare (a_:T_api_Snap) (b_:T_api_Snap):Option Int :=
(strCmp a_.1 b_.1).bind fun x9 =>
some x9
noncomputable def nPairs (list:List T_api_Pair):Option (List T_api_Pair) :=
Option.bind (α:=((List T_api_Pair))) (loopO (fun (s91:(List T_api_Pair)×Int)=>if s91.2<((list).length:Int) then ((idxO list s91.2).bind fun x94 =>
(cloneBy x94.1).bind fun x102 =>
(cloneBy x94.2).bind fun x104 =>
(appO s91.1 ([(x102,x104)])).bind fun x108 =>
some (.inl (x108,IntKind.i64.wrap (s91.2+1))))
 else (some (.inr s91.1))) ([],0)) fun r55=>some r55
noncomputable def nCopied (s:T_api_State):Option T_api_State :=
(nPairs s.1).bind fun x10 =>
Option.bind (α:=(T_api_State_o)) (loopO (fun (s95:T_api_State_o×Int)=>if s95.2<((s.2).length:Int) then ((idxO s.2 s95.2).bind fun x97 =>
(nPairs x97.2.2).bind fun x103 =>
(appO s95.1.2 ([(x97.1,x97.2.1,x103)])).bind fun x111 =>
some (.inl ((s95.1.1,x111),IntKind.i64.wrap (s95.2+1))))
 else (some (.inr s95.1))) ((x10,([]:List T_api_Snap)),0)) fun r62=>some (r62.1,r62.2)
noncomputable def nNew :Option T_api_State :=
(fNew).bind fun x3 =>
some (x3,([]:List T_api_Snap))
noncomputable def nUnits (s:T_api_State):Option Int :=
Option.bind (α:=(Int)) (loopO (fun (s44:Int×Int)=>if s44.2<((s.2).length:Int) then ((idxO s.2 s44.2).bind fun x46 =>
some (.inl (IntKind.i64.wrap (s44.1+(IntKind.i64.wrap (1+((x46.2.2).length:Int)))),IntKind.i64.wrap (s44.2+1))))
 else (some (.inr s44.1))) (((s.1).length:Int),0)) fun r29=>some r29
noncomputable def nList (s:T_api_State) (behind:List UInt8):Option T_api_Answer :=
Option.bind (α:=((List (List UInt8)))) (loopO (fun (s203:(List (List UInt8))×Int)=>if s203.2<((s.2).length:Int) then (Option.bind (α:=((List (List UInt8)))) ((idxO s.2 s203.2).bind fun x225 =>
if (gtrB x225.1 behind)=true then (Option.bind (α:=((List (List UInt8)))) (if ((s203.1).length:Int)<6 then ((appO s203.1 ([x225.1])).bind fun x241 =>
some x241)
 else (some s203.1)) fun r236=>some r236)
 else (some s203.1)) fun r223=>some (.inl (r223,IntKind.i64.wrap (s203.2+1))))
 else (some (.inr s203.1))) (([]:List (List UInt8)),0)) fun r125=>some (0,((s.2).length:Int),([]:List UInt8),r125)
noncomputable def bsSnap (xs:List T_api_Snap) (t_:T_api_Snap):Option (Int×Bool) :=
Option.bind (α:=(Int)) (loopO (fun (s86:Int×Int)=>if s86.1<s86.2 then (Option.bind (α:=(Int×Int)) ((idxO xs (IntKind.i64.wrap (shrI .u64 (IntKind.u64.wrap (IntKind.i64.wrap (s86.1+s86.2))) 1))).bind fun x96 =>
(nCompare x96 t_).bind fun x99 =>
Option.bind (α:=(Int×Int)) (if x99<0 then (some (IntKind.i64.wrap ((IntKind.i64.wrap (shrI .u64 (IntKind.u64.wrap (IntKind.i64.wrap (s86.1+s86.2))) 1))+1),s86.2))
 else (some (s86.1,IntKind.i64.wrap (shrI .u64 (IntKind.u64.wrap (IntKind.i64.wrap (s86.1+s86.2))) 1)))) fun r101=>some (r101.1,r101.2)) fun r95=>some (.inl (r95.1,r95.2)))
 else (some (.inr s86.1))) (0,((xs).length:Int))) fun r53=>if r53<((xs).length:Int) then ((idxO xs r53).bind fun x104 =>
(nCompare x104 t_).bind fun x107 =>
some (r53,decide (x107=0)))
 else (some (r53,false))
noncomputable def insSnap (s:List T_api_Snap) (i_:Int) (v:List T_api_Snap):Option (List T_api_Snap):=insO s i_ v
noncomputable def delSnap (s:List T_api_Snap) (i_:Int) (j_:Int):Option (List T_api_Snap):=cutO s i_ j_
noncomputable def nSnap (s:T_api_State_o) (o:T_api_Op) (gen:Int):Option (Int×T_api_State_o) :=
(m_path_Name o.2.1).bind fun x5 =>
if (!x5)=true then (some (90,s))
 else ((bsSnap s.2 (o.2.1,0,([]:List T_api_Pair))).bind fun x11 =>
Option.bind (α:=(T_api_State_o) ⊕ (Int×T_api_State_o)) (if o.1=10 then (Option.bind (α:=(T_api_State_o) ⊕ (Int×T_api_State_o)) (if x11.2=true then (some (.inr (92,s)))
 else (Option.bind (α:=(T_api_State_o) ⊕ (Int×T_api_State_o)) (if o.1=10 then ((nPairs s.1).bind fun x814 =>
(insSnap s.2 x11.1 ([(o.2.1,gen,x814)])).bind fun x817 =>
some (.inl (s.1,x817)))
 else (Option.bind (α:=(T_api_State_o) ⊕ (Int×T_api_State_o)) (if (!x11.2)=true then (some (.inr (91,s)))
 else (Option.bind (α:=(T_api_State_o)) (if o.1=11 then ((delSnap s.2 x11.1 (IntKind.i64.wrap (x11.1+1))).bind fun x883 =>
some (s.1,x883))
 else ((idxO s.2 x11.1).bind fun x889 =>
(nPairs x889.2.2).bind fun x894 =>
some (x894,s.2))) fun r877=>some (.inl r877))) fun o857=>Sum.elim (fun r857=>some (.inl r857)) (fun rv=>some (.inr rv)) o857)) fun o808=>Sum.elim (fun r808=>some (.inl r808)) (fun rv=>some (.inr rv)) o808)) fun o719=>Sum.elim (fun r719=>some (.inl r719)) (fun rv=>some (.inr rv)) o719)
 else (Option.bind (α:=(T_api_State_o) ⊕ (Int×T_api_State_o)) (if o.1=10 then ((nPairs s.1).bind fun x989 =>
(insSnap s.2 x11.1 ([(o.2.1,gen,x989)])).bind fun x992 =>
some (.inl (s.1,x992)))
 else (Option.bind (α:=(T_api_State_o) ⊕ (Int×T_api_State_o)) (if (!x11.2)=true then (some (.inr (91,s)))
 else (Option.bind (α:=(T_api_State_o)) (if o.1=11 then ((delSnap s.2 x11.1 (IntKind.i64.wrap (x11.1+1))).bind fun x1058 =>
some (s.1,x1058))
 else ((idxO s.2 x11.1).bind fun x1064 =>
(nPairs x1064.2.2).bind fun x1069 =>
some (x1069,s.2))) fun r1052=>some (.inl r1052))) fun o1032=>Sum.elim (fun r1032=>some (.inl r1032)) (fun rv=>some (.inr rv)) o1032)) fun o983=>Sum.elim (fun r983=>some (.inl r983)) (fun rv=>some (.inr rv)) o983)) fun o541=>Sum.elim (fun r541=>some (0,r541)) (fun rv=>some rv) o541)
noncomputable def nDo (s:T_api_State) (o:T_api_Op) (gen:Int):Option (T_api_State×T_api_Answer) :=
(nCopied s).bind fun x9 =>
Option.bind (α:=(T_api_State_o×T_api_Answer×T_api_State)) (Option.bind (α:=(Bool)) (if o.1=10 then (some (decide (o.1=10)))
 else (Option.bind (α:=(Bool)) (if o.1=11 then (some (decide (o.1=11)))
 else (some (decide (o.1=12)))) fun r104=>some r104)) fun r101=>Option.bind (α:=(T_api_State_o×T_api_Answer×T_api_State)) (if r101=true then ((nSnap (x9.1,x9.2) (o.1,o.2.1,o.2.2.1,o.2.2.2.1,o.2.2.2.2.1,o.2.2.2.2.2) gen).bind fun x143 =>
some (x143.2,(x143.1,0,([]:List UInt8),([]:List (List UInt8))),s))
 else (Option.bind (α:=(T_api_State_o×T_api_Answer×T_api_State)) (if o.1=13 then ((nList s o.2.2.1).bind fun x162 =>
some ((x9.1,x9.2),x162,s))
 else ((fDo s.1 (o.1,o.2.1,o.2.2.1,o.2.2.2.1,o.2.2.2.2.1,o.2.2.2.2.2)).bind fun x168 =>
some ((x168.1,(x9.1,x9.2).2),x168.2,(s.1,s.2)))) fun r158=>some (r158.1,r158.2.1,r158.2.2))) fun r139=>some (r139.1,r139.2.1,r139.2.2)) fun r94=>if r94.2.1.1=0 then ((nUnits (r94.1.1,r94.1.2)).bind fun x184 =>
Option.bind (α:=((Int×Int×(List UInt8)×(List (List UInt8))))) (if 48<x184 then (some (98,0,([]:List UInt8),([]:List (List UInt8))))
 else (some (r94.2.1.1,r94.2.1.2.1,r94.2.1.2.2.1,r94.2.1.2.2.2))) fun r186=>if r186.1=0 then (some ((r94.1.1,r94.1.2),(r186.1,r186.2.1,r186.2.2.1,r186.2.2.2)))
 else ((nCopied r94.2.2).bind fun x191 =>
some ((x191.1,x191.2),(r186.1,r186.2.1,r186.2.2.1,r186.2.2.2))))
 else (if r94.2.1.1=0 then (some ((r94.1.1,r94.1.2),(r94.2.1.1,r94.2.1.2.1,r94.2.1.2.2.1,r94.2.1.2.2.2)))
 else ((nCopied r94.2.2).bind fun x203 =>
some ((x203.1,x203.2),(r94.2.1.1,r94.2.1.2.1,r94.2.1.2.2.1,r94.2.1.2.2.2))))
noncomputable def rCopyPairs (list:List T_api_Pair):Option (List T_api_Pair) :=
Option.bind (α:=((List T_api_Pair))) (loopO (fun (s417:(List T_api_Pair)×Int)=>if s417.2<((list).length:Int) then (Option.bind (α:=((List T_api_Pair))) ((idxO list s417.2).bind fun x461 =>
(idxO list s417.2).bind fun x468 =>
(appO ([]:List UInt8) x461.1).bind fun x476 =>
(appO ([]:List UInt8) x468.2).bind fun x479 =>
(appO s417.1 ([(x476,x479)])).bind fun x482 =>
some x482) fun r459=>some (.inl (r459,IntKind.i64.wrap (s417.2+1))))
 else (some (.inr s417.1))) (([]:List T_api_Pair),0)) fun r251=>some r251
noncomputable def rSamePairs (a_:List T_api_Pair) (b_:List T_api_Pair):Option Bool :=
if ((a_).length:Int)=((b_).length:Int) then (Option.bind (α:=(Unit) ⊕ Bool) (loopO (fun (s151:Int)=>if s151<((a_).length:Int) then ((idxO a_ s151).bind fun x153 =>
(idxO b_ s151).bind fun x160 =>
if x153.1=x160.1 then ((idxO a_ s151).bind fun x168 =>
(idxO b_ s151).bind fun x174 =>
if x168.2=x174.2 then (some (.inl (IntKind.i64.wrap (s151+1))))
 else (some (.inr (.inr false))))
 else (some (.inr (.inr false))))
 else (some (.inr (.inl ())))) 0) fun o92=>Sum.elim (fun r92=>some true) (fun rv=>some rv) o92)
 else (some false)
noncomputable def lSpeaks :Option Bool :=
(nNew).bind fun x1 =>
(nDo x1 (10,[115],[],0,0,([]:List UInt8)) 1).bind fun x3 =>
(nDo x3.1 (1,[47,97],[],0,0,([]:List UInt8)) 2).bind fun x8 =>
(nDo x8.1 (12,[115],[],0,0,([]:List UInt8)) 3).bind fun x12 =>
(nDo x12.1 (9,[47,97],[],0,0,([]:List UInt8)) 4).bind fun x16 =>
if (IntKind.i64.wrap ((IntKind.i64.wrap (x3.2.1+x8.2.1))+x12.2.1))=0 then (if x16.2.1=91 then ((nNew).bind fun x39 =>
(nUnits x39).bind fun x41 =>
some (decide (x41=1)))
 else (some false))
 else (some false)
noncomputable def lStay (before:List T_api_Op) (behind:List T_api_Op) (name:List UInt8):Option Bool :=
(lSpeaks).bind fun x3 =>
if (!x3)=true then (some false)
 else (if 20<((before).length:Int) then (some true)
 else (if 20<((behind).length:Int) then (some true)
 else ((nNew).bind fun x7 =>
Option.bind (α:=(T_api_State)) (loopO (fun (s58:T_api_State×Int)=>if s58.2<((before).length:Int) then ((idxO before s58.2).bind fun x61 =>
(nDo s58.1 x61 1).bind fun x65 =>
some (.inl (x65.1,IntKind.i64.wrap (s58.2+1))))
 else (some (.inr s58.1))) (x7,0)) fun r38=>(rCopyPairs r38.1).bind fun x72 =>
(nDo (r38.1,r38.2) (10,name,[],0,0,([]:List UInt8)) 7).bind fun x74 =>
if x74.2.1=0 then (Option.bind (α:=(T_api_State)) (loopO (fun (s248:T_api_State×Int)=>if s248.2<((behind).length:Int) then (Option.bind (α:=(T_api_State)) ((idxO behind s248.2).bind fun x267 =>
if x267.1=11 then (if x267.2.1=name then (some s248.1)
 else ((nDo s248.1 (x267.1,x267.2.1,x267.2.2.1,x267.2.2.2.1,x267.2.2.2.2.1,x267.2.2.2.2.2) 9).bind fun x275 =>
some x275.1))
 else ((nDo s248.1 (x267.1,x267.2.1,x267.2.2.1,x267.2.2.2.1,x267.2.2.2.2.1,x267.2.2.2.2.2) 9).bind fun x278 =>
some x278.1)) fun r265=>some (.inl (r265,IntKind.i64.wrap (s248.2+1))))
 else (some (.inr s248.1))) (x74.1,0)) fun r182=>Option.bind (α:=((List T_api_Pair)×Bool)) (loopO (fun (s346:(List T_api_Pair)×Bool×Int)=>if s346.2.2<((r182.2).length:Int) then ((idxO r182.2 s346.2.2).bind fun x349 =>
if s346.2.1=true then (some (.inl (s346.1,true,IntKind.i64.wrap (s346.2.2+1))))
 else (if x349.1=name then (if x349.2.1=7 then ((rSamePairs x349.2.2 s346.1).bind fun x358 =>
some (.inl (s346.1,x358,IntKind.i64.wrap (s346.2.2+1))))
 else (some (.inl (s346.1,false,IntKind.i64.wrap (s346.2.2+1)))))
 else (some (.inl (s346.1,false,IntKind.i64.wrap (s346.2.2+1))))))
 else (some (.inr (s346.1,s346.2.1)))) (x72,false,0)) fun r321=>(nDo (r182.1,r182.2) (12,name,[],0,0,([]:List UInt8)) 10).bind fun x359 =>
if r321.2=true then (if x359.2.1=0 then ((rSamePairs x359.1.1 r321.1).bind fun x373 =>
if x373=true then (some true)
 else (some (decide (x359.2.1=98))))
 else (some (decide (x359.2.1=98))))
 else (some false))
 else (if x74.2.1=90 then (some true)
 else (if x74.2.1=92 then (some true)
 else (some (decide (x74.2.1=98))))))))
end Go.Proofs.YtnagibpmfabkjaaGreatDoor
namespace Go.Proofs.YtnagibpmfabkjaaGreatDoor
open Go.RowKit Go.Tri Go.ChangeShapes Go.WideShapes Go.ChangeAt Go.Deep
section
variable {H:Type}
theorem bulk_pos (d:DataW H):1≤Rows.uptoBulk d:=by
 cases d with
 | lit l=>cases l<;>simp [Rows.uptoBulk]
 | nil=>simp [Rows.uptoBulk]
 | ptr d=>simp [Rows.uptoBulk]
 | slice a b=>simp [Rows.uptoBulk]
 | agg a=>simp [Rows.uptoBulk]
 | iface t d=>simp [Rows.uptoBulk]
 | map a=>simp [Rows.uptoBulk]
 | held h=>simp [Rows.uptoBulk]
theorem bulk_len:∀ l:List (DataW H),l.length≤Rows.uptoBulkAll l
 | []=>by simp [Rows.uptoBulkAll]
 | d::l=>by
  have h1:=bulk_pos d
  have h2:=bulk_len l
  simp only [Rows.uptoBulkAll,List.length_cons];omega
theorem bulk_mem {d:DataW H}:∀ {l:List (DataW H)},d∈l→Rows.uptoBulk d≤Rows.uptoBulkAll l
 | x::l,h=>by
  simp only [Rows.uptoBulkAll]
  rcases List.mem_cons.1 h with rfl | h
  ·omega
  ·have:=bulk_mem h;omega
end
section
variable {α β H:Type} (enc:TypeId×Value→H) (P:Program) (w:World) (base:Nat) (spare:Nat→Bool) (held:Bool)
def OpnU (bd:Nat) (R:Rp α) (e:TypeId) (p:α→Prop):Prop:=∀ (fuel:Nat) (cs:List Value) (x:DataW H×List MemPlace),DataW.trod enc P w base spare held fuel e cs=some x→Rows.uptoBulk x.1≤bd→∃ y,R.rd (baseOf w) cs y∧p y
end
section
variable {α β H:Type} {bd:Nat} {enc:TypeId×Value→H} {P:Program} {w:World} {base:Nat} {spare:Nat→Bool} {held:Bool} {R:Rp α} {Q:Rp β} {e t:TypeId} {p:α→Prop} {q:β→Prop}
theorem opnU_any (h:Opn enc P w base spare held R e):OpnU enc P w base spare held bd R e (fun _=>True):=fun fuel cs x hx _=>by
 obtain ⟨y,hy⟩:=h fuel cs x hx
 exact ⟨y,hy,trivial⟩
theorem opnU_slice (hO:OpnU enc P w base spare held bd R e p) (ht:P.underlying t=some (.slice e)) (hC:P.cellsOf e=R.n) (hs:0<R.n) {fuel:Nat} {cs:List Value} {x:DataW H×List MemPlace} (h:DataW.trod enc P w base spare held fuel t cs=some x) (hw:Rows.uptoBulk x.1≤bd) :
  ∃ a xs cap,cs=[.slice a xs.length cap]∧(∀ (w':World) (S:Nat→Prop),(HP.sl R a cap xs).pr (baseOf w) w' S)∧(∀ x∈xs,p x)∧xs.length≤bd:=by
 rcases DataW.trod_slice ht h with ⟨rfl,rfl⟩ | ⟨a,len,cap,elems,rest,n,_,rfl,rfl,hb,hl,hm,hlen,hel,_,_⟩
 ·exact ⟨none,[],0,rfl,fun _ _=>⟨[],trivial,fun w' hw=>.inl ⟨rfl,rfl,rfl⟩⟩,(fun x hx=>absurd hx (by simp)),by simp⟩
 ·simp only [Rows.uptoBulk] at hw
  have hsz:elems.length≤bd:=by
   have:=bulk_len (elems.map (·.1))
   simp only [List.length_map] at this;omega
  have hwe:∀ y∈elems,Rows.uptoBulk y.1≤bd:=fun y hy=>by
   have:=bulk_mem (List.mem_map_of_mem (f:=(·.1)) hy)
   omega
  obtain ⟨css,hcl,hp⟩:=exists_list (p:=fun i (c:List Value)=>c.length=R.n∧(∃ y,R.rd (baseOf w) c y∧p y)∧∀ j u,c[j]?=some u→w.cell? ((a.add (i * R.n)).add j)=some u) len (fun i hin=>by
   have hi:=hel i hin
   rw [List.getElem?_eq_getElem (by omega:i<elems.length)] at hi
   obtain ⟨cs',hc,ht'⟩:=Option.bind_eq_some_iff.1 hi
   obtain ⟨y,hy,hpy⟩:=hO _ _ _ ht' (hwe _ (List.getElem_mem _))
   obtain ⟨_,hcl,hat⟩:=World.cells?_some hc
   have hln:=R.len hy
   refine ⟨cs',hln,⟨y,hy,hpy⟩,fun j u hj=>?_⟩
   rw [← hC,hat j (by rw [hC,← hln];exact (List.getElem?_eq_some_iff.1 hj).1)];exact hj)
  obtain ⟨xs,hxl,hx⟩:=exists_list (p:=fun i (y:α)=>p y∧∃ c,css[i]?=some c∧R.rd (baseOf w) c y) len (fun i hin=>by
   obtain ⟨c,hc⟩:∃ c,css[i]?=some c:=⟨_,List.getElem?_eq_getElem (by omega)⟩
   obtain ⟨_,⟨y,hy,hpy⟩,_⟩:=hp i c hc
   exact ⟨y,hpy,c,hc,hy⟩)
  have hrdl:RdL R (baseOf w) css xs:=rdl_of (by omega) fun i c y hc hy=>by
   obtain ⟨_,c',h1,h2⟩:=hx i y hy
   rw [hc] at h1
   injection h1 with h1
   rw [h1];exact h2
  have hsl:Sl w (.slice (some a) len cap) len css.flatten:=by
   by_cases h0:len=0
   ·obtain rfl:css=[]:=List.length_eq_zero_iff.1 (by omega)
    subst h0
    exact .inr (.inl ⟨a,cap,rfl,rfl,rfl⟩)
   ·obtain ⟨c0,hc0⟩:∃ c,css[0]?=some c:=⟨_,List.getElem?_eq_getElem (by omega)⟩
    obtain ⟨hl0,_,hq0⟩:=hp 0 c0 hc0
    obtain ⟨u0,hu0⟩:∃ u,c0[0]?=some u:=⟨_,List.getElem?_eq_getElem (by omega)⟩
    have hcell:=hq0 0 u0 hu0
    rw [Nat.zero_mul] at hcell
    obtain ⟨b,off,spot⟩:=a
    have hspot:spot=none:=by simpa [Addr.add] using World.cell?_spot hcell
    subst hspot
    refine .inr (.inr ⟨b,off,cap,rfl,by omega,?_⟩)
    have:=row_flat (w:=w) (fun c:List Value=>c) (ok:=fun c=>c.length=R.n) (fun c hc=>hc) css off (b:=b) (fun c hc=>by
     obtain ⟨i,hi,rfl⟩:=List.getElem_of_mem hc
     exact (hp i _ (List.getElem?_eq_getElem hi)).1) fun i c hc=>by
     intro j u hj
     have:=(hp i c hc).2.2 j u hj
     rw [add_none,add_none] at this;exact this
    rw [List.flatMap_id'] at this
    exact this
  subst hxl
  refine ⟨some a,xs,cap,rfl,fun _ _=>⟨css,hrdl,fun w' hw'=>sub_sl hw' hsl⟩,fun y hy=>?_,by omega⟩
  obtain ⟨i,hi,rfl⟩:=List.getElem_of_mem hy
  exact (hx i _ (List.getElem?_eq_getElem hi)).1
where
 rdl_of {α:Type} {R:Rp α} {B:Base}:∀ {css:List (List Value)} {xs:List α},css.length=xs.length→(∀ i c y,css[i]?=some c→xs[i]?=some y→R.rd B c y)→RdL R B css xs
  | [],[],_,_=>trivial
  | c::css,x::xs,hl,h=>⟨h 0 c x rfl rfl,rdl_of (by simpa using hl) fun i c' y h1 h2=>h (i+1) c' y (by simpa using h1) (by simpa using h2)⟩
theorem opnU_rSl (hO:OpnU enc P w base spare held bd R e p) (ht:P.underlying t=some (.slice e)) (hC:P.cellsOf e=R.n) (hs:0<R.n):OpnU enc P w base spare held bd (rSl R) t (fun xs=>(∀ x∈xs,p x)∧xs.length≤bd):=fun fuel cs x h hw=>by
 obtain ⟨a,xs,cap,e1,e2,e3,e4⟩:=opnU_slice hO ht hC hs h hw
 exact ⟨xs,⟨a,cap,e1,e2 _ _⟩,e3,e4⟩
def OpnUs (enc:TypeId×Value→H) (P:Program) (w:World) (base:Nat) (spare:Nat→Bool) (held:Bool) (bd:Nat) (R:Rp α) (off:Nat) (fs:List Field) (p:α→Prop):Prop :=
 ∀ (n:Nat) (cs:List Value) (xs:List (DataW H×List MemPlace)),xs.length=fs.length→(∀ (i:Nat) (f:Field),fs[i]?=some f→DataW.trod enc P w base spare held n f.type ((cs.drop f.offset).take (P.cellsOf f.type))=xs[i]?) →
  Rows.uptoBulkAll (xs.map (·.1))≤bd→∃ y,R.rd (baseOf w) ((cs.drop off).take R.n) y∧p y
theorem opnUs_one {f:Field} {off:Nat} (hO:OpnU enc P w base spare held bd R f.type p) (ho:f.offset=off) (hC:P.cellsOf f.type=R.n):OpnUs enc P w base spare held bd R off [f] p:=fun n cs xs hl hx hw=>by
 match xs,hl with
 | [x],_ =>
  have h:=hx 0 f rfl
  rw [ho,hC] at h
  refine hO _ _ _ h ?_
  simpa [Rows.uptoBulkAll] using hw
theorem opnUs_cons {f:Field} {fs:List Field} {off:Nat} (hO:OpnU enc P w base spare held bd R f.type p) (ho:f.offset=off) (hC:P.cellsOf f.type=R.n) (hF:OpnUs enc P w base spare held bd Q (off+R.n) fs q):OpnUs enc P w base spare held bd (rPair R Q) off (f::fs) (fun y=>p y.1∧q y.2):=fun n cs xs hl hx hw=>by
 match xs,hl with
 | x::xs,hl =>
  have h:=hx 0 f rfl
  rw [ho,hC] at h
  simp only [List.map_cons,Rows.uptoBulkAll] at hw
  obtain ⟨y,hy,hpy⟩:=hO _ _ _ h (by omega)
  obtain ⟨z,hz,hqz⟩:=hF n cs xs (by simpa using hl) (fun i g hg=>by simpa using hx (i+1) g (by simpa using hg)) (by omega)
  refine ⟨(y,z),⟨_,_,?_,hy,hz⟩,hpy,hqz⟩
  show (cs.drop off).take (R.n+Q.n)=_
  rw [List.take_add,List.drop_drop]
theorem opnU_struct {fs:List Field} (ht:P.underlying t=some (.struct fs.toArray)) (hF:OpnUs enc P w base spare held bd R 0 fs p) (hC:P.cellsOf t=R.n):OpnU enc P w base spare held bd R t p:=fun fuel cs x h hw=>by
 obtain ⟨xs,n,_,rfl,hl,hxl,hx⟩:=DataW.trod_struct ht h
 simp only [Rows.uptoBulk] at hw
 obtain ⟨y,hy,hp⟩:=hF n cs xs (by simpa using hxl) (fun i f hf=>hx i f (by simpa using hf)) (by omega)
 rw [List.drop_zero,List.take_of_length_le (by omega)] at hy
 exact ⟨y,hy,hp⟩
end
section
variable {H:Type} {bd:Nat} {enc:TypeId×Value→H} {P:Program} {w:World} {base:Nat} {spare:Nat→Bool} {held:Bool} {t:TypeId}
theorem opnU_str (ht:P.underlying t=some .string):OpnU enc P w base spare held bd rStr t (fun l=>l.length≤bd):=fun fuel cs x h hw=>by
 obtain ⟨s,h1,h2,h3⟩:=DataW.trod_string ht h
 refine ⟨s.data.toList,h1,?_⟩
 subst h2
 simp only [Rows.uptoBulk] at hw
 omega
end
theorem up_bulk {H:Type} {ds:List (DataW H)} (hk:Rows.uptoSmall H ds=true) {d:DataW H} (hd:d∈ds):Rows.uptoBulk d≤1048576 :=
 Nat.le_trans (bulk_mem hd) (of_decide_eq_true hk)
end Go.Proofs.YtnagibpmfabkjaaGreatDoor
namespace Go.Proofs.YtnagibpmfabkjaaGreatDoor
open Go.RowKit Go.Tri
set_option maxRecDepth 100000
set_option maxHeartbeats 4000000
theorem w_cutPre {s:List UInt8} {p:List UInt8}  {w0 w:World} {l:List HP}  {r:(List UInt8)×Bool} (hm:cutPre s p=some r) (H:St w0 w (l)) :
  Calls Tryz.prog 167 [.string (txb (s)),.string (txb (p))].toArray w (fun e w'=>∃ v,e=.returned v∧v=.tuple [.string (txb (r.1)),.bool (r.2)].toArray∧St w0 w' (l)):=by
 unfold cutPre at hm
 cases hm
 exact (Tryz.strings_CutPrefix (txb s) (txb p) w).mono fun e w' ⟨he,hw⟩=>⟨_,by rw [he,txb_list,txb_list];rfl,rfl,hw▸H⟩
theorem w_genSplit {s:List UInt8} {sep:List UInt8} {sv:Int} {n:Int}  {w0 w:World} {l:List HP}  {r:(List (List UInt8))} (hm:genSplit s sep sv n=some r) (H:St w0 w (l)) :
  Calls Tryz.prog 183 [.string (txb (s)),.string (txb (sep)),.int .i64 (sv),.int .i64 (n)].toArray w (fun e w'=>∃ v,e=.returned v∧∃ (p1:Option Addr) (c1:Nat),v=.slice p1 (r).length c1∧St w0 w' (HP.ow rStr 9 p1 c1 r::l)):=by
 unfold genSplit at hm
 obtain ⟨rfl,rfl,rfl,hl,rfl⟩:=splitO_some hm
 have hsz:(txb s).size<4294967281:=by rw [txb_size];omega
 have hC:Calls Tryz.prog 201 #[.string (txb s),.string ⟨#[47]⟩] w fun e w'=>e=.returned (.int .i64 (Lib.countB (txb s) ⟨#[47]⟩))∧w'=w:=by
   refine (Tryz.strings_Count_one (txb s) 47 w).mono fun e w' ⟨he,hw⟩=>⟨?_,hw⟩
   rw [he]
   show _=Ending.returned (Value.int .i64 ((Lib.count (txb s).data.toList [47]:Nat):Int))
   rw [Lib.count_one]
   rfl
 have hle:=Lib.countB_le (⟨#[47]⟩:ByteArray) (by decide) (txb s).size (txb s) (Nat.le_refl _)
 have c:=Any.strings_genSplit_core Tryz.lays221 (by kernel_rfl) (txb s) ⟨#[47]⟩ 0 (-1) (Lib.countB (txb s) ⟨#[47]⟩+1) w hsz (by decide) (by decide)
   (fun x c hx=>(Tryz.strings_Index_one x 47 _).mono fun e w' ⟨he,hw⟩=>⟨by
     rw [he]
     show _=Ending.returned (Value.int .i64 (Lib.index x.data.toList [47]))
     rw [Lib.index_one],hw⟩) hC (by decide) (by decide) (by rw [if_pos (by decide)];omega)
 have hlen:=Lib.splitB_all (⟨#[47]⟩:ByteArray) (by decide) 0 _ (txb s) rfl
 rw [Nat.add_sub_cancel,hlen] at c
 have hd:=Lib.splitB_data (⟨#[47]⟩:ByteArray) 0 (Lib.countB (txb s) ⟨#[47]⟩) (txb s)
 have e0:(⟨#[47]⟩:ByteArray).data.toList=[47]:=rfl
 rw [e0,txb_list] at hd
 have hcb:Lib.countB (txb s) ⟨#[47]⟩=Lib.count s [47]:=by
   show Lib.count (txb s).data.toList [47]=_
   rw [txb_list]
 rw [hcb] at hd hlen c
 rw [split_sp] at hd
 have hB:Lib.splitB ⟨#[47]⟩ 0 (Lib.count s [47]) (txb s)=(sp s).map txb:=by
   have:((sp s).map txb).map (·.data.toList)=sp s:=by
     rw [List.map_map]
     conv=>rhs;rw [← List.map_id (sp s)]
     exact List.map_congr_left fun x _=>txb_list x
   rw [← hd,List.map_map]
   conv=>lhs;rw [← List.map_id (Lib.splitB ⟨#[47]⟩ 0 (Lib.count s [47]) (txb s))]
   exact List.map_congr_left fun x _=>(txb_data x).symm
 have hn:(sp s).length=Lib.count s [47]+1:=by rw [← hlen,hB,List.length_map]
 have hx:Lib.cellsOf (Lib.splitB ⟨#[47]⟩ 0 (Lib.count s [47]) (txb s)) (Lib.count s [47]+1)=((sp s).map fun x=>Value.string (txb x)).toArray:=by
   rw [← hlen,Lib.cellsOf_full,hB,List.map_map];rfl
 rw [hx] at c
 rw [← hn] at c
 refine c.mono fun e w' ⟨he,hw⟩=>⟨_,he,_,_,rfl,?_⟩
 subst hw
 have hm2:(sp s).length≤maxLen:=by
   have h1:Lib.countB (txb s) ⟨#[47]⟩≤(txb s).size:=hle
   rw [hcb,txb_size] at h1
   unfold maxLen;omega
 exact H.newTexts 9 (sp s) hm2
theorem w_strJoin {xs:List (List UInt8)} {sep:List UInt8} {p1:Option Addr} {c1:Nat} {w0 w:World} {l:List HP}  {r:(List UInt8)} (hm:strJoin xs sep=some r) (H:St w0 w (HP.sl rStr p1 c1 xs::l)) :
  Calls Tryz.prog 170 [.slice p1 (xs).length c1,.string (txb (sep))].toArray w (fun e w'=>∃ v,e=.returned v∧v=.string (txb (r))∧St w0 w' (l)):=by
 unfold strJoin at hm
 obtain ⟨rfl,hx,hj,rfl⟩:=joinO_some hm
 have hsl:Sl w (.slice p1 (xs).length c1) (xs).length (xs.map fun l=>Value.string (txb l)):=by
   obtain ⟨B,S,hs,⟨css,h1,h2⟩,_⟩:=H.get 0 rfl
   have h3:=h2 w hs
   have h4:∀ (css:List (List Value)) (xs:List (List UInt8)),RdL rStr B css xs→css.flatten=xs.map fun l=>Value.string (txb l):=by
     intro css
     induction css with
     | nil=>intro xs h;cases xs with
       | nil=>rfl
       | cons x xs=>exact h.elim
     | cons c css ih=>intro xs h;cases xs with
       | nil=>exact h.elim
       | cons x xs =>
         obtain ⟨e1,e2⟩:=h
         have e1:c=[.string (txb x)]:=e1
         simp [e1,ih xs e2]
   rwa [h4 css xs h1] at h3
 have hcap:=H.slCap 0 rfl
 cases xs with
 | nil=>exact (Tryz.strings_Join_none p1 c1 ⟨#[47]⟩ w).mono fun e w' ⟨he,hw⟩=>⟨_,he,rfl,hw▸H.tail⟩
 | cons x r =>
   obtain ⟨b,off,rfl,hrow⟩:=hsl.rowAt (c:=c1) rfl (by simp)
   have hd:((x::r).map txb).map (·.data.toList)=x::r:=by
     rw [List.map_map]
     conv=>rhs;rw [← List.map_id (x::r)]
     exact List.map_congr_left fun y _=>txb_list y
   have hcells:∀ (j:Nat) y,((x::r).map txb)[j]?=some y→w.cell? ⟨b,off+j,none⟩=some (.string y):=by
     intro j y hy
     refine hrow j _ ?_
     rw [List.getElem?_map] at hy ⊢
     cases hz:(x::r)[j]? with
     | none=>rw [hz] at hy;cases hy
     | some z=>rw [hz] at hy;cases hy;rfl
   have h0:=hcells 0 (txb x) rfl
   have e0:(⟨#[47]⟩:ByteArray).data.toList=[47]:=rfl
   have c:=Tryz.strings_Join b off c1 ((x::r).map txb) ⟨#[47]⟩ w hcells (World.block_lt_of_cell? _ _ h0) (by simp at hx ⊢;omega) (by simpa using hcap) (by rw [hd,e0];unfold jn at hj;omega)
   rw [hd,e0,List.length_map] at c
   exact c.mono fun e w' ⟨he,hw⟩=>⟨_,he,rfl,(H.below hw).tail⟩
theorem w_slIndex {s:List UInt8} {p:List UInt8}  {w0 w:World} {l:List HP}  {r:Int} (hm:slIndex s p=some r) (H:St w0 w (l)) :
  Calls Tryz.prog 162 [.string (txb (s)),.string (txb (p))].toArray w (fun e w'=>∃ v,e=.returned v∧v=.int .i64 (r)∧St w0 w' (l)):=by
 unfold slIndex at hm
 obtain ⟨c,rfl,rfl⟩:=indexO_some hm
 exact (Tryz.stringslite_Index_one (txb s) c w).mono fun e w' ⟨he,hw⟩=>⟨_,by rw [he,txb_list],rfl,hw▸H⟩
theorem ent162:En Tryz.prog 162:=enters Tryz.func162 (by kernel_rfl) rfl
theorem w_m_internal_stringslite_Cut {x0_:List UInt8} {x1_:List UInt8}  {w0 w:World} {l:List HP}  {r:(List UInt8)×(List UInt8)×Bool} (hm:m_internal_stringslite_Cut x0_ x1_=some r) (H:St w0 w (l)) :
  Calls Tryz.prog 139 [.string (txb (x0_)),.string (txb (x1_))].toArray w (fun e w'=>∃ v,e=.returned v∧v=.tuple [.string (txb (r.1)),.string (txb (r.2.1)),.bool (r.2.2)].toArray∧St w0 w' (l)):=by
 unfold m_internal_stringslite_Cut at hm
 refine x_enter Tryz.func139 rfl rfl rfl ?_
 intro a F
 refine sb [0,0,0] F H rfl fun a F=>nl (sq (sb [0,0] F H rfl fun a F=>?_))
 obtain ⟨x1,ex1,hm⟩:=ob hm
 refine sd F rfl ent162 (w_slIndex ex1 H:) ?_;rintro _ w a ⟨rfl,H⟩ F
 refine bb [0] F H rfl fun a F=>nb [0,0] F H rfl fun a F=>?_
 refine nl (cPm F rfl hm (fun hg2 hm=>?_) (fun hg2 hm=>?_))
 refine sq ?_
 obtain ⟨x3,ex3,hm⟩:=ob hm
 obtain ⟨x4,ex4,hm⟩:=ob hm
 refine qr H (by kernel_rfl) (by kernel_rfl) ?_
 refine qb [0,0] F rfl fun a F=>?_
 refine qv F rfl (fun u hu=>y_slTH F rfl Tryz.underlying9 rfl rfl ex3) fun a F=>?_
 refine qb [0,0,0] F rfl fun a F=>?_
 refine qv F rfl (fun u hu=>y_lenT (l:=x1_) F rfl Tryz.underlying9 rfl) fun a F=>?_
 refine qb [0] F rfl fun a F=>?_
 refine qv F rfl (fun u hu=>y_slTL F rfl Tryz.underlying9 rfl rfl ex4) fun a F=>?_
 refine qb [0,0,0] F rfl fun a F=>?_
 refine q_nil fun w H=>?_
 refine ct (wr (tr ?_))
 cases hm
 refine x_ret3 F rfl rfl rfl rfl ?_
 exact ⟨_,rfl,rfl,H⟩
 refine sk (ct (sb [0,0,0,0] F H rfl fun a F=>?_))
 refine nl (wr ?_)
 cases hm
 refine x_ret3 F rfl rfl rfl rfl ?_
 exact ⟨_,rfl,rfl,H⟩
theorem ent139:En Tryz.prog 139:=enters Tryz.func139 (by kernel_rfl) rfl
theorem w_m_strings_Cut {x0_:List UInt8} {x1_:List UInt8}  {w0 w:World} {l:List HP}  {r:(List UInt8)×(List UInt8)×Bool} (hm:m_strings_Cut x0_ x1_=some r) (H:St w0 w (l)) :
  Calls Tryz.prog 112 [.string (txb (x0_)),.string (txb (x1_))].toArray w (fun e w'=>∃ v,e=.returned v∧v=.tuple [.string (txb (r.1)),.string (txb (r.2.1)),.bool (r.2.2)].toArray∧St w0 w' (l)):=by
 unfold m_strings_Cut at hm
 refine x_enter Tryz.func112 rfl rfl rfl ?_
 intro a F
 refine sb [0,0,0] F H rfl fun a F=>nb [0,0] F H rfl fun a F=>?_
 obtain ⟨x1,ex1,hm⟩:=ob hm
 refine sd F rfl ent139 (w_m_internal_stringslite_Cut ex1 H:) ?_;rintro _ w a ⟨rfl,H⟩ F
 refine bb (List.replicate 6 0) F H rfl fun a F=>nl (wr ?_)
 cases hm
 refine x_ret3 F rfl rfl rfl rfl ?_
 exact ⟨_,rfl,rfl,H⟩
theorem ent183:En Tryz.prog 183:=enters Tryz.func183 (by kernel_rfl) rfl
theorem w_strSplit {s:List UInt8} {sep:List UInt8}  {w0 w:World} {l:List HP}  {r:(List (List UInt8))} (hm:strSplit s sep=some r) (H:St w0 w (l)) :
  Calls Tryz.prog 168 [.string (txb (s)),.string (txb (sep))].toArray w (fun e w'=>∃ v,e=.returned v∧∃ (p1:Option Addr) (c1:Nat),v=.slice p1 (r).length c1∧St w0 w' (HP.ow rStr 9 p1 c1 r::l)):=by
 unfold strSplit at hm
 refine x_enter Tryz.func168 rfl rfl rfl ?_
 intro a F
 refine sb [0] F H rfl fun a F=>nb [0,0] F H rfl fun a F=>?_
 obtain ⟨x2,ex2,hm⟩:=ob hm
 refine sd F rfl ent183 (w_genSplit ex2 H:) ?_;rintro _ w a ⟨p3,c3,rfl,H⟩ F
 refine bb [0] F H rfl fun a F=>?_
 replace H:=H.nf 1 rfl
 refine nl (wr ?_)
 cases hm
 refine x_ret1 F rfl rfl ?_
 exact ⟨_,rfl,p3,c3,rfl,H⟩
end Go.Proofs.YtnagibpmfabkjaaGreatDoor
