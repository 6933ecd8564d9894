/- Texts Str, Op, Seal, Srt, Ins, Mod. -/
import Derived.Test.YtnagibpmfabkjaaGreatDoorQ3
import Derived.Lib.SplitLaws
import Derived.Lib.Join
import Derived.Below
import Derived.Test.YtnagibpmfabkjaaGreatDoorQ0
import Derived.Shelf.SlicesE.DeleteFunc
import Derived.Sort.EncStr
import Derived.Shelf.SlSortCmp.NoneTotal
set_option linter.unusedSimpArgs false
set_option linter.unusedVariables false
namespace Go.Tri
open Go.RowKit
def sp:List UInt8→List (List UInt8)
  | []=>[[]]
  | c::r=>if c=47 then []::sp r else match sp r with | h::t=>(c::h)::t | []=>[[c]]
theorem split_sp:∀ s:List UInt8,Lib.splitK [47] 0 (Lib.count s [47]) s=sp s
  | []=>by rw [Lib.count_miss (by simp [Lib.index])];rfl
  | c::r=>by
    have ih:=split_sp r
    by_cases h:c=47
    · subst h
      rw [Lib.count_cons_eq,Nat.add_comm,Lib.splitK]
      have hix:Lib.index (47::r) [47]=0:=by rw [Lib.index];simp [List.isPrefixOf]
      rw [hix]
      simp only [sp,if_true]
      rw [if_neg (by decide)]
      simpa using ih
    · have hp:([47]:List UInt8).isPrefixOf (c::r)=false:=by simp [List.isPrefixOf,Ne.symm h]
      have hix:Lib.index (c::r) [47]=if Lib.index r [47]==-1 then -1 else Lib.index r [47]+1:=by rw [Lib.index,hp];simp
      rw [Lib.count_cons_ne c 47 r h]
      simp only [sp,h,if_false]
      by_cases hm:Lib.index r [47]=-1
      · rw [Lib.count_miss hm] at ih ⊢
        rw [← ih];rfl
      · have hge:=Lib.index_ge r [47]
        obtain ⟨j,hj⟩:∃ j:Nat,Lib.index r [47]=j:=⟨(Lib.index r [47]).toNat,by omega⟩
        rw [Lib.count_hit (by simp) hj,Nat.add_comm] at ih ⊢
        rw [Lib.splitK,hj,if_neg (by simp)] at ih
        rw [Lib.splitK,hix,hj,if_neg (show ¬ (((j:Int)==-1)=true) by simp),if_neg (by simp;omega),← ih]
        simp only [Int.toNat_natCast,Nat.add_zero]
        rw [show ((j:Int)+1).toNat=j+1 by omega]
        rfl
def jn (xs:List (List UInt8)):List UInt8:=Lib.join xs [47]
def splitO (s sep:List UInt8) (sv n:Int):Option (List (List UInt8)):=if sep=[47]∧sv=0∧n=-1∧s.length≤100000 then some (sp s) else none
theorem splitO_some {s sep:List UInt8} {sv n:Int} {r:List (List UInt8)} (h:splitO s sep sv n=some r):sep=[47]∧sv=0∧n=-1∧s.length≤100000∧r=sp s:=by
  unfold splitO at h
  split at h
  · rename_i h0;cases h;exact ⟨h0.1,h0.2.1,h0.2.2.1,h0.2.2.2,rfl⟩
  · cases h
def joinO (xs:List (List UInt8)) (sep:List UInt8):Option (List UInt8):=if sep=[47]∧xs.length≤100000∧(jn xs).length≤100000 then some (jn xs) else none
theorem joinO_some {xs:List (List UInt8)} {sep r:List UInt8} (h:joinO xs sep=some r):sep=[47]∧xs.length≤100000∧(jn xs).length≤100000∧r=jn xs:=by
  unfold joinO at h
  split at h
  · rename_i h0;cases h;exact ⟨h0.1,h0.2.1,h0.2.2,rfl⟩
  · cases h
def indexO (s sub:List UInt8):Option Int:=match sub with
  | [c]=>some (Lib.indexByte s c)
  | _=>none
theorem indexO_some {s sub:List UInt8} {r:Int} (h:indexO s sub=some r):∃ c,sub=[c]∧r=Lib.indexByte s c:=by
  unfold indexO at h
  split at h
  · rename_i c;cases h;exact ⟨c,rfl,rfl⟩
  · cases h
theorem St.below {w0 w w':World} {l:List HP} (H:St w0 w l) (hb:Below w.heap.size w w'):St w0 w' l:=by
  obtain ⟨hv,B,f,hs,h1,h2,h3⟩:=H
  have hold:∀ b,b<w.heap.size→w'.heap[b]?=w.heap[b]?:=fun b hlt=>hb.block b hlt
  refine ⟨⟨hb.os.trans hv.1,hb.tape.trans hv.2.1,hb.output.trans hv.2.2.1,Nat.le_trans hv.2.2.2 hb.size⟩,B,f,fun b o h=>?_,fun i A hi=>A.loc (h1 i A hi) fun b hf=>hold b (h3 i b (List.getElem?_eq_some_iff.1 hi).1 hf).1,h2,fun i b hi hf=>?_⟩
  · rw [hold b (hs.lt h)];exact hs b o h
  · have:=h3 i b hi hf
    exact ⟨Nat.lt_of_lt_of_le this.1 hb.size,this.2⟩
theorem St.newTexts {w0 w:World} {l:List HP} (H:St w0 w l) (e:TypeId) (xs:List (List UInt8)) (hm:xs.length≤maxLen):St w0 (w.alloc (.cells (xs.map fun x=>Value.string (txb x)).toArray e)) (HP.ow rStr e (some ⟨w.heap.size,0,none⟩) xs.length xs::l):=by
  have hf:(xs.map fun x=>[Value.string (txb x)]).flatten=xs.map fun x=>Value.string (txb x):=by
    induction xs with
    | nil=>rfl
    | cons x xs ih=>simp only [List.length_cons] at hm;simp [ih (by omega)]
  have hr:∀ B:Base,RdL rStr B (xs.map fun x=>[Value.string (txb x)]) xs:=fun B=>by
    clear hm hf
    induction xs with
    | nil=>trivial
    | cons x xs ih=>exact ⟨rfl,ih⟩
  refine H.add _ _ fun {B} S hS=>⟨_,hr B,?_⟩
  rw [hf]
  exact ⟨⟨by simp [rStr,Rp.enc],.inr ⟨_,xs.length,_,rfl,Nat.zero_le _,heapNew w _,Nat.le_refl _,hm,by simp [rStr,Rp.enc],by simp only [rStr,Rp.enc,Nat.mul_one];rw [List.take_of_length_le];simp⟩⟩,fun b hb=>by simp [Value.ownBlock] at hb;exact hb▸hS⟩
end Go.Tri
set_option linter.unusedSimpArgs false
set_option linter.unusedVariables false
namespace Go.Tri
open Go.RowKit Go.ChangeShapes Go.WideShapes Go.ChangeAt Go.Deep
def baseOf (w:World):Base:=fun b=>w.heap[b]?
theorem sub_row {w w':World} {b off:Nat} {cs:List Value} (hs:Sub (baseOf w) w') (h:Row w b off cs):Row w' b off cs:=by
  intro j v hj
  have h1:=h j v hj
  unfold World.cell? at h1 ⊢
  simp only at h1 ⊢
  cases hb:w.heap[b]? with
  | none=>rw [hb] at h1;cases h1
  | some o=>rw [hs b o hb];rw [hb] at h1;exact h1
theorem sub_sl {w w':World} {v:Value} {n:Nat} {cs:List Value} (hs:Sub (baseOf w) w') (h:Sl w v n cs):Sl w' v n cs:=by
  rcases h with h | h | ⟨b,off,cap,h1,h2,h3⟩
  · exact .inl h
  · exact .inr (.inl h)
  · exact .inr (.inr ⟨b,off,cap,h1,h2,sub_row hs h3⟩)
section
variable {α H:Type} (enc:TypeId×Value→H) (P:Program) (w:World) (base:Nat) (spare:Nat→Bool) (held:Bool)
def Opn (R:Rp α) (e:TypeId):Prop:=∀ (fuel:Nat) (cs:List Value) (x:DataW H×List MemPlace),DataW.trod enc P w base spare held fuel e cs=some x→∃ y,R.rd (baseOf w) cs y
end
section
variable {α H:Type} {enc:TypeId×Value→H} {P:Program} {w:World} {base:Nat} {spare:Nat→Bool} {held:Bool} {R:Rp α} {e t:TypeId}
theorem opn_int {k:IntKind} (ht:P.underlying t=some (.int k)):Opn enc P w base spare held (rInt k) t:=fun fuel cs x h=>by
  obtain ⟨n0,g0,_,w0⟩:=DataW.trod_int ht h
  exact ⟨n0,g0⟩
theorem opn_byte (ht:P.underlying t=some (.int .u8)):Opn enc P w base spare held rByte t:=fun fuel cs x h=>by
  obtain ⟨n0,g0,_,w0⟩:=DataW.trod_int ht h
  have hb:0≤n0∧n0≤255:=by
    simp [Lit.wf,IntKind.min,IntKind.max,IntKind.signed,IntKind.bits] at w0;omega
  refine ⟨UInt8.ofNat n0.toNat,?_⟩
  show cs=[.int .u8 ((UInt8.ofNat n0.toNat).toNat:Int)]
  rw [g0]
  have:((UInt8.ofNat n0.toNat).toNat:Int)=n0:=by simp;omega
  rw [this]
end
def HP.all (w0:World):HP:=HP.pe (fun B=>∀ b o,w0.heap[b]?=some o→B b=some o)
    (fun h hl b o hb=>hl b o (h b o hb))
theorem St.start0 (w0:World) (l:List HP) (h:∀ A∈l,A.pr (baseOf w0) w0 (fun _=>False)):St w0 w0 l :=
  ⟨⟨rfl,rfl,rfl,Nat.le_refl _⟩,baseOf w0,fun _ _=>False,fun b o h=>h,fun i A hi=>h A (List.mem_of_getElem? hi),fun _ _ _ _ _ hf=>hf.elim,fun _ _ _ hf=>hf.elim⟩
theorem all_start (w0 w:World) (S:Nat→Prop):(HP.all w0).pr (baseOf w0) w S:=fun b o h=>h
theorem St.finish {w0 w:World} (H:St w0 w [HP.all w0]):Below w0.heap.size w0 w:=by
  obtain ⟨⟨h1,h2,h3,h4⟩,B,f,hs,ha,_⟩:=H
  refine ⟨h1,h2,h3,h4,fun k hk=>?_⟩
  have:=hs k _ (ha 0 _ rfl k _ (Array.getElem?_eq_getElem hk))
  rw [this,Array.getElem?_eq_getElem hk]
end Go.Tri
set_option linter.unusedSimpArgs false
set_option linter.unusedVariables false
namespace Go.Tri
open Go.RowKit
def Base.ge (B:Base) (n:Nat):Base:=fun b=>if n≤b then B b else none
theorem Base.ge_mono {B B':Base} (h:B.le B') (n:Nat):(B.ge n).le (B'.ge n):=fun b o hb=>by
  unfold Base.ge at hb ⊢
  split at hb
  · rename_i hn;rw [if_pos hn];exact h b o hb
  · cases hb
section
variable {α:Type} {R:Rp α} {w0 w w':World} {l:List HP} {p:Option Addr} {cap n0:Nat} {xs:List α} {e:TypeId}
def HP.nsl (n0:Nat) (R:Rp α) (p:Option Addr) (cap:Nat) (xs:List α):HP :=
  HP.pe (fun B=>(HP.sl R p cap xs).pr (B.ge n0) default (fun _=>False)∧(0<xs.length→∃ b cur e,p=some ⟨b,0,none⟩∧(B.ge n0) b=some (.cells cur e (0,0))∧xs.length≤maxLen))
    (fun h hl=>⟨HP.mono (HP.sl R p cap xs) h.1 (Base.ge_mono hl n0),fun h0=>by obtain ⟨b,cur,e,h1,h2,h3⟩:=h.2 h0;exact ⟨b,cur,e,h1,Base.ge_mono hl n0 _ _ h2,h3⟩⟩)
def rSlN (n0:Nat) (R:Rp α):Rp (List α):=⟨1,fun B cs xs=>∃ p cap,cs=[.slice p xs.length cap]∧(HP.nsl n0 R p cap xs).pr B default (fun _=>False),fun ⟨p,cap,h,k⟩ hl=>⟨p,cap,h,HP.mono _ k hl⟩,fun ⟨p,cap,h,k⟩=>by rw [h];rfl,fun ⟨p,cap,h,k⟩=>by rw [h];intro v hv;simp at hv;subst hv;rfl⟩
end
section
variable {κ β:Type} [DecidableEq κ] {w0 w w':World} {l:List HP} {p:Option Nat} {ek:κ→Value} {agg:Bool} {R R':Rp β} {ok:κ→Prop} {m:κ→Option β}
end
section
variable {α:Type} {R R':Rp α} {B B':Base} {n0:Nat}
abbrev rP2:Rp (List UInt8×List UInt8):=rPair (rSl rByte) (rSl rByte)
abbrev rP2N (n0:Nat):Rp (List UInt8×List UInt8):=rPair (rSlN n0 rByte) (rSlN n0 rByte)
end
section
variable {w0 w w':World} {l:List HP} {p:Option Addr} {cap n0:Nat} {xs:List (List UInt8×List UInt8)}
def HP.box (p:Option Addr) (cap:Nat) (xs:List (List UInt8×List UInt8)):HP :=
  HP.of (fun _ w S=>∃ B:Base,(∀ b o,B b=some o→S b∧w.heap[b]?=some o)∧(HP.nsl 0 (rP2N 0) p cap xs).pr B default (fun _=>False))
    (fun ⟨B,h1,h2⟩ hS=>⟨B,fun b o hb=>⟨(h1 b o hb).1,by rw [hS b (h1 b o hb).1];exact (h1 b o hb).2⟩,h2⟩)
    (fun h _=>h)
end
end Go.Tri
set_option linter.unusedSimpArgs false
set_option linter.unusedVariables false
namespace Go.Tri
open Go.RowKit Go.Sort Go.Proofs
theorem rdl_str {B:Base}:∀ {css:List (List Value)} {xs:List (List UInt8)},RdL rStr B css xs→css.flatten=xs.map encStr
  | [],[],_=>rfl
  | [],_::_,h=>h.elim
  | _::_,[],h=>h.elim
  | c::css,x::xs,⟨h1,h2⟩=>by
    have h1:c=[.string (txb x)]:=h1
    rw [List.flatten_cons,rdl_str h2,h1];rfl
theorem rdl_str' {B:Base}:∀ xs:List (List UInt8),RdL rStr B (xs.map fun x=>[encStr x]) xs
  | []=>trivial
  | x::xs=>⟨rfl,rdl_str' xs⟩
theorem flat_str (xs:List (List UInt8)):(xs.map fun x=>[encStr x]).flatten=xs.map encStr:=by
  induction xs with
  | nil=>rfl
  | cons x xs ih=>simp [ih]
section
variable {w0 w:World} {ls:List HP} {e:TypeId} {b cap:Nat} {xs:List (List UInt8)}
theorem St.putStr (H:St w0 w ls) (i:Nat) (hi:ls[i]?=some (HP.ow rStr e (some ⟨b,0,none⟩) cap xs)):Holds encStr w b 0 xs.toArray∧b<w.heap.size∧xs.length≤cap ∧
    ∀ (d':List (List UInt8)) (k n:Nat) (os:Array Obj),d'.length=xs.length→k≤d'.length→St w0 (grow (putRow encStr (Sort.ahead w n) b 0 d'.toArray) os) (ls.set i (HP.ow rStr e (some ⟨b,0,none⟩) cap (d'.take k))):=by
  obtain ⟨B,H⟩:=H.out
  obtain ⟨S0,css,c0,⟨hl0,⟨h,h'⟩ | ⟨g,cap',cur,h,hb0,hg,hnc,hm,hsz,ht⟩⟩,hS⟩:=H.at hi
  · cases h
  cases h
  have h1:rStr.n=1:=rfl
  have hbl:b<w.heap.size:=(Array.getElem?_eq_some_iff.1 hg).1
  rw [rdl_str c0,h1,Nat.mul_one] at ht
  have hF:∀ t (hx:t<xs.length),cur[t]?=some (encStr xs[t]):=by
    intro t hx
    have e3:(xs.map encStr)[t]?=some (encStr xs[t]):=by simp [hx]
    rw [← ht,List.getElem?_take_of_lt hx] at e3
    simpa using e3
  refine ⟨fun t h5=>?_,hbl,hnc,fun d' k n os hd hk=>?_⟩
  · have h2:t<xs.length:=by simpa using h5
    refine ⟨?_,?_⟩
    · unfold World.cell?
      simp only [hg,Nat.zero_add]
      rw [hF t h2]
      simp [getElem!_pos,h2]
    · unfold World.frozen?
      simp only [hg]
      simp
  · have hw:(grow (putRow encStr (Sort.ahead w n) b 0 d'.toArray) os).heap=(w.heap.modify b (onCells (putCells encStr 0 d'.toArray)))++os:=rfl
    have hold:∀ k,k<w.heap.size→k≠b→(grow (putRow encStr (Sort.ahead w n) b 0 d'.toArray) os).heap[k]?=w.heap[k]?:=by
      intro k hk hne
      rw [hw,Array.getElem?_append_left (by simpa using hk),Array.getElem?_modify,if_neg (Ne.symm hne)]
    have hnew:(grow (putRow encStr (Sort.ahead w n) b 0 d'.toArray) os).heap[b]?=some (.cells (putCells encStr 0 d'.toArray cur) e (0,0)):=by
      rw [hw,Array.getElem?_append_left (by simpa using hbl),Array.getElem?_modify,if_pos rfl,hg];rfl
    have hsz2:w.heap.size≤(grow (putRow encStr (Sort.ahead w n) b 0 d'.toArray) os).heap.size:=by rw [hw];simp
    have hpc:((putCells encStr 0 d'.toArray cur).toList).take k=(d'.take k).map encStr:=by
      apply List.ext_getElem?
      intro t
      by_cases h:t<k
      · have hts:t<cur.size:=by rw [hsz,h1];omega
        have hfs:t<d'.length:=by omega
        rw [List.getElem?_take_of_lt h]
        simp only [Array.getElem?_toList,List.getElem?_map,List.getElem?_take_of_lt h]
        unfold putCells
        rw [Array.getElem?_mapIdx,Array.getElem?_eq_getElem hts,Option.map_some,if_pos ⟨Nat.zero_le _,by simpa using hfs⟩,List.getElem?_eq_getElem hfs]
        simp [getElem!_pos,hfs]
      · rw [List.getElem?_eq_none (by simp;omega),List.getElem?_eq_none (by simp;omega)]
    refine (H.st).upd i hi (fun {B} S hA hb=>?_) rfl rfl rfl hsz2
    obtain ⟨css1,c1,hA1,hA2⟩:=hA
    have hSb:S b:=hA2 b rfl
    have hkl:(d'.take k).length=k:=by rw [List.length_take,Nat.min_eq_left hk]
    refine ⟨S,⟨_,rdl_str' (d'.take k),⟨?_,.inr ⟨b,cap,_,rfl,Nat.zero_le _,hnew,?_,hm,?_,?_⟩⟩,fun b' hb'=>hA2 b' hb'⟩,fun k hk=>.inl hk,fun k hk=>Nat.lt_of_lt_of_le (hb k hk).1 hsz2,fun k hk hn=>hold k hk (fun e=>hn (e▸hSb))⟩
    · rw [flat_str];simp [h1]
    · rw [hkl];omega
    · rw [← hsz];simp [putCells]
    · rw [flat_str,hkl,h1,Nat.mul_one];exact hpc
end
abbrev PE (B:Base):={p:List Value×(List UInt8×List UInt8) // rP2.rd B p.1 p.2}
instance (B:Base):Inhabited (PE B):=⟨⟨([.slice none 0 0,.slice none 0 0],([],[])),⟨[.slice none 0 0],[.slice none 0 0],rfl,rSl_nil _ _,rSl_nil _ _⟩⟩⟩
def encP {B:Base} (x:PE B):List Value:=x.1.1
def cmpP {B:Base} (x y:PE B):Int:=Lib.compareBytes x.1.2.1 y.1.2.1
theorem encP_len {B:Base} (x:PE B):(encP x).length=2:=rP2.len x.2
theorem encP_one {B:Base} (x:PE B):∀ v∈encP x,v.oneCell'=true:=fun v hv=>rP2.flat x.2 v hv
theorem cmpP_swo {B:Base}:SWO (ltOf (cmpP (B:=B))) where
  irrefl x:=by simp [ltOf,cmpP,cmp_self]
  trans x y z h1 h2:=decide_eq_true (cmp_trans _ _ _ (of_decide_eq_true h1) (of_decide_eq_true h2))
  ntrans x y z h1 h2:=by
    replace h1:¬ Lib.compareBytes x.1.2.1 y.1.2.1<0:=of_decide_eq_false h1
    replace h2:¬ Lib.compareBytes y.1.2.1 z.1.2.1<0:=of_decide_eq_false h2
    refine decide_eq_false fun h3=>?_
    replace h3:Lib.compareBytes x.1.2.1 z.1.2.1<0:=h3
    by_cases hz:Lib.compareBytes y.1.2.1 x.1.2.1=0
    · rw [cmp_zero _ _ hz] at h2;exact h2 h3
    · have:Lib.compareBytes y.1.2.1 x.1.2.1<0:=by rw [cmp_swap];rw [cmp_swap] at hz;omega
      exact h2 (cmp_trans _ _ _ this h3)
theorem rdl_pe {B:Base}:∀ {css:List (List Value)} {xs:List (List UInt8×List UInt8)},RdL rP2 B css xs→∃ d:List (PE B),d.map (·.1.2)=xs∧css=d.map encP
  | [],[],_=>⟨[],rfl,rfl⟩
  | c::css,x::xs,h=>by
    obtain ⟨d,h1,h2⟩:=rdl_pe h.2
    exact ⟨⟨(c,x),h.1⟩::d,by simp [h1],by simp [h2,encP]⟩
  | [],_::_,h=>h.elim
  | _::_,[],h=>h.elim
theorem rdl_pe' {B:Base}:∀ d:List (PE B),RdL rP2 B (d.map encP) (d.map (·.1.2))
  | []=>trivial
  | x::d=>⟨x.2,rdl_pe' d⟩
theorem pflat_len {B:Base} (d:List (PE B)):(d.map encP).flatten.length=d.length * 2:=by
  induction d with
  | nil=>rfl
  | cons x d ih=>simp only [List.map_cons,List.flatten_cons,List.length_append,encP_len,ih,List.length_cons];omega
theorem pflat_get {B:Base} (d:List (PE B)) (t:Nat) (h:t<d.length * 2):(d.map encP).flatten[t]?=(encP ((d.toArray)[t / 2]!))[t % 2]?:=by
  have hj:t / 2<d.length:=by omega
  have hc:(d.map encP)[t / 2]?=some (encP (d[t / 2]'hj)):=by simp [List.getElem?_eq_getElem hj]
  have h1:=flatK_at (K:=2) (css:=d.map encP) (fun c hc=>by obtain ⟨x,_,rfl⟩:=List.mem_map.1 hc;exact encP_len x) hc
  have e1:(d.toArray)[t / 2]! =d[t / 2]'hj:=by simp [getElem!_pos,hj]
  rw [e1,← h1,List.getElem?_take_of_lt (by omega),List.getElem?_drop]
  congr 1;omega
theorem pflat_list {B:Base} (d:List (PE B)):(flatK encP 2 d.toArray).toList=(d.map encP).flatten:=by
  apply List.ext_getElem?
  intro t
  by_cases h:t<d.length * 2
  · have e2:t<(flatK encP 2 d.toArray).size:=by simpa using h
    rw [pflat_get d t h]
    have e3:=get_flatK encP 2 d.toArray t (by simpa using h)
    rw [getElem!_pos (flatK encP 2 d.toArray) t e2] at e3
    rw [Array.getElem?_toList,Array.getElem?_eq_getElem e2,e3]
    have e4:t % 2<(encP (d.toArray[t / 2]!)).length:=by rw [encP_len];omega
    rw [List.getElem?_eq_getElem e4,getElem!_pos (encP (d.toArray[t / 2]!)) _ e4]
  · rw [List.getElem?_eq_none (by simpa using h),List.getElem?_eq_none (by rw [pflat_len];omega)]
section
variable {w0 w:World} {ls:List HP} {e:TypeId} {b cap:Nat} {xs:List (List UInt8×List UInt8)}
theorem St.sortP (H:St w0 w ls) (i:Nat) (hi:ls[i]?=some (HP.ow rP2 e (some ⟨b,0,none⟩) cap xs)):∃ (B:Base) (d:List (PE B)),d.map (·.1.2)=xs∧HoldsK encP 2 w b 0 d.toArray∧b<w.heap.size ∧
    (∀ (d':Array (PE B)) (n:Nat) (os:Array Obj),Sub B (sortWorldK encP 2 w b 0 n d' os)) ∧
    ∀ (d':Array (PE B)) (n:Nat) (os:Array Obj),d'.size=d.length→St w0 (sortWorldK encP 2 w b 0 n d' os) (ls.set i (HP.ow rP2 e (some ⟨b,0,none⟩) cap (d'.toList.map (·.1.2)))):=by
  obtain ⟨hv,B,f,hs,g1,g2,g3⟩:=H
  obtain ⟨css,c0,⟨hl0,⟨h,h'⟩ | ⟨g,cap',cur,h,hb0,hg,hnc,hm,hsz,ht⟩⟩,hS⟩:=g1 i _ hi
  · cases h
  cases h
  have hil:i<ls.length:=(List.getElem?_eq_some_iff.1 hi).1
  obtain ⟨d,hd,rfl⟩:=rdl_pe c0
  have hlen:d.length=xs.length:=by rw [← hd];simp
  have hn2:rP2.n=2:=rfl
  have hbl:b<w.heap.size:=(Array.getElem?_eq_some_iff.1 hg).1
  have hBb:B b=none:=(g3 i b hil (hS b rfl)).2.1
  have hF:∀ t,t<d.length * 2→cur[t]?=some ((flatK encP 2 d.toArray)[t]!):=by
    intro t h1
    have e2:t<(flatK encP 2 d.toArray).size:=by simpa using h1
    have e3:(flatK encP 2 d.toArray).toList[t]?=some ((flatK encP 2 d.toArray)[t]!):=by
      rw [Array.getElem?_toList,Array.getElem?_eq_getElem e2,getElem!_pos _ t e2]
    rw [pflat_list,← ht,List.getElem?_take_of_lt (by rw [hn2,← hlen];exact h1)] at e3
    simpa using e3
  have hold:∀ (d':Array (PE B)) (n:Nat) (os:Array Obj) k,k<w.heap.size→k≠b→(sortWorldK encP 2 w b 0 n d' os).heap[k]?=w.heap[k]?:=by
    intro d' n os k hk hne
    have hw:(sortWorldK encP 2 w b 0 n d' os).heap=(w.heap.modify b (onCells (putCells id 0 (flatK encP 2 d'))))++os:=rfl
    rw [hw,Array.getElem?_append_left (by simpa using hk),Array.getElem?_modify,if_neg (Ne.symm hne)]
  refine ⟨B,d,hd,fun t h1=>?_,hbl,fun d' n os b' o hb'=>?_,fun d' n os hs2=>?_⟩
  · have h2:=hF t (by simpa using h1)
    refine ⟨?_,?_⟩
    · unfold World.cell?
      simp only [hg,Nat.zero_add]
      exact h2
    · unfold World.frozen?
      simp only [hg]
      simp
  · rw [hold d' n os b' (hs.lt hb') (fun e=>by rw [e,hBb] at hb';cases hb')];exact hs b' o hb'
  · have hw:(sortWorldK encP 2 w b 0 n d' os).heap=(w.heap.modify b (onCells (putCells id 0 (flatK encP 2 d'))))++os:=rfl
    have hnew:(sortWorldK encP 2 w b 0 n d' os).heap[b]?=some (.cells (putCells id 0 (flatK encP 2 d') cur) e (0,0)):=by
      rw [hw,Array.getElem?_append_left (by simpa using hbl),Array.getElem?_modify,if_pos rfl,hg];rfl
    have hsz2:w.heap.size≤(sortWorldK encP 2 w b 0 n d' os).heap.size:=by rw [hw];simp
    have hcap:xs.length * 2≤cap * 2:=Nat.mul_le_mul_right _ hnc
    have hpc:((putCells id 0 (flatK encP 2 d') cur).toList).take (xs.length * 2)=(d'.toList.map encP).flatten:=by
      rw [← pflat_list,Array.toArray_toList]
      apply List.ext_getElem?
      intro t
      by_cases h:t<xs.length * 2
      · have hts:t<cur.size:=by rw [hsz,hn2];omega
        have hfs:t<(flatK encP 2 d').size:=by simp;rw [hs2,hlen];exact h
        rw [List.getElem?_take_of_lt h]
        simp only [Array.getElem?_toList]
        unfold putCells
        rw [Array.getElem?_mapIdx,Array.getElem?_eq_getElem hts,Option.map_some,if_pos ⟨Nat.zero_le _,by omega⟩,Array.getElem?_eq_getElem hfs]
        rw [Nat.sub_zero,getElem!_pos (flatK encP 2 d') t hfs];rfl
      · rw [List.getElem?_eq_none (by simp;omega),List.getElem?_eq_none (by simp;rw [hs2,hlen];omega)]
    have hSb:f i b:=hS b rfl
    have hA':(HP.ow rP2 e (some ⟨b,0,none⟩) cap (d'.toList.map (·.1.2))).pr B (sortWorldK encP 2 w b 0 n d' os) (f i):=by
      refine ⟨d'.toList.map encP,rdl_pe' _,⟨?_,.inr ⟨b,cap,_,?_,Nat.zero_le _,hnew,?_,hm,?_,?_⟩⟩,fun b' hb'=>hS b' hb'⟩
      · rw [pflat_len];simp [hn2]
      · simp [hs2,hlen]
      · simp [hs2,hlen];exact hnc
      · rw [← hsz];simp [putCells]
      · rw [hn2,show (d'.toList.map (·.1.2)).length=xs.length by simp [hs2,hlen]];exact hpc
    refine ⟨⟨hv.1,hv.2.1,hv.2.2.1,Nat.le_trans hv.2.2.2 hsz2⟩,B,f,fun b' o hb'=>?_,fun j C hj=>?_,fun j k b' hj hk=>g2 j k b' (by simpa using hj) (by simpa using hk),fun j b' hj hf=>?_⟩
    · rw [hold d' n os b' (hs.lt hb') (fun e=>by rw [e,hBb] at hb';cases hb')];exact hs b' o hb'
    · rw [List.getElem?_set] at hj
      by_cases e1:i=j
      · subst e1;rw [if_pos rfl,if_pos hil] at hj;cases hj;exact hA'
      · rw [if_neg e1] at hj
        have hjl:=(List.getElem?_eq_some_iff.1 hj).1
        exact C.loc (g1 j C hj) fun b' hb'=>hold d' n os b' (g3 j b' hjl hb').1 fun e=>e1 (g2 i j b hil hjl hSb (e▸hb'))
    · have:=g3 j b' (by simpa using hj) hf
      exact ⟨Nat.lt_of_lt_of_le this.1 hsz2,this.2⟩
end
theorem pe_key {B:Base} {w:World} (hs:Sub B w) (x:PE B):∃ q c v,x.1.1=[.slice q x.1.2.1.length c,v]∧Sl w (.slice q x.1.2.1.length c) x.1.2.1.length (bcells x.1.2.1):=by
  obtain ⟨c1,d1,h1,⟨q,c,h2,css,h3,h4⟩,⟨q2,c2,h5,_⟩⟩:=x.2
  refine ⟨q,c,.slice q2 x.1.2.2.length c2,by rw [h1,h2,h5];rfl,?_⟩
  have:=h4 w hs
  rwa [rdl_bytes_flat h3] at this
abbrev P2:=List UInt8×List UInt8
def leP (a b:P2):Bool:=decide (Lib.compareBytes a.1 b.1≤0)
def sortPairs (xs:List P2):List P2:=xs.mergeSort leP
def sortPO (xs:List P2):Option (List P2):=if (xs.map (·.1)).Nodup∧xs.length≤100000000 then some (sortPairs xs) else none
theorem sortPO_some {xs r:List P2} (h:sortPO xs=some r):(xs.map (·.1)).Nodup∧xs.length≤100000000∧r=sortPairs xs:=by
  unfold sortPO at h
  split at h
  · rename_i h0;cases h;exact ⟨h0.1,h0.2,rfl⟩
  · cases h
def ltP (a b:P2):Prop:=ltK a.1 b.1
theorem pairs_same:∀ {l l':List P2},l.Pairwise ltP→l'.Pairwise ltP→(∀ k,k∈l↔k∈l')→l=l'
  | [],[],_,_,_=>rfl
  | [],b::l',_,_,h=>absurd ((h b).2 (by simp)) (by simp)
  | a::l,[],_,_,h=>absurd ((h a).1 (by simp)) (by simp)
  | a::l,b::l',h1,h2,h=>by
    obtain ⟨h3,h4⟩:=List.pairwise_cons.1 h1
    obtain ⟨h5,h6⟩:=List.pairwise_cons.1 h2
    have hirr:∀ x,¬ ltP x x:=fun x hx=>by unfold ltP ltK at hx;rw [cmp_self] at hx;omega
    have hab:a=b:=by
      rcases List.mem_cons.1 ((h a).1 (by simp)) with e | e
      · exact e
      · rcases List.mem_cons.1 ((h b).2 (by simp)) with e2 | e2
        · exact e2.symm
        · exact absurd (show ltP a a from cmp_trans _ _ _ (h3 b e2) (h5 a e)) (hirr a)
    subst hab
    rw [pairs_same h4 h6 fun k=>?_]
    constructor
    · intro hk
      rcases List.mem_cons.1 ((h k).1 (List.mem_cons_of_mem _ hk)) with e | e
      · subst e;exact absurd (h3 k hk) (hirr k)
      · exact e
    · intro hk
      rcases List.mem_cons.1 ((h k).2 (List.mem_cons_of_mem _ hk)) with e | e
      · subst e;exact absurd (h5 k hk) (hirr k)
      · exact e
theorem strict_of {l:List P2} (hn:(l.map (·.1)).Nodup) (h:l.Pairwise (fun a b=>¬ ltK b.1 a.1)):l.Pairwise ltP:=by
  have hn':l.Pairwise (fun a b=>a.1≠b.1):=by rw [List.nodup_iff_pairwise_ne,List.pairwise_map] at hn;exact hn
  refine (h.and hn').imp fun {a b} h=>?_
  obtain ⟨h1,h2⟩:=h
  unfold ltP
  unfold ltK at *
  have h3:=cmp_zero a.1 b.1
  have h4:=cmp_swap a.1 b.1
  have:Lib.compareBytes a.1 b.1≠0:=fun e=>h2 (h3 e)
  omega
theorem leP_trans (a b c:P2) (h1:leP a b=true) (h2:leP b c=true):leP a c=true:=leK_trans a.1 b.1 c.1 h1 h2
theorem leP_total (a b:P2):(leP a b || leP b a)=true:=leK_total a.1 b.1
theorem sortPairs_strict {xs:List P2} (hn:(xs.map (·.1)).Nodup):(sortPairs xs).Pairwise ltP:=by
  have hp:=List.mergeSort_perm xs leP
  refine strict_of ((hp.map _).nodup_iff.2 hn) ?_
  refine (List.pairwise_mergeSort (fun a b c=>leP_trans a b c) (fun a b=>leP_total a b) xs).imp fun {a b} h=>?_
  have h:Lib.compareBytes a.1 b.1≤0:=of_decide_eq_true h
  have:=cmp_swap a.1 b.1
  unfold ltK;omega
theorem sortPairs_eq {xs ks:List P2} (hn:(xs.map (·.1)).Nodup) (hp:ks.Perm xs) (hs:ks.Pairwise (fun a b=>¬ ltK b.1 a.1)):ks=sortPairs xs :=
  pairs_same (strict_of ((hp.map _).nodup_iff.2 hn) hs) (sortPairs_strict hn) fun k=>(hp.trans (List.mergeSort_perm xs leP).symm).mem_iff
theorem sort_pairs {B:Base} {d:List (PE B)} {d':Array (PE B)} (hp:PermIn 0 d.toArray.size d.toArray d') (hs:SortedIn (ltOf cmpP) 0 d.toArray.size d'):d'.size=d.length∧(d'.toList.map (·.1.2)).Perm (d.map (·.1.2))∧(d'.toList.map (·.1.2)).Pairwise (fun a b=>¬ ltK b.1 a.1):=by
  obtain ⟨h1,_,h2⟩:=hp
  have hsz:d'.size=d.length:=by simpa using h1
  have e1:(d'.extract 0 d.toArray.size).toList=d'.toList:=by simp [← hsz]
  have e2:(d.toArray.extract 0 d.toArray.size).toList=d:=by simp
  rw [e1,e2] at h2
  refine ⟨hsz,h2.map _,?_⟩
  rw [List.pairwise_map,List.pairwise_iff_getElem]
  intro i j hi hj hij
  have hi':i<d'.size:=by simpa using hi
  have hj':j<d'.size:=by simpa using hj
  have:=hs i j (Nat.zero_le _) hij (by simpa [hsz] using hj')
  rw [getElem!_pos d' j hj',getElem!_pos d' i hi'] at this
  have h5:¬ (Lib.compareBytes (d'[j]).1.2.1 (d'[i]).1.2.1<0):=of_decide_eq_false this
  show ¬ ltK _ _
  simpa [ltK] using h5
def sortTO (xs:List (List UInt8)):Option (List (List UInt8)):=if xs.length≤100000000 then some (xs.mergeSort fun x y=>decide (x≤y)) else none
theorem sortTO_some {xs r:List (List UInt8)} (h:sortTO xs=some r):xs.length≤100000000∧r=xs.mergeSort fun x y=>decide (x≤y):=by
  unfold sortTO at h
  split at h
  · rename_i h0;cases h;exact ⟨h0,rfl⟩
  · cases h
def delO (xs:List (List UInt8)) (to:List UInt8):Option (List (List UInt8)):=if xs.length≤100000000 then some (xs.filter fun x=>!leqB x to) else none
theorem delO_some {xs r:List (List UInt8)} {to:List UInt8} (h:delO xs to=some r):xs.length≤100000000∧r=xs.filter fun x=>!leqB x to:=by
  unfold delO at h
  split at h
  · rename_i h0;cases h;exact ⟨h0,rfl⟩
  · cases h
theorem St.apart {w0 w:World} {ls:List HP} {e:TypeId} {b b3 cap:Nat} {xs:List (List UInt8)} {cs:List Value} {t:TypeId} (H:St w0 w ls) (i j:Nat) (hi:ls[i]?=some (HP.ow rStr e (some ⟨b,0,none⟩) cap xs)) (hj:ls[j]?=some (HP.blk b3 cs t)) (hij:i≠j):Blk w b3 cs t∧b3<w.heap.size∧b3≠b:=by
  obtain ⟨_,B,f,hs,g1,g2,g3⟩:=H
  have hil:=(List.getElem?_eq_some_iff.1 hi).1
  have hjl:=(List.getElem?_eq_some_iff.1 hj).1
  obtain ⟨css,c0,_,hS⟩:=g1 i _ hi
  obtain ⟨k1,k2⟩:=g1 j _ hj
  exact ⟨k1,(g3 j b3 hjl k2).1,fun e=>hij (g2 i j b hil hjl (hS b rfl) (e▸k2))⟩
end Go.Tri
set_option linter.unusedSimpArgs false
set_option linter.unusedVariables false
namespace Go.Tri
open Go.RowKit Go.WideShapes
section
variable {P:Program} {t e:TypeId} {size bytes:Nat} {z:Value} {ops:Array Oper} {rest:List Oper} {o:Oper} {a:Act} {w0 w:World} {Q:Exit→Act→World→Prop} {ls:List HP}
theorem wl_appendSt (hE:ElemT P t e size bytes z) {s x:Operand} (ho:o.op=.call { callee:=.builtin .append,args:=#[s,x],argTypes:=#[t,t] }) (hgd:Region.wanted o (yielded ops a.tmps)=true) {v u:Value} (hs:a.eval s=v) (hx:a.eval x=u)
    (H:St w0 w ls) (i:Nat) {n m:Nat} {xs news:List Value} (hi:ls[i]?=some (HP.own e size v n xs)) (hsrc:Sl w u m news) (hl:news.length=m * size) (h1:Flat news) (h63:n+m≤maxLen) (hbytes:(n+m) * bytes≤140737488355328)
    (hk:∀ v' w',St w0 w' (ls.set i (HP.own e size v' (n+m) (xs++news)))→wpList P ops Q rest (a.put o.dst v') w'):wpList P ops Q (o::rest) a w:=by
  refine BigFrame.wpList_want hgd fun K' hK'=>?_
  obtain ⟨v',w',hrun,H2⟩:=run_appendSt (P:=P) H i hi hE hsrc hl h1 h63 hbytes o.type
  have ex:execOp a.eval o=(do pure (.value (← Builtin.append_ #[t,t] o.type #[v,u]))):=by
    unfold execOp;rw [ho];simp [resolve,invoke,Go.builtin,hs,hx]
  unfold Oper.wp
  rw [ex,Sem.run_bind,hrun]
  exact hK' _ _ (hk v' w' H2)
theorem run_appendR (hE:ElemT P t e size bytes z) {b n cap bo so m c:Nat} {cur news:List Value} {u ty:TypeId} (hb:Blk w b cur u) (hr:Row w bo so news) (hn:news.length=m * size) (hf:Flat news) (hroom:n+m≤cap) (hfit:n * size+news.length≤cur.length) :
    (Builtin.append_ #[t,t] ty #[.slice (some ⟨b,0,none⟩) n cap,.slice (some ⟨bo,so,none⟩) m c]).run P w =
      .ok (.slice (some ⟨b,0,none⟩) (n+m) cap) (w.setRow b (cur.take (n * size)++news++cur.drop (n * size+news.length)).toArray):=by
  obtain ⟨i,hi,_,hs,_⟩:=hE.parts
  have hfc:=run_firstCells_some (P:=P) w size m ⟨bo,so,none⟩ m c news hn (fun j v hj=>by rw [add_none];exact hr j v hj)
  have hst:=run_storeCells_at (P:=P) b (n * size) u news 0 cur.toArray w hb (by simpa using hfit) hf
  simp only [Nat.add_zero] at hst
  simp [Builtin.append_,Go.run_underlying hE.ht,sizeOf,typeInfo,hi,hs,Builtin.lenOf,hroom,hfc,Addr.add_lit,hst]
theorem wl_appendR (hE:ElemT P t e size bytes z) {s x:Operand} (ho:o.op=.call { callee:=.builtin .append,args:=#[s,x],argTypes:=#[t,t] }) (hgd:Region.wanted o (yielded ops a.tmps)=true) {b n cap:Nat} (hs:a.eval s=.slice (some ⟨b,0,none⟩) n cap)
    {bo so m c:Nat} (hx:a.eval x=.slice (some ⟨bo,so,none⟩) m c) {cur news:List Value} {u:TypeId} (hb:Blk w b cur u) (hr:Row w bo so news) (hn:news.length=m * size) (hf:Flat news) (hroom:n+m≤cap) (hfit:n * size+news.length≤cur.length)
    (hk:∀ w',Blk w' b (cur.take (n * size)++news++cur.drop (n * size+news.length)) u→Chg b w w'→wpList P ops Q rest (a.put o.dst (.slice (some ⟨b,0,none⟩) (n+m) cap)) w'):wpList P ops Q (o::rest) a w:=by
  refine BigFrame.wpList_want hgd fun K' hK'=>?_
  have ex:execOp a.eval o=(do pure (.value (← Builtin.append_ #[t,t] o.type #[.slice (some ⟨b,0,none⟩) n cap,.slice (some ⟨bo,so,none⟩) m c]))):=by
    unfold execOp;rw [ho];simp [resolve,invoke,Go.builtin,hs,hx]
  unfold Oper.wp
  rw [ex,Sem.run_bind,run_appendR hE hb hr hn hf hroom hfit]
  exact hK' _ _ (hk _ (hb.set_same _) (Chg.setRow w b _))
theorem run_clearR (hE:ElemT P t e size bytes z) {b off n:Nat} {cur:List Value} {u:TypeId} (hb:Blk w b cur u) (hn:0<n) (hfl:Flat z.cells.toList) (hfit:off+n * size≤cur.length) :
    ∃ zs:List Value,zs.length=n * size∧∀ (c:Nat) (ty:TypeId),(Builtin.clear_ #[t] ty #[.slice (some ⟨b,off,none⟩) n c]).run P w=.ok (.tuple #[]) (w.setRow b (cur.take off++zs++cur.drop (off+zs.length)).toArray):=by
  obtain ⟨i,hi,hz,hs,_⟩:=hE.parts
  have hzl:(Builtin.zeroCells z.cells n).toList.length=n * size:=by
    rw [Array.length_toList,size_zeroCells,hE.hz]
  have hzf:Flat (Builtin.zeroCells z.cells n).toList:=by
    intro v hv
    simp only [Builtin.zeroCells,Array.toList_map,List.mem_map,Array.toList_range,List.mem_range] at hv
    obtain ⟨q,hq,rfl⟩:=hv
    have h0:0<z.cells.size:=Nat.pos_of_ne_zero fun h=>by rw [h,Nat.mul_zero] at hq;omega
    exact hfl _ (by rw [getElem!_pos z.cells _ (Nat.mod_lt _ h0)];exact Array.getElem_mem_toList _)
  refine ⟨_,hzl,fun c ty=>?_⟩
  have hst:=run_storeCells_at (P:=P) b off u (Builtin.zeroCells z.cells n).toList 0 cur.toArray w hb (by rw [hzl];simpa using hfit) hzf
  simp only [Nat.add_zero] at hst
  have hv:∀ w,(zeroValue e).run P w=.ok z w:=fun w=>by unfold zeroValue;rw [Sem.run_bind,run_typeInfo hi];show Sem.run P (match i.zero with | some v=>pure v | none=>_) w=_;rw [hz];rfl
  obtain ⟨m,rfl⟩:∃ m,n=m+1:=⟨n - 1,by omega⟩
  simp [Builtin.clear_,Go.run_underlying hE.ht,hv,hst]
end
theorem Chg.trans {g:Nat} {w1 w2 w3:World} (h:Chg g w1 w2) (k:Chg g w2 w3):Chg g w1 w3 :=
  ⟨k.os.trans h.os,k.tape.trans h.tape,k.output.trans h.output,k.size.trans h.size,fun q hq=>(k.oth q hq).trans (h.oth q hq)⟩
theorem Chg.drewN (g:Nat) (w:World) (n:Nat):Chg g w (w.drewN n):=⟨rfl,rfl,rfl,rfl,fun _ _=>rfl⟩
theorem cut_room (cur xs zs:List Value) (a b k:Nat) (hx:cur.take (a+k+b)=xs) (hl:a+k+b≤cur.length) (hz:zs.length=k) (C1 C2:List Value) (h1:C1=cur.take a++xs.drop (a+k)++cur.drop (a+b)) (h2:C2=C1.take (a+b)++zs++C1.drop (a+b+zs.length)) :
    C1.length=cur.length∧C2.length=cur.length∧C2.take (a+b)=xs.take a++xs.drop (a+k):=by
  have hxl:xs.length=a+k+b:=by rw [← hx,List.length_take];omega
  have e1:C1.length=cur.length:=by rw [h1];simp only [List.length_append,List.length_take,List.length_drop];omega
  have e2:C1.take (a+b)=xs.take a++xs.drop (a+k):=by
    rw [h1,List.take_append_of_le_length (by simp only [List.length_append,List.length_take,List.length_drop];omega),List.take_of_length_le (by simp only [List.length_append,List.length_take,List.length_drop];omega),← hx,List.take_take,Nat.min_eq_left (by omega)]
  refine ⟨e1,?_,?_⟩
  · rw [h2];simp only [List.length_append,List.length_take,List.length_drop];omega
  · rw [h2,List.append_assoc,List.take_append_of_le_length (by simp only [List.length_take];omega),List.take_take,Nat.min_self,e2]
def InsSt (e size:Nat) (w0:World) (l:List HP) (i n q:Nat) (xs cs:List Value) (en:Ending) (w':World):Prop :=
  ∃ v',en=.returned v'∧St w0 w' (l.set i (HP.own e size v' (n+1) (xs.take (q * size)++cs++xs.drop (q * size))))
def DelSt (e size:Nat) (w0:World) (l:List HP) (i g cap q r:Nat) (xs:List Value) (en:Ending) (w':World):Prop :=
  en=.returned (.slice (some ⟨g,0,none⟩) (q+r) cap)∧St w0 w' (l.set i (HP.own e size (.slice (some ⟨g,0,none⟩) (q+r) cap) (q+r) (xs.take (q * size)++xs.drop ((q+1) * size))))
def insO {α:Type} (xs:List α) (i:Int) (vs:List α):Option (List α):=if 0≤i∧i≤xs.length∧xs.length≤1000∧vs.length=1 then some (xs.take i.toNat++vs++xs.drop i.toNat) else none
def cutO {α:Type} (xs:List α) (i j:Int):Option (List α):=if 0≤i∧j=i+1∧j≤xs.length then some (xs.take i.toNat++xs.drop (i.toNat+1)) else none
theorem ins_st {P:Program} {f:FuncId} {e k:Nat} {α:Type} {R:Rp α} (hk:R.n=k) (hp:0<k)
    (hEnd:∀ {w0 w:World} {l:List HP} {s:Value} {n:Nat} {xs:List Value} (_:St w0 w l) (i:Nat) (_:l[i]?=some (HP.own e k s n xs)) (_:n≤1000) (bv cv:Nat) (cs:List Value) (_:Row w bv 0 cs) (_:cs.length=k) (_:Flat cs),
      Calls P f #[s,.int .i64 n,.slice (some ⟨bv,0,none⟩) 1 (cv+1)] w (InsSt e k w0 l i n n xs cs))
    (hRoom:∀ {w0 w:World} {l:List HP} {g cap n q:Nat} {xs cur:List Value} (_:St w0 w l) (i:Nat) (_:l[i]?=some (HP.own e k (.slice (some ⟨g,0,none⟩) n cap) n xs)) (_:Blk w g cur e) (_:cur.length=cap * k) (_:cur.take (n * k)=xs) (_:Flat xs) (_:cap≤maxLen) (_:n≤1000) (_:q<n) (_:n+1≤cap)
      (bv cv:Nat) (cs cb:List Value) (_:Blk w bv cb e) (_:Row w bv 0 cs) (_:cs.length=k) (_:Flat cs) (_:cb≠[]) (_:bv≠g),
      Calls P f #[.slice (some ⟨g,0,none⟩) n cap,.int .i64 q,.slice (some ⟨bv,0,none⟩) 1 (cv+1)] w (InsSt e k w0 l i n q xs cs))
    (hGrow:∀ {w0 w:World} {l:List HP} {g n q:Nat} {xs:List Value} (_:St w0 w l) (i:Nat) (_:l[i]?=some (HP.own e k (.slice (some ⟨g,0,none⟩) n n) n xs)) (_:Row w g 0 xs) (_:xs.length=n * k) (_:Flat xs) (_:g<w.heap.size) (_:n≤1000) (_:q<n)
      (bv cv:Nat) (cs:List Value) (_:Row w bv 0 cs) (_:cs.length=k) (_:Flat cs) (_:bv<w.heap.size),
      Calls P f #[.slice (some ⟨g,0,none⟩) n n,.int .i64 q,.slice (some ⟨bv,0,none⟩) 1 (cv+1)] w (InsSt e k w0 l i n q xs cs))
    {p q:Option Addr} {cap c2:Nat} {xs vs zs:List α} {i:Int} (em:insO xs i vs=some zs) {w0 w:World} {l:List HP} (H:St w0 w (HP.ow R e p cap xs::HP.ow R e q c2 vs::l)) :
    Calls P f [.slice p xs.length cap,.int .i64 i,.slice q vs.length c2].toArray w fun en w'=>∃ v,en=.returned v∧∃ (p':Option Addr) (c':Nat),v=.slice p' zs.length c'∧St w0 w' (HP.ow R e p' c' zs::l):=by
  subst hk
  unfold insO at em
  split at em
  · rename_i hc
    obtain ⟨hi0,hil,hn,hv1⟩:=hc
    cases em
    obtain ⟨x,rfl⟩:∃ x,vs=[x]:=List.length_eq_one_iff.1 hv1
    obtain ⟨k,rfl⟩:=Int.eq_ofNat_of_zero_le hi0
    simp only [Int.toNat_natCast]
    obtain ⟨css,c1,H1⟩:=H.owOpen 0 rfl
    obtain ⟨dss,d1,H2⟩:=H1.owOpen 2 rfl
    simp only [List.set_cons_succ,List.set_cons_zero] at H2
    have o1:=H2.owns 2 rfl
    have o2:=H2.owns 3 rfl
    have hfx:Flat css.flatten:=by obtain ⟨B,S,hs,h,_⟩:=H2.get 1 (A:=HP.rdl R css xs) rfl;exact RdL.flat h
    have hfd:Flat dss.flatten:=by obtain ⟨B,S,hs,h,_⟩:=H2.get 0 (A:=HP.rdl R dss [x]) rfl;exact RdL.flat h
    have hdl:dss.flatten.length=R.n:=by rw [d1];simp
    have hne:∀ b,(Value.slice p xs.length cap).ownBlock=some b→(Value.slice q [x].length c2).ownBlock=some b→False:=by
      obtain ⟨hv,B,f,hs,h1,h2,h3⟩:=H2
      intro b hb hb'
      have a1:=(h1 2 _ rfl).2 b hb
      have a2:=(h1 3 _ rfl).2 b hb'
      have:=h2 2 3 b (by simp) (by simp) a1 a2
      omega
    obtain ⟨_,⟨h,h'⟩ | ⟨g2,cap2,cur2,h,_,hg2,hc2,hm2,hs2,ht2⟩⟩:=o2
    · simp at h'
    cases h
    obtain ⟨cv,rfl⟩:∃ cv,c2=cv+1:=⟨c2 - 1,by simp at hc2;omega⟩
    have hb2:Blk w g2 cur2.toList e:=by unfold Blk;simpa using hg2
    have hrow2:Row w g2 0 dss.flatten:=by
      have:=hb2.row
      rw [← List.take_append_drop ([x].length * R.n) cur2.toList,ht2] at this
      exact this.left
    have hcb:∀ (cur2:Array Value) (cv:Nat),cur2.size=(cv+1) * R.n→cur2.toList≠[]:=fun cur2 cv hs h0=>by
      have h1:cur2.size=0:=by rw [← Array.length_toList,h0];rfl
      rw [h1] at hs
      exact absurd hs (Nat.ne_of_lt (Nat.mul_pos (Nat.succ_pos cv) hp))
    have key:Calls P f #[.slice p xs.length cap,.int .i64 (k:Int),.slice (some ⟨g2,0,none⟩) 1 (cv+1)] w (InsSt e R.n w0 (HP.rdl R dss [x]::HP.rdl R css xs::HP.own e R.n (.slice p xs.length cap) xs.length css.flatten::HP.own e R.n (.slice (some ⟨g2,0,none⟩) [x].length (cv+1)) [x].length dss.flatten::l) 2 xs.length k css.flatten dss.flatten):=by
      by_cases hk:k=xs.length
      · subst hk
        exact hEnd H2 2 rfl hn g2 cv _ hrow2 hdl hfd
      · obtain ⟨_,⟨h,h'⟩ | ⟨g,cap',cur,h,_,hg,hc,hm,hs,ht⟩⟩:=o1
        · simp only [h',Int.ofNat_zero] at hil;omega
        cases h
        have hbk:Blk w g cur.toList e:=by unfold Blk;simpa using hg
        have hgb:g2≠g:=fun he=>hne g rfl (by rw [he];rfl)
        by_cases hr:xs.length+1≤cap
        · exact hRoom H2 2 rfl hbk (by simpa using hs) ht hfx hm hn (by omega) hr g2 cv _ cur2.toList hb2 hrow2 hdl hfd (hcb cur2 cv hs2) hgb
        · obtain rfl:cap=xs.length:=by omega
          have hrow:Row w g 0 css.flatten:=by
            have:=hbk.row
            rw [← List.take_append_drop (xs.length * R.n) cur.toList,ht] at this
            exact this.left
          exact hGrow H2 2 rfl hrow c1 hfx hbk.lt hn (by omega) g2 cv _ hrow2 hdl hfd hb2.lt
    refine key.mono ?_
    rintro en w' ⟨v',rfl,H3⟩
    simp only [List.set_cons_succ,List.set_cons_zero] at H3
    obtain ⟨p',c',rfl,_,_⟩:=H3.ownForm 2 rfl
    have hzl:(xs.take k++[x]++xs.drop k).length=xs.length+1:=by simp;omega
    refine ⟨_,rfl,p',c',by rw [hzl],?_⟩
    obtain ⟨B,H4⟩:=H3.out
    obtain ⟨_,r1⟩:=H4.at (i:=0) (A:=HP.rdl R dss [x]) rfl
    obtain ⟨_,r2⟩:=H4.at (i:=1) (A:=HP.rdl R css xs) rfl
    have r3:RdL R B (css.take k++dss++css.drop k) (xs.take k++[x]++xs.drop k):=(RdL.append (RdL.append (RdL.take k r2) r1) (RdL.drop k r2))
    have hfl:(css.take k++dss++css.drop k).flatten=css.flatten.take (k * R.n)++dss.flatten++css.flatten.drop (k * R.n):=by
      rw [List.flatten_append,List.flatten_append,flat_take k r2,flat_drop k r2]
    have H5:=(H4.set 2 (C:=HP.ow R e p' c' (xs.take k++[x]++xs.drop k)) rfl fun S h=>⟨_,r3,by rw [hfl,hzl];exact h⟩).st
    simp only [List.set_cons_succ,List.set_cons_zero] at H5
    exact H5.pm 4 [2] rfl
  · cases em
theorem del_st {P:Program} {f:FuncId} {e k:Nat} {α:Type} {R:Rp α} (hk:R.n=k) (hp:0<k)
    (hDel:∀ {w0 w:World} {l:List HP} {g cap q r:Nat} {xs cur:List Value} (_:St w0 w l) (i:Nat) (_:l[i]?=some (HP.own e k (.slice (some ⟨g,0,none⟩) (q+1+r) cap) (q+1+r) xs)) (_:Blk w g cur e) (_:cur.length=cap * k) (_:cur.take ((q+1+r) * k)=xs) (_:Flat xs) (_:cap≤maxLen) (_:q+1+r≤cap),
      Calls P f #[.slice (some ⟨g,0,none⟩) (q+1+r) cap,.int .i64 (q:Int),.int .i64 ((q+1:Nat):Int)] w (DelSt e k w0 l i g cap q r xs))
    {p:Option Addr} {cap:Nat} {xs zs:List α} {i j:Int} (em:cutO xs i j=some zs) {w0 w:World} {l:List HP} (H:St w0 w (HP.ow R e p cap xs::l)) :
    Calls P f [.slice p xs.length cap,.int .i64 i,.int .i64 j].toArray w fun en w'=>∃ v,en=.returned v∧∃ (p':Option Addr) (c':Nat),v=.slice p' zs.length c'∧St w0 w' (HP.ow R e p' c' zs::l):=by
  subst hk
  unfold cutO at em
  split at em
  · rename_i hc
    obtain ⟨hi0,rfl,hjl⟩:=hc
    cases em
    obtain ⟨q,rfl⟩:=Int.eq_ofNat_of_zero_le hi0
    simp only [Int.toNat_natCast]
    obtain ⟨r,hr⟩:∃ r,xs.length=q+1+r:=⟨xs.length - (q+1),by omega⟩
    obtain ⟨css,c1,H1⟩:=H.owOpen 0 rfl
    simp only [List.set_cons_zero] at H1
    have o1:=H1.owns 1 rfl
    have hfx:Flat css.flatten:=by obtain ⟨B,S,hs,h,_⟩:=H1.get 0 (A:=HP.rdl R css xs) rfl;exact RdL.flat h
    obtain ⟨_,⟨h,h'⟩ | ⟨g,cap',cur,h,_,hg,hc,hm,hs,ht⟩⟩:=o1
    · omega
    cases h
    have hbk:Blk w g cur.toList e:=by unfold Blk;simpa using hg
    have key:=hDel (q:=q) (r:=r) (cap:=cap) H1 1 (by rw [← hr];rfl) hbk (by simpa using hs) (by rw [← hr];exact ht) hfx hm (by omega)
    rw [← hr] at key
    have hz:(xs.take q++xs.drop (q+1)).length=q+r:=by simp;omega
    refine key.mono ?_
    rintro en w' ⟨rfl,H3⟩
    simp only [List.set_cons_succ,List.set_cons_zero] at H3
    refine ⟨_,rfl,_,cap,by rw [hz],?_⟩
    obtain ⟨B,H4⟩:=H3.out
    obtain ⟨_,r2⟩:=H4.at (i:=0) (A:=HP.rdl R css xs) rfl
    have r3:RdL R B (css.take q++css.drop (q+1)) (xs.take q++xs.drop (q+1)):=RdL.append (RdL.take q r2) (RdL.drop (q+1) r2)
    have hfl:(css.take q++css.drop (q+1)).flatten=css.flatten.take (q * R.n)++css.flatten.drop ((q+1) * R.n):=by
      rw [List.flatten_append,flat_take q r2,flat_drop (q+1) r2]
    have H5:=(H4.set 1 (C:=HP.ow R e (some ⟨g,0,none⟩) cap (xs.take q++xs.drop (q+1))) rfl fun S h=>⟨_,r3,by rw [hfl,hz];exact h⟩).st
    simp only [List.set_cons_succ,List.set_cons_zero] at H5
    exact H5.tail
  · cases em
end Go.Tri
set_option linter.unusedSimpArgs false
set_option linter.unusedVariables false
namespace Go.Proofs.YtnagibpmfabkjaaGreatDoor
open Go.RowKit Go.Tri
abbrev T_api_Pair:Type:=(List UInt8)×(List UInt8)
abbrev R_api_Pair:Rp T_api_Pair:=(rPair (rSl rByte) (rSl rByte))
abbrev T_pack_Pen_o:Type:=(List UInt8)
def O_pack_Pen (b:Nat) (x:T_pack_Pen_o):HP:=HP.ex fun (i:(Option Addr)×Nat)=>[HP.blk b ([.slice i.1 (x).length i.2]) 157,HP.ow rByte 5 i.1 i.2 x]
theorem O_pack_Pen_o {w0 w:World} {l:List HP} {b:Nat} {x:T_pack_Pen_o} (H:St w0 w (O_pack_Pen b x::l)):∃ (i1:Option Addr) (c1:Nat),St w0 w (HP.blk b ([.slice i1 (x).length c1]) 157::HP.ow rByte 5 i1 c1 x::l):=by
  obtain ⟨⟨i1,c1⟩,H⟩:=H.exOpen
  exact ⟨i1,c1,H⟩
theorem O_pack_Pen_s {w0 w:World} {l:List HP} {b:Nat} {i1:Option Addr} {c1:Nat} {x0:List UInt8}  (H:St w0 w (HP.blk b ([.slice i1 (x0).length c1]) 157::HP.ow rByte 5 i1 c1 x0::l)):St w0 w (O_pack_Pen b x0::l):=by
  unfold O_pack_Pen
  exact St.exShut (i1,c1) H
def O_pack_Pen_1 (b:Nat) (x:T_pack_Pen_o):HP:=HP.ex fun (i:(Option Addr)×Nat)=>[HP.blk b ([.slice i.1 (x).length i.2]) 157,HP.sl rByte i.1 i.2 x]
theorem O_pack_Pen_1_s {w0 w:World} {l:List HP} {b:Nat} {i1:Option Addr} {c1:Nat} {x0:List UInt8}  (H:St w0 w (HP.blk b ([.slice i1 (x0).length c1]) 157::HP.sl rByte i1 c1 x0::l)):St w0 w (O_pack_Pen_1 b x0::l):=by
  unfold O_pack_Pen_1
  exact St.exShut (i1,c1) H
abbrev T_files_file:Type:=Bool×(List UInt8)
abbrev R_files_file:Rp T_files_file:=(rPair rBool (rSl rByte))
theorem rc_files_file {w0 w:World} {l:List HP} {cs:List Value} {x:T_files_file} (H:St w0 w (HP.rc R_files_file cs x::l)):∃ (p2:Option Addr) (c2:Nat),cs=[.bool (x.1),.slice p2 (x.2).length c2]∧St w0 w (HP.sl rByte p2 c2 x.2::l):=by
 obtain ⟨u1,v1,rfl,H⟩:=H.rcPair 0 rfl
 replace H:=H.dp 2 rfl
 obtain rfl:=H.rcBool 0 rfl
 replace H:=H.dp 0 rfl
 obtain ⟨p2,c2,rfl,H⟩:=H.rcSl 0 rfl
 replace H:=H.dp 1 rfl
 exact ⟨p2,c2,rfl,H⟩
abbrev T_api_Op:Type:=Int×(List UInt8)×(List UInt8)×Int×Int×(List UInt8)
abbrev R_api_Op:Rp T_api_Op:=(rPair (rInt .i64) (rPair rStr (rPair rStr (rPair (rInt .i64) (rPair (rInt .i64) (rSl rByte))))))
abbrev T_api_Answer:Type:=Int×Int×(List UInt8)×(List (List UInt8))
abbrev R_api_Answer:Rp T_api_Answer:=(rPair (rInt .i64) (rPair (rInt .i64) (rPair (rSl rByte) (rSl rStr))))
theorem rc_api_Op {w0 w:World} {l:List HP} {cs:List Value} {x:T_api_Op} (H:St w0 w (HP.rc R_api_Op cs x::l)):∃ (p6:Option Addr) (c6:Nat),cs=[.int .i64 (x.1),.string (txb (x.2.1)),.string (txb (x.2.2.1)),.int .i64 (x.2.2.2.1),.int .i64 (x.2.2.2.2.1),.slice p6 (x.2.2.2.2.2).length c6]∧St w0 w (HP.sl rByte p6 c6 x.2.2.2.2.2::l):=by
 obtain ⟨u1,v1,rfl,H⟩:=H.rcPair 0 rfl
 replace H:=H.dp 2 rfl
 obtain rfl:=H.rcI 0 rfl
 replace H:=H.dp 0 rfl
 obtain ⟨u2,v2,rfl,H⟩:=H.rcPair 0 rfl
 replace H:=H.dp 2 rfl
 obtain rfl:=H.rcStr 0 rfl
 replace H:=H.dp 0 rfl
 obtain ⟨u3,v3,rfl,H⟩:=H.rcPair 0 rfl
 replace H:=H.dp 2 rfl
 obtain rfl:=H.rcStr 0 rfl
 replace H:=H.dp 0 rfl
 obtain ⟨u4,v4,rfl,H⟩:=H.rcPair 0 rfl
 replace H:=H.dp 2 rfl
 obtain rfl:=H.rcI 0 rfl
 replace H:=H.dp 0 rfl
 obtain ⟨u5,v5,rfl,H⟩:=H.rcPair 0 rfl
 replace H:=H.dp 2 rfl
 obtain rfl:=H.rcI 0 rfl
 replace H:=H.dp 0 rfl
 obtain ⟨p6,c6,rfl,H⟩:=H.rcSl 0 rfl
 replace H:=H.dp 1 rfl
 exact ⟨p6,c6,rfl,H⟩
theorem rc_api_Pair {w0 w:World} {l:List HP} {cs:List Value} {x:T_api_Pair} (H:St w0 w (HP.rc R_api_Pair cs x::l)):∃ (p2:Option Addr) (c2:Nat) (p3:Option Addr) (c3:Nat),cs=[.slice p2 (x.1).length c2,.slice p3 (x.2).length c3]∧St w0 w (HP.sl rByte p2 c2 x.1::HP.sl rByte p3 c3 x.2::l):=by
 obtain ⟨u1,v1,rfl,H⟩:=H.rcPair 0 rfl
 replace H:=H.dp 2 rfl
 obtain ⟨p2,c2,rfl,H⟩:=H.rcSl 0 rfl
 replace H:=H.dp 1 rfl
 obtain ⟨p3,c3,rfl,H⟩:=H.rcSl 1 rfl
 replace H:=H.dp 2 rfl
 exact ⟨p2,c2,p3,c3,rfl,(H.pm 2 [1,0] rfl:)⟩
theorem rc_api_Answer {w0 w:World} {l:List HP} {cs:List Value} {x:T_api_Answer} (H:St w0 w (HP.rc R_api_Answer cs x::l)):∃ (p4:Option Addr) (c4:Nat) (p5:Option Addr) (c5:Nat),cs=[.int .i64 (x.1),.int .i64 (x.2.1),.slice p4 (x.2.2.1).length c4,.slice p5 (x.2.2.2).length c5]∧St w0 w (HP.sl rByte p4 c4 x.2.2.1::HP.sl rStr p5 c5 x.2.2.2::l):=by
 obtain ⟨u1,v1,rfl,H⟩:=H.rcPair 0 rfl
 replace H:=H.dp 2 rfl
 obtain rfl:=H.rcI 0 rfl
 replace H:=H.dp 0 rfl
 obtain ⟨u2,v2,rfl,H⟩:=H.rcPair 0 rfl
 replace H:=H.dp 2 rfl
 obtain rfl:=H.rcI 0 rfl
 replace H:=H.dp 0 rfl
 obtain ⟨u3,v3,rfl,H⟩:=H.rcPair 0 rfl
 replace H:=H.dp 2 rfl
 obtain ⟨p4,c4,rfl,H⟩:=H.rcSl 0 rfl
 replace H:=H.dp 1 rfl
 obtain ⟨p5,c5,rfl,H⟩:=H.rcSl 1 rfl
 replace H:=H.dp 2 rfl
 exact ⟨p4,c4,p5,c5,rfl,(H.pm 2 [1,0] rfl:)⟩
abbrev T_api_Snap:Type:=(List UInt8)×Int×(List T_api_Pair)
abbrev R_api_Snap:Rp T_api_Snap:=(rPair rStr (rPair (rInt .u64) (rSl R_api_Pair)))
theorem rc_api_Snap {w0 w:World} {l:List HP} {cs:List Value} {x:T_api_Snap} (H:St w0 w (HP.rc R_api_Snap cs x::l)):∃ (p3:Option Addr) (c3:Nat),cs=[.string (txb (x.1)),.int .u64 (x.2.1),.slice p3 (x.2.2).length c3]∧St w0 w (HP.sl R_api_Pair p3 c3 x.2.2::l):=by
 obtain ⟨u1,v1,rfl,H⟩:=H.rcPair 0 rfl
 replace H:=H.dp 2 rfl
 obtain rfl:=H.rcStr 0 rfl
 replace H:=H.dp 0 rfl
 obtain ⟨u2,v2,rfl,H⟩:=H.rcPair 0 rfl
 replace H:=H.dp 2 rfl
 obtain rfl:=H.rcI 0 rfl
 replace H:=H.dp 0 rfl
 obtain ⟨p3,c3,rfl,H⟩:=H.rcSl 0 rfl
 replace H:=H.dp 1 rfl
 exact ⟨p3,c3,rfl,H⟩
abbrev T_api_State:Type:=(List T_api_Pair)×(List T_api_Snap)
abbrev R_api_State:Rp T_api_State:=(rPair (rSl R_api_Pair) (rSl R_api_Snap))
theorem rc_api_State {w0 w:World} {l:List HP} {cs:List Value} {x:T_api_State} (H:St w0 w (HP.rc R_api_State cs x::l)):∃ (p2:Option Addr) (c2:Nat) (p3:Option Addr) (c3:Nat),cs=[.slice p2 (x.1).length c2,.slice p3 (x.2).length c3]∧St w0 w (HP.sl R_api_Pair p2 c2 x.1::HP.sl R_api_Snap p3 c3 x.2::l):=by
 obtain ⟨u1,v1,rfl,H⟩:=H.rcPair 0 rfl
 replace H:=H.dp 2 rfl
 obtain ⟨p2,c2,rfl,H⟩:=H.rcSl 0 rfl
 replace H:=H.dp 1 rfl
 obtain ⟨p3,c3,rfl,H⟩:=H.rcSl 1 rfl
 replace H:=H.dp 2 rfl
 exact ⟨p2,c2,p3,c3,rfl,(H.pm 2 [1,0] rfl:)⟩
abbrev T_api_State_o:Type:=(List T_api_Pair)×(List T_api_Snap)
def O_api_State (b:Nat) (x:T_api_State_o):HP:=HP.ex fun (i:(Option Addr)×Nat×(Option Addr)×Nat)=>[HP.blk b ([.slice i.1 (x.1).length i.2.1,.slice i.2.2.1 (x.2).length i.2.2.2]) 27,HP.sl R_api_Pair i.1 i.2.1 x.1,HP.ow R_api_Snap 41 i.2.2.1 i.2.2.2 x.2]
theorem O_api_State_o {w0 w:World} {l:List HP} {b:Nat} {x:T_api_State_o} (H:St w0 w (O_api_State b x::l)):∃ (i1:Option Addr) (c1:Nat) (i2:Option Addr) (c2:Nat),St w0 w (HP.blk b ([.slice i1 (x.1).length c1,.slice i2 (x.2).length c2]) 27::HP.sl R_api_Pair i1 c1 x.1::HP.ow R_api_Snap 41 i2 c2 x.2::l):=by
  obtain ⟨⟨i1,c1,i2,c2⟩,H⟩:=H.exOpen
  exact ⟨i1,c1,i2,c2,H⟩
theorem O_api_State_s {w0 w:World} {l:List HP} {b:Nat} {i1:Option Addr} {c1:Nat} {i2:Option Addr} {c2:Nat} {x0:List T_api_Pair} {x1:List T_api_Snap}  (H:St w0 w (HP.blk b ([.slice i1 (x0).length c1,.slice i2 (x1).length c2]) 27::HP.sl R_api_Pair i1 c1 (x0)::HP.ow R_api_Snap 41 i2 c2 (x1)::l)):St w0 w (O_api_State b (x0,x1)::l):=by
  unfold O_api_State
  exact St.exShut (i1,c1,i2,c2) H
abbrev T_api_Seat:Type:=Int×Int×T_api_Answer
abbrev R_api_Seat:Rp T_api_Seat:=(rPair (rInt .i64) (rPair (rInt .u64) R_api_Answer))
theorem rc_api_Seat {w0 w:World} {l:List HP} {cs:List Value} {x:T_api_Seat} (H:St w0 w (HP.rc R_api_Seat cs x::l)):∃ (v2:List Value),cs=[Value.int .i64 (x.1),Value.int .u64 (x.2.1)]++(v2)∧St w0 w (HP.rc R_api_Answer v2 x.2.2::l):=by
 obtain ⟨u1,v1,rfl,H⟩:=H.rcPair 0 rfl
 replace H:=H.dp 2 rfl
 obtain rfl:=H.rcI 0 rfl
 replace H:=H.dp 0 rfl
 obtain ⟨u2,v2,rfl,H⟩:=H.rcPair 0 rfl
 replace H:=H.dp 2 rfl
 obtain rfl:=H.rcI 0 rfl
 replace H:=H.dp 0 rfl
 exact ⟨v2,rfl,H⟩
abbrev T_api_Whole:Type:=T_api_State×(List T_api_Seat)
abbrev R_api_Whole:Rp T_api_Whole:=(rPair R_api_State (rSl R_api_Seat))
theorem rc_api_Whole {w0 w:World} {l:List HP} {cs:List Value} {x:T_api_Whole} (H:St w0 w (HP.rc R_api_Whole cs x::l)):∃ (u1:List Value) (p2:Option Addr) (c2:Nat),cs=u1++([Value.slice p2 (x.2).length c2])∧St w0 w (HP.rc R_api_State u1 x.1::HP.sl R_api_Seat p2 c2 x.2::l):=by
 obtain ⟨u1,v1,rfl,H⟩:=H.rcPair 0 rfl
 replace H:=H.dp 2 rfl
 obtain ⟨p2,c2,rfl,H⟩:=H.rcSl 1 rfl
 replace H:=H.dp 2 rfl
 exact ⟨u1,p2,c2,rfl,(H.pm 2 [1,0] rfl:)⟩
abbrev T_api_Call:Type:=Int×Int×T_api_Op
abbrev R_api_Call:Rp T_api_Call:=(rPair (rInt .i64) (rPair (rInt .u64) R_api_Op))
theorem rc_api_Call {w0 w:World} {l:List HP} {cs:List Value} {x:T_api_Call} (H:St w0 w (HP.rc R_api_Call cs x::l)):∃ (v2:List Value),cs=[Value.int .i64 (x.1),Value.int .u64 (x.2.1)]++(v2)∧St w0 w (HP.rc R_api_Op v2 x.2.2::l):=by
 obtain ⟨u1,v1,rfl,H⟩:=H.rcPair 0 rfl
 replace H:=H.dp 2 rfl
 obtain rfl:=H.rcI 0 rfl
 replace H:=H.dp 0 rfl
 obtain ⟨u2,v2,rfl,H⟩:=H.rcPair 0 rfl
 replace H:=H.dp 2 rfl
 obtain rfl:=H.rcI 0 rfl
 replace H:=H.dp 0 rfl
 exact ⟨v2,rfl,H⟩
noncomputable def cutPre (s:List UInt8) (p:List UInt8):Option ((List UInt8)×Bool):=some (Lib.trimPrefix s p,Lib.hasPrefix s p)
noncomputable def genSplit (s:List UInt8) (sep:List UInt8) (sv:Int) (n:Int):Option (List (List UInt8)):=splitO s sep sv n
noncomputable def strJoin (xs:List (List UInt8)) (sep:List UInt8):Option (List UInt8):=joinO xs sep
noncomputable def slIndex (s:List UInt8) (p:List UInt8):Option Int:=indexO s p
noncomputable def m_internal_stringslite_Cut (x0_:List UInt8) (x1_:List UInt8):Option ((List UInt8)×(List UInt8)×Bool) :=
(slIndex x0_ x1_).bind fun x1 =>
if 0≤x1 then ((slcO x0_ 0 x1).bind fun x3 =>
(slcO x0_ (IntKind.i64.wrap (x1+((x1_).length:Int))) ((x0_).length:Int)).bind fun x4 =>
some (x3,x4,true))
 else (some (x0_,[],false))
noncomputable def m_strings_Cut (x0_:List UInt8) (x1_:List UInt8):Option ((List UInt8)×(List UInt8)×Bool) :=
(m_internal_stringslite_Cut x0_ x1_).bind fun x1 =>
some (x1.1,x1.2.1,x1.2.2)
noncomputable def strSplit (s:List UInt8) (sep:List UInt8):Option (List (List UInt8)) :=
(genSplit s sep 0 (-1)).bind fun x2 =>
some x2
noncomputable def m_path_Name (x0_:List UInt8):Option Bool :=
Option.bind (α:=(Unit) ⊕ Bool) (loopO (fun (s38:Int)=>if s38<((x0_).length:Int) then ((idxO x0_ s38).bind fun x40 =>
if ((x40).toNat:Int)<33 then (some (.inr (.inr false)))
 else ((idxO x0_ s38).bind fun x42 =>
if 126<((x42).toNat:Int) then (some (.inr (.inr false)))
 else ((idxO x0_ s38).bind fun x44 =>
if ((x44).toNat:Int)=47 then (some (.inr (.inr false)))
 else (some (.inl (IntKind.i64.wrap (s38+1)))))))
 else (some (.inr (.inl ())))) 0) fun o23=>Sum.elim (fun r23=>if x0_=([]) then (some false)
 else (some (decide (((x0_).length:Int)≤8)))) (fun rv=>some rv) o23
noncomputable def m_path_names_1 (x0_:List UInt8):Option Bool :=
(m_path_Name x0_).bind fun x1 =>
some (!x1)
noncomputable def ixName (s:List (List UInt8)):Option Int :=
Option.bind (α:=(Unit) ⊕ Int) (loopO (fun (s34:Int)=>if s34<((s).length:Int) then ((idxO s s34).bind fun x36 =>
(m_path_names_1 x36).bind fun x39 =>
if x39=true then (some (.inr (.inr s34)))
 else (some (.inl (IntKind.i64.wrap (s34+1)))))
 else (some (.inr (.inl ())))) 0) fun o21=>Sum.elim (fun r21=>some (-1)) (fun rv=>some rv) o21
noncomputable def anyBad (s:List (List UInt8)):Option Bool :=
(ixName s).bind fun x2 =>
some (decide (0≤x2))
noncomputable def pNames (p:List UInt8):Option ((List (List UInt8))×Bool) :=
if p=([47]) then (some (([]:List (List UInt8)),true))
 else ((cutPre p ([47])).bind fun x3 =>
(strSplit x3.1 ([47])).bind fun x4 =>
if (!x3.2)=true then (some (([]:List (List UInt8)),false))
 else (if 24<((p).length:Int) then (some (([]:List (List UInt8)),false))
 else ((anyBad x4).bind fun x8 =>
if x8=true then (some (([]:List (List UInt8)),false))
 else (some (x4,true)))))
noncomputable def m_path_join (x0_:List (List UInt8)):Option (List UInt8) :=
(strJoin x0_ ([47])).bind fun x2 =>
(appO ([47]) x2).bind fun x3 =>
some x3
noncomputable def m_path_Check (x0_:List UInt8):Option Int :=
(pNames x0_).bind fun x1 =>
if (!x1.2)=true then (some 90)
 else (some 0)
noncomputable def m_path_Parent (x0_:List UInt8):Option (List UInt8) :=
(pNames x0_).bind fun x1 =>
if ((x1.1).length:Int)=0 then (some ([]))
 else ((slcO x1.1 0 (IntKind.i64.wrap (((x1.1).length:Int) - 1))).bind fun x5 =>
(m_path_join x5).bind fun x6 =>
some x6)
noncomputable def m_path_Base (x0_:List UInt8):Option (List UInt8) :=
(pNames x0_).bind fun x1 =>
if ((x1.1).length:Int)=0 then (some ([]))
 else ((idxO x1.1 (IntKind.i64.wrap (((x1.1).length:Int) - 1))).bind fun x4 =>
some x4)
noncomputable def m_slices_Equal___string_string_ (x0_:List (List UInt8)) (x1_:List (List UInt8)):Option Bool :=
if ((x0_).length:Int)=((x1_).length:Int) then (Option.bind (α:=(Unit) ⊕ Bool) (loopO (fun (s46:Int)=>if s46<((x0_).length:Int) then ((idxO x0_ s46).bind fun x48 =>
(idxO x1_ s46).bind fun x51 =>
if x48=x51 then (some (.inl (IntKind.i64.wrap (s46+1))))
 else (some (.inr (.inr false))))
 else (some (.inr (.inl ())))) 0) fun o29=>Sum.elim (fun r29=>some true) (fun rv=>some rv) o29)
 else (some false)
noncomputable def m_path_Within (x0_:List UInt8) (x1_:List UInt8):Option Bool :=
(pNames x0_).bind fun x1 =>
(pNames x1_).bind fun x3 =>
if x1.2=true then (if x3.2=true then (if ((x1.1).length:Int)≤((x3.1).length:Int) then ((slcO x3.1 0 ((x1.1).length:Int)).bind fun x9 =>
(m_slices_Equal___string_string_ x1.1 x9).bind fun x10 =>
some x10)
 else (some false))
 else (some false))
 else (some false)
noncomputable def m_path_Ancestors (x0_:List UInt8):Option (List (List UInt8)) :=
(pNames x0_).bind fun x2 =>
Option.bind (α:=((List (List UInt8)))) (loopO (fun (s47:(List (List UInt8))×Int)=>if s47.2<((x2.1).length:Int) then ((slcO x2.1 0 s47.2).bind fun x51 =>
(m_path_join x51).bind fun x52 =>
(appO s47.1 ([x52])).bind fun x55 =>
some (.inl (x55,IntKind.i64.wrap (s47.2+1))))
 else (some (.inr s47.1))) ([],0)) fun r29=>some r29
noncomputable def sortT (xs:List (List UInt8)):Option (List (List UInt8)):=sortTO xs
noncomputable def sortPs (xs:List T_api_Pair):Option (List T_api_Pair):=sortPO xs
noncomputable def cloneB (s:List UInt8):Option (List UInt8) :=
(appO ([]:List UInt8) s).bind fun x5 =>
some x5
noncomputable def penRaw (p:T_pack_Pen_o) (b:List UInt8):Option T_pack_Pen_o :=
(appO p b).bind fun x5 =>
some x5
noncomputable def penUint (p:T_pack_Pen_o) (n:Int) (size:Int):Option (Int×T_pack_Pen_o) :=
if size<1 then (some (1,p))
 else (if 8<size then (some (1,p))
 else (if size<8 then ((shrO .u64 n (IntKind.i64.wrap (8 * size))).bind fun x4 =>
if 0<x4 then (some (1,p))
 else (Option.bind (α:=(T_pack_Pen_o)) (loopO (fun (s48:T_pack_Pen_o×Int)=>if 0≤s48.2 then ((shrO .u64 n (IntKind.i64.wrap (8 * s48.2))).bind fun x52 =>
(u8O (IntKind.u8.wrap (x52))).bind fun x54 =>
(appO s48.1 ([x54])).bind fun x56 =>
some (.inl (x56,IntKind.i64.wrap (s48.2 - 1))))
 else (some (.inr s48.1))) (p,IntKind.i64.wrap (size - 1))) fun r31=>some (0,r31)))
 else (Option.bind (α:=(T_pack_Pen_o)) (loopO (fun (s99:T_pack_Pen_o×Int)=>if 0≤s99.2 then ((shrO .u64 n (IntKind.i64.wrap (8 * s99.2))).bind fun x103 =>
(u8O (IntKind.u8.wrap (x103))).bind fun x105 =>
(appO s99.1 ([x105])).bind fun x107 =>
some (.inl (x107,IntKind.i64.wrap (s99.2 - 1))))
 else (some (.inr s99.1))) (p,IntKind.i64.wrap (size - 1))) fun r82=>some (0,r82))))
noncomputable def penData (p:T_pack_Pen_o):Option ((List UInt8)×T_pack_Pen_o) :=
(cloneB p).bind fun x4 =>
some (x4,p)
noncomputable def sLook (s:(List UInt8)→Option T_files_file) (p:List UInt8):Option (T_files_file×Int) :=
(m_path_Check p).bind fun x4 =>
if x4=0 then ((m_path_Ancestors p).bind fun x6 =>
Option.bind (α:=(Unit) ⊕ (T_files_file×Int)) (loopO (fun (s65:Int)=>if s65<((x6).length:Int) then ((idxO x6 s65).bind fun x67 =>
if (!((s x67).isSome))=true then (some (.inr (.inr ((false,([]:List UInt8)),91))))
 else (if (!(((s x67).getD (false,[])).1))=true then (some (.inr (.inr ((false,([]:List UInt8)),93))))
 else (some (.inl (IntKind.i64.wrap (s65+1))))))
 else (some (.inr (.inl ())))) 0) fun o42=>Sum.elim (fun r42=>if (!((s p).isSome))=true then (some ((false,([]:List UInt8)),91))
 else (some (((s p).getD (false,[])),0))) (fun rv=>some rv) o42)
 else (some ((false,([]:List UInt8)),x4))
noncomputable def sRegular (s:(List UInt8)→Option T_files_file) (p:List UInt8):Option (T_files_file×Int) :=
(sLook s p).bind fun x4 =>
if x4.2=0 then (if x4.1.1=true then (some ((false,([]:List UInt8)),94))
 else (some ((x4.1.1,x4.1.2),x4.2)))
 else (some (x4.1,x4.2))
noncomputable def sRoom (s:(List UInt8)→Option T_files_file) (p:List UInt8):Option Int :=
(m_path_Check p).bind fun x2 =>
if x2=0 then (if p=([47]) then (some 92)
 else ((m_path_Parent p).bind fun x5 =>
(sLook s x5).bind fun x6 =>
if x6.2=0 then (if (!x6.1.1)=true then (some 93)
 else (if ((s p).isSome)=true then (some 92)
 else (some 0)))
 else (some x6.2)))
 else (some x2)
noncomputable def sSound (s:(List UInt8)→Option T_files_file):Option Bool :=
detM s (fun l39=>(foldO (fun (s39:Unit) (x39:(List UInt8)×T_files_file)=>(m_path_Check x39.1).bind fun x47 =>
if x47=0 then (if 192<((x39.2.2).length:Int) then (some (.inr false))
 else (if x39.1=([47]) then (some (.inl ()))
 else ((m_path_Parent x39.1).bind fun x53 =>
if (!(((s x53).getD (false,[])).1))=true then (some (.inr false))
 else (some (.inl ())))))
 else (some (.inr false))) () l39).bind (Sum.elim (fun (s39:Unit)=>some (((s ([47])).getD (false,[])).1)) some))
noncomputable def sized (data:List UInt8) (n:Int):Option (List UInt8) :=
(mkO n (0:UInt8)).bind fun x4 =>
some (putAt x4 0 ((data).take (x4).length))
noncomputable def sWrite (s:(List UInt8)→Option T_files_file) (o:T_api_Op):Option (T_api_Answer×((List UInt8)→Option T_files_file)) :=
(sRegular s o.2.1).bind fun x8 =>
Option.bind (α:=(Int)) (if o.1=3 then (some o.2.2.2.1)
 else (some o.2.2.2.2.1)) fun r12=>Option.bind (α:=(T_files_file×((List UInt8)→Option T_files_file)×(Int×Int))) (Option.bind (α:=(T_files_file×((List UInt8)→Option T_files_file)×(Int×Int))) (if x8.2=0 then (Option.bind (α:=(T_files_file×((List UInt8)→Option T_files_file)×(Int×Int))) (if r12<0 then (some (x8.1,s,(1,0)))
 else (if 192<r12 then (some (x8.1,s,(97,0)))
 else (if o.1=3 then (Option.bind (α:=(T_files_file×((List UInt8)→Option T_files_file)×(Int×Int))) (if 192<(IntKind.i64.wrap (r12+((o.2.2.2.2.2).length:Int))) then (some (x8.1,s,(97,0)))
 else (Option.bind (α:=(T_files_file×((List UInt8)→Option T_files_file)×Int)) (if o.1=4 then ((sized x8.1.2 r12).bind fun x1172 =>
some ((x8.1.1,x8.1.2),fset o.2.1 (false,x1172) s,0))
 else (Option.bind (α:=(T_files_file×((List UInt8)→Option T_files_file))) (if 0<((o.2.2.2.2.2).length:Int) then ((sized x8.1.2 (max ((x8.1.2).length:Int) (IntKind.i64.wrap (r12+((o.2.2.2.2.2).length:Int))))).bind fun x1187 =>
(slcO x1187 r12 ((x1187).length:Int)).bind fun x1190 =>
some ((x8.1.1,x8.1.2),fset o.2.1 (false,(putAt x1187 (r12:Int).toNat ((o.2.2.2.2.2).take (x1190).length))) s))
 else (some (x8.1,s))) fun r1182=>some (r1182.1,r1182.2,((o.2.2.2.2.2).length:Int)))) fun r1167=>some (r1167.1,r1167.2.1,(0,r1167.2.2)))) fun r1141=>some (r1141.1,r1141.2.1,(r1141.2.2.1,r1141.2.2.2)))
 else (Option.bind (α:=(T_files_file×((List UInt8)→Option T_files_file)×Int)) (if o.1=4 then ((sized x8.1.2 r12).bind fun x1220 =>
some ((x8.1.1,x8.1.2),fset o.2.1 (false,x1220) s,0))
 else (Option.bind (α:=(T_files_file×((List UInt8)→Option T_files_file))) (if 0<((o.2.2.2.2.2).length:Int) then ((sized x8.1.2 (max ((x8.1.2).length:Int) (IntKind.i64.wrap (r12+((o.2.2.2.2.2).length:Int))))).bind fun x1235 =>
(slcO x1235 r12 ((x1235).length:Int)).bind fun x1238 =>
some ((x8.1.1,x8.1.2),fset o.2.1 (false,(putAt x1235 (r12:Int).toNat ((o.2.2.2.2.2).take (x1238).length))) s))
 else (some (x8.1,s))) fun r1230=>some (r1230.1,r1230.2,((o.2.2.2.2.2).length:Int)))) fun r1215=>some (r1215.1,r1215.2.1,(0,r1215.2.2)))))) fun r1087=>some (r1087.1,r1087.2.1,(r1087.2.2.1,r1087.2.2.2)))
 else (some (x8.1,s,(x8.2,0)))) fun r933=>some (r933.1,r933.2.1,(r933.2.2.1,r933.2.2.2))) fun r626=>some ((r626.2.2.1,r626.2.2.2,([]:List UInt8),([]:List (List UInt8))),r626.2.1)
noncomputable def sRead (s:(List UInt8)→Option T_files_file) (o:T_api_Op):Option T_api_Answer :=
(sRegular s o.2.1).bind fun x8 =>
Option.bind (α:=(T_files_file×(Int×Int×(List UInt8)))) (Option.bind (α:=(T_files_file×(Int×Int×(List UInt8)))) (if x8.2=0 then (if o.2.2.2.1<0 then (some (x8.1,(1,0,([]:List UInt8))))
 else (Option.bind (α:=(T_files_file×(Int×Int×(List UInt8)))) (if o.2.2.2.2.1<0 then (some (x8.1,(1,0,([]:List UInt8))))
 else ((slcO x8.1.2 (min o.2.2.2.1 ((x8.1.2).length:Int)) ((x8.1.2).length:Int)).bind fun x107 =>
(slcO x107 0 (min (min o.2.2.2.2.1 64) (IntKind.i64.wrap (((x8.1.2).length:Int) - (min o.2.2.2.1 ((x8.1.2).length:Int)))))).bind fun x109 =>
(cloneB x109).bind fun x110 =>
some ((x8.1.1,x8.1.2),(0,((x8.1.2).length:Int),x110)))) fun r100=>some (r100.1,(r100.2.1,r100.2.2.1,r100.2.2.2))))
 else (some (x8.1,(x8.2,0,([]:List UInt8))))) fun r86=>some (r86.1,(r86.2.1,r86.2.2.1,r86.2.2.2))) fun r60=>some (r60.2.1,r60.2.2.1,r60.2.2.2,([]:List (List UInt8)))
noncomputable def sBelow (s:(List UInt8)→Option T_files_file) (p:List UInt8):Option (List (List UInt8)) :=
detM s (fun l76=>(foldO (fun (s76:(List (List UInt8))) (x76:(List UInt8)×T_files_file)=>Option.bind (α:=((List (List UInt8)))) (if x76.1=([47]) then (some s76)
 else ((m_path_Parent x76.1).bind fun x100 =>
Option.bind (α:=((List (List UInt8)))) (if x100=p then ((m_path_Base x76.1).bind fun x109 =>
(appO s76 ([x109])).bind fun x112 =>
some x112)
 else (some s76)) fun r106=>some r106)) fun r96=>some (.inl r96)) ([]) l76).bind (Sum.elim (fun (s76:(List (List UInt8)))=>(sortT s76).bind fun x79 =>
some x79) some))
noncomputable def sRename (s:(List UInt8)→Option T_files_file) (o:T_api_Op):Option (Int×((List UInt8)→Option T_files_file)) :=
(m_path_Check o.2.1).bind fun x6 =>
if x6=0 then ((m_path_Check o.2.2.1).bind fun x8 =>
if x8=0 then ((sLook s o.2.1).bind fun x10 =>
if x10.2=0 then (if o.2.1=([47]) then (some (96,s))
 else ((m_path_Within o.2.1 o.2.2.1).bind fun x15 =>
if x15=true then (some (96,s))
 else ((sRoom s o.2.2.1).bind fun x17 =>
if x17=0 then (detM s (fun l141=>(foldO (fun (s141:((List UInt8)→Option (List UInt8))) (x141:(List UInt8)×T_files_file)=>Option.bind (α:=(((List UInt8)→Option (List UInt8))) ⊕ (Int×((List UInt8)→Option T_files_file))) ((m_path_Within o.2.1 x141.1).bind fun x188 =>
Option.bind (α:=(((List UInt8)→Option (List UInt8))) ⊕ (Int×((List UInt8)→Option T_files_file))) (if x188=true then ((slcO x141.1 ((o.2.1).length:Int) ((x141.1).length:Int)).bind fun x197 =>
(appO o.2.2.1 x197).bind fun x198 =>
if 24<(((((fset x141.1 x198 s141) x141.1).getD [])).length:Int) then (some (.inr (90,s)))
 else (some (.inl (fset x141.1 x198 s141))))
 else (some (.inl s141))) fun o195=>Sum.elim (fun r195=>some (.inl r195)) (fun rv=>some (.inr rv)) o195) fun o186=>Sum.elim (fun r186=>some (.inl r186)) (fun rv=>some (.inr rv)) o186) (fnil:(List UInt8)→Option (List UInt8)) l141).bind (Sum.elim (fun (s141:((List UInt8)→Option (List UInt8)))=>Option.bind (α:=(((List UInt8)→Option T_files_file))) (detM s141 (fun l166=>(foldO (fun (s166:((List UInt8)→Option T_files_file)) (x166:(List UInt8)×(List UInt8))=>some (.inl (fdel x166.1 (fset x166.2 ((s166 x166.1).getD (false,[])) s166)))) s l166).bind (Sum.elim (fun (s166:((List UInt8)→Option T_files_file))=>some s166) some))) fun r157=>some (0,r157)) some)))
 else (some (x17,s)))))
 else (some (x10.2,s)))
 else (some (90,s)))
 else (some (90,s))
noncomputable def sRemove (s:(List UInt8)→Option T_files_file) (p:List UInt8):Option (Int×((List UInt8)→Option T_files_file)) :=
(sLook s p).bind fun x2 =>
if x2.2=0 then (if p=([47]) then (some (96,s))
 else ((sBelow s p).bind fun x7 =>
if 0<((x7).length:Int) then (some (95,s))
 else (some (0,fdel p s))))
 else (some (x2.2,s))
noncomputable def cloneT (s:List (List UInt8)):Option (List (List UInt8)) :=
(appO ([]:List (List UInt8)) s).bind fun x5 =>
some x5
noncomputable def sList (s:(List UInt8)→Option T_files_file) (o:T_api_Op):Option T_api_Answer :=
(sLook s o.2.1).bind fun x8 =>
Option.bind (α:=(T_files_file×(Int×Int×(List (List UInt8))))) (Option.bind (α:=(T_files_file×(Int×Int×(List (List UInt8))))) (if x8.2=0 then (Option.bind (α:=((Int×Int×(List (List UInt8))))) (if (!x8.1.1)=true then (some (93,0,([]:List (List UInt8))))
 else ((sBelow s o.2.1).bind fun x104 =>
(delO x104 o.2.2.1).bind fun x106 =>
(slcO x106 0 (min ((x106).length:Int) 6)).bind fun x109 =>
(cloneT x109).bind fun x110 =>
some (0,((x104).length:Int),x110))) fun r101=>some ((x8.1.1,x8.1.2),(r101.1,r101.2.1,r101.2.2)))
 else (some (x8.1,(x8.2,0,([]:List (List UInt8)))))) fun r86=>some (r86.1,(r86.2.1,r86.2.2.1,r86.2.2.2))) fun r60=>some (r60.2.1,r60.2.2.1,([]:List UInt8),r60.2.2.2)
noncomputable def sStat (s:(List UInt8)→Option T_files_file) (p:List UInt8):Option T_api_Answer :=
(sLook s p).bind fun x4 =>
Option.bind (α:=(T_files_file×(Int×Int×(List UInt8)))) (Option.bind (α:=(T_files_file×(Int×Int×(List UInt8)))) (if x4.2=0 then (Option.bind (α:=((Int×(List UInt8)))) (if x4.1.1=true then ((u8O 100).bind fun x87 =>
(sBelow s p).bind fun x88 =>
some (((x88).length:Int),[x87]))
 else ((u8O 102).bind fun x91 =>
some (((x4.1.2).length:Int),[x91]))) fun r83=>some ((x4.1.1,x4.1.2),(0,r83.1,r83.2)))
 else (some (x4.1,(x4.2,0,([]:List UInt8))))) fun r70=>some (r70.1,(r70.2.1,r70.2.2.1,r70.2.2.2))) fun r48=>some (r48.2.1,r48.2.2.1,r48.2.2.2,([]:List (List UInt8)))
noncomputable def sDo (s:(List UInt8)→Option T_files_file) (o:T_api_Op):Option (T_api_Answer×((List UInt8)→Option T_files_file)) :=
Option.bind (α:=(Int×((List UInt8)→Option T_files_file)) ⊕ (T_api_Answer×((List UInt8)→Option T_files_file))) (Option.bind (α:=(Bool)) (if o.1=1 then (some (decide (o.1=1)))
 else (some (decide (o.1=2)))) fun r384=>Option.bind (α:=(Int×((List UInt8)→Option T_files_file)) ⊕ (T_api_Answer×((List UInt8)→Option T_files_file))) (if r384=true then ((sRoom s o.2.1).bind fun x573 =>
Option.bind (α:=(((List UInt8)→Option T_files_file))) (if x573=0 then (some (fset o.2.1 (decide (o.1=2),([]:List UInt8)) s))
 else (some s)) fun r575=>some (.inl (x573,r575)))
 else (Option.bind (α:=(Bool)) (if o.1=3 then (some (decide (o.1=3)))
 else (some (decide (o.1=4)))) fun r578=>Option.bind (α:=(Int×((List UInt8)→Option T_files_file)) ⊕ (T_api_Answer×((List UInt8)→Option T_files_file))) (if r578=true then ((sWrite s (o.1,o.2.1,o.2.2.1,o.2.2.2.1,o.2.2.2.2.1,o.2.2.2.2.2)).bind fun x670 =>
some (.inr (x670.1,x670.2)))
 else (Option.bind (α:=(Int×((List UInt8)→Option T_files_file)) ⊕ (T_api_Answer×((List UInt8)→Option T_files_file))) (if o.1=5 then ((sRead s (o.1,o.2.1,o.2.2.1,o.2.2.2.1,o.2.2.2.2.1,o.2.2.2.2.2)).bind fun x716 =>
some (.inr (x716,s)))
 else (Option.bind (α:=(Int×((List UInt8)→Option T_files_file)) ⊕ (T_api_Answer×((List UInt8)→Option T_files_file))) (if o.1=6 then ((sRename s (o.1,o.2.1,o.2.2.1,o.2.2.2.1,o.2.2.2.2.1,o.2.2.2.2.2)).bind fun x739 =>
some (.inl (x739.1,x739.2)))
 else (Option.bind (α:=(Int×((List UInt8)→Option T_files_file)) ⊕ (T_api_Answer×((List UInt8)→Option T_files_file))) (if o.1=7 then ((sRemove s o.2.1).bind fun x750 =>
some (.inl (x750.1,x750.2)))
 else (if o.1=8 then ((sList s (o.1,o.2.1,o.2.2.1,o.2.2.2.1,o.2.2.2.2.1,o.2.2.2.2.2)).bind fun x752 =>
some (.inr (x752,s)))
 else (if o.1=9 then ((sStat s o.2.1).bind fun x755 =>
some (.inr (x755,s)))
 else (some (.inl (1,s)))))) fun o748=>Sum.elim (fun r748=>some (.inl (r748.1,r748.2))) (fun rv=>some (.inr rv)) o748)) fun o737=>Sum.elim (fun r737=>some (.inl (r737.1,r737.2))) (fun rv=>some (.inr rv)) o737)) fun o714=>Sum.elim (fun r714=>some (.inl (r714.1,r714.2))) (fun rv=>some (.inr rv)) o714)) fun o668=>Sum.elim (fun r668=>some (.inl (r668.1,r668.2))) (fun rv=>some (.inr rv)) o668)) fun o571=>Sum.elim (fun r571=>some (.inl (r571.1,r571.2))) (fun rv=>some (.inr rv)) o571) fun o382=>Sum.elim (fun r382=>some ((r382.1,0,([]:List UInt8),([]:List (List UInt8))),r382.2)) (fun rv=>some rv) o382
noncomputable def fRead (list:List T_api_Pair):Option ((List UInt8)→Option T_files_file) :=
Option.bind (α:=(((List UInt8)→Option (List UInt8))×((List UInt8)→Option T_files_file))) (loopO (fun (s877:((List UInt8)→Option (List UInt8))×((List UInt8)→Option T_files_file)×Int)=>if s877.2.2<((list).length:Int) then (Option.bind (α:=(((List UInt8)→Option (List UInt8))×((List UInt8)→Option T_files_file))) ((idxO list s877.2.2).bind fun x966 =>
Option.bind (α:=((List UInt8)×(List UInt8))) (if 0<((x966.1).length:Int) then ((slcO x966.1 0 1).bind fun x982 =>
(slcO x966.1 1 ((x966.1).length:Int)).bind fun x984 =>
some (x982,x984))
 else (some ([],[]))) fun r979=>Option.bind (α:=(((List UInt8)→Option (List UInt8))×((List UInt8)→Option T_files_file))) (Option.bind (α:=(((List UInt8)→Option (List UInt8))×((List UInt8)→Option T_files_file))) (if r979.1=([99]) then ((m_strings_Cut r979.2 ([0])).bind fun x1037 =>
(appO ((s877.1 x1037.1).getD []) x966.2).bind fun x1040 =>
some (fset x1037.1 x1040 s877.1,s877.2.1))
 else (Option.bind (α:=(((List UInt8)→Option T_files_file))) (if r979.1=([110]) then (if ((x966.2).length:Int)=1 then ((idxO x966.2 0).bind fun x1049 =>
some (fset r979.2 (decide (((x1049).toNat:Int)=100),([]:List UInt8)) s877.2.1))
 else (some (fset r979.2 (false,([]:List UInt8)) s877.2.1)))
 else (some s877.2.1)) fun r1046=>some (s877.1,r1046))) fun r1035=>some (r1035.1,r1035.2)) fun r1018=>some (r1018.1,r1018.2)) fun r965=>some (.inl (r965.1,r965.2,IntKind.i64.wrap (s877.2.2+1))))
 else (some (.inr (s877.1,s877.2.1)))) ((fnil:(List UInt8)→Option (List UInt8)),(fnil:(List UInt8)→Option T_files_file),0)) fun r528=>detM r528.2 (fun l1109=>(foldO (fun (s1109:((List UInt8)→Option T_files_file)) (x1109:(List UInt8)×T_files_file)=>Option.bind (α:=(((List UInt8)→Option T_files_file))) (Option.bind (α:=(((List UInt8)→Option T_files_file))) (if (!x1109.2.1)=true then (some (fset x1109.1 (false,((r528.1 x1109.1).getD [])) s1109))
 else (some s1109)) fun r1133=>some r1133) fun r1124=>some (.inl r1124)) r528.2 l1109).bind (Sum.elim (fun (s1109:((List UInt8)→Option T_files_file))=>some s1109) some))
noncomputable def sPairs (s:(List UInt8)→Option T_files_file):Option (List T_api_Pair) :=
detM s (fun l733=>(foldO (fun (s733:(List T_api_Pair)) (x733:(List UInt8)×T_files_file)=>Option.bind (α:=((List T_api_Pair))) ((appO ([110]) x733.1).bind fun x923 =>
if x733.2.1=true then ((u8O 100).bind fun x929 =>
(appO s733 ([(x923,[x929])])).bind fun x932 =>
some x932)
 else ((u8O 102).bind fun x935 =>
(penRaw ([]:List UInt8) ([x935])).bind fun x936 =>
(penUint x936 (IntKind.u64.wrap (((x733.2.2).length:Int))) 2).bind fun x937 =>
(penData x937.2).bind fun x938 =>
(appO s733 ([(x923,x938.1)])).bind fun x942 =>
(chunkN 64 (x733.2.2).length).bind fun x945 =>
Option.bind (α:=(Int×(List T_api_Pair)) ⊕ Empty) (foldO (fun (s1047:Int×(List T_api_Pair)) (x1047:List UInt8)=>Option.bind (α:=((List T_api_Pair))) ((appO ([99]) x733.1).bind fun x1074 =>
(u8O 0).bind fun x1077 =>
(u8O (IntKind.u8.wrap (s1047.1))).bind fun x1078 =>
(appO x1074 ([x1077,x1078])).bind fun x1080 =>
(cloneB x1047).bind fun x1081 =>
(appO s1047.2 ([(x1080,x1081)])).bind fun x1085 =>
some x1085) fun r1072=>some (.inl (IntKind.i64.wrap (s1047.1+1),r1072))) (0,x942) (chunkL x945 x733.2.2)) fun o1047=>Sum.elim (fun s1047=>some s1047.2) (fun r1047=>none) o1047)) fun r917=>some (.inl r917)) ([]:List T_api_Pair) l733).bind (Sum.elim (fun (s733:(List T_api_Pair))=>(sortPs s733).bind fun x737 =>
some x737) some))
noncomputable def mClone (s:(List UInt8)→Option T_files_file):Option ((List UInt8)→Option T_files_file):=some s
noncomputable def fDo (files:List T_api_Pair) (o:T_api_Op):Option ((List T_api_Pair)×T_api_Answer) :=
(fRead files).bind fun x7 =>
(mClone x7).bind fun x9 =>
(sDo x7 o).bind fun x11 =>
if x11.1.1=0 then ((sPairs x11.2).bind fun x21 =>
some (x21,(x11.1.1,x11.1.2.1,x11.1.2.2.1,x11.1.2.2.2)))
 else ((sPairs x9).bind fun x19 =>
some (x19,(x11.1.1,x11.1.2.1,x11.1.2.2.1,x11.1.2.2.2)))
noncomputable def bEqual (xs:List UInt8) (ys:List UInt8):Option Bool :=
some (decide (xs=ys))
noncomputable def m_files_same (x0_:T_api_Pair) (x1_:T_api_Pair):Option Bool :=
(bEqual x0_.1 x1_.1).bind fun x13 =>
if x13=true then ((bEqual x0_.2 x1_.2).bind fun x15 =>
some x15)
 else (some false)
noncomputable def eqPairs (xs:List T_api_Pair) (ys:List T_api_Pair):Option Bool :=
if ((xs).length:Int)=((ys).length:Int) then (Option.bind (α:=(Unit) ⊕ Bool) (loopO (fun (s61:Int)=>if s61<((xs).length:Int) then ((idxO xs s61).bind fun x63 =>
(idxO ys s61).bind fun x67 =>
(m_files_same x63 x67).bind fun x71 =>
if (!x71)=true then (some (.inr (.inr false)))
 else (some (.inl (IntKind.i64.wrap (s61+1)))))
 else (some (.inr (.inl ())))) 0) fun o38=>Sum.elim (fun r38=>some true) (fun rv=>some rv) o38)
 else (some false)
noncomputable def fCheck (files:List T_api_Pair):Option Int :=
(fRead files).bind fun x2 =>
(sSound x2).bind fun x4 =>
if (!x4)=true then (some 22)
 else ((sPairs x2).bind fun x6 =>
(eqPairs x6 files).bind fun x8 =>
if (!x8)=true then (some 22)
 else (some 0))
noncomputable def fNew :Option (List T_api_Pair) :=
(sPairs (fset ([47]) (true,([]:List UInt8)) (fnil:(List UInt8)→Option T_files_file))).bind fun x3 =>
some x3
noncomputable def cloneBy (s:List UInt8):Option (List UInt8) :=
(appO ([]:List UInt8) s).bind fun x5 =>
some x5
noncomputable def strCmp0 (a:List UInt8) (b:List UInt8):Option Int:=some (Lib.compareBytes a b)
noncomputable def strCmp (a:List UInt8) (b:List UInt8):Option Int :=
(strCmp0 a b).bind fun x1 =>
some x1
noncomputable def nCompare (a_:T_api_Snap) (b_:T_api_Snap):Option Int :=
(strCmp a_.1 b_.1).bind fun x9 =>
some x9
noncomputable def nPairs (list:List T_api_Pair):Option (List T_api_Pair) :=
Option.bind (α:=((List T_api_Pair))) (loopO (fun (s91:(List T_api_Pair)×Int)=>if s91.2<((list).length:Int) then ((idxO list s91.2).bind fun x94 =>
(cloneBy x94.1).bind fun x102 =>
(cloneBy x94.2).bind fun x104 =>
(appO s91.1 ([(x102,x104)])).bind fun x108 =>
some (.inl (x108,IntKind.i64.wrap (s91.2+1))))
 else (some (.inr s91.1))) ([],0)) fun r55=>some r55
noncomputable def nCopied (s:T_api_State):Option T_api_State :=
(nPairs s.1).bind fun x10 =>
Option.bind (α:=(T_api_State_o)) (loopO (fun (s95:T_api_State_o×Int)=>if s95.2<((s.2).length:Int) then ((idxO s.2 s95.2).bind fun x97 =>
(nPairs x97.2.2).bind fun x103 =>
(appO s95.1.2 ([(x97.1,x97.2.1,x103)])).bind fun x111 =>
some (.inl ((s95.1.1,x111),IntKind.i64.wrap (s95.2+1))))
 else (some (.inr s95.1))) ((x10,([]:List T_api_Snap)),0)) fun r62=>some (r62.1,r62.2)
noncomputable def nNew :Option T_api_State :=
(fNew).bind fun x3 =>
some (x3,([]:List T_api_Snap))
noncomputable def nUnits (s:T_api_State):Option Int :=
Option.bind (α:=(Int)) (loopO (fun (s44:Int×Int)=>if s44.2<((s.2).length:Int) then ((idxO s.2 s44.2).bind fun x46 =>
some (.inl (IntKind.i64.wrap (s44.1+(IntKind.i64.wrap (1+((x46.2.2).length:Int)))),IntKind.i64.wrap (s44.2+1))))
 else (some (.inr s44.1))) (((s.1).length:Int),0)) fun r29=>some r29
noncomputable def nCheck (s:T_api_State):Option Int :=
(fCheck s.1).bind fun x7 =>
if x7=0 then ((nUnits (s.1,s.2)).bind fun x9 =>
Option.bind (α:=(Bool)) (loopO (fun (s92:Bool×Int)=>if s92.2<((s.2).length:Int) then ((idxO s.2 s92.2).bind fun x94 =>
if s92.1=true then (some (.inl (true,IntKind.i64.wrap (s92.2+1))))
 else ((fCheck x94.2.2).bind fun x101 =>
if x101=0 then ((m_path_Name x94.1).bind fun x103 =>
if (!x103)=true then (some (.inl (true,IntKind.i64.wrap (s92.2+1))))
 else (if 0<s92.2 then ((idxO s.2 (IntKind.i64.wrap (s92.2 - 1))).bind fun x106 =>
(nCompare x106 (x94.1,x94.2.1,x94.2.2)).bind fun x108 =>
some (.inl (decide (0≤x108),IntKind.i64.wrap (s92.2+1))))
 else (some (.inl (false,IntKind.i64.wrap (s92.2+1))))))
 else (some (.inl (true,IntKind.i64.wrap (s92.2+1))))))
 else (some (.inr s92.1))) (decide (48<x9),0)) fun r59=>if r59=true then (some 22)
 else (some 0))
 else (Option.bind (α:=(Unit)) (loopO (fun (s137:Int)=>if s137<((s.2).length:Int) then ((idxO s.2 s137).bind fun x139 =>
some (.inl (IntKind.i64.wrap (s137+1))))
 else (some (.inr ()))) 0) fun r126=>some 22)
noncomputable def nList (s:T_api_State) (behind:List UInt8):Option T_api_Answer :=
Option.bind (α:=((List (List UInt8)))) (loopO (fun (s203:(List (List UInt8))×Int)=>if s203.2<((s.2).length:Int) then (Option.bind (α:=((List (List UInt8)))) ((idxO s.2 s203.2).bind fun x225 =>
if (gtrB x225.1 behind)=true then (Option.bind (α:=((List (List UInt8)))) (if ((s203.1).length:Int)<6 then ((appO s203.1 ([x225.1])).bind fun x241 =>
some x241)
 else (some s203.1)) fun r236=>some r236)
 else (some s203.1)) fun r223=>some (.inl (r223,IntKind.i64.wrap (s203.2+1))))
 else (some (.inr s203.1))) (([]:List (List UInt8)),0)) fun r125=>some (0,((s.2).length:Int),([]:List UInt8),r125)
noncomputable def bsSnap (xs:List T_api_Snap) (t_:T_api_Snap):Option (Int×Bool) :=
Option.bind (α:=(Int)) (loopO (fun (s86:Int×Int)=>if s86.1<s86.2 then (Option.bind (α:=(Int×Int)) ((idxO xs (IntKind.i64.wrap (shrI .u64 (IntKind.u64.wrap (IntKind.i64.wrap (s86.1+s86.2))) 1))).bind fun x96 =>
(nCompare x96 t_).bind fun x99 =>
Option.bind (α:=(Int×Int)) (if x99<0 then (some (IntKind.i64.wrap ((IntKind.i64.wrap (shrI .u64 (IntKind.u64.wrap (IntKind.i64.wrap (s86.1+s86.2))) 1))+1),s86.2))
 else (some (s86.1,IntKind.i64.wrap (shrI .u64 (IntKind.u64.wrap (IntKind.i64.wrap (s86.1+s86.2))) 1)))) fun r101=>some (r101.1,r101.2)) fun r95=>some (.inl (r95.1,r95.2)))
 else (some (.inr s86.1))) (0,((xs).length:Int))) fun r53=>if r53<((xs).length:Int) then ((idxO xs r53).bind fun x104 =>
(nCompare x104 t_).bind fun x107 =>
some (r53,decide (x107=0)))
 else (some (r53,false))
noncomputable def insSnap (s:List T_api_Snap) (i_:Int) (v:List T_api_Snap):Option (List T_api_Snap):=insO s i_ v
noncomputable def delSnap (s:List T_api_Snap) (i_:Int) (j_:Int):Option (List T_api_Snap):=cutO s i_ j_
noncomputable def nSnap (s:T_api_State_o) (o:T_api_Op) (gen:Int):Option (Int×T_api_State_o) :=
(m_path_Name o.2.1).bind fun x5 =>
if (!x5)=true then (some (90,s))
 else ((bsSnap s.2 (o.2.1,0,([]:List T_api_Pair))).bind fun x11 =>
Option.bind (α:=(T_api_State_o) ⊕ (Int×T_api_State_o)) (if o.1=10 then (Option.bind (α:=(T_api_State_o) ⊕ (Int×T_api_State_o)) (if x11.2=true then (some (.inr (92,s)))
 else (Option.bind (α:=(T_api_State_o) ⊕ (Int×T_api_State_o)) (if o.1=10 then ((nPairs s.1).bind fun x814 =>
(insSnap s.2 x11.1 ([(o.2.1,gen,x814)])).bind fun x817 =>
some (.inl (s.1,x817)))
 else (Option.bind (α:=(T_api_State_o) ⊕ (Int×T_api_State_o)) (if (!x11.2)=true then (some (.inr (91,s)))
 else (Option.bind (α:=(T_api_State_o)) (if o.1=11 then ((delSnap s.2 x11.1 (IntKind.i64.wrap (x11.1+1))).bind fun x883 =>
some (s.1,x883))
 else ((idxO s.2 x11.1).bind fun x889 =>
(nPairs x889.2.2).bind fun x894 =>
some (x894,s.2))) fun r877=>some (.inl r877))) fun o857=>Sum.elim (fun r857=>some (.inl r857)) (fun rv=>some (.inr rv)) o857)) fun o808=>Sum.elim (fun r808=>some (.inl r808)) (fun rv=>some (.inr rv)) o808)) fun o719=>Sum.elim (fun r719=>some (.inl r719)) (fun rv=>some (.inr rv)) o719)
 else (Option.bind (α:=(T_api_State_o) ⊕ (Int×T_api_State_o)) (if o.1=10 then ((nPairs s.1).bind fun x989 =>
(insSnap s.2 x11.1 ([(o.2.1,gen,x989)])).bind fun x992 =>
some (.inl (s.1,x992)))
 else (Option.bind (α:=(T_api_State_o) ⊕ (Int×T_api_State_o)) (if (!x11.2)=true then (some (.inr (91,s)))
 else (Option.bind (α:=(T_api_State_o)) (if o.1=11 then ((delSnap s.2 x11.1 (IntKind.i64.wrap (x11.1+1))).bind fun x1058 =>
some (s.1,x1058))
 else ((idxO s.2 x11.1).bind fun x1064 =>
(nPairs x1064.2.2).bind fun x1069 =>
some (x1069,s.2))) fun r1052=>some (.inl r1052))) fun o1032=>Sum.elim (fun r1032=>some (.inl r1032)) (fun rv=>some (.inr rv)) o1032)) fun o983=>Sum.elim (fun r983=>some (.inl r983)) (fun rv=>some (.inr rv)) o983)) fun o541=>Sum.elim (fun r541=>some (0,r541)) (fun rv=>some rv) o541)
noncomputable def nDo (s:T_api_State) (o:T_api_Op) (gen:Int):Option (T_api_State×T_api_Answer) :=
(nCopied s).bind fun x9 =>
Option.bind (α:=(T_api_State_o×T_api_Answer×T_api_State)) (Option.bind (α:=(Bool)) (if o.1=10 then (some (decide (o.1=10)))
 else (Option.bind (α:=(Bool)) (if o.1=11 then (some (decide (o.1=11)))
 else (some (decide (o.1=12)))) fun r104=>some r104)) fun r101=>Option.bind (α:=(T_api_State_o×T_api_Answer×T_api_State)) (if r101=true then ((nSnap (x9.1,x9.2) (o.1,o.2.1,o.2.2.1,o.2.2.2.1,o.2.2.2.2.1,o.2.2.2.2.2) gen).bind fun x143 =>
some (x143.2,(x143.1,0,([]:List UInt8),([]:List (List UInt8))),s))
 else (Option.bind (α:=(T_api_State_o×T_api_Answer×T_api_State)) (if o.1=13 then ((nList s o.2.2.1).bind fun x162 =>
some ((x9.1,x9.2),x162,s))
 else ((fDo s.1 (o.1,o.2.1,o.2.2.1,o.2.2.2.1,o.2.2.2.2.1,o.2.2.2.2.2)).bind fun x168 =>
some ((x168.1,(x9.1,x9.2).2),x168.2,(s.1,s.2)))) fun r158=>some (r158.1,r158.2.1,r158.2.2))) fun r139=>some (r139.1,r139.2.1,r139.2.2)) fun r94=>if r94.2.1.1=0 then ((nUnits (r94.1.1,r94.1.2)).bind fun x184 =>
Option.bind (α:=((Int×Int×(List UInt8)×(List (List UInt8))))) (if 48<x184 then (some (98,0,([]:List UInt8),([]:List (List UInt8))))
 else (some (r94.2.1.1,r94.2.1.2.1,r94.2.1.2.2.1,r94.2.1.2.2.2))) fun r186=>if r186.1=0 then (some ((r94.1.1,r94.1.2),(r186.1,r186.2.1,r186.2.2.1,r186.2.2.2)))
 else ((nCopied r94.2.2).bind fun x191 =>
some ((x191.1,x191.2),(r186.1,r186.2.1,r186.2.2.1,r186.2.2.2))))
 else (if r94.2.1.1=0 then (some ((r94.1.1,r94.1.2),(r94.2.1.1,r94.2.1.2.1,r94.2.1.2.2.1,r94.2.1.2.2.2)))
 else ((nCopied r94.2.2).bind fun x203 =>
some ((x203.1,x203.2),(r94.2.1.1,r94.2.1.2.1,r94.2.1.2.2.1,r94.2.1.2.2.2))))
noncomputable def rSamePairs (a_:List T_api_Pair) (b_:List T_api_Pair):Option Bool :=
if ((a_).length:Int)=((b_).length:Int) then (Option.bind (α:=(Unit) ⊕ Bool) (loopO (fun (s151:Int)=>if s151<((a_).length:Int) then ((idxO a_ s151).bind fun x153 =>
(idxO b_ s151).bind fun x160 =>
if x153.1=x160.1 then ((idxO a_ s151).bind fun x168 =>
(idxO b_ s151).bind fun x174 =>
if x168.2=x174.2 then (some (.inl (IntKind.i64.wrap (s151+1))))
 else (some (.inr (.inr false))))
 else (some (.inr (.inr false))))
 else (some (.inr (.inl ())))) 0) fun o92=>Sum.elim (fun r92=>some true) (fun rv=>some rv) o92)
 else (some false)
noncomputable def rGreat (list:List T_api_Pair):Option Bool :=
Option.bind (α:=(Int) ⊕ Bool) (loopO (fun (s149:Int×Int)=>if s149.2<((list).length:Int) then (if s149.1≤8000 then ((idxO list s149.2).bind fun x152 =>
if 8000<((x152.1).length:Int) then (some (.inr (.inr true)))
 else ((idxO list s149.2).bind fun x160 =>
if 8000<((x160.2).length:Int) then (some (.inr (.inr true)))
 else ((idxO list s149.2).bind fun x167 =>
(idxO list s149.2).bind fun x173 =>
some (.inl (IntKind.i64.wrap (s149.1+(IntKind.i64.wrap ((IntKind.i64.wrap (8+((x167.1).length:Int)))+((x173.2).length:Int)))),IntKind.i64.wrap (s149.2+1))))))
 else (some (.inr (.inl s149.1))))
 else (some (.inr (.inl s149.1)))) (0,0)) fun o90=>Sum.elim (fun r90=>some (decide (8000<r90))) (fun rv=>some rv) o90
noncomputable def rGreatOp (o:T_api_Op):Option Bool :=
if 400<((o.2.1).length:Int) then (some true)
 else (if 400<((o.2.2.1).length:Int) then (some true)
 else (some (decide (400<((o.2.2.2.2.2).length:Int)))))
noncomputable def rSameS (a_:T_api_State) (b_:T_api_State):Option Bool :=
(rSamePairs a_.1 b_.1).bind fun x13 =>
if (!x13)=true then (some false)
 else (if ((a_.2).length:Int)=((b_.2).length:Int) then (Option.bind (α:=(Unit) ⊕ Bool) (loopO (fun (s188:Int)=>if s188<((a_.2).length:Int) then (Option.bind (α:=(T_api_Snap×T_api_Snap)) ((idxO a_.2 s188).bind fun x205 =>
(idxO b_.2 s188).bind fun x208 =>
some (x205,x208)) fun r200=>if r200.1.1=r200.2.1 then (if r200.1.2.1=r200.2.2.1 then ((rSamePairs r200.1.2.2 r200.2.2.2).bind fun x221 =>
if (!x221)=true then (some (.inr (.inr false)))
 else (some (.inl (IntKind.i64.wrap (s188+1)))))
 else (some (.inr (.inr false))))
 else (some (.inr (.inr false))))
 else (some (.inr (.inl ())))) 0) fun o119=>Sum.elim (fun r119=>some true) (fun rv=>some rv) o119)
 else (some false))
noncomputable def rGreatS (s:T_api_State):Option Bool :=
(rGreat s.1).bind fun x7 =>
if x7=true then (some true)
 else (if 60<((s.1).length:Int) then (some true)
 else (if 40<((s.2).length:Int) then (some true)
 else (Option.bind (α:=(Unit) ⊕ Bool) (loopO (fun (s103:Int)=>if s103<((s.2).length:Int) then ((idxO s.2 s103).bind fun x105 =>
(rGreat x105.2.2).bind fun x110 =>
if x110=true then (some (.inr (.inr true)))
 else ((idxO s.2 s103).bind fun x112 =>
if 60<((x112.2.2).length:Int) then (some (.inr (.inr true)))
 else ((idxO s.2 s103).bind fun x117 =>
if 50<((x117.1).length:Int) then (some (.inr (.inr true)))
 else (some (.inl (IntKind.i64.wrap (s103+1)))))))
 else (some (.inr (.inl ())))) 0) fun o66=>Sum.elim (fun r66=>some false) (fun rv=>some rv) o66)))
noncomputable def penText (p:T_pack_Pen_o) (b:List UInt8):Option (Int×T_pack_Pen_o) :=
(penUint p (IntKind.u64.wrap (((b).length:Int))) 2).bind fun x2 =>
if x2.1=0 then ((penRaw x2.2 b).bind fun x4 =>
some (0,x4))
 else (some (23,x2.2))
noncomputable def isNaNi (x:Int):Option Bool :=
some (!decide (x=x))
noncomputable def cmpInt (x:Int) (y:Int):Option Int :=
(isNaNi x).bind fun x1 =>
(isNaNi y).bind fun x2 =>
if x1=true then (if x2=true then (some 0)
 else (some (-1)))
 else (if x2=true then (some 1)
 else (if x<y then (some (-1))
 else (if y<x then (some 1)
 else (some 0))))
noncomputable def tCompare (a_:T_api_Seat) (b_:T_api_Seat):Option Int :=
(cmpInt a_.1 b_.1).bind fun x7 =>
some x7
noncomputable def bsSeatO (xs:List T_api_Seat) (t_:T_api_Seat):Option (Int×Bool) :=
Option.bind (α:=(Int)) (loopO (fun (s86:Int×Int)=>if s86.1<s86.2 then (Option.bind (α:=(Int×Int)) ((idxO xs (IntKind.i64.wrap (shrI .u64 (IntKind.u64.wrap (IntKind.i64.wrap (s86.1+s86.2))) 1))).bind fun x96 =>
(tCompare x96 t_).bind fun x99 =>
Option.bind (α:=(Int×Int)) (if x99<0 then (some (IntKind.i64.wrap ((IntKind.i64.wrap (shrI .u64 (IntKind.u64.wrap (IntKind.i64.wrap (s86.1+s86.2))) 1))+1),s86.2))
 else (some (s86.1,IntKind.i64.wrap (shrI .u64 (IntKind.u64.wrap (IntKind.i64.wrap (s86.1+s86.2))) 1)))) fun r101=>some (r101.1,r101.2)) fun r95=>some (.inl (r95.1,r95.2)))
 else (some (.inr s86.1))) (0,((xs).length:Int))) fun r53=>if r53<((xs).length:Int) then ((idxO xs r53).bind fun x104 =>
(tCompare x104 t_).bind fun x107 =>
some (r53,decide (x107=0)))
 else (some (r53,false))
noncomputable def tFindO (seats:List T_api_Seat) (client:Int):Option (Int×Bool) :=
(bsSeatO seats (client,0,(0,0,([]:List UInt8),([]:List (List UInt8))))).bind fun x2 =>
some (x2.1,x2.2)
noncomputable def oShort (n:Int):Option Bool :=
if 0≤n then (some (decide (n≤65535)))
 else (some false)
noncomputable def oWrong (s:List UInt8):Option Bool :=
if s=([]) then (some true)
 else (some (decide (8<((s).length:Int))))
noncomputable def ixWrong (s:List (List UInt8)):Option Int :=
Option.bind (α:=(Unit) ⊕ Int) (loopO (fun (s34:Int)=>if s34<((s).length:Int) then ((idxO s s34).bind fun x36 =>
(oWrong x36).bind fun x39 =>
if x39=true then (some (.inr (.inr s34)))
 else (some (.inl (IntKind.i64.wrap (s34+1)))))
 else (some (.inr (.inl ())))) 0) fun o21=>Sum.elim (fun r21=>some (-1)) (fun rv=>some rv) o21
noncomputable def anyWrong (s:List (List UInt8)):Option Bool :=
(ixWrong s).bind fun x2 =>
some (decide (0≤x2))
noncomputable def oWriteA (a_:T_api_Answer):Option ((List UInt8)×Int) :=
(oShort a_.1).bind fun x8 =>
if (!x8)=true then (some (([]:List UInt8),1))
 else ((oShort a_.2.1).bind fun x10 =>
if (!x10)=true then (some (([]:List UInt8),1))
 else (if 64<((a_.2.2.1).length:Int) then (some (([]:List UInt8),1))
 else (if 6<((a_.2.2.2).length:Int) then (some (([]:List UInt8),1))
 else ((anyWrong a_.2.2.2).bind fun x14 =>
if x14=true then (some (([]:List UInt8),1))
 else ((penUint ([]:List UInt8) (IntKind.u64.wrap (a_.1)) 2).bind fun x17 =>
(penUint x17.2 (IntKind.u64.wrap (a_.2.1)) 2).bind fun x18 =>
(penText x18.2 a_.2.2.1).bind fun x19 =>
(penUint x19.2 (IntKind.u64.wrap (((a_.2.2.2).length:Int))) 1).bind fun x20 =>
Option.bind (α:=(T_pack_Pen_o)) (loopO (fun (s53:T_pack_Pen_o×Int)=>if s53.2<((a_.2.2.2).length:Int) then ((idxO a_.2.2.2 s53.2).bind fun x55 =>
(penText s53.1 x55).bind fun x59 =>
some (.inl (x59.2,IntKind.i64.wrap (s53.2+1))))
 else (some (.inr s53.1))) (x20.2,0)) fun r40=>(penData r40).bind fun x60 =>
some (x60.1,0))))))
noncomputable def insSeat (s:List T_api_Seat) (i_:Int) (v:List T_api_Seat):Option (List T_api_Seat):=insO s i_ v
noncomputable def bsSeat (xs:List T_api_Seat) (t_:T_api_Seat):Option (Int×Bool) :=
Option.bind (α:=(Int)) (loopO (fun (s86:Int×Int)=>if s86.1<s86.2 then (Option.bind (α:=(Int×Int)) ((idxO xs (IntKind.i64.wrap (shrI .u64 (IntKind.u64.wrap (IntKind.i64.wrap (s86.1+s86.2))) 1))).bind fun x96 =>
(tCompare x96 t_).bind fun x99 =>
Option.bind (α:=(Int×Int)) (if x99<0 then (some (IntKind.i64.wrap ((IntKind.i64.wrap (shrI .u64 (IntKind.u64.wrap (IntKind.i64.wrap (s86.1+s86.2))) 1))+1),s86.2))
 else (some (s86.1,IntKind.i64.wrap (shrI .u64 (IntKind.u64.wrap (IntKind.i64.wrap (s86.1+s86.2))) 1)))) fun r101=>some (r101.1,r101.2)) fun r95=>some (.inl (r95.1,r95.2)))
 else (some (.inr s86.1))) (0,((xs).length:Int))) fun r53=>if r53<((xs).length:Int) then ((idxO xs r53).bind fun x104 =>
(tCompare x104 t_).bind fun x107 =>
some (r53,decide (x107=0)))
 else (some (r53,false))
noncomputable def tFind (seats:List T_api_Seat) (client:Int):Option (Int×Bool) :=
(bsSeat seats (client,0,(0,0,([]:List UInt8),([]:List (List UInt8))))).bind fun x2 =>
some (x2.1,x2.2)
noncomputable def tAnswer (a_:T_api_Answer):Option T_api_Answer :=
(cloneBy a_.2.2.1).bind fun x9 =>
(cloneT a_.2.2.2).bind fun x11 =>
some (a_.1,a_.2.1,x9,x11)
noncomputable def tCopied (seats:List T_api_Seat):Option (List T_api_Seat) :=
Option.bind (α:=((List T_api_Seat))) (loopO (fun (s106:(List T_api_Seat)×Int)=>if s106.2<((seats).length:Int) then ((idxO seats s106.2).bind fun x109 =>
(tAnswer (x109.2.2.1,x109.2.2.2.1,x109.2.2.2.2.1,x109.2.2.2.2.2)).bind fun x118 =>
(appO s106.1 ([(x109.1,x109.2.1,(x118.1,x118.2.1,x118.2.2.1,x118.2.2.2))])).bind fun x126 =>
some (.inl (x126,IntKind.i64.wrap (s106.2+1))))
 else (some (.inr s106.1))) ([],0)) fun r64=>some r64
noncomputable def tLook (seats:List T_api_Seat) (client:Int) (number:Int):Option (Int×T_api_Answer) :=
(tFind seats client).bind fun x4 =>
Option.bind (α:=(Int)) (if x4.2=true then ((idxO seats x4.1).bind fun x12 =>
some x12.2.1)
 else (some 0)) fun r10=>if r10<number then (some (0,(0,0,([]:List UInt8),([]:List (List UInt8)))))
 else (if x4.2=true then (if number=r10 then ((idxO seats x4.1).bind fun x19 =>
(tAnswer x19.2.2).bind fun x23 =>
some (1,x23))
 else (some (2,(0,0,([]:List UInt8),([]:List (List UInt8))))))
 else (some (2,(0,0,([]:List UInt8),([]:List (List UInt8))))))
noncomputable def tPut (seats:List T_api_Seat) (s:T_api_Seat):Option (List T_api_Seat) :=
(tCopied seats).bind fun x10 =>
(tAnswer (s.2.2.1,s.2.2.2.1,s.2.2.2.2.1,s.2.2.2.2.2)).bind fun x12 =>
(tFindO x10 s.1).bind fun x18 =>
if x18.2=true then ((idxO x10 x18.1).bind fun x20 =>
some ((x10).set (x18.1:Int).toNat (s.1,s.2.1,(x12.1,x12.2.1,x12.2.2.1,x12.2.2.2))))
 else ((insSeat x10 x18.1 ([(s.1,s.2.1,(x12.1,x12.2.1,x12.2.2.1,x12.2.2.2))])).bind fun x24 =>
some x24)
noncomputable def tNew :Option T_api_Whole :=
(nNew).bind fun x3 =>
some ((x3.1,x3.2),([]:List T_api_Seat))
noncomputable def tValid (client:Int):Option Bool :=
if 0≤client then (some (decide (client<4)))
 else (some false)
noncomputable def tCheck (w_:T_api_Whole):Option Int :=
(nCheck (w_.1.1,w_.1.2)).bind fun x10 =>
Option.bind (α:=(Bool)) (loopO (fun (s118:Bool×Int)=>if s118.2<((w_.2).length:Int) then ((idxO w_.2 s118.2).bind fun x120 =>
(oWriteA (x120.2.2.1,x120.2.2.2.1,x120.2.2.2.2.1,x120.2.2.2.2.2)).bind fun x129 =>
if s118.1=true then (some (.inl (true,IntKind.i64.wrap (s118.2+1))))
 else (if x129.2=0 then ((tValid x120.1).bind fun x133 =>
if (!x133)=true then (some (.inl (true,IntKind.i64.wrap (s118.2+1))))
 else (if x120.2.1=0 then (some (.inl (true,IntKind.i64.wrap (s118.2+1))))
 else (if 0<s118.2 then ((idxO w_.2 (IntKind.i64.wrap (s118.2 - 1))).bind fun x137 =>
(tCompare x137 (x120.1,x120.2.1,(x120.2.2.1,x120.2.2.2.1,x120.2.2.2.2.1,x120.2.2.2.2.2))).bind fun x139 =>
some (.inl (decide (0≤x139),IntKind.i64.wrap (s118.2+1))))
 else (some (.inl (false,IntKind.i64.wrap (s118.2+1)))))))
 else (some (.inl (true,IntKind.i64.wrap (s118.2+1))))))
 else (some (.inr s118.1))) (!decide (x10=0),0)) fun r75=>if r75=true then (some 22)
 else (some 0)
noncomputable def tSame (w_:T_api_Whole):Option T_api_Whole :=
(nDo (w_.1.1,w_.1.2) (0,[],[],0,0,([]:List UInt8)) 0).bind fun x12 =>
(tCopied w_.2).bind fun x25 =>
some ((x12.1.1,x12.1.2),x25)
noncomputable def tDo (w_:T_api_Whole) (c:T_api_Call) (gen:Int):Option (T_api_Whole×T_api_Answer×Int) :=
(tValid c.1).bind fun x19 =>
if (!x19)=true then ((tSame ((w_.1.1,w_.1.2),w_.2)).bind fun x21 =>
some (((x21.1.1,x21.1.2),x21.2),(0,0,([]:List UInt8),([]:List (List UInt8))),2))
 else ((tLook w_.2 c.1 c.2.1).bind fun x30 =>
if x30.1=0 then ((nDo (w_.1.1,w_.1.2) (c.2.2.1,c.2.2.2.1,c.2.2.2.2.1,c.2.2.2.2.2.1,c.2.2.2.2.2.2.1,c.2.2.2.2.2.2.2) gen).bind fun x47 =>
(tPut w_.2 (c.1,c.2.1,(x47.2.1,x47.2.2.1,x47.2.2.2.1,x47.2.2.2.2))).bind fun x59 =>
some (((x47.1.1,x47.1.2),x59),(x47.2.1,x47.2.2.1,x47.2.2.2.1,x47.2.2.2.2),x30.1))
 else ((tSame ((w_.1.1,w_.1.2),w_.2)).bind fun x38 =>
some (((x38.1.1,x38.1.2),x38.2),(x30.2.1,x30.2.2.1,x30.2.2.2.1,x30.2.2.2.2),x30.1)))
noncomputable def rSameT (a_:List (List UInt8)) (b_:List (List UInt8)):Option Bool :=
if ((a_).length:Int)=((b_).length:Int) then (Option.bind (α:=(Unit) ⊕ Bool) (loopO (fun (s46:Int)=>if s46<((a_).length:Int) then ((idxO a_ s46).bind fun x48 =>
(idxO b_ s46).bind fun x51 =>
if x48=x51 then (some (.inl (IntKind.i64.wrap (s46+1))))
 else (some (.inr (.inr false))))
 else (some (.inr (.inl ())))) 0) fun o29=>Sum.elim (fun r29=>some true) (fun rv=>some rv) o29)
 else (some false)
noncomputable def rSameAns (a_:T_api_Answer) (b_:T_api_Answer):Option Bool :=
if a_.1=b_.1 then (if a_.2.1=b_.2.1 then (if a_.2.2.1=b_.2.2.1 then ((rSameT a_.2.2.2 b_.2.2.2).bind fun x16 =>
some x16)
 else (some false))
 else (some false))
 else (some false)
noncomputable def rSameSeats (a_:List T_api_Seat) (b_:List T_api_Seat):Option Bool :=
if ((a_).length:Int)=((b_).length:Int) then (Option.bind (α:=(Unit) ⊕ Bool) (loopO (fun (s131:Int)=>if s131<((a_).length:Int) then ((idxO a_ s131).bind fun x133 =>
(idxO b_ s131).bind fun x137 =>
if x133.1=x137.1 then ((idxO a_ s131).bind fun x142 =>
(idxO b_ s131).bind fun x145 =>
if x142.2.1=x145.2.1 then ((idxO a_ s131).bind fun x149 =>
(idxO b_ s131).bind fun x152 =>
(rSameAns x149.2.2 x152.2.2).bind fun x155 =>
if (!x155)=true then (some (.inr (.inr false)))
 else (some (.inl (IntKind.i64.wrap (s131+1)))))
 else (some (.inr (.inr false))))
 else (some (.inr (.inr false))))
 else (some (.inr (.inl ())))) 0) fun o80=>Sum.elim (fun r80=>some true) (fun rv=>some rv) o80)
 else (some false)
noncomputable def rSameW (a_:T_api_Whole) (b_:T_api_Whole):Option Bool :=
(rSameS (a_.1.1,a_.1.2) (b_.1.1,b_.1.2)).bind fun x19 =>
if x19=true then ((rSameSeats a_.2 b_.2).bind fun x21 =>
some x21)
 else (some false)
noncomputable def rGreatW (w_:T_api_Whole):Option Bool :=
(rGreatS (w_.1.1,w_.1.2)).bind fun x10 =>
if x10=true then (some true)
 else (some (decide (20<((w_.2).length:Int))))
noncomputable def l3Speaks :Option Bool :=
Option.bind (α:=((List UInt8)×(((List T_api_Pair)×(List T_api_Snap))×(List T_api_Seat))×(Int×Int×(List UInt8)×(List (List UInt8)))×Int)) ((tNew).bind fun x204 =>
(tDo x204 (1,5,(1,[47,97],[],0,0,([]:List UInt8))) 1).bind fun x206 =>
some (([]:List UInt8),((x206.1.1.1,x206.1.1.2),x206.1.2),(x206.2.1.1,x206.2.1.2.1,x206.2.1.2.2.1,x206.2.1.2.2.2),x206.2.2)) fun r195=>(tDo ((r195.2.1.1.1,r195.2.1.1.2),r195.2.1.2) (1,5,(1,[47,97],[],0,0,r195.1)) 2).bind fun x397 =>
(tDo ((x397.1.1.1,x397.1.1.2),x397.1.2) (1,4,(1,[47,97],[],0,0,r195.1)) 3).bind fun x412 =>
if r195.2.2.1.1=0 then ((rSameAns (r195.2.2.1.1,r195.2.2.1.2.1,r195.2.2.1.2.2.1,r195.2.2.1.2.2.2) (x397.2.1.1,x397.2.1.2.1,x397.2.1.2.2.1,x397.2.1.2.2.2)).bind fun x429 =>
if x429=true then (if r195.2.2.2=0 then (if x397.2.2=1 then (some (decide (x412.2.2=2)))
 else (some false))
 else (some false))
 else (some false))
 else (some false)
noncomputable def lOnce (script:List T_api_Call):Option Bool :=
(l3Speaks).bind fun x2 =>
if (!x2)=true then (some false)
 else (if 30<((script).length:Int) then (some true)
 else ((tNew).bind fun x5 =>
Option.bind (α:=((((List T_api_Pair)×(List T_api_Snap))×(List T_api_Seat))×(Int→Option Int)) ⊕ Bool) (loopO (fun (s1051:(((List T_api_Pair)×(List T_api_Snap))×(List T_api_Seat))×(Int→Option Int)×Int)=>if s1051.2.2<((script).length:Int) then (Option.bind (α:=((((List T_api_Pair)×(List T_api_Snap))×(List T_api_Seat))×(Int→Option Int)) ⊕ Bool) ((idxO script s1051.2.2).bind fun x1159 =>
(rGreatOp (x1159.2.2.1,x1159.2.2.2.1,x1159.2.2.2.2.1,x1159.2.2.2.2.2.1,x1159.2.2.2.2.2.2.1,x1159.2.2.2.2.2.2.2)).bind fun x1166 =>
if x1166=true then (some (.inr true))
 else ((tDo ((s1051.1.1.1,s1051.1.1.2),s1051.1.2) (x1159.1,x1159.2.1,(x1159.2.2.1,x1159.2.2.2.1,x1159.2.2.2.2.1,x1159.2.2.2.2.2.1,x1159.2.2.2.2.2.2.1,x1159.2.2.2.2.2.2.2)) (IntKind.u64.wrap (s1051.2.2))).bind fun x1168 =>
(tDo ((x1168.1.1.1,x1168.1.1.2),x1168.1.2) (x1159.1,x1159.2.1,(x1159.2.2.1,x1159.2.2.2.1,x1159.2.2.2.2.1,x1159.2.2.2.2.2.1,x1159.2.2.2.2.2.2.1,x1159.2.2.2.2.2.2.2)) (IntKind.u64.wrap (IntKind.i64.wrap (s1051.2.2+1)))).bind fun x1184 =>
if 0≤x1159.1 then (if x1159.1<4 then (if (decide (x1168.2.2=0))=(decide (((s1051.2.1 x1159.1).getD 0)<x1159.2.1)) then (Option.bind (α:=((Int→Option Int)) ⊕ Bool) (if x1168.2.2=0 then (if x1184.2.2=1 then ((rSameAns (x1168.2.1.1,x1168.2.1.2.1,x1168.2.1.2.2.1,x1168.2.1.2.2.2) (x1184.2.1.1,x1184.2.1.2.1,x1184.2.1.2.2.1,x1184.2.1.2.2.2)).bind fun x1214 =>
if (!x1214)=true then (some (.inr false))
 else (some (.inl (fset x1159.1 x1159.2.1 s1051.2.1))))
 else (some (.inr false)))
 else ((rSameW ((x1168.1.1.1,x1168.1.1.2),x1168.1.2) ((s1051.1.1.1,s1051.1.1.2),s1051.1.2)).bind fun x1216 =>
if (!x1216)=true then (some (.inr false))
 else (some (.inl s1051.2.1)))) fun o1211=>Sum.elim (fun r1211=>(rSameW ((x1184.1.1.1,x1184.1.1.2),x1184.1.2) ((x1168.1.1.1,x1168.1.1.2),x1168.1.2)).bind fun x1218 =>
if (!x1218)=true then (some (.inr false))
 else ((tCheck ((x1168.1.1.1,x1168.1.1.2),x1168.1.2)).bind fun x1220 =>
if x1220=0 then (some (.inl (((x1168.1.1.1,x1168.1.1.2),x1168.1.2),r1211)))
 else (some (.inr false)))) (fun rv=>some (.inr rv)) o1211)
 else (some (.inr false)))
 else (if (decide (x1168.2.2=0))=(false) then (Option.bind (α:=((Int→Option Int)) ⊕ Bool) (if x1168.2.2=0 then (if x1184.2.2=1 then ((rSameAns (x1168.2.1.1,x1168.2.1.2.1,x1168.2.1.2.2.1,x1168.2.1.2.2.2) (x1184.2.1.1,x1184.2.1.2.1,x1184.2.1.2.2.1,x1184.2.1.2.2.2)).bind fun x1232 =>
if (!x1232)=true then (some (.inr false))
 else (some (.inl (fset x1159.1 x1159.2.1 s1051.2.1))))
 else (some (.inr false)))
 else ((rSameW ((x1168.1.1.1,x1168.1.1.2),x1168.1.2) ((s1051.1.1.1,s1051.1.1.2),s1051.1.2)).bind fun x1234 =>
if (!x1234)=true then (some (.inr false))
 else (some (.inl s1051.2.1)))) fun o1229=>Sum.elim (fun r1229=>(rSameW ((x1184.1.1.1,x1184.1.1.2),x1184.1.2) ((x1168.1.1.1,x1168.1.1.2),x1168.1.2)).bind fun x1236 =>
if (!x1236)=true then (some (.inr false))
 else ((tCheck ((x1168.1.1.1,x1168.1.1.2),x1168.1.2)).bind fun x1238 =>
if x1238=0 then (some (.inl (((x1168.1.1.1,x1168.1.1.2),x1168.1.2),r1229)))
 else (some (.inr false)))) (fun rv=>some (.inr rv)) o1229)
 else (some (.inr false))))
 else (if (decide (x1168.2.2=0))=(false) then (Option.bind (α:=((Int→Option Int)) ⊕ Bool) (if x1168.2.2=0 then (if x1184.2.2=1 then ((rSameAns (x1168.2.1.1,x1168.2.1.2.1,x1168.2.1.2.2.1,x1168.2.1.2.2.2) (x1184.2.1.1,x1184.2.1.2.1,x1184.2.1.2.2.1,x1184.2.1.2.2.2)).bind fun x1250 =>
if (!x1250)=true then (some (.inr false))
 else (some (.inl (fset x1159.1 x1159.2.1 s1051.2.1))))
 else (some (.inr false)))
 else ((rSameW ((x1168.1.1.1,x1168.1.1.2),x1168.1.2) ((s1051.1.1.1,s1051.1.1.2),s1051.1.2)).bind fun x1252 =>
if (!x1252)=true then (some (.inr false))
 else (some (.inl s1051.2.1)))) fun o1247=>Sum.elim (fun r1247=>(rSameW ((x1184.1.1.1,x1184.1.1.2),x1184.1.2) ((x1168.1.1.1,x1168.1.1.2),x1168.1.2)).bind fun x1254 =>
if (!x1254)=true then (some (.inr false))
 else ((tCheck ((x1168.1.1.1,x1168.1.1.2),x1168.1.2)).bind fun x1256 =>
if x1256=0 then (some (.inl (((x1168.1.1.1,x1168.1.1.2),x1168.1.2),r1247)))
 else (some (.inr false)))) (fun rv=>some (.inr rv)) o1247)
 else (some (.inr false))))) fun o1155=>Sum.elim (fun r1155=>some (.inl (((r1155.1.1.1,r1155.1.1.2),r1155.1.2),r1155.2,IntKind.i64.wrap (s1051.2.2+1)))) (fun rv=>some (.inr (.inr rv))) o1155)
 else (some (.inr (.inl (((s1051.1.1.1,s1051.1.1.2),s1051.1.2),s1051.2.1))))) (((x5.1.1,x5.1.2),x5.2),(fnil:Int→Option Int),0)) fun o635=>Sum.elim (fun r635=>some true) (fun rv=>some rv) o635))
noncomputable def lApart (w_:T_api_Whole) (c:T_api_Call):Option Bool :=
(l3Speaks).bind fun x15 =>
if (!x15)=true then (some false)
 else ((rGreatW ((w_.1.1,w_.1.2),w_.2)).bind fun x17 =>
if x17=true then (some true)
 else ((rGreatOp (c.2.2.1,c.2.2.2.1,c.2.2.2.2.1,c.2.2.2.2.2.1,c.2.2.2.2.2.2.1,c.2.2.2.2.2.2.2)).bind fun x19 =>
if x19=true then (some true)
 else ((tCheck ((w_.1.1,w_.1.2),w_.2)).bind fun x21 =>
if x21=0 then ((tDo ((w_.1.1,w_.1.2),w_.2) (c.1,c.2.1,(c.2.2.1,c.2.2.2.1,c.2.2.2.2.1,c.2.2.2.2.2.1,c.2.2.2.2.2.2.1,c.2.2.2.2.2.2.2)) 9).bind fun x23 =>
Option.bind (α:=(Unit) ⊕ Bool) (loopO (fun (s1171:Int)=>if s1171<4 then (Option.bind (α:=(Unit) ⊕ Bool) (if s1171=c.1 then (some (.inl ()))
 else (Option.bind (α:=(Unit) ⊕ Bool) (loopO (fun (s1379:Int)=>if s1379<30 then ((tLook w_.2 s1171 s1379).bind fun x1381 =>
(tLook x23.1.2 s1171 s1379).bind fun x1388 =>
if x1381.1=x1388.1 then ((rSameAns (x1381.2.1,x1381.2.2.1,x1381.2.2.2.1,x1381.2.2.2.2) (x1388.2.1,x1388.2.2.1,x1388.2.2.2.1,x1388.2.2.2.2)).bind fun x1396 =>
if (!x1396)=true then (some (.inr (.inr false)))
 else (some (.inl (IntKind.u64.wrap (s1379+1)))))
 else (some (.inr (.inr false))))
 else (some (.inr (.inl ())))) 0) fun o1342=>Sum.elim (fun r1342=>some (.inl ())) (fun rv=>some (.inr rv)) o1342)) fun o1285=>Sum.elim (fun r1285=>some (.inl (IntKind.i64.wrap (s1171+1)))) (fun rv=>some (.inr (.inr rv))) o1285)
 else (some (.inr (.inl ())))) 0) fun o718=>Sum.elim (fun r718=>(tCheck ((x23.1.1.1,x23.1.1.2),x23.1.2)).bind fun x1398 =>
some (decide (x1398=0))) (fun rv=>some rv) o718)
 else (some true))))
end Go.Proofs.YtnagibpmfabkjaaGreatDoor
