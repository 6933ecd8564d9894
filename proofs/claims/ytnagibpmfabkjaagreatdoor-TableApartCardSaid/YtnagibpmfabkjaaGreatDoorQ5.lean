/- Texts Oq, Os, StrA, PathA, LibA. -/
import Derived.Test.YtnagibpmfabkjaaGreatDoorQ4
import GoSem.ClaimJoined
import Derived.ChangeMaps5
import Derived.Test.YtnagibpmfabkjaaGreatDoorProg
import Derived.Test.YtnagibpmfabkjaaGreatDoorShelf
import Derived.Test.YtnagibpmfabkjaaGreatDoorQ3
import Derived.Test.YtnagibpmfabkjaaGreatDoorFilL
set_option linter.unusedSimpArgs false
set_option linter.unusedVariables false
namespace Go.Tri
open Go.RowKit Go.ChangeShapes Go.WideShapes Go.ChangeAt Go.Deep
section
variable {α β H:Type} (enc:TypeId×Value→H) (P:Program) (w:World) (base:Nat) (spare:Nat→Bool) (held:Bool)
def OpnW (R:Rp α) (e:TypeId) (p:α→Prop):Prop:=∀ (fuel:Nat) (cs:List Value) (x:DataW H×List MemPlace),DataW.trod enc P w base spare held fuel e cs=some x→(x.1.weights P e).all (·≤reachBytes)=true→∃ y,R.rd (baseOf w) cs y∧p y
end
section
variable {α β H:Type} {enc:TypeId×Value→H} {P:Program} {w:World} {base:Nat} {spare:Nat→Bool} {held:Bool} {R:Rp α} {Q:Rp β} {e t:TypeId} {p:α→Prop} {q:β→Prop}
theorem opnW_any (h:Opn enc P w base spare held R e):OpnW enc P w base spare held R e (fun _=>True):=fun fuel cs x hx _=>by
  obtain ⟨y,hy⟩:=h fuel cs x hx
  exact ⟨y,hy,trivial⟩
theorem opnW_u64 (ht:P.underlying t=some (.int .u64)):OpnW enc P w base spare held (rInt .u64) t (fun n=>0≤n∧n≤18446744073709551615):=fun fuel cs x h _=>by
  obtain ⟨n0,g0,_,w0⟩:=DataW.trod_int ht h
  refine ⟨n0,g0,?_⟩
  simp [Lit.wf,IntKind.min,IntKind.max,IntKind.signed,IntKind.bits] at w0
  omega
theorem all_mem {ns:List Nat} (h:ns.all (·≤reachBytes)=true) {n:Nat} (hn:n∈ns):n≤reachBytes:=by simpa using List.all_eq_true.1 h n hn
theorem weightsAll_mem:∀ {ds:List (DataW H)} {d:DataW H} {n:Nat},d∈ds→n∈d.weights P e→n∈DataW.weightsAll P e ds
  | c::ds,d,n,hd,hn=>by
    unfold DataW.weightsAll
    rcases List.mem_cons.1 hd with rfl | hd
    · exact List.mem_append_left _ hn
    · exact List.mem_append_right _ (weightsAll_mem hd hn)
theorem opnW_slice (hO:OpnW enc P w base spare held R e p) (ht:P.underlying t=some (.slice e)) (hC:P.cellsOf e=R.n) (hs:0<R.n) {fuel:Nat} {cs:List Value} {x:DataW H×List MemPlace} (h:DataW.trod enc P w base spare held fuel t cs=some x) (hw:(x.1.weights P t).all (·≤reachBytes)=true) :
    ∃ a xs cap,cs=[.slice a xs.length cap]∧(∀ (w':World) (S:Nat→Prop),(HP.sl R a cap xs).pr (baseOf w) w' S)∧(∀ x∈xs,p x)∧xs.length * P.bytesOf e≤reachBytes:=by
  rcases DataW.trod_slice ht h with ⟨rfl,rfl⟩ | ⟨a,len,cap,elems,rest,n,_,rfl,rfl,hb,hl,hm,hlen,hel,_,_⟩
  · exact ⟨none,[],0,rfl,fun _ _=>⟨[],trivial,fun w' hw=>.inl ⟨rfl,rfl,rfl⟩⟩,(fun x hx=>absurd hx (by simp)),by simp⟩
  · simp only [DataW.weights,ht] at hw
    have hw0:(elems.map (·.1)).length+(rest.map (·.1)).length=elems.length+rest.length:=by simp
    rw [hw0] at hw
    have hsz:(elems.length+rest.length) * P.bytesOf e≤reachBytes:=all_mem hw List.mem_cons_self
    have hwe:∀ y∈elems,(y.1.weights P e).all (·≤reachBytes)=true:=fun y hy=>List.all_eq_true.2 fun k hk=>by
      have:=all_mem hw (List.mem_cons_of_mem _ (List.mem_append_left _ (weightsAll_mem (List.mem_map_of_mem hy) hk)))
      simpa using this
    obtain ⟨css,hcl,hp⟩:=exists_list (p:=fun i (c:List Value)=>c.length=R.n∧(∃ y,R.rd (baseOf w) c y∧p y)∧∀ j u,c[j]?=some u→w.cell? ((a.add (i * R.n)).add j)=some u) len (fun i hin=>by
      have hi:=hel i hin
      rw [List.getElem?_eq_getElem (by omega:i<elems.length)] at hi
      obtain ⟨cs',hc,ht'⟩:=Option.bind_eq_some_iff.1 hi
      obtain ⟨y,hy,hpy⟩:=hO _ _ _ ht' (hwe _ (List.getElem_mem _))
      obtain ⟨_,hcl,hat⟩:=World.cells?_some hc
      have hln:=R.len hy
      refine ⟨cs',hln,⟨y,hy,hpy⟩,fun j u hj=>?_⟩
      rw [← hC,hat j (by rw [hC,← hln];exact (List.getElem?_eq_some_iff.1 hj).1)];exact hj)
    obtain ⟨xs,hxl,hx⟩:=exists_list (p:=fun i (y:α)=>p y∧∃ c,css[i]?=some c∧R.rd (baseOf w) c y) len (fun i hin=>by
      obtain ⟨c,hc⟩:∃ c,css[i]?=some c:=⟨_,List.getElem?_eq_getElem (by omega)⟩
      obtain ⟨_,⟨y,hy,hpy⟩,_⟩:=hp i c hc
      exact ⟨y,hpy,c,hc,hy⟩)
    have hrdl:RdL R (baseOf w) css xs:=rdl_of (by omega) fun i c y hc hy=>by
      obtain ⟨_,c',h1,h2⟩:=hx i y hy
      rw [hc] at h1
      injection h1 with h1
      rw [h1];exact h2
    have hsl:Sl w (.slice (some a) len cap) len css.flatten:=by
      by_cases h0:len=0
      · obtain rfl:css=[]:=List.length_eq_zero_iff.1 (by omega)
        subst h0
        exact .inr (.inl ⟨a,cap,rfl,rfl,rfl⟩)
      · obtain ⟨c0,hc0⟩:∃ c,css[0]?=some c:=⟨_,List.getElem?_eq_getElem (by omega)⟩
        obtain ⟨hl0,_,hq0⟩:=hp 0 c0 hc0
        obtain ⟨u0,hu0⟩:∃ u,c0[0]?=some u:=⟨_,List.getElem?_eq_getElem (by omega)⟩
        have hcell:=hq0 0 u0 hu0
        rw [Nat.zero_mul] at hcell
        obtain ⟨b,off,spot⟩:=a
        have hspot:spot=none:=by simpa [Addr.add] using World.cell?_spot hcell
        subst hspot
        refine .inr (.inr ⟨b,off,cap,rfl,by omega,?_⟩)
        have:=row_flat (w:=w) (fun c:List Value=>c) (ok:=fun c=>c.length=R.n) (fun c hc=>hc) css off (b:=b) (fun c hc=>by
          obtain ⟨i,hi,rfl⟩:=List.getElem_of_mem hc
          exact (hp i _ (List.getElem?_eq_getElem hi)).1) fun i c hc=>by
          intro j u hj
          have:=(hp i c hc).2.2 j u hj
          rw [add_none,add_none] at this;exact this
        rw [List.flatMap_id'] at this
        exact this
    subst hxl
    refine ⟨some a,xs,cap,rfl,fun _ _=>⟨css,hrdl,fun w' hw'=>sub_sl hw' hsl⟩,fun y hy=>?_,Nat.le_trans (Nat.mul_le_mul_right _ (by omega)) hsz⟩
    obtain ⟨i,hi,rfl⟩:=List.getElem_of_mem hy
    exact (hx i _ (List.getElem?_eq_getElem hi)).1
where
  rdl_of {α:Type} {R:Rp α} {B:Base}:∀ {css:List (List Value)} {xs:List α},css.length=xs.length→(∀ i c y,css[i]?=some c→xs[i]?=some y→R.rd B c y)→RdL R B css xs
    | [],[],_,_=>trivial
    | c::css,x::xs,hl,h=>⟨h 0 c x rfl rfl,rdl_of (by simpa using hl) fun i c' y h1 h2=>h (i+1) c' y (by simpa using h1) (by simpa using h2)⟩
theorem opnW_rSl (hO:OpnW enc P w base spare held R e p) (ht:P.underlying t=some (.slice e)) (hC:P.cellsOf e=R.n) (hs:0<R.n):OpnW enc P w base spare held (rSl R) t (fun xs=>(∀ x∈xs,p x)∧xs.length * P.bytesOf e≤reachBytes):=fun fuel cs x h hw=>by
  obtain ⟨a,xs,cap,e1,e2,e3,e4⟩:=opnW_slice hO ht hC hs h hw
  exact ⟨xs,⟨a,cap,e1,e2 _ _⟩,e3,e4⟩
def OpnFs (enc:TypeId×Value→H) (P:Program) (w:World) (base:Nat) (spare:Nat→Bool) (held:Bool) (R:Rp α) (off:Nat) (fs:List Field) (p:α→Prop):Prop :=
  ∀ (n:Nat) (cs:List Value) (xs:List (DataW H×List MemPlace)),xs.length=fs.length→(∀ (i:Nat) (f:Field),fs[i]?=some f→DataW.trod enc P w base spare held n f.type ((cs.drop f.offset).take (P.cellsOf f.type))=xs[i]?) →
    (DataW.weightsEach P (fs.map (·.type)) (xs.map (·.1))).all (·≤reachBytes)=true→∃ y,R.rd (baseOf w) ((cs.drop off).take R.n) y∧p y
theorem opnFs_one {f:Field} {off:Nat} (hO:OpnW enc P w base spare held R f.type p) (ho:f.offset=off) (hC:P.cellsOf f.type=R.n):OpnFs enc P w base spare held R off [f] p:=fun n cs xs hl hx hw=>by
  match xs,hl with
  | [x],_ =>
    have h:=hx 0 f rfl
    rw [ho,hC] at h
    refine hO _ _ _ h ?_
    simpa [DataW.weightsEach] using hw
theorem opnFs_cons {f:Field} {fs:List Field} {off:Nat} (hO:OpnW enc P w base spare held R f.type p) (ho:f.offset=off) (hC:P.cellsOf f.type=R.n) (hF:OpnFs enc P w base spare held Q (off+R.n) fs q):OpnFs enc P w base spare held (rPair R Q) off (f::fs) (fun y=>p y.1∧q y.2):=fun n cs xs hl hx hw=>by
  match xs,hl with
  | x::xs,hl =>
    have h:=hx 0 f rfl
    rw [ho,hC] at h
    simp only [List.map_cons,DataW.weightsEach,List.all_append,Bool.and_eq_true] at hw
    obtain ⟨y,hy,hpy⟩:=hO _ _ _ h hw.1
    obtain ⟨z,hz,hqz⟩:=hF n cs xs (by simpa using hl) (fun i g hg=>by simpa using hx (i+1) g (by simpa using hg)) hw.2
    refine ⟨(y,z),⟨_,_,?_,hy,hz⟩,hpy,hqz⟩
    show (cs.drop off).take (R.n+Q.n)=_
    rw [List.take_add,List.drop_drop]
theorem opnW_struct {fs:List Field} (ht:P.underlying t=some (.struct fs.toArray)) (hF:OpnFs enc P w base spare held R 0 fs p) (hC:P.cellsOf t=R.n):OpnW enc P w base spare held R t p:=fun fuel cs x h hw=>by
  obtain ⟨xs,n,_,rfl,hl,hxl,hx⟩:=DataW.trod_struct ht h
  simp only [DataW.weights,ht] at hw
  obtain ⟨y,hy,hp⟩:=hF n cs xs (by simpa using hxl) (fun i f hf=>hx i f (by simpa using hf)) (by simpa using hw)
  rw [List.drop_zero,List.take_of_length_le (by omega)] at hy
  exact ⟨y,hy,hp⟩
end
end Go.Tri
set_option linter.unusedSimpArgs false
set_option linter.unusedVariables false
namespace Go.Tri
open Go.RowKit Go.ChangeShapes Go.WideShapes Go.ChangeAt Go.Deep
section
variable {H:Type} {enc:TypeId×Value→H} {P:Program} {w:World} {base:Nat} {spare:Nat→Bool} {held:Bool} {t:TypeId}
theorem opn_str (ht:P.underlying t=some .string):Opn enc P w base spare held rStr t:=fun fuel cs x h=>by
  obtain ⟨s,h1,h2,h3⟩:=DataW.trod_string ht h
  exact ⟨s.data.toList,h1⟩
end
end Go.Tri
set_option linter.unusedSimpArgs false
set_option linter.unusedVariables false
namespace Go.Proofs.YtnagibpmfabkjaaGreatDoor
open Go.RowKit Go.Tri
set_option maxRecDepth 100000
set_option maxHeartbeats 4000000
theorem w_cutPre {s:List UInt8} {p:List UInt8}  {w0 w:World} {l:List HP}  {r:(List UInt8)×Bool} (hm:cutPre s p=some r) (H:St w0 w (l)) :
  Calls Tryz.prog 167 [.string (txb (s)),.string (txb (p))].toArray w (fun e w'=>∃ v,e=.returned v∧v=.tuple [.string (txb (r.1)),.bool (r.2)].toArray∧St w0 w' (l)):=by
 unfold cutPre at hm
 cases hm
 exact (Tryz.strings_CutPrefix (txb s) (txb p) w).mono fun e w' ⟨he,hw⟩=>⟨_,by rw [he,txb_list,txb_list];rfl,rfl,hw▸H⟩
theorem w_genSplit {s:List UInt8} {sep:List UInt8} {sv:Int} {n:Int}  {w0 w:World} {l:List HP}  {r:(List (List UInt8))} (hm:genSplit s sep sv n=some r) (H:St w0 w (l)) :
  Calls Tryz.prog 183 [.string (txb (s)),.string (txb (sep)),.int .i64 (sv),.int .i64 (n)].toArray w (fun e w'=>∃ v,e=.returned v∧∃ (p1:Option Addr) (c1:Nat),v=.slice p1 (r).length c1∧St w0 w' (HP.ow rStr 9 p1 c1 r::l)):=by
 unfold genSplit at hm
 obtain ⟨rfl,rfl,rfl,hl,rfl⟩:=splitO_some hm
 have hsz:(txb s).size<4294967281:=by rw [txb_size];omega
 have hC:Calls Tryz.prog 201 #[.string (txb s),.string ⟨#[47]⟩] w fun e w'=>e=.returned (.int .i64 (Lib.countB (txb s) ⟨#[47]⟩))∧w'=w:=by
   refine (Tryz.strings_Count_one (txb s) 47 w).mono fun e w' ⟨he,hw⟩=>⟨?_,hw⟩
   rw [he]
   show _=Ending.returned (Value.int .i64 ((Lib.count (txb s).data.toList [47]:Nat):Int))
   rw [Lib.count_one]
   rfl
 have hle:=Lib.countB_le (⟨#[47]⟩:ByteArray) (by decide) (txb s).size (txb s) (Nat.le_refl _)
 have c:=Any.strings_genSplit_core Tryz.lays221 (by kernel_rfl) (txb s) ⟨#[47]⟩ 0 (-1) (Lib.countB (txb s) ⟨#[47]⟩+1) w hsz (by decide) (by decide)
   (fun x c hx=>(Tryz.strings_Index_one x 47 _).mono fun e w' ⟨he,hw⟩=>⟨by
     rw [he]
     show _=Ending.returned (Value.int .i64 (Lib.index x.data.toList [47]))
     rw [Lib.index_one],hw⟩) hC (by decide) (by decide) (by rw [if_pos (by decide)];omega)
 have hlen:=Lib.splitB_all (⟨#[47]⟩:ByteArray) (by decide) 0 _ (txb s) rfl
 rw [Nat.add_sub_cancel,hlen] at c
 have hd:=Lib.splitB_data (⟨#[47]⟩:ByteArray) 0 (Lib.countB (txb s) ⟨#[47]⟩) (txb s)
 have e0:(⟨#[47]⟩:ByteArray).data.toList=[47]:=rfl
 rw [e0,txb_list] at hd
 have hcb:Lib.countB (txb s) ⟨#[47]⟩=Lib.count s [47]:=by
   show Lib.count (txb s).data.toList [47]=_
   rw [txb_list]
 rw [hcb] at hd hlen c
 rw [split_sp] at hd
 have hB:Lib.splitB ⟨#[47]⟩ 0 (Lib.count s [47]) (txb s)=(sp s).map txb:=by
   have:((sp s).map txb).map (·.data.toList)=sp s:=by
     rw [List.map_map]
     conv=>rhs;rw [← List.map_id (sp s)]
     exact List.map_congr_left fun x _=>txb_list x
   rw [← hd,List.map_map]
   conv=>lhs;rw [← List.map_id (Lib.splitB ⟨#[47]⟩ 0 (Lib.count s [47]) (txb s))]
   exact List.map_congr_left fun x _=>(txb_data x).symm
 have hn:(sp s).length=Lib.count s [47]+1:=by rw [← hlen,hB,List.length_map]
 have hx:Lib.cellsOf (Lib.splitB ⟨#[47]⟩ 0 (Lib.count s [47]) (txb s)) (Lib.count s [47]+1)=((sp s).map fun x=>Value.string (txb x)).toArray:=by
   rw [← hlen,Lib.cellsOf_full,hB,List.map_map];rfl
 rw [hx] at c
 rw [← hn] at c
 refine c.mono fun e w' ⟨he,hw⟩=>⟨_,he,_,_,rfl,?_⟩
 subst hw
 have hm2:(sp s).length≤maxLen:=by
   have h1:Lib.countB (txb s) ⟨#[47]⟩≤(txb s).size:=hle
   rw [hcb,txb_size] at h1
   unfold maxLen;omega
 exact H.newTexts 9 (sp s) hm2
theorem w_strJoin {xs:List (List UInt8)} {sep:List UInt8} {p1:Option Addr} {c1:Nat} {w0 w:World} {l:List HP}  {r:(List UInt8)} (hm:strJoin xs sep=some r) (H:St w0 w (HP.sl rStr p1 c1 xs::l)) :
  Calls Tryz.prog 170 [.slice p1 (xs).length c1,.string (txb (sep))].toArray w (fun e w'=>∃ v,e=.returned v∧v=.string (txb (r))∧St w0 w' (l)):=by
 unfold strJoin at hm
 obtain ⟨rfl,hx,hj,rfl⟩:=joinO_some hm
 have hsl:Sl w (.slice p1 (xs).length c1) (xs).length (xs.map fun l=>Value.string (txb l)):=by
   obtain ⟨B,S,hs,⟨css,h1,h2⟩,_⟩:=H.get 0 rfl
   have h3:=h2 w hs
   have h4:∀ (css:List (List Value)) (xs:List (List UInt8)),RdL rStr B css xs→css.flatten=xs.map fun l=>Value.string (txb l):=by
     intro css
     induction css with
     | nil=>intro xs h;cases xs with
       | nil=>rfl
       | cons x xs=>exact h.elim
     | cons c css ih=>intro xs h;cases xs with
       | nil=>exact h.elim
       | cons x xs =>
         obtain ⟨e1,e2⟩:=h
         have e1:c=[.string (txb x)]:=e1
         simp [e1,ih xs e2]
   rwa [h4 css xs h1] at h3
 have hcap:=H.slCap 0 rfl
 cases xs with
 | nil=>exact (Tryz.strings_Join_none p1 c1 ⟨#[47]⟩ w).mono fun e w' ⟨he,hw⟩=>⟨_,he,rfl,hw▸H.tail⟩
 | cons x r =>
   obtain ⟨b,off,rfl,hrow⟩:=hsl.rowAt (c:=c1) rfl (by simp)
   have hd:((x::r).map txb).map (·.data.toList)=x::r:=by
     rw [List.map_map]
     conv=>rhs;rw [← List.map_id (x::r)]
     exact List.map_congr_left fun y _=>txb_list y
   have hcells:∀ (j:Nat) y,((x::r).map txb)[j]?=some y→w.cell? ⟨b,off+j,none⟩=some (.string y):=by
     intro j y hy
     refine hrow j _ ?_
     rw [List.getElem?_map] at hy ⊢
     cases hz:(x::r)[j]? with
     | none=>rw [hz] at hy;cases hy
     | some z=>rw [hz] at hy;cases hy;rfl
   have h0:=hcells 0 (txb x) rfl
   have e0:(⟨#[47]⟩:ByteArray).data.toList=[47]:=rfl
   have c:=Tryz.strings_Join b off c1 ((x::r).map txb) ⟨#[47]⟩ w hcells (World.block_lt_of_cell? _ _ h0) (by simp at hx ⊢;omega) (by simpa using hcap) (by rw [hd,e0];unfold jn at hj;omega)
   rw [hd,e0,List.length_map] at c
   exact c.mono fun e w' ⟨he,hw⟩=>⟨_,he,rfl,(H.below hw).tail⟩
theorem w_slIndex {s:List UInt8} {p:List UInt8}  {w0 w:World} {l:List HP}  {r:Int} (hm:slIndex s p=some r) (H:St w0 w (l)) :
  Calls Tryz.prog 162 [.string (txb (s)),.string (txb (p))].toArray w (fun e w'=>∃ v,e=.returned v∧v=.int .i64 (r)∧St w0 w' (l)):=by
 unfold slIndex at hm
 obtain ⟨c,rfl,rfl⟩:=indexO_some hm
 exact (Tryz.stringslite_Index_one (txb s) c w).mono fun e w' ⟨he,hw⟩=>⟨_,by rw [he,txb_list],rfl,hw▸H⟩
theorem ent162:En Tryz.prog 162:=enters Tryz.func162 (by kernel_rfl) rfl
theorem w_m_internal_stringslite_Cut {x0_:List UInt8} {x1_:List UInt8}  {w0 w:World} {l:List HP}  {r:(List UInt8)×(List UInt8)×Bool} (hm:m_internal_stringslite_Cut x0_ x1_=some r) (H:St w0 w (l)) :
  Calls Tryz.prog 139 [.string (txb (x0_)),.string (txb (x1_))].toArray w (fun e w'=>∃ v,e=.returned v∧v=.tuple [.string (txb (r.1)),.string (txb (r.2.1)),.bool (r.2.2)].toArray∧St w0 w' (l)):=by
 unfold m_internal_stringslite_Cut at hm
 refine x_enter Tryz.func139 rfl rfl rfl ?_
 intro a F
 refine sb [0,0,0] F H rfl fun a F=>?_
 refine nl (sq (sb [0,0] F H rfl fun a F=>?_))
 obtain ⟨x1,ex1,hm⟩:=ob hm
 refine sd F rfl ent162 (w_slIndex ex1 H:) ?_;rintro _ w a ⟨rfl,H⟩ F
 refine bb [0] F H rfl fun a F=>?_
 refine nb [0,0] F H rfl fun a F=>?_
 refine nl (cPm F rfl hm (fun hg2 hm=>?_) (fun hg2 hm=>?_))
 refine sq ?_
 obtain ⟨x3,ex3,hm⟩:=ob hm
 obtain ⟨x4,ex4,hm⟩:=ob hm
 refine qr H (by kernel_rfl) (by kernel_rfl) ?_
 refine qb [0,0] F rfl fun a F=>?_
 refine qv F rfl (fun u hu=>y_slTH F rfl Tryz.underlying9 rfl rfl ex3) fun a F=>?_
 refine qb [0,0,0] F rfl fun a F=>?_
 refine qv F rfl (fun u hu=>y_lenT (l:=x1_) F rfl Tryz.underlying9 rfl) fun a F=>?_
 refine qb [0] F rfl fun a F=>?_
 refine qv F rfl (fun u hu=>y_slTL F rfl Tryz.underlying9 rfl rfl ex4) fun a F=>?_
 refine qb [0,0,0] F rfl fun a F=>?_
 refine q_nil fun w H=>?_
 refine ct (wr (tr ?_))
 cases hm
 refine x_ret3 F rfl rfl rfl rfl ?_
 exact ⟨_,rfl,rfl,H⟩
 refine sk (ct (sb [0,0,0,0] F H rfl fun a F=>?_))
 refine nl (wr ?_)
 cases hm
 refine x_ret3 F rfl rfl rfl rfl ?_
 exact ⟨_,rfl,rfl,H⟩
theorem ent139:En Tryz.prog 139:=enters Tryz.func139 (by kernel_rfl) rfl
theorem w_m_strings_Cut {x0_:List UInt8} {x1_:List UInt8}  {w0 w:World} {l:List HP}  {r:(List UInt8)×(List UInt8)×Bool} (hm:m_strings_Cut x0_ x1_=some r) (H:St w0 w (l)) :
  Calls Tryz.prog 112 [.string (txb (x0_)),.string (txb (x1_))].toArray w (fun e w'=>∃ v,e=.returned v∧v=.tuple [.string (txb (r.1)),.string (txb (r.2.1)),.bool (r.2.2)].toArray∧St w0 w' (l)):=by
 unfold m_strings_Cut at hm
 refine x_enter Tryz.func112 rfl rfl rfl ?_
 intro a F
 refine sb [0,0,0] F H rfl fun a F=>?_
 refine nb [0,0] F H rfl fun a F=>?_
 obtain ⟨x1,ex1,hm⟩:=ob hm
 refine sd F rfl ent139 (w_m_internal_stringslite_Cut ex1 H:) ?_;rintro _ w a ⟨rfl,H⟩ F
 refine bb (List.replicate 6 0) F H rfl fun a F=>?_
 refine nl (wr ?_)
 cases hm
 refine x_ret3 F rfl rfl rfl rfl ?_
 exact ⟨_,rfl,rfl,H⟩
theorem ent183:En Tryz.prog 183:=enters Tryz.func183 (by kernel_rfl) rfl
theorem w_strSplit {s:List UInt8} {sep:List UInt8}  {w0 w:World} {l:List HP}  {r:(List (List UInt8))} (hm:strSplit s sep=some r) (H:St w0 w (l)) :
  Calls Tryz.prog 168 [.string (txb (s)),.string (txb (sep))].toArray w (fun e w'=>∃ v,e=.returned v∧∃ (p1:Option Addr) (c1:Nat),v=.slice p1 (r).length c1∧St w0 w' (HP.ow rStr 9 p1 c1 r::l)):=by
 unfold strSplit at hm
 refine x_enter Tryz.func168 rfl rfl rfl ?_
 intro a F
 refine sb [0] F H rfl fun a F=>?_
 refine nb [0,0] F H rfl fun a F=>?_
 obtain ⟨x2,ex2,hm⟩:=ob hm
 refine sd F rfl ent183 (w_genSplit ex2 H:) ?_;rintro _ w a ⟨p3,c3,rfl,H⟩ F
 refine bb [0] F H rfl fun a F=>?_
 replace H:=H.nf 1 rfl
 refine nl (wr ?_)
 cases hm
 refine x_ret1 F rfl rfl ?_
 exact ⟨_,rfl,p3,c3,rfl,H⟩
end Go.Proofs.YtnagibpmfabkjaaGreatDoor
set_option linter.unusedSimpArgs false
set_option linter.unusedVariables false
namespace Go.Proofs.YtnagibpmfabkjaaGreatDoor
open Go.RowKit Go.Tri
set_option maxRecDepth 100000
set_option maxHeartbeats 4000000
theorem w_m_path_Name {x0_:List UInt8}  {w0 w:World} {l:List HP}  {r:Bool} (hm:m_path_Name x0_=some r) (H:St w0 w (l)) :
  Calls Tryz.prog 52 [.string (txb (x0_))].toArray w (fun e w'=>∃ v,e=.returned v∧v=.bool (r)∧St w0 w' (l)):=by
 unfold m_path_Name at hm
 refine x_enter Tryz.func52 rfl rfl rfl ?_
 intro a F
 refine sb [0] F H rfl fun a F=>?_
 refine nl (sq (sb [0] F H rfl fun a F=>?_))
 refine sv F rfl (y_lenT (l:=x0_) F rfl Tryz.underlying9 rfl) fun a F=>?_
 refine bb [0] F H rfl fun a F=>?_
 refine nl (xr0 0 [0] [] F H hm rfl rfl (fun r23 z=>z) (fun r23 z=>z) (fun o23 hm hm23=>?_) (fun r23 a w hm F H=>?_))
 refine bl (xl0 0 [0,5] [] F H hm rfl rfl (fun (s38:Int) z=>(6,.int .i64 (s38))::z) (fun s38 z=>z) ⟨F.sl rfl,H⟩ (fun s38 a w o F H hm=>?_))
 refine sb [0] F H rfl fun a F=>?_
 refine nl (sq (cPm F rfl hm (fun hg39 hm=>?_) (fun hg39 hm=>?_)))
 refine sk (ct (sq (bl (sb [0,0] F H rfl fun a F=>?_))))
 refine nb [0,0] F H rfl fun a F=>?_
 obtain ⟨x40,ex40,hm⟩:=ob hm
 refine sv F rfl (y_idxT F rfl Tryz.underlying9 rfl rfl ex40) fun a F=>?_
 refine bb [0,0] F H rfl fun a F=>?_
 rcases spP 13 F rfl hm with ⟨hg41,hm,F⟩ | ⟨hg41,hm,F⟩
 refine bb (List.replicate 11 0) F H rfl fun a F=>?_
 refine nl (cT F rfl ?_)
 refine sb [0] F H rfl fun a F=>?_
 refine nl (wr (br (tr (tr ?_))));cases hm;refine ⟨_,rfl,?_⟩;rintro rfl
 refine br (tr ?_)
 replace hm:=elimR hm23
 refine tr ?_
 cases hm
 refine x_ret1 F rfl rfl ?_
 exact ⟨_,rfl,rfl,H⟩
 refine bb [0,0] F H rfl fun a F=>?_
 refine g_onP F rfl rfl rfl rfl ?_
 obtain ⟨x42,ex42,hm⟩:=ob hm
 refine sv F rfl (y_idxT F rfl Tryz.underlying9 rfl rfl ex42) fun a F=>?_
 refine bb [0,0,0] F H rfl fun a F=>?_
 rcases spP 19 F rfl hm with ⟨hg43,hm,F⟩ | ⟨hg43,hm,F⟩
 refine bb (List.replicate 5 0) F H rfl fun a F=>?_
 refine nl (cT F rfl ?_)
 refine sb [0] F H rfl fun a F=>?_
 refine nl (wr (br (tr (tr ?_))));cases hm;refine ⟨_,rfl,?_⟩;rintro rfl
 refine br (tr ?_)
 replace hm:=elimR hm23
 refine tr ?_
 cases hm
 refine x_ret1 F rfl rfl ?_
 exact ⟨_,rfl,rfl,H⟩
 refine bb [0,0] F H rfl fun a F=>?_
 refine g_onP F rfl rfl rfl rfl ?_
 obtain ⟨x44,ex44,hm⟩:=ob hm
 refine sv F rfl (y_idxT F rfl Tryz.underlying9 rfl rfl ex44) fun a F=>?_
 refine bb [0,0] F H rfl fun a F=>?_
 refine nl (cPm F rfl hm (fun hg45 hm=>?_) (fun hg45 hm=>?_))
 refine sb [0] F H rfl fun a F=>?_
 refine nl (wr (br (tr (tr ?_))));cases hm;refine ⟨_,rfl,?_⟩;rintro rfl
 refine br (tr ?_)
 replace hm:=elimR hm23
 refine tr ?_
 cases hm
 refine x_ret1 F rfl rfl ?_
 exact ⟨_,rfl,rfl,H⟩
 refine sk (bn (ct (rl (bb [0,0] F H rfl fun a F=>?_))))
 refine lz (ct ?_);cases hm
 exact ⟨_,rfl,⟨F.sl rfl,H⟩⟩
 refine ex (cx (cx ?_));cases hm;refine ⟨_,rfl,?_⟩;rintro rfl
 refine ch (ct ?_)
 exact ⟨_,rfl,F.sl rfl,H⟩
 refine ct (sb [0] F H rfl fun a F=>?_)
 refine sv F rfl (y_neT (l:=x0_) (m:=[]) F rfl rfl rfl) fun a F=>?_
 refine bb [0] F H rfl fun a F=>?_
 rcases spN 28 F rfl hm with ⟨hg46,hm,F⟩ | ⟨hg46,hm,F⟩
 refine bb (List.replicate 5 0) F H rfl fun a F=>?_
 refine nl (wr ?_)
 cases hm
 refine x_ret1 F rfl rfl ?_
 exact ⟨_,rfl,rfl,H⟩
 refine bb [0] F H rfl fun a F=>?_
 refine g_onP F rfl rfl rfl rfl ?_
 refine sv F rfl (y_lenT (l:=x0_) F rfl Tryz.underlying9 rfl) fun a F=>?_
 refine bb [0,0,0] F H rfl fun a F=>?_
 refine nl (wr ?_)
 cases hm
 refine x_ret1 F rfl rfl ?_
 exact ⟨_,rfl,rfl,H⟩
theorem ent52:En Tryz.prog 52:=enters Tryz.func52 (by kernel_rfl) rfl
theorem w_m_path_names_1 {x0_:List UInt8}  {w0 w:World} {l:List HP}  {r:Bool} (hm:m_path_names_1 x0_=some r) (H:St w0 w (l)) :
  Calls Tryz.prog 169 [.string (txb (x0_))].toArray w (fun e w'=>∃ v,e=.returned v∧v=.bool (r)∧St w0 w' (l)):=by
 unfold m_path_names_1 at hm
 refine x_enter Tryz.func169 rfl rfl rfl ?_
 intro a F
 refine sb [0] F H rfl fun a F=>?_
 refine nb [0] F H rfl fun a F=>?_
 obtain ⟨x1,ex1,hm⟩:=ob hm
 refine sd F rfl ent52 (w_m_path_Name ex1 H:) ?_;rintro _ w a ⟨rfl,H⟩ F
 refine bb [0,0] F H rfl fun a F=>?_
 refine nl (wr ?_)
 cases hm
 refine x_ret1 F rfl rfl ?_
 exact ⟨_,rfl,rfl,H⟩
theorem elem33:ElemT Tryz.prog 33 9 1 16 (.string ByteArray.empty):=⟨Tryz.underlying33,by kernel_rfl,by kernel_rfl,by decide⟩
theorem plain9:Plain Tryz.prog 9:=by unfold Plain;rw [Tryz.underlying9];rfl
theorem ent169:En Tryz.prog 169:=enters Tryz.func169 (by kernel_rfl) rfl
theorem w_ixName {s:List (List UInt8)} {p1:Option Addr} {c1:Nat} {w0 w:World} {l:List HP}  {r:Int} (hm:ixName s=some r) (H:St w0 w (HP.sl rStr p1 c1 s::l)) :
  Calls Tryz.prog 132 [.slice p1 (s).length c1,.func (.func 169) #[] #[]].toArray w (fun e w'=>∃ v,e=.returned v∧v=.int .i64 (r)∧St w0 w' (l)):=by
 unfold ixName at hm
 refine x_enter Tryz.func132 rfl rfl rfl ?_
 intro a F
 refine sb [0] F H rfl fun a F=>?_
 refine nl (sq (sr (bk [0,0,0] F H rfl ⟨⟨_,Tryz.underlying33⟩,trivial⟩ fun a F=>?_)))
 refine nl (xr0 1 [] [] F H hm rfl rfl (fun r21 z=>z) (fun r21 z=>z) (fun o21 hm hm21=>?_) (fun r21 a w hm F H=>?_))
 refine bl (xl0 1 [0,1,7] [0] F H hm rfl rfl (fun (s34:Int) z=>(8,.int .i64 (s34))::z) (fun s34 z=>z) ⟨F.sl rfl,H⟩ (fun s34 a w o F H hm=>?_))
 refine sb [0] F H rfl fun a F=>?_
 refine nl (sq (cPm F rfl hm (fun hg35 hm=>?_) (fun hg35 hm=>?_)))
 refine sk (ct (sq (bl (sb [0,0] F H rfl fun a F=>?_))))
 refine nb [0,0,0] F H rfl fun a F=>?_
 obtain ⟨x36,ex36,hm⟩:=ob hm
 obtain ⟨b37,o37,hp37⟩:=H.slP 0 rfl (idxO_some ex36).2
 obtain ⟨cs38,hcl38,H⟩:=H.slEl 0 rfl hp37 (idxO_some ex36).2
 obtain rfl:=H.rcStr 1 rfl
 replace H:=H.dp 1 rfl
 clear hcl38
 refine sv F rfl (y_idxS F elem33 rfl rfl rfl hp37 ex36) fun a F=>?_
 refine bk [0] F H rfl ⟨rfl,plain9,trivial⟩ fun a F=>?_
 obtain ⟨x39,ex39,hm⟩:=ob hm
 refine s_call wkP F rfl rfl rfl rfl (y_callV0 F rfl rfl rfl ent169) (w_m_path_names_1 ex39 H:) ?_;rintro _ w a ⟨rfl,H⟩ F
 replace H:=H.nf 2 rfl
 refine nl (cB F rfl (fun hg40=>?_) (fun hg40=>?_))
 replace hm:=ifT hg40 hm
 refine sb [0,0] F H rfl fun a F=>?_
 refine nl (wr (br (tr (tr ?_))));cases hm;refine ⟨_,rfl,?_⟩;rintro rfl
 refine br (tr ?_)
 replace hm:=elimR hm21
 refine tr ?_
 cases hm
 refine x_ret1 F rfl rfl ?_
 exact ⟨_,rfl,rfl,(H.pm 2 [] rfl:)⟩
 replace hm:=ifF (nT hg40) hm
 refine sk (bn (ct (rl (bb [0,0] F H rfl fun a F=>?_))))
 refine lz (ct ?_);cases hm
 exact ⟨_,rfl,⟨F.sl rfl,(H.pm 2 [1] rfl:)⟩⟩
 refine ex (cx (cx ?_));cases hm;refine ⟨_,rfl,?_⟩;rintro rfl
 refine ch (ct ?_)
 exact ⟨_,rfl,F.cut _ trivial,(H.pm 1 [] rfl:)⟩
 refine ct (sb [0] F H rfl fun a F=>?_)
 refine nl (wr ?_)
 cases hm
 refine x_ret1 F rfl rfl ?_
 exact ⟨_,rfl,rfl,H⟩
theorem ent132:En Tryz.prog 132:=enters Tryz.func132 (by kernel_rfl) rfl
theorem w_anyBad {s:List (List UInt8)} {p1:Option Addr} {c1:Nat} {w0 w:World} {l:List HP}  {r:Bool} (hm:anyBad s=some r) (H:St w0 w (HP.sl rStr p1 c1 s::l)) :
  Calls Tryz.prog 96 [.slice p1 (s).length c1,.func (.func 169) #[] #[]].toArray w (fun e w'=>∃ v,e=.returned v∧v=.bool (r)∧St w0 w' (l)):=by
 unfold anyBad at hm
 refine x_enter Tryz.func96 rfl rfl rfl ?_
 intro a F
 refine sb [0] F H rfl fun a F=>?_
 refine nb [0,0] F H rfl fun a F=>?_
 obtain ⟨x2,ex2,hm⟩:=ob hm
 refine sd F rfl ent132 (w_ixName ex2 (H.pm 1 [0,0] rfl:):) ?_;rintro _ w a ⟨rfl,H⟩ F
 refine bb [0,0] F H rfl fun a F=>?_
 replace H:=H.nf 1 rfl
 refine nl (wr ?_)
 cases hm
 refine x_ret1 F rfl rfl ?_
 exact ⟨_,rfl,rfl,(H.pm 1 [] rfl:)⟩
theorem ent167:En Tryz.prog 167:=enters Tryz.func167 (by kernel_rfl) rfl
theorem ent168:En Tryz.prog 168:=enters Tryz.func168 (by kernel_rfl) rfl
theorem ent96:En Tryz.prog 96:=enters Tryz.func96 (by kernel_rfl) rfl
theorem w_pNames {p:List UInt8}  {w0 w:World} {l:List HP}  {r:(List (List UInt8))×Bool} (hm:pNames p=some r) (H:St w0 w (l)) :
  Calls Tryz.prog 147 [.string (txb (p))].toArray w (fun e w'=>∃ v,e=.returned v∧∃ (p1:Option Addr) (c1:Nat),v=.tuple [.slice p1 (r.1).length c1,.bool (r.2)].toArray∧St w0 w' (HP.sl rStr p1 c1 r.1::l)):=by
 unfold pNames at hm
 refine x_enter Tryz.func147 rfl rfl rfl ?_
 intro a F
 refine sb [0,0] F H rfl fun a F=>?_
 refine nl (sq (sb [0] F H rfl fun a F=>?_))
 refine sv F rfl (y_eqT (l:=p) (m:=[47]) F rfl rfl rfl) fun a F=>?_
 refine nl (cPm F rfl hm (fun hg2 hm=>?_) (fun hg2 hm=>?_))
 refine sb [0,0] F H rfl fun a F=>?_
 refine nl (wr (tr ?_))
 replace H:=H.slNil rStr
 cases hm
 refine x_ret2 F rfl rfl rfl ?_
 exact ⟨_,rfl,none,0,rfl,H⟩
 refine sk (ct (sb [0] F H rfl fun a F=>?_))
 obtain ⟨x3,ex3,hm⟩:=ob hm
 refine sd F rfl ent167 (w_cutPre ex3 H:) ?_;rintro _ w a ⟨rfl,H⟩ F
 refine bb (List.replicate 5 0) F H rfl fun a F=>?_
 refine nb [0] F H rfl fun a F=>?_
 obtain ⟨x4,ex4,hm⟩:=ob hm
 refine sd F rfl ent168 (w_strSplit ex4 H:) ?_;rintro _ w a ⟨p5,c5,rfl,H⟩ F
 refine bb [0] F H rfl fun a F=>?_
 replace H:=H.nf 1 rfl
 refine nl (sq (sb [0,0,0] F H rfl fun a F=>?_))
 by_cases hg6:(!x3.2)=true
 replace hm:=ifT hg6 hm
 replace F:=F.vT 18 hg6 rfl
 refine bb (List.replicate 8 0) F H rfl fun a F=>?_
 refine nl (cT F rfl ?_)
 refine sb [0,0] F H rfl fun a F=>?_
 refine nl (wr (tr ?_))
 replace H:=H.slNil rStr
 cases hm
 refine x_ret2 F rfl rfl rfl ?_
 exact ⟨_,rfl,none,0,rfl,(H.pm 2 [0] rfl:)⟩
 replace hm:=ifF hg6 hm
 replace F:=F.vF 18 hg6 rfl
 refine bb [0] F H rfl fun a F=>?_
 refine g_onP F rfl rfl rfl rfl ?_
 refine sv F rfl (y_lenT (l:=p) F rfl Tryz.underlying9 rfl) fun a F=>?_
 refine bb [0,0,0] F H rfl fun a F=>?_
 rcases spP 23 F rfl hm with ⟨hg7,hm,F⟩ | ⟨hg7,hm,F⟩
 refine bb [0,0,0] F H rfl fun a F=>?_
 refine nl (cT F rfl ?_)
 refine sb [0,0] F H rfl fun a F=>?_
 refine nl (wr (tr ?_))
 replace H:=H.slNil rStr
 cases hm
 refine x_ret2 F rfl rfl rfl ?_
 exact ⟨_,rfl,none,0,rfl,(H.pm 2 [0] rfl:)⟩
 refine bb [0] F H rfl fun a F=>?_
 refine g_onP F rfl rfl rfl rfl ?_
 replace H:=H.frz 0 rfl
 obtain ⟨x8,ex8,hm⟩:=ob hm
 refine sd F rfl ent96 (w_anyBad ex8 (H.pm 1 [0,0] rfl:):) ?_;rintro _ w a ⟨rfl,H⟩ F
 refine bb [0] F H rfl fun a F=>?_
 replace H:=H.nf 1 rfl
 refine nl (cB F rfl (fun hg9=>?_) (fun hg9=>?_))
 replace hm:=ifT hg9 hm
 refine sb [0,0] F H rfl fun a F=>?_
 refine nl (wr (tr ?_))
 replace H:=H.slNil rStr
 cases hm
 refine x_ret2 F rfl rfl rfl ?_
 exact ⟨_,rfl,none,0,rfl,(H.pm 2 [0] rfl:)⟩
 replace hm:=ifF (nT hg9) hm
 refine sk (ct (sb [0,0,0] F H rfl fun a F=>?_))
 refine nl (wr ?_)
 cases hm
 refine x_ret2 F rfl rfl rfl ?_
 exact ⟨_,rfl,p5,c5,rfl,H⟩
theorem ent170:En Tryz.prog 170:=enters Tryz.func170 (by kernel_rfl) rfl
theorem w_m_path_join {x0_:List (List UInt8)} {p1:Option Addr} {c1:Nat} {w0 w:World} {l:List HP}  {r:(List UInt8)} (hm:m_path_join x0_=some r) (H:St w0 w (HP.sl rStr p1 c1 x0_::l)) :
  Calls Tryz.prog 148 [.slice p1 (x0_).length c1].toArray w (fun e w'=>∃ v,e=.returned v∧v=.string (txb (r))∧St w0 w' (l)):=by
 unfold m_path_join at hm
 refine x_enter Tryz.func148 rfl rfl rfl ?_
 intro a F
 refine sb [0] F H rfl fun a F=>?_
 refine nb [0] F H rfl fun a F=>?_
 obtain ⟨x2,ex2,hm⟩:=ob hm
 refine sd F rfl ent170 (w_strJoin ex2 (H.pm 1 [0,0] rfl:):) ?_;rintro _ w a ⟨rfl,H⟩ F
 obtain ⟨x3,ex3,hm⟩:=ob hm
 refine sv F rfl (y_addO F rfl rfl rfl ex3) fun a F=>?_
 refine bb [0] F H rfl fun a F=>?_
 replace H:=H.nf 1 rfl
 refine nl (wr ?_)
 cases hm
 refine x_ret1 F rfl rfl ?_
 exact ⟨_,rfl,rfl,(H.pm 1 [] rfl:)⟩
theorem ent147:En Tryz.prog 147:=enters Tryz.func147 (by kernel_rfl) rfl
theorem w_m_path_Check {x0_:List UInt8}  {w0 w:World} {l:List HP}  {r:Int} (hm:m_path_Check x0_=some r) (H:St w0 w (l)) :
  Calls Tryz.prog 123 [.string (txb (x0_))].toArray w (fun e w'=>∃ v,e=.returned v∧v=.int .i64 (r)∧St w0 w' (l)):=by
 unfold m_path_Check at hm
 refine x_enter Tryz.func123 rfl rfl rfl ?_
 intro a F
 refine sb [0] F H rfl fun a F=>?_
 refine nl (sq (sb [0] F H rfl fun a F=>?_))
 obtain ⟨x1,ex1,hm⟩:=ob hm
 refine sd F rfl ent147 (w_pNames ex1 H:) ?_;rintro _ w a ⟨p2,c2,rfl,H⟩ F
 refine bb (List.replicate 5 0) F H rfl fun a F=>?_
 replace H:=H.nf 1 rfl
 refine nb [0,0] F H rfl fun a F=>?_
 refine nl (cB F rfl (fun hg3=>?_) (fun hg3=>?_))
 replace hm:=ifT hg3 hm
 refine sb [0] F H rfl fun a F=>?_
 refine nl (wr (tr ?_))
 cases hm
 refine x_ret1 F rfl rfl ?_
 exact ⟨_,rfl,rfl,(H.pm 1 [] rfl:)⟩
 replace hm:=ifF (nT hg3) hm
 refine sk (ct (sb [0] F H rfl fun a F=>?_))
 refine nl (wr ?_)
 cases hm
 refine x_ret1 F rfl rfl ?_
 exact ⟨_,rfl,rfl,(H.pm 1 [] rfl:)⟩
theorem ent148:En Tryz.prog 148:=enters Tryz.func148 (by kernel_rfl) rfl
theorem w_m_path_Parent {x0_:List UInt8}  {w0 w:World} {l:List HP}  {r:(List UInt8)} (hm:m_path_Parent x0_=some r) (H:St w0 w (l)) :
  Calls Tryz.prog 124 [.string (txb (x0_))].toArray w (fun e w'=>∃ v,e=.returned v∧v=.string (txb (r))∧St w0 w' (l)):=by
 unfold m_path_Parent at hm
 refine x_enter Tryz.func124 rfl rfl rfl ?_
 intro a F
 refine sb [0] F H rfl fun a F=>?_
 refine nb [0] F H rfl fun a F=>?_
 obtain ⟨x1,ex1,hm⟩:=ob hm
 refine sd F rfl ent147 (w_pNames ex1 H:) ?_;rintro _ w a ⟨p2,c2,rfl,H⟩ F
 refine bb (List.replicate 5 0) F H rfl fun a F=>?_
 replace H:=H.nf 1 rfl
 refine nl (sq (sr (bk [0,0,0] F H rfl ⟨⟨_,Tryz.underlying33⟩,trivial⟩ fun a F=>?_)))
 refine nl (cPm F rfl hm (fun hg3 hm=>?_) (fun hg3 hm=>?_))
 refine sb [0] F H rfl fun a F=>?_
 refine nl (wr (tr ?_))
 cases hm
 refine x_ret1 F rfl rfl ?_
 exact ⟨_,rfl,rfl,(H.pm 1 [] rfl:)⟩
 refine sk (ct (sr (bk [0,0,0,0] F H rfl ⟨⟨_,Tryz.underlying33⟩,trivial⟩ fun a F=>?_)))
 obtain ⟨x5,ex5,hm⟩:=ob hm
 have hc4:=H.slCap 0 rfl
 replace H:=H.slSubN 1 rfl 0 rfl ex5
 refine sv F rfl (y_slH F elem33 rfl rfl rfl ex5 hc4) fun a F=>?_
 obtain ⟨x6,ex6,hm⟩:=ob hm
 refine sd F rfl ent148 (w_m_path_join ex6 (H.pm 2 [0,0,1] rfl:):) ?_;rintro _ w a ⟨rfl,H⟩ F
 refine bb [0] F H rfl fun a F=>?_
 replace H:=H.nf 2 rfl
 refine nl (wr ?_)
 cases hm
 refine x_ret1 F rfl rfl ?_
 exact ⟨_,rfl,rfl,(H.pm 2 [] rfl:)⟩
theorem w_m_path_Base {x0_:List UInt8}  {w0 w:World} {l:List HP}  {r:(List UInt8)} (hm:m_path_Base x0_=some r) (H:St w0 w (l)) :
  Calls Tryz.prog 165 [.string (txb (x0_))].toArray w (fun e w'=>∃ v,e=.returned v∧v=.string (txb (r))∧St w0 w' (l)):=by
 unfold m_path_Base at hm
 refine x_enter Tryz.func165 rfl rfl rfl ?_
 intro a F
 refine sb [0] F H rfl fun a F=>?_
 refine nb [0] F H rfl fun a F=>?_
 obtain ⟨x1,ex1,hm⟩:=ob hm
 refine sd F rfl ent147 (w_pNames ex1 H:) ?_;rintro _ w a ⟨p2,c2,rfl,H⟩ F
 refine bb (List.replicate 5 0) F H rfl fun a F=>?_
 replace H:=H.nf 1 rfl
 refine nl (sq (sr (bk [0,0,0] F H rfl ⟨⟨_,Tryz.underlying33⟩,trivial⟩ fun a F=>?_)))
 refine nl (cPm F rfl hm (fun hg3 hm=>?_) (fun hg3 hm=>?_))
 refine sb [0] F H rfl fun a F=>?_
 refine nl (wr (tr ?_))
 cases hm
 refine x_ret1 F rfl rfl ?_
 exact ⟨_,rfl,rfl,(H.pm 1 [] rfl:)⟩
 refine sk (ct (sr (bk [0,0,0,0] F H rfl ⟨⟨_,Tryz.underlying33⟩,trivial⟩ fun a F=>?_)))
 obtain ⟨x4,ex4,hm⟩:=ob hm
 obtain ⟨b5,o5,hp5⟩:=H.slP 0 rfl (idxO_some ex4).2
 obtain ⟨cs6,hcl6,H⟩:=H.slEl 0 rfl hp5 (idxO_some ex4).2
 obtain rfl:=H.rcStr 1 rfl
 replace H:=H.dp 1 rfl
 clear hcl6
 refine sv F rfl (y_idxS F elem33 rfl rfl rfl hp5 ex4) fun a F=>?_
 refine bk [0,0] F H rfl ⟨rfl,plain9,trivial⟩ fun a F=>?_
 refine nl (wr ?_)
 cases hm
 refine x_ret1 F rfl rfl ?_
 exact ⟨_,rfl,rfl,(H.pm 2 [] rfl:)⟩
theorem w_m_slices_Equal___string_string_ {x0_:List (List UInt8)} {x1_:List (List UInt8)} {p1:Option Addr} {c1:Nat} {p2:Option Addr} {c2:Nat} {w0 w:World} {l:List HP}  {r:Bool} (hm:m_slices_Equal___string_string_ x0_ x1_=some r) (H:St w0 w (HP.sl rStr p1 c1 x0_::HP.sl rStr p2 c2 x1_::l)) :
  Calls Tryz.prog 164 [.slice p1 (x0_).length c1,.slice p2 (x1_).length c2].toArray w (fun e w'=>∃ v,e=.returned v∧v=.bool (r)∧St w0 w' (l)):=by
 unfold m_slices_Equal___string_string_ at hm
 refine x_enter Tryz.func164 rfl rfl rfl ?_
 intro a F
 refine sb [0] F H rfl fun a F=>?_
 refine nl (sq (sr (bk (List.replicate 5 0) F H rfl ⟨⟨_,Tryz.underlying33⟩,⟨_,Tryz.underlying33⟩,trivial⟩ fun a F=>?_)))
 refine nl (cNm F rfl hm (fun hg3 hm=>?_) (fun hg3 hm=>?_))
 refine sb [0] F H rfl fun a F=>?_
 refine nl (wr (tr ?_))
 cases hm
 refine x_ret1 F rfl rfl ?_
 exact ⟨_,rfl,rfl,(H.pm 2 [] rfl:)⟩
 refine sk (ct (sq (sr (bk [0,0,0] F H rfl ⟨⟨_,Tryz.underlying33⟩,trivial⟩ fun a F=>?_))))
 refine nl (xr0 2 [] [] F H hm rfl rfl (fun r29 z=>z) (fun r29 z=>z) (fun o29 hm hm29=>?_) (fun r29 a w hm F H=>?_))
 refine bl (xl0 2 [0,1,12] [0,1] F H hm rfl rfl (fun (s46:Int) z=>(13,.int .i64 (s46))::z) (fun s46 z=>z) ⟨F.sl rfl,H⟩ (fun s46 a w o F H hm=>?_))
 refine sb [0] F H rfl fun a F=>?_
 refine nl (sq (cPm F rfl hm (fun hg47 hm=>?_) (fun hg47 hm=>?_)))
 refine sk (ct (sq (bl (sb [0,0] F H rfl fun a F=>?_))))
 refine nl (sq ?_)
 obtain ⟨x48,ex48,hm⟩:=ob hm
 obtain ⟨b49,o49,hp49⟩:=H.slP 0 rfl (idxO_some ex48).2
 obtain ⟨cs50,hcl50,H⟩:=H.slEl 0 rfl hp49 (idxO_some ex48).2
 obtain rfl:=H.rcStr 1 rfl
 replace H:=H.dp 1 rfl
 clear hcl50
 obtain ⟨x51,ex51,hm⟩:=ob hm
 obtain ⟨b52,o52,hp52⟩:=H.slP 2 rfl (idxO_some ex51).2
 obtain ⟨cs53,hcl53,H⟩:=H.slEl 2 rfl hp52 (idxO_some ex51).2
 obtain rfl:=H.rcStr 1 rfl
 replace H:=H.dp 1 rfl
 clear hcl53
 refine qr H (by kernel_rfl) (by kernel_rfl) ?_
 refine qb [0,0] F rfl fun a F=>?_
 refine qv F rfl (fun u hu=>y_idxS F elem33 rfl rfl rfl hp49 ex48) fun a F=>?_
 refine qbk [1000,0,0] F rfl ⟨rfl,plain9,trivial⟩ fun a F=>?_
 refine qv F rfl (fun u hu=>y_idxS F elem33 rfl rfl rfl hp52 ex51) fun a F=>?_
 refine qbk [0] F rfl ⟨rfl,plain9,trivial⟩ fun a F=>?_
 refine qv F rfl (fun u hu=>y_neT (l:=x48) (m:=x51) F rfl rfl rfl) fun a F=>?_
 refine q_nil fun w H=>?_
 refine ct (cNm F rfl hm (fun hg54 hm=>?_) (fun hg54 hm=>?_))
 refine sb [0] F H rfl fun a F=>?_
 refine nl (wr (br (tr (tr ?_))));cases hm;refine ⟨_,rfl,?_⟩;rintro rfl
 refine br (tr ?_)
 replace hm:=elimR hm29
 refine tr ?_
 cases hm
 refine x_ret1 F rfl rfl ?_
 exact ⟨_,rfl,rfl,(H.pm 4 [] rfl:)⟩
 refine sk (bn (ct (rl (bb [0,0] F H rfl fun a F=>?_))))
 refine lz (ct ?_);cases hm
 exact ⟨_,rfl,⟨F.sl rfl,(H.pm 4 [2,3] rfl:)⟩⟩
 refine ex (cx (cx ?_));cases hm;refine ⟨_,rfl,?_⟩;rintro rfl
 refine ch (ct ?_)
 exact ⟨_,rfl,F.cut _ trivial,(H.pm 2 [] rfl:)⟩
 refine ct (sb [0] F H rfl fun a F=>?_)
 refine nl (wr ?_)
 cases hm
 refine x_ret1 F rfl rfl ?_
 exact ⟨_,rfl,rfl,H⟩
theorem ent164:En Tryz.prog 164:=enters Tryz.func164 (by kernel_rfl) rfl
theorem w_m_path_Within {x0_:List UInt8} {x1_:List UInt8}  {w0 w:World} {l:List HP}  {r:Bool} (hm:m_path_Within x0_ x1_=some r) (H:St w0 w (l)) :
  Calls Tryz.prog 143 [.string (txb (x0_)),.string (txb (x1_))].toArray w (fun e w'=>∃ v,e=.returned v∧v=.bool (r)∧St w0 w' (l)):=by
 unfold m_path_Within at hm
 refine x_enter Tryz.func143 rfl rfl rfl ?_
 intro a F
 refine sb [0] F H rfl fun a F=>?_
 refine nb [0] F H rfl fun a F=>?_
 obtain ⟨x1,ex1,hm⟩:=ob hm
 refine sd F rfl ent147 (w_pNames ex1 H:) ?_;rintro _ w a ⟨p2,c2,rfl,H⟩ F
 refine bb (List.replicate 5 0) F H rfl fun a F=>?_
 replace H:=H.nf 1 rfl
 refine nb [0] F H rfl fun a F=>?_
 obtain ⟨x3,ex3,hm⟩:=ob hm
 refine sd F rfl ent147 (w_pNames ex3 H:) ?_;rintro _ w a ⟨p4,c4,rfl,H⟩ F
 refine bb (List.replicate 5 0) F H rfl fun a F=>?_
 replace H:=H.nf 2 rfl
 refine nb [0,0] F H rfl fun a F=>?_
 by_cases hg5:x1.2=true
 replace hm:=ifT hg5 hm
 replace F:=F.vT 20 hg5 rfl
 refine bb [0,0,0] F H rfl fun a F=>?_
 by_cases hg6:x3.2=true
 replace hm:=ifT hg6 hm
 replace F:=F.vT 23 hg6 rfl
 refine bk (List.replicate 7 0) F H rfl ⟨⟨_,Tryz.underlying33⟩,⟨_,Tryz.underlying33⟩,trivial⟩ fun a F=>?_
 rcases spP 30 F rfl hm with ⟨hg7,hm,F⟩ | ⟨hg7,hm,F⟩
 refine bk [0,0,0,0] F H rfl ⟨⟨_,Tryz.underlying33⟩,trivial⟩ fun a F=>?_
 refine g_onP F rfl rfl rfl rfl ?_
 obtain ⟨x9,ex9,hm⟩:=ob hm
 have hc8:=H.slCap 0 rfl
 replace H:=H.slSubN 1 rfl 0 rfl ex9
 refine sv F rfl (y_slH F elem33 rfl rfl rfl ex9 hc8) fun a F=>?_
 refine g_onP F rfl rfl rfl rfl ?_
 obtain ⟨x10,ex10,hm⟩:=ob hm
 refine sd F rfl ent164 (w_m_slices_Equal___string_string_ ex10 (H.pm 3 [2,0,0,1,2] rfl:):) ?_;rintro _ w a ⟨rfl,H⟩ F
 refine bb [0,0] F H rfl fun a F=>?_
 replace H:=H.nf 3 rfl
 refine nl (wr ?_)
 cases hm
 refine x_ret1 F rfl rfl ?_
 exact ⟨_,rfl,rfl,(H.pm 3 [] rfl:)⟩
 refine bb (List.replicate 8 0) F H rfl fun a F=>?_
 refine nl (wr ?_)
 cases hm
 refine x_ret1 F rfl rfl ?_
 exact ⟨_,rfl,rfl,(H.pm 2 [] rfl:)⟩
 replace hm:=ifF hg6 hm
 replace F:=F.vF 23 hg6 rfl
 refine bb (List.replicate 15 0) F H rfl fun a F=>?_
 refine nl (wr ?_)
 cases hm
 refine x_ret1 F rfl rfl ?_
 exact ⟨_,rfl,rfl,(H.pm 2 [] rfl:)⟩
 replace hm:=ifF hg5 hm
 replace F:=F.vF 20 hg5 rfl
 refine bb (List.replicate 18 0) F H rfl fun a F=>?_
 refine nl (wr ?_)
 cases hm
 refine x_ret1 F rfl rfl ?_
 exact ⟨_,rfl,rfl,(H.pm 2 [] rfl:)⟩
theorem zero9:Zero1 Tryz.prog 9 (.string ByteArray.empty):=⟨by kernel_rfl,rfl⟩
theorem w_m_path_Ancestors {x0_:List UInt8}  {w0 w:World} {l:List HP}  {r:(List (List UInt8))} (hm:m_path_Ancestors x0_=some r) (H:St w0 w (l)) :
  Calls Tryz.prog 163 [.string (txb (x0_))].toArray w (fun e w'=>∃ v,e=.returned v∧∃ (p1:Option Addr) (c1:Nat),v=.slice p1 (r).length c1∧St w0 w' (HP.sl rStr p1 c1 r::l)):=by
 unfold m_path_Ancestors at hm
 refine x_enter Tryz.func163 rfl rfl rfl ?_
 intro a F
 refine sb [0] F H rfl fun a F=>?_
 refine nb [0] F H rfl fun a F=>?_
 obtain ⟨x2,ex2,hm⟩:=ob hm
 refine sd F rfl ent147 (w_pNames ex2 H:) ?_;rintro _ w a ⟨p3,c3,rfl,H⟩ F
 refine bb (List.replicate 5 0) F H rfl fun a F=>?_
 replace H:=H.nf 1 rfl
 refine nl (sq (sr (bk [0,0,0] F H rfl ⟨⟨_,Tryz.underlying33⟩,trivial⟩ fun a F=>?_)))
 refine nl (xm2 1 [] [] F H hm rfl rfl (fun r29 (p30:Option Addr) (c30:Nat) z=>(2,.slice p30 (r29).length c30)::z) (fun r29 p30 c30 z=>HP.ow rStr 9 p30 c30 r29::z) (fun r29 hm=>?_) (fun r29 a w hm p30 c30 F H=>?_))
 refine bl ?_
 replace H:=H.owNil rStr 9
 refine xl2 2 [3,12] [1] F H hm rfl rfl (fun (s47:(List (List UInt8))×Int) (p48:Option Addr) (c48:Nat) z=>(2,.slice p48 (s47.1).length c48)::(13,.int .i64 (s47.2))::z) (fun s47 p48 c48 z=>HP.ow rStr 9 p48 c48 s47.1::z) ⟨none,0,F.sl rfl,H⟩ (fun s47 a w o p48 c48 F H hm=>?_)
 refine sb [0] F H rfl fun a F=>?_
 refine nl (sq (cPm F rfl hm (fun hg49 hm=>?_) (fun hg49 hm=>?_)))
 refine sk (ct (sq (bl (sb [0,0] F H rfl fun a F=>?_))))
 refine nl (rl (bb [0,0,0] F H rfl fun a F=>?_))
 obtain ⟨x51,ex51,hm⟩:=ob hm
 have hc50:=H.slCap 1 rfl
 replace H:=H.slSubN 1 rfl 1 rfl ex51
 refine sv F rfl (y_slH F elem33 rfl rfl rfl ex51 hc50) fun a F=>?_
 obtain ⟨x52,ex52,hm⟩:=ob hm
 refine sd F rfl ent148 (w_m_path_join ex52 (H.pm 3 [0,0,1,2] rfl:):) ?_;rintro _ w a ⟨rfl,H⟩ F
 refine s_buildC wkP F rfl rfl rfl elem33 zero9 rfl rfl rfl rfl (by simp [Value.cells]) (by decide) H fun b53 w a H F=>?_
 replace H:=H.blkOw1 (R:=rStr) (x:=x52) (fun gg=>rfl)
 replace H:=H.frz 0 rfl
 obtain ⟨x55,ex55,hm⟩:=ob hm
 refine s_app wkP F rfl rfl rfl rfl rfl rfl elem33 rfl ex55 H 2 0 rfl rfl fun p54 c54 w a H F=>?_
 refine bb [0] F H rfl fun a F=>?_
 replace H:=H.nf 4 rfl
 refine lz (bn (ct (rl (bb [0,0] F H rfl fun a F=>?_))))
 refine lz (ct ?_);cases hm
 exact ⟨_,rfl,⟨p54,c54,F.sl rfl,(H.pm 4 [2,3] rfl:)⟩⟩
 refine ex (cx (cx ?_));cases hm;refine ⟨_,rfl,?_⟩;rintro rfl
 refine ch (ct ?_)
 exact ⟨p48,c48,F.sl rfl,(H.pm 2 [0] rfl:)⟩
 refine ct (sb [0,0] F H rfl fun a F=>?_)
 refine nl (wr ?_)
 replace H:=H.frz 0 rfl
 cases hm
 refine x_ret1 F rfl rfl ?_
 exact ⟨_,rfl,p30,c30,rfl,H⟩
end Go.Proofs.YtnagibpmfabkjaaGreatDoor
set_option linter.unusedSimpArgs false
set_option linter.unusedVariables false
namespace Go.Proofs.YtnagibpmfabkjaaGreatDoor
open Go.RowKit Go.Tri
set_option maxRecDepth 100000
set_option maxHeartbeats 4000000
theorem w_cmp109 {w:World} {v u:Value} {x y:List UInt8} (hx:Sl w v x.length (bcells x)) (hy:Sl w u y.length (bcells y)):Calls Tryz.prog 109 [v,u].toArray w (fun e w'=>e=.returned (.int .i64 (Lib.compareBytes x y))∧w'=w):=by
 refine x_enter Tryz.func109 rfl rfl rfl ?_
 intro a F
 replace F:Fr ⟨8,[]⟩ a [(0,v),(1,u)]:=F
 refine wp_seq (r_lit ?_)
 refine sv F rfl (y_assign F rfl rfl) fun a F=>?_
 refine wpList_nil (c_then ?_)
 refine wp_seq (r_lit ?_)
 refine sv F rfl (y_move F rfl rfl) fun a F=>?_
 refine sv F rfl (y_move F rfl rfl) fun a F=>?_
 refine sv F rfl (y_ext F rfl rfl (v:=.int .i64 (Lib.compareBytes x y)) (w:=w) (by rw [run_callFunc_extern Tryz.func137 (by kernel_rfl) (by kernel_rfl) (by kernel_rfl) (e:=Extern.BytealgCompare.compare) (by kernel_rfl),run_compare hx hy];rfl)) fun a F=>?_
 refine sv F rfl (y_assign F rfl rfl) fun a F=>?_
 refine wpList_nil (c_then ?_)
 refine wp_ret ?_
 refine x_ret1 F rfl rfl ?_
 exact ⟨rfl,rfl⟩
theorem w_sortT {xs:List (List UInt8)} {p1:Option Addr} {c1:Nat} {w0 w:World} {l:List HP}  {r:(List (List UInt8))} (hm:sortT xs=some r) (H:St w0 w (HP.ow rStr 9 p1 c1 xs::l)) :
  Calls Tryz.prog 166 [.slice p1 (xs).length c1].toArray w (fun e w'=>∃ v,e=.returned v∧v=.tuple [].toArray∧((r).length=(xs).length)∧St w0 w' (HP.ow rStr 9 p1 c1 r::l)):=by
 unfold sortT at hm
 obtain ⟨hn,rfl⟩:=sortTO_some hm
 rcases H.owCase 0 rfl with ⟨rfl,rfl,rfl⟩ | ⟨b,rfl⟩
 · exact (Tryz.slices_Sort_string_none none 0 w).mono fun e w' ⟨he,hw⟩=>⟨_,he,rfl,List.length_mergeSort _,by rw [hw];simpa using H⟩
 · obtain ⟨h1,h2,_,h4⟩:=H.putStr 0 rfl
   refine (Tryz.slices_Sort_string b 0 c1 xs w h1 h2 (by omega)).mono fun e w' ⟨he,n,os,hw⟩=>⟨_,he,rfl,List.length_mergeSort _,?_⟩
   have h5:=h4 (xs.mergeSort fun x y=>decide (x≤y)) xs.length n os (List.length_mergeSort _) (Nat.le_of_eq (List.length_mergeSort _).symm)
   rw [List.take_of_length_le (Nat.le_of_eq (List.length_mergeSort _))] at h5
   rw [hw];exact h5
theorem ent109:En Tryz.prog 109:=enters Tryz.func109 (by kernel_rfl) rfl
theorem ent108:En Tryz.prog 108:=enters Tryz.func108 (by kernel_rfl) rfl
theorem plain29:Plain Tryz.prog 29:=by unfold Plain;rw [Tryz.underlying29];rfl
theorem fld103_0:FieldT Tryz.prog 103 0 0:=by unfold FieldT;rw [Tryz.underlying103];kernel_rfl
theorem agg103:AggT Tryz.prog 103 2 [.slice none 0 0,.slice none 0 0]:=⟨by rw [Tryz.underlying103];rfl,by kernel_rfl,by kernel_rfl⟩
theorem w_cmpp108 {B:Base} (x y:PE B) (w:World) (hs:Sub B w):Calls Tryz.prog 108 [.agg (encP x).toArray,.agg (encP y).toArray].toArray w (fun e w'=>e=.returned (.int .i64 (cmpP x y))∧∃ q os',w'=Go.Sort.grow (w.drewN q) os'):=by
 obtain ⟨q1,c1,v1,hx1,hx2⟩:=pe_key hs x
 obtain ⟨q2,c2,v2,hy1,hy2⟩:=pe_key hs y
 refine x_enter Tryz.func108 rfl rfl rfl ?_
 intro a F
 replace F:Fr ⟨10,[]⟩ a [(0,.agg (x.1.1).toArray),(1,.agg (y.1.1).toArray)]:=F
 rw [hx1,hy1] at F
 refine wp_seq (r_lit ?_)
 refine sv F rfl (y_boxA F rfl rfl) fun a F=>?_
 refine sv F rfl (y_boxA F rfl rfl) fun a F=>?_
 refine sv F rfl (y_assign F rfl rfl) fun a F=>?_
 refine wpList_nil (c_then ?_)
 obtain ⟨w1,hw1⟩:∃ w1,w1=w.alloc (.cells [Value.slice q1 x.1.2.1.length c1,v1].toArray 103):=⟨_,rfl⟩
 obtain ⟨w2,hw2⟩:∃ w2,w2=w1.alloc (.cells [Value.slice q2 y.1.2.1.length c2,v2].toArray 103):=⟨_,rfl⟩
 have hs2:Sub B w2:=fun b o hb=>by rw [hw2,hw1];exact heapOld _ _ b (by have:=hs.lt hb;simp;omega) |>.trans ((heapOld _ _ b (hs.lt hb)).trans (hs b o hb))
 have hb1:Blk w2 w.heap.size [Value.slice q1 x.1.2.1.length c1,v1] 103:=by rw [hw2,hw1];exact (Blk.new w _ _).alloc _
 have hb2:Blk w2 w1.heap.size [Value.slice q2 y.1.2.1.length c2,v2] 103:=by rw [hw2];exact Blk.new _ _ _
 rw [← hw1] at F
 rw [← hw1,← hw2]
 generalize w.heap.size=b1 at *
 generalize w1.heap.size=b2 at *
 obtain ⟨q3,c3,v3,hx3,hx4⟩:=pe_key hs2 x
 obtain ⟨q4,c4,v4,hy3,hy4⟩:=pe_key hs2 y
 rw [hx1] at hx3
 rw [hy1] at hy3
 simp only [List.cons.injEq,Value.slice.injEq,true_and,and_true] at hx3 hy3
 obtain ⟨⟨rfl,rfl⟩,rfl⟩:=hx3
 obtain ⟨⟨rfl,rfl⟩,rfl⟩:=hy3
 refine wp_seq (r_lit ?_)
 refine sv F rfl (y_fieldAddr F fld103_0 rfl rfl) fun a F=>?_
 refine sv F rfl (y_load1 F plain29 rfl rfl (hb1.cell _)) fun a F=>?_
 refine sv F rfl (y_fieldAddr F fld103_0 rfl rfl) fun a F=>?_
 refine sv F rfl (y_load1 F plain29 rfl rfl (hb2.cell _)) fun a F=>?_
 refine s_callV (v:=.int .i64 (cmpP x y)) wkP F rfl rfl rfl rfl (y_call F rfl rfl ent109) (R:=fun w'=>w'=w2) ((w_cmp109 hx4 hy4).mono fun e w' h=>⟨h.1,h.2⟩) ?_;rintro w a rfl F
 refine sv F rfl (y_assign F rfl rfl) fun a F=>?_
 refine wpList_nil (c_then ?_)
 refine wp_ret ?_
 refine x_ret1 F rfl rfl ?_
 refine ⟨rfl,0,#[Obj.cells [Value.slice q1 x.1.2.1.length c1,v1].toArray 103 (0,0),Obj.cells [Value.slice q2 y.1.2.1.length c2,v2].toArray 103 (0,0)],?_⟩
 rw [hw2,hw1,Go.Sort.alloc_eq_grow,Go.Sort.alloc_eq_grow,Go.Sort.grow_grow]
 rfl
theorem w_sortPs {xs:List T_api_Pair} {p1:Option Addr} {c1:Nat} {w0 w:World} {l:List HP}  {r:(List T_api_Pair)} (hm:sortPs xs=some r) (H:St w0 w (HP.ow R_api_Pair 103 p1 c1 xs::l)) :
  Calls Tryz.prog 107 [.slice p1 (xs).length c1,.func (.func 108) #[] #[]].toArray w (fun e w'=>∃ v,e=.returned v∧v=.tuple [].toArray∧((r).length=(xs).length)∧St w0 w' (HP.ow R_api_Pair 103 p1 c1 r::l)):=by
 unfold sortPs at hm
 obtain ⟨hnd,hn,rfl⟩:=sortPO_some hm
 rcases H.owCase 0 rfl with ⟨rfl,rfl,rfl⟩ | ⟨b,rfl⟩
 · exact (AnyF.slices_SortFunc_none Tryz.layz107 none 0 (.func (.func 108) #[] #[]) w).mono fun e w' ⟨he,hw⟩=>⟨_,he,rfl,by simp [sortPairs],by rw [hw,show sortPairs []=[] by simp [sortPairs]];exact H⟩
 · obtain ⟨B,d,hd,hH,hb,hB,hK⟩:=H.sortP 0 rfl
   have hlen:d.toArray.size=xs.length:=by rw [← hd];simp
   have:=AnyQ.slices_SortFunc Tryz.layz107 2 agg103.run_isAgg agg103.run_szOf encP encP_len encP_one cmpP cmpP_swo 108 #[] b 0 c1 d.toArray w ent108 (fun m os dk hs x y=>w_cmpp108 x y _ (hB dk m os)) hH hb (by rw [hlen];omega)
   rw [hlen] at this
   refine this.mono ?_
   rintro e w' ⟨rfl,d',n,os,hp,hs,rfl⟩
   rw [← hlen] at hp hs
   obtain ⟨h1,h2,h3⟩:=sort_pairs hp hs
   have h4:=hK d' n os h1
   rw [hd] at h2
   have h5:=sortPairs_eq hnd h2 h3
   rw [h5] at h4
   exact ⟨_,rfl,rfl,(List.mergeSort_perm xs leP).length_eq,h4⟩
theorem fld31_2:FieldT Tryz.prog 31 2 2:=by unfold FieldT;rw [Tryz.underlying31];kernel_rfl
theorem ent145:En Tryz.prog 145:=enters Tryz.func145 (by kernel_rfl) rfl
theorem ent146:En Tryz.prog 146:=enters Tryz.func146 (by kernel_rfl) rfl
theorem w_delc146 {b3:Nat} {cs:List Value} {tx:List UInt8} (hto:cs[2]?=some (.string (txb tx))) (x:List UInt8) (W:World) (hb:Blk W b3 cs 31):Calls Tryz.prog 146 #[encStr x,.pointer (some ⟨b3,0,none⟩)] W (fun e w'=>e=.returned (.bool (leqB x tx))∧∃ q,w'=W.drewN q):=by
 refine x_enter (args:=[encStr x,.pointer (some ⟨b3,0,none⟩)]) Tryz.func146 rfl rfl rfl ?_
 intro a F
 replace F:Fr ⟨8,[]⟩ a [(0,.string (txb x)),(1,.pointer (some ⟨b3,0,none⟩))]:=F
 refine wp_seq (r_lit ?_)
 refine sv F rfl (y_assign F rfl rfl) fun a F=>?_
 refine wpList_nil (c_then ?_)
 refine wp_seq (r_lit ?_)
 refine sv F rfl (y_move F rfl rfl) fun a F=>?_
 refine sv F rfl (y_fieldAddr F fld31_2 rfl rfl) fun a F=>?_
 refine sv F rfl (y_load1 F plain9 rfl rfl ((hb.cell _).trans hto)) fun a F=>?_
 refine sv F rfl (y_leqT F rfl rfl rfl) fun a F=>?_
 refine sv F rfl (y_assign F rfl rfl) fun a F=>?_
 refine wpList_nil (c_then ?_)
 refine wp_ret ?_
 refine x_ret1 F rfl rfl ?_
 exact ⟨rfl,0,rfl⟩
theorem w_delnil145 (fv:Value) (w:World):Calls Tryz.prog 145 [.slice none 0 0,fv].toArray w (fun e w'=>e=.returned (.slice none 0 0)∧w'=w):=by
 refine x_enter Tryz.func145 rfl rfl rfl ?_
 intro a F
 replace F:Fr ⟨42,[]⟩ a [(0,.slice none 0 0),(1,fv)]:=F
 refine wp_seq (r_lit ?_)
 refine sv F rfl (y_assign F rfl rfl) fun a F=>?_
 refine wpList_nil (c_then ?_)
 refine wp_seq (r_lit ?_)
 refine sv F rfl (y_move F rfl rfl) fun a F=>?_
 refine sv F rfl (y_move F rfl rfl) fun a F=>?_
 refine s_callV (v:=.int .i64 (-1)) wkP F rfl rfl rfl rfl (y_call F rfl rfl ent132) (R:=fun w'=>w'=w) ((AnyE.slices_IndexFunc_empty Tryz.layz132 none 0 fv w).mono fun e w' h=>⟨h.1,h.2⟩) ?_;rintro w a rfl F
 refine sv F rfl (y_assign F rfl rfl) fun a F=>?_
 refine wpList_nil (c_then ?_)
 refine wp_seq (wp_seq (r_lit ?_))
 refine sv F rfl (y_move F rfl rfl) fun a F=>?_
 refine sv F rfl (y_eql F rfl rfl rfl) fun a F=>?_
 refine wpList_nil (c_then ?_)
 refine x_condT F rfl ?_
 refine wp_seq (r_lit ?_)
 refine sv F rfl (y_move F rfl rfl) fun a F=>?_
 refine sv F rfl (y_assign F rfl rfl) fun a F=>?_
 refine wpList_nil (c_then ?_)
 refine wp_ret ?_
 refine c_thenR ?_
 refine x_ret1 F rfl rfl ?_
 exact ⟨rfl,rfl⟩
theorem w_del145 {p:Option Addr} {c b3:Nat} {xs r:List (List UInt8)} {cs:List Value} {tx:List UInt8} {w0 w:World} {l:List HP} (hm:delO xs tx=some r) (hto:cs[2]?=some (.string (txb tx))) (H:St w0 w (HP.ow rStr 9 p c xs::HP.blk b3 cs 31::l)) :
  Calls Tryz.prog 145 [.slice p xs.length c,.func (.func 146) #[] [.pointer (some ⟨b3,0,none⟩)].toArray].toArray w (fun e w'=>∃ v,e=.returned v∧v=.slice p r.length c∧St w0 w' (HP.ow rStr 9 p c r::HP.blk b3 cs 31::l)):=by
 obtain ⟨hn,rfl⟩:=delO_some hm
 have hoc:=St.owCase (R:=rStr) (e:=9) (p:=p) (cap:=c) (xs:=xs) H 0 rfl
 obtain hoc | ⟨b,rfl⟩:=hoc
 · obtain ⟨hp,hc,hx⟩:=hoc
   subst hp hc hx
   have hq:=w_delnil145 (.func (.func 146) #[] [.pointer (some ⟨b3,0,none⟩)].toArray) w
   rw [List.length_nil]
   refine Calls.mono hq fun e w' ⟨he,hw⟩=>⟨_,he,rfl,hw▸H⟩
 · have hap:=St.apart (e:=9) (b:=b) (b3:=b3) (cap:=c) (xs:=xs) (cs:=cs) (t:=31) H 0 1 rfl rfl Nat.zero_ne_one
   obtain ⟨hb1,hb2,hb3⟩:=hap
   obtain ⟨h1,h2,hcap,h4⟩:=H.putStr 0 rfl
   have hp:PredAt Tryz.prog 146 #[.pointer (some ⟨b3,0,none⟩)] encStr (fun x=>leqB x tx) w:=fun W x hW=>w_delc146 hto x W (by unfold Blk at hb1 ⊢;rw [hW.block b3 hb2];exact hb1)
   have hpo:PredOver Tryz.prog 146 #[.pointer (some ⟨b3,0,none⟩)] encStr (fun x=>leqB x tx) b 0 xs.toArray.size w:=fun n os dk x _=>w_delc146 hto x _ (by
     unfold Blk at hb1 ⊢
     have hw:(sortWorld encStr w b 0 n dk os).heap=(w.heap.modify b (Sort.onCells (Sort.putCells encStr 0 dk)))++os:=rfl
     rw [hw,Array.getElem?_append_left (by simpa using hb2),Array.getElem?_modify,if_neg (Ne.symm hb3)];exact hb1)
   have:=AnyE.slices_DeleteFunc Tryz.layz145 encStr (fun x=>rfl) (fun x=>leqB x tx) 146 #[.pointer (some ⟨b3,0,none⟩)] ent146 [] (fun w=>zero9.run w) b 0 c xs.toArray w hp hpo h1 (by simp;omega) (by simpa using hcap)
   refine this.mono fun e w' ⟨he,q,hw⟩=>⟨_,he,?_,?_⟩
   · simp
   · have hfl:(xs.filter fun x=>!leqB x tx).length≤xs.length:=List.length_filter_le _ _
     have h5:=h4 ((xs.filter fun x=>!leqB x tx)++List.replicate (xs.length - (xs.filter fun x=>!leqB x tx).length) []) (xs.filter fun x=>!leqB x tx).length q #[] (by simp;omega) (by simp)
     rw [List.take_left' rfl] at h5
     rw [hw]
     simpa using h5
end Go.Proofs.YtnagibpmfabkjaaGreatDoor
