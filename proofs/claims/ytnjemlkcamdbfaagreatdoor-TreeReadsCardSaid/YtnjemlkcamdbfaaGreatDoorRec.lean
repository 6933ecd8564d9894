/- What is copied into a part of a block that is bytes; maps that are lent; pairs in new memory. -/
import Derived.Test.YtnjemlkcamdbfaaGreatDoorS
import Derived.Test.YtnjemlkcamdbfaaGreatDoorSeal
set_option linter.unusedSimpArgs false
set_option linter.unusedVariables false
namespace Go.Tri
open Go.RowKit
section
variable {P : Program} {t e : TypeId} {w0 w : World} {ls : List HP} {ops : Array Oper} {rest : List Oper} {o : Oper} {a : Act} {W : List Oper → Act → World → Prop} {N : Fs} {l : List (Nat × Value)} {d : Nat} {x y : Operand}
theorem copyF_cells {A C : List Value} {xs zs : List UInt8} {n q : Nat} (hA : A.length = q) (hn : xs.length = n) : (A ++ (bcells xs ++ C)).take q ++ (bcells zs).take n ++ (A ++ (bcells xs ++ C)).drop (q + ((bcells zs).take n).length) = A ++ (bcells (putAt xs 0 (zs.take n)) ++ C) := by
  subst hA hn
  have e1 : ((bcells zs).take xs.length).length ≤ (bcells xs).length := by rw [List.length_take, bcells_length, bcells_length]; omega
  rw [List.take_left' rfl, List.drop_append, List.drop_of_length_le (by omega), List.nil_append, Nat.add_sub_cancel_left, List.drop_append_of_le_length e1, List.append_assoc]
  congr 1
  rw [← List.append_assoc]
  congr 1
  simp [putAt, bcells, List.map_take]
theorem s_cpyF (k : Walk P ops W) (F : Fr N a l) (hg : o.guard = none) (hd : o.dst = some d) (hN : Nat.blt d N.n = true) {t' : TypeId} {bytes : Nat} {z : Value} (hE : ElemT P t e 1 bytes z) (ho : o.op = .call { callee := .builtin .copy, args := #[x, y], argTypes := #[t, t'] })
    {p p2 : Option Addr} {b q dn n dc c2 : Nat} {A C : List Value} {xs zs : List UInt8} {u : TypeId} (hx : ev l x = some (.slice p dn dc)) (hdn : dn = n) (hp : p = some ⟨b, q, none⟩) (hy : ev l y = some (.slice p2 zs.length c2)) (H : St w0 w ls) (i j : Nat) (hi : ls[i]? = some (HP.blk b (A ++ (bcells xs ++ C)) u)) (hj : ls[j]? = some (HP.sl rByte p2 c2 zs)) (hA : A.length = q) (hn : xs.length = n)
    (hk : ∀ w' a', St w0 w' (ls.set i (HP.blk b (A ++ (bcells (putAt xs 0 (zs.take n)) ++ C)) u)) → Fr N a' ((d, .int .i64 ((min zs.length n : Nat) : Int)) :: l) → W rest a' w') : W (o :: rest) a w := by
  subst hp hdn
  have hs := H.slBy j hj
  have hflat : Flat (bcells zs) := bcells_flat _
  have hr := run_copyBlk (P := P) (t' := t') (ty := o.type) (dc := dc) hE (H.blk i hi) hs (bcells_length _) (d := q) (dn := dn) (by simp [bcells_length]; omega) hflat
  rw [copyF_cells hA hn] at hr
  refine s_val (w' := w.setRow b (A ++ (bcells (putAt xs 0 (zs.take dn)) ++ C)).toArray) k F hg hd hN (by rw [ho]; rfl) (v := .int .i64 ((min zs.length dn : Nat) : Int)) ?_ fun a' F' => hk _ a' (H.setBlk i hi _) F'
  unfold execOp
  simp [ho, resolve, invoke, builtin, F.eval hx, F.eval hy, hr]
theorem s_cpyFE (k : Walk P ops W) (F : Fr N a l) (hg : o.guard = none) (hd : o.dst = some d) (hN : Nat.blt d N.n = true) {t' : TypeId} {bytes : Nat} {z : Value} (hE : ElemT P t e 1 bytes z) (ho : o.op = .call { callee := .builtin .copy, args := #[x, y], argTypes := #[t, t'] })
    {p p2 : Option Addr} {b q dn n dc c2 : Nat} {A : List Value} {xs zs : List UInt8} {u : TypeId} (hx : ev l x = some (.slice p dn dc)) (hdn : dn = n) (hp : p = some ⟨b, q, none⟩) (hy : ev l y = some (.slice p2 zs.length c2)) (H : St w0 w ls) (i j : Nat) (hi : ls[i]? = some (HP.blk b (A ++ bcells xs) u)) (hj : ls[j]? = some (HP.sl rByte p2 c2 zs)) (hA : A.length = q) (hn : xs.length = n)
    (hk : ∀ w' a', St w0 w' (ls.set i (HP.blk b (A ++ bcells (putAt xs 0 (zs.take n))) u)) → Fr N a' ((d, .int .i64 ((min zs.length n : Nat) : Int)) :: l) → W rest a' w') : W (o :: rest) a w :=
  s_cpyF k F hg hd hN hE ho hx hdn hp hy H i j (C := []) (by rw [List.append_nil]; exact hi) hj hA hn (by rw [List.append_nil]; exact hk)
/-- A byte of a part of a block is written over. -/
theorem s_stF (k : Walk P ops W) (F : Fr N a l) (hg : o.guard = none) (hd : o.dst = none) {z1 : Value} (hz : Zero1 P t z1) (ho : o.op = .store t x y) {b r : Nat} {i n : Int} {q c : UInt8} {A C : List Value} {xs : List UInt8} {u : TypeId} (hx : ev l x = some (.pointer (some ⟨b, r + i.toNat * 1, none⟩))) (hy : ev l y = some (.int .u8 n)) (hc : u8O n = some c)
    (H : St w0 w ls) (j : Nat) (hj : ls[j]? = some (HP.blk b (A ++ (bcells xs ++ C)) u)) (hA : A.length = r) (hq : idxO xs i = some q) (hk : ∀ w', St w0 w' (ls.set j (HP.blk b (A ++ (bcells (xs.set i.toNat c) ++ C)) u)) → W rest a w') : W (o :: rest) a w := by
  subst hA
  have hlt := (List.getElem?_eq_some_iff.1 (idxO_some hq).2).1
  refine s_store1 k F hg hd hz ho hx hy rfl rfl H j hj (by simp [bcells_length]; omega) fun w' H' => hk w' ?_
  have e : (A ++ (bcells xs ++ C)).set (A.length + i.toNat * 1) (.int .u8 n) = A ++ (bcells (xs.set i.toNat c) ++ C) := by
    rw [List.set_append_right _ _ (by omega), Nat.add_sub_cancel_left, List.set_append_left _ _ (by rw [bcells_length]; omega), Nat.mul_one, bcells_set _ _ hc]
  rw [e] at H'; exact H'
theorem s_stFE (k : Walk P ops W) (F : Fr N a l) (hg : o.guard = none) (hd : o.dst = none) {z1 : Value} (hz : Zero1 P t z1) (ho : o.op = .store t x y) {b r : Nat} {i n : Int} {q c : UInt8} {A : List Value} {xs : List UInt8} {u : TypeId} (hx : ev l x = some (.pointer (some ⟨b, r + i.toNat * 1, none⟩))) (hy : ev l y = some (.int .u8 n)) (hc : u8O n = some c)
    (H : St w0 w ls) (j : Nat) (hj : ls[j]? = some (HP.blk b (A ++ bcells xs) u)) (hA : A.length = r) (hq : idxO xs i = some q) (hk : ∀ w', St w0 w' (ls.set j (HP.blk b (A ++ bcells (xs.set i.toNat c)) u)) → W rest a w') : W (o :: rest) a w :=
  s_stF k F hg hd hz ho hx hy hc H j (C := []) (by rw [List.append_nil]; exact hj) hA hq (by rw [List.append_nil]; exact hk)
end
section
variable {κ β : Type} [DecidableEq κ] {R : Rp β} {P : Program} {T K E : TypeId} {ek : κ → Value} {ok : κ → Prop} {agg : Bool} {w0 w w' : World} {p : Option Nat} {m : κ → Option β} {es : List (κ × (List Value × β))} {ls : List HP}
/-- A map that stays, with its entries. -/
def HP.fmx (p : Option Nat) (ek : κ → Value) (agg : Bool) (R : Rp β) (ok : κ → Prop) (es : List (κ × (List Value × β))) (m : κ → Option β) : HP :=
  HP.pe (fun B => EsOk R ok B es m ∧ match p with | none => es = [] | some b => ∃ raw c, B b = some (.map raw c) ∧ MRaw ek agg es raw c)
    (fun {B B'} h hl => ⟨h.1.mono hl, by
      have h2 := h.2
      cases p with
      | none => exact h2
      | some b =>
        obtain ⟨raw, c, h3, h4⟩ := h2
        exact ⟨raw, c, hl _ _ h3, h4⟩⟩)
def HP.fm (p : Option Nat) (ek : κ → Value) (agg : Bool) (R : Rp β) (ok : κ → Prop) (m : κ → Option β) : HP :=
  HP.pe (fun B => ∃ es, (HP.fmx p ek agg R ok es m).pr B default (fun _ => False))
    (fun {B B'} ⟨es, h⟩ hl => ⟨es, HP.mono (HP.fmx p ek agg R ok es m) (w := default) (S := fun _ => False) h hl⟩)
/-- The map itself, that stays. -/
def HP.mof (p : Option Nat) (raw : Array MapEntry) (c : Nat) : HP :=
  HP.pe (fun B => match p with | none => raw = #[] | some b => B b = some (.map raw c))
    (fun {B B'} h hl => by
      cases p with
      | none => exact h
      | some b => exact hl _ _ h)
theorem St.fmOpen (H : St w0 w ls) (i : Nat) (hi : ls[i]? = some (HP.fm p ek agg R ok m)) : ∃ es, St w0 w (HP.fmx p ek agg R ok es m :: ls) := by
  obtain ⟨B, H⟩ := H.out
  obtain ⟨S, es, h⟩ := H.at hi
  exact ⟨es, (H.more (A := HP.fmx p ek agg R ok es m) h).st⟩
theorem St.fmGet (H : St w0 w ls) (i : Nat) (hi : ls[i]? = some (HP.fmx p ek agg R ok es m)) (k : κ) {zc : List Value} {z0 : β} (hz : ∀ B, R.rd B zc z0) : ∃ cs, esGet es k zc = cs ∧ St w0 w (HP.rc R cs ((m k).getD z0) :: ls) := by
  obtain ⟨B, H⟩ := H.out
  obtain ⟨S, h⟩ := H.at hi
  refine ⟨_, rfl, (H.more (A := HP.rc R (esGet es k zc) ((m k).getD z0)) ?_).st⟩
  show R.rd B _ _
  rw [h.1.get k]
  unfold esGet
  cases e : aget k es with
  | none => exact hz B
  | some q => exact h.1.rd _ (aget_mem' e)
theorem fm_look (hT : P.underlying T = some (.map K E)) (hK : KeyT P K ek ok) {zc : List Value} (hz : ∀ w, (zeroValue E).run P w = .ok (mkV agg zc) w) (H : St w0 w ls) (i : Nat) (hi : ls[i]? = some (HP.fmx p ek agg R ok es m)) (k : κ) (hkk : ok k) (c : Bool) :
    (Instr.lookup T (.map p) (ek k) c).run P w = .ok (if c then .tuple #[mkV agg (esGet es k zc), .bool (m k).isSome] else mkV agg (esGet es k zc)) w := by
  obtain ⟨B, S, hs, ⟨hes, hm⟩, _⟩ := H.get i hi
  cases p with
  | some b =>
    obtain ⟨raw, cc, h3, h4⟩ := hm
    rw [run_lookupW hT hK hz ⟨raw, cc, hs _ _ h3, h4.ent, h4.nd, h4.lt⟩ (es_ok hes.ok) k hkk]
    rw [hes.get k]
    unfold esGet
    have := aget_map (vv := fun q : List Value × β => mkV agg q.1) k es
    rw [this]
    cases aget k es <;> cases c <;> rfl
  | none =>
    have hm : es = [] := hm
    have h1 := hK.check true k w hkk
    have h2 := hK.find k [] [] w hkk (by simp) rfl
    rw [hes.get k]
    unfold Instr.lookup
    rw [Sem.run_bind, run_underlying hT]
    simp only [Result.andThen_ok]
    cases c <;> simp [h1, h2, findI, hz, aget, esGet, hm]
variable {o : Oper} {a : Act} {N : Fs} {sl : List (Nat × Value)} {x y : Operand}
theorem y_fmGet2 {zc cs : List Value} (F : Fr N a sl) (hT : P.underlying T = some (.map K E)) (hK : KeyT P K ek ok) (hz : ∀ w, (zeroValue E).run P w = .ok (mkV agg zc) w) (ho : o.op = .lookup T x y true) (H : St w0 w ls) (i : Nat) (hi : ls[i]? = some (HP.fmx p ek agg R ok es m)) (hx : ev sl x = some (.map p)) {k : κ} (hy : ev sl y = some (ek k)) (hkk : ok k) (hcs : esGet es k zc = cs) :
    (execOp a.eval o).run P w = .ok (.value (.tuple [mkV agg cs, .bool (m k).isSome].toArray)) w := by
  unfold execOp
  simp only [ho, F.eval hx, F.eval hy, Sem.run_bind, fm_look hT hK hz H i hi k hkk true, Result.andThen_ok, Sem.run_pure, hcs]
  rfl
theorem y_fmLen (F : Fr N a sl) (ho : o.op = .call { callee := .builtin .len, args := #[x], argTypes := #[T] }) (hT : P.underlying T = some (.map K E)) (H : St w0 w ls) (i : Nat) (hi : ls[i]? = some (HP.fm p ek agg R ok m)) (hx : ev sl x = some (.map p)) : (execOp a.eval o).run P w = .ok (.value (.int .i64 (flen m : Nat))) w := by
  obtain ⟨B, S, hs, ⟨es, hes, hm⟩, _⟩ := H.get i hi
  have hl : flen m = es.length := by rw [flen_eq hes.enum]; simp
  cases p with
  | some b =>
    obtain ⟨raw, c, h3, h4⟩ := hm
    have := run_lenMapW hT (show MapW w b (ment ek agg es) from ⟨raw, c, hs _ _ h3, h4.ent, h4.nd, h4.lt⟩) o.type
    unfold execOp
    simp [ho, resolve, invoke, builtin, F.eval hx, this, ment, mkv, hl]
  | none =>
    have hm : es = [] := hm
    have h0 : flen m = 0 := by rw [hl, hm]; rfl
    unfold execOp
    simp [ho, resolve, invoke, builtin, F.eval hx, Builtin.len_, Go.run_underlying hT, goInt, h0]
/-- A map is lent to a call in a sealed world. -/
theorem St.sealFm (H : St w0 w ls) (i : Nat) (hi : ls[i]? = some (HP.mm p ek agg R ok m)) : (HP.fm p ek agg R ok m).pr (baseOf w) w (fun _ => False) := by
  obtain ⟨B, S, hs, ⟨es, h1, h2⟩, _⟩ := H.get i hi
  refine ⟨es, h1.mono (sub_le hs), ?_⟩
  cases p with
  | none => exact h2
  | some b =>
    obtain ⟨⟨es', c, h3, h4, h5, h6⟩, _⟩ := h2
    exact ⟨es', c, h3, h4, h5, h6⟩
theorem St.fmRng (H : St w0 w ls) (i : Nat) (hi : ls[i]? = some (HP.fm p ek agg R ok m)) : ∃ raw c es, MRaw ek agg es raw c ∧ Enum m (prs es) ∧ St w0 w (HP.es R ok es m :: HP.mof p raw c :: ls) := by
  obtain ⟨B, H⟩ := H.out
  obtain ⟨S, es, h1, h2⟩ := H.at hi
  have hE : Enum m (prs es) := h1.enum
  cases p with
  | none =>
    subst h2
    exact ⟨#[], 0, [], ⟨rfl, by simp, by simp⟩, hE, ((H.more (A := HP.mof none #[] 0) rfl).more (A := HP.es R ok [] m) h1).st⟩
  | some b =>
    obtain ⟨raw, c, h3, h4⟩ := h2
    exact ⟨raw, c, es, h4, hE, ((H.more (A := HP.mof (some b) raw c) h3).more (A := HP.es R ok es m) h1).st⟩
variable {raw : Array MapEntry} {c : Nat} {vis : List Nat} {ops : Array Oper} {rest : List Oper} {W : List Oper → Act → World → Prop} {d : Nat}
omit [DecidableEq κ] in
theorem s_rngF (kw : Walk P ops W) (F : Fr N a sl) (hg : o.guard = none) (hd : o.dst = some d) (hN : Nat.blt d N.n = true) (hT : P.underlying T = some (.map K E)) (ho : o.op = .range T x) (H : St w0 w ls) (i : Nat) (hi : ls[i]? = some (HP.mof p raw c)) (hx : ev sl x = some (.map p))
    (hk : ∀ r w' a', St w0 w' (HP.obj r (mit p c (bornsOf raw [])) :: ls) → Fr N a' ((d, .pointer (some ⟨r, 0, none⟩)) :: sl) → W rest a' w') : W (o :: rest) a w := by
  cases p with
  | none =>
    refine s_val kw F hg hd hN (by rw [ho]; rfl) (v := .pointer (some ⟨w.heap.size, 0, none⟩)) (w' := w.alloc (.mapIter none 0 #[] 0)) ?_ fun a' F' => hk _ _ a' (H.newObj _) F'
    unfold execOp
    simp [ho, F.eval hx, Instr.range, Go.run_underlying hT, newObj, Sem.run]
  | some b =>
    refine s_val kw F hg hd hN (by rw [ho]; rfl) (v := .pointer (some ⟨w.heap.size, 0, none⟩)) (w' := w.alloc (.mapIter (some b) c #[] c)) ?_ fun a' F' => hk _ _ a' (H.newObj _) F'
    have hh : w.heap[b]? = some (.map raw c) := by obtain ⟨_, _, hs, h, _⟩ := H.get i hi; exact hs _ _ h
    unfold execOp
    have hg := run_getObj (P := P) w b raw c hh
    simp [ho, F.eval hx, Instr.range, Go.run_underlying hT, hg, newObj, Sem.run]
omit [DecidableEq κ] in
theorem s_nxtF (kw : Walk P ops W) (F : Fr N a sl) (hg : o.guard = none) (hd : o.dst = some d) (hN : Nat.blt d N.n = true) (ho : o.op = .next x false) {r : Nat} (hx : ev sl x = some (.pointer (some ⟨r, 0, none⟩))) (hM : MRaw ek agg es raw c) (hv : VisOk es.length vis) (H : St w0 w ls) (i j : Nat) (hi : ls[i]? = some (HP.mof p raw c)) (hj : ls[j]? = some (HP.obj r (mit p c (bornsOf raw vis)))) (hij : Nat.beq i j = false)
    (h0 : (∀ q, q < es.length → q ∈ vis) → ∀ w' a', St w0 w' ls → Fr N a' ((d, .tuple [.bool false].toArray) :: sl) → W rest a' w')
    (h1 : ∀ q k cs v, es[q]? = some (k, cs, v) → q ∉ vis → ∀ w' a', St w0 w' (ls.set j (HP.obj r (mit p c (bornsOf raw (vis ++ [q]))))) → Fr N a' ((d, .tuple [.bool true, ek k, mkV agg cs].toArray) :: sl) → W rest a' w') : W (o :: rest) a w := by
  have hl := hM.len
  cases p with
  | none =>
    have h00 : raw = #[] := by obtain ⟨_, _, _, h, _⟩ := H.get i hi; exact h
    have hz : es.length = 0 := by rw [← hl, h00]; rfl
    refine s_val kw F hg hd hN (by rw [ho]; rfl) (v := .tuple [.bool false].toArray) (w' := w) ?_ fun a' F' => h0 (fun q hq => by omega) _ a' H F'
    have hr := H.objAt j hj
    have g1 : (getObj r).run P w = .ok (.mapIter none 0 #[] 0) w := by unfold getObj Sem.run; rw [hr]; rfl
    unfold execOp
    simp only [ho, F.eval hx]
    unfold Instr.next
    simp only
    rw [Sem.run_bind, Sem.run_bind, g1]
    rfl
  | some b =>
    have hh : w.heap[b]? = some (.map raw c) := by obtain ⟨_, _, hs, h, _⟩ := H.get i hi; exact hs _ _ h
    have hj2 : ls[j]? = some (HP.obj r (.mapIter (some b) c (bornsOf raw vis) c)) := hj
    rcases run_nextH (P := P) r H hh j hj2 hM.lt o.type with ⟨hall, w', hr, H'⟩ | ⟨e, he, hnot, w', hr, H'⟩
    · refine s_val kw F hg hd hN (by rw [ho]; rfl) (w' := w') ?_ fun a' F' => h0 (fun q hq => ?_) w' a' H' F'
      · unfold execOp
        simp only [ho, F.eval hx, Sem.run_bind, hr, Result.andThen_ok, Sem.run_pure]
      · have e2 : raw[q]? = some (raw[q]'(by omega)) := Array.getElem?_eq_getElem (by omega)
        exact (bornsOf_has hM hv e2).1 (hall _ (by simp))
    · obtain ⟨q, hq, rfl⟩ := List.getElem_of_mem he
      have hql : q < es.length := by rw [← hl]; simpa using hq
      obtain ⟨k, cs, v, hes⟩ : ∃ k cs v, es[q]? = some (k, cs, v) := ⟨_, _, _, List.getElem?_eq_getElem hql⟩
      obtain ⟨e', he', hk', hv'⟩ := hM.at hes
      have hee : raw.toList[q] = e' := by
        have : raw[q]? = some raw.toList[q] := by simp [Array.getElem?_eq_getElem (show q < raw.size by omega)]
        rw [this] at he'; exact Option.some.inj he'
      rw [hee] at hnot H' hr
      have hnv : q ∉ vis := fun hin => by rw [(bornsOf_has hM hv he').2 hin] at hnot; cases hnot
      rw [hk', hv'] at hr
      rw [bornsOf_push raw vis he'] at H'
      refine s_val kw F hg hd hN (by rw [ho]; rfl) (w' := w') ?_ fun a' F' => h1 q k cs v hes hnv w' a' H' F'
      unfold execOp
      simp only [ho, F.eval hx, Sem.run_bind, hr, Result.andThen_ok, Sem.run_pure]
omit [DecidableEq κ] in
theorem y_entF (F : Fr N a sl) (ho : o.op = .entry x) {r : Nat} (hx : ev sl x = some (.pointer (some ⟨r, 0, none⟩))) (hM : MRaw ek agg es raw c) {q : Nat} {k : κ} {cs : List Value} {v : β} (hq : es[q]? = some (k, cs, v)) (H : St w0 w ls) (i j : Nat) (hi : ls[i]? = some (HP.mof p raw c)) (hj : ls[j]? = some (HP.obj r (mit p c (bornsOf raw (vis ++ [q]))))) (hij : Nat.beq i j = false) :
    (execOp a.eval o).run P w = .ok (.value (.tuple [ek k, mkV agg cs].toArray)) w := by
  obtain ⟨e, he, hk', hv'⟩ := hM.at hq
  have hem : e ∈ raw.toList := by simpa using Array.mem_of_getElem? he
  cases p with
  | none =>
    have h00 : raw = #[] := by obtain ⟨_, _, _, h, _⟩ := H.get i hi; exact h
    rw [h00] at hem; simp at hem
  | some b =>
    have hh : w.heap[b]? = some (.map raw c) := by obtain ⟨_, _, hs, h, _⟩ := H.get i hi; exact hs _ _ h
    have hj2 : ls[j]? = some (HP.obj r (.mapIter (some b) c ((bornsOf raw vis).push e.born) c)) := by rw [bornsOf_push raw vis he]; exact hj
    have := y_entryH (P := P) F ho hx H hh j hj2 hem hM.nd
    rwa [hk', hv'] at this
end
section
variable {w0 w w' : World} {l : List HP} {n0 : Nat}
theorem St.rcP2N {cs : List Value} {x : List UInt8 × List UInt8} (H : St w0 w (HP.rc (rP2N n0) cs x :: l)) : ∃ (p : Option Addr) (c : Nat) (q : Option Addr) (d : Nat), cs = [.slice p x.1.length c, .slice q x.2.length d] ∧ St w0 w (HP.nsl n0 rByte p c x.1 :: HP.nsl n0 rByte q d x.2 :: l) := by
  obtain ⟨B, H⟩ := H.out
  obtain ⟨S, c1, c2, rfl, ⟨p, c, rfl, h1⟩, ⟨q, d, rfl, h2⟩⟩ := H.at (i := 0) rfl
  exact ⟨p, c, q, d, rfl, ((H.more (A := HP.nsl n0 rByte q d x.2) h2).more (A := HP.nsl n0 rByte p c x.1) h1).st.keep 2 1⟩
theorem St.slP2W {p : Option Addr} {cap : Nat} {xs : List (List UInt8 × List UInt8)} (H : St w0 w l) (i : Nat) (hi : l[i]? = some (HP.sl (rP2N n0) p cap xs)) : St w0 w (HP.sl rP2 p cap xs :: l) :=
  H.more fun B _ g => by
    obtain ⟨S, h⟩ := g i _ hi
    exact sl_conv (fun _ _ h => h) (fun h => p2N_weak h) h
theorem St.rcP2W {cs : List Value} {x : List UInt8 × List UInt8} (H : St w0 w l) (i : Nat) (hi : l[i]? = some (HP.rc (rP2N n0) cs x)) : St w0 w (HP.rc rP2 cs x :: l) :=
  H.more fun B _ g => by
    obtain ⟨S, h⟩ := g i _ hi
    exact p2N_weak h
/-- A text in new memory, behind a call in a sealed world. -/
theorem St.unsealB {p : Option Addr} {cap : Nat} {xs : List UInt8} (H : St w0 w l) (H' : St w w' [HP.nsl w.heap.size rByte p cap xs, HP.all w]) : St w0 w' (HP.sl rByte p cap xs :: l) :=
  H.unseal1 (A := HP.nsl w.heap.size rByte p cap xs) (fun h => h.1) H'
theorem St.unsealH {p : Option Addr} {cap n : Nat} {e : TypeId} {xs : List (List UInt8)} (H : St w0 w l) (H' : St w w' [HP.ow (rBytesN n) e p cap xs, HP.all w]) : St w0 w' (HP.ow (rBytesN n) e p cap xs :: l) :=
  H.unseal1 (A := HP.ow (rBytesN n) e p cap xs) (fun h => by
    obtain ⟨css, h1, h2⟩ := h
    exact ⟨css, rdl_conv (R := rBytesN n) (R' := rBytesN n) (B := _) (fun {cs x} h => by exact h) h1, h2⟩) H'
end
end Go.Tri
