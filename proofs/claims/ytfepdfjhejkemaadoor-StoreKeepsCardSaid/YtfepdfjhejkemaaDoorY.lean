/- The engine: what single operations yield, out of the known slots and the owned pieces. -/
import Derived.Test.YtfepdfjhejkemaaDoorE
import Derived.Test.YtfepdfjhejkemaaDoorLibI
import Derived.Test.YtfepdfjhejkemaaDoorLibC
import Derived.Test.YtfepdfjhejkemaaDoorLibS
set_option linter.unusedSimpArgs false
set_option linter.unusedVariables false
namespace Go.Tri
open Go.RowKit
section
variable {P : Program} {o : Oper} {a : Act} {w : World} {N : Fs} {l : List (Nat × Value)} {x y z : Operand} {t t' : TypeId} {v : Value}
theorem y_move (F : Fr N a l) (ho : o.op = .move x) (hx : ev l x = some v) : (execOp a.eval o).run P w = .ok (.value v) w := by
  unfold execOp; simp [ho, F.eval hx]
theorem y_assign (F : Fr N a l) (ho : o.op = .assign x) (hx : ev l x = some v) : (execOp a.eval o).run P w = .ok (.value v) w := by
  unfold execOp; simp [ho, F.eval hx]
theorem y_pickT (F : Fr N a l) (ho : o.op = .pick x y z) (hx : ev l x = some (.bool true)) (hy : ev l y = some v) : (execOp a.eval o).run P w = .ok (.value v) w := by
  unfold execOp; simp [ho, F.eval hx, F.eval hy, asBool]
theorem y_pickF (F : Fr N a l) (ho : o.op = .pick x y z) (hx : ev l x = some (.bool false)) (hz : ev l z = some v) : (execOp a.eval o).run P w = .ok (.value v) w := by
  unfold execOp; simp [ho, F.eval hx, F.eval hz, asBool]
theorem y_not (F : Fr N a l) (ho : o.op = .unOp .not t x) {b : Bool} (hx : ev l x = some (.bool b)) : (execOp a.eval o).run P w = .ok (.value (.bool (!b))) w := by
  unfold execOp; simp [ho, F.eval hx, Op.unary]
section
variable {k : IntKind} {m n r : Int}
theorem y_lss (F : Fr N a l) (ho : o.op = .binOp .lss t x y t') (hx : ev l x = some (.int k m)) (hy : ev l y = some (.int k n)) : (execOp a.eval o).run P w = .ok (.value (.bool (decide (m < n)))) w := by
  unfold execOp; simp [ho, F.eval hx, F.eval hy, eqGuard, binOp, Op.intCmp]
theorem y_gtr (F : Fr N a l) (ho : o.op = .binOp .gtr t x y t') (hx : ev l x = some (.int k m)) (hy : ev l y = some (.int k n)) : (execOp a.eval o).run P w = .ok (.value (.bool (decide (n < m)))) w := by
  unfold execOp; simp [ho, F.eval hx, F.eval hy, eqGuard, binOp, Op.intCmp]
theorem y_geq (F : Fr N a l) (ho : o.op = .binOp .geq t x y t') (hx : ev l x = some (.int k m)) (hy : ev l y = some (.int k n)) : (execOp a.eval o).run P w = .ok (.value (.bool (decide (n ≤ m)))) w := by
  unfold execOp; simp [ho, F.eval hx, F.eval hy, eqGuard, binOp, Op.intCmp]
theorem y_eql (F : Fr N a l) (ho : o.op = .binOp .eql t x y t') (hx : ev l x = some (.int k m)) (hy : ev l y = some (.int k n)) : (execOp a.eval o).run P w = .ok (.value (.bool (decide (m = n)))) w := by
  have : (m == n) = decide (m = n) := by rw [Bool.eq_iff_iff]; simp
  unfold execOp; simp [ho, F.eval hx, F.eval hy, eqGuard, binOp, Op.intCmp, this]
theorem y_neq (F : Fr N a l) (ho : o.op = .binOp .neq t x y t') (hx : ev l x = some (.int k m)) (hy : ev l y = some (.int k n)) : (execOp a.eval o).run P w = .ok (.value (.bool (!decide (m = n)))) w := by
  have : (m != n) = !decide (m = n) := by rw [Bool.eq_iff_iff]; simp
  unfold execOp; simp [ho, F.eval hx, F.eval hy, eqGuard, binOp, Op.intCmp, this]
theorem y_add (F : Fr N a l) (ho : o.op = .binOp .add t x y t') (hx : ev l x = some (.int k m)) (hy : ev l y = some (.int k n)) (hr : k.wrap (m + n) = r) : (execOp a.eval o).run P w = .ok (.value (.int k r)) w := by
  unfold execOp; simp [ho, F.eval hx, F.eval hy, eqGuard, binOp, Op.intArith, hr]
theorem y_sub (F : Fr N a l) (ho : o.op = .binOp .sub t x y t') (hx : ev l x = some (.int k m)) (hy : ev l y = some (.int k n)) (hr : k.wrap (m - n) = r) : (execOp a.eval o).run P w = .ok (.value (.int k r)) w := by
  unfold execOp; simp [ho, F.eval hx, F.eval hy, eqGuard, binOp, Op.intArith, hr]
theorem y_mul (F : Fr N a l) (ho : o.op = .binOp .mul t x y t') (hx : ev l x = some (.int k m)) (hy : ev l y = some (.int k n)) (hr : k.wrap (m * n) = r) : (execOp a.eval o).run P w = .ok (.value (.int k r)) w := by
  unfold execOp; simp [ho, F.eval hx, F.eval hy, eqGuard, binOp, Op.intArith, hr]
end
theorem y_binAgg {op : BinOp} (F : Fr N a l) (ho : o.op = .binOp op t x y t') {u1 u2 : Value} (hx : ev l x = some u1) (hy : ev l y = some u2)
    (hr : (do eqGuard op t x y u1 u2; binOp op t u1 u2).run P w = .ok v w) : (execOp a.eval o).run P w = .ok (.value v) w := by
  unfold execOp
  simp only [ho, F.eval hx, F.eval hy]
  rw [Sem.run_bind, hr]; rfl
theorem y_lenS (F : Fr N a l) (ho : o.op = .call { callee := .builtin .len, args := #[x], argTypes := #[t] }) {e : TypeId} (ht : P.underlying t = some (.slice e)) {p : Option Addr} {n c : Nat} (hx : ev l x = some (.slice p n c)) : (execOp a.eval o).run P w = .ok (.value (.int .i64 n)) w := by
  unfold execOp; simp [ho, resolve, invoke, builtin, F.eval hx, Builtin.len_, Go.run_underlying ht, goInt]
theorem y_extract (F : Fr N a l) {i : Nat} (ho : o.op = .extract x i) {vs : List Value} (hx : ev l x = some (.tuple vs.toArray)) (hv : vs[i]? = some v) : (execOp a.eval o).run P w = .ok (.value v) w := by
  unfold execOp; simp [ho, F.eval hx, Instr.extract, hv]
/-- Field f of a struct of type t lies off cells behind its head. -/
def FieldT (P : Program) (t : TypeId) (f off : Nat) : Prop :=
  (match P.underlying t with | some (.struct fs) => fs[f]?.map fun g => (g.offset, (P.info? g.type).map fun i => decide (0 < i.size)) | _ => none) = some (off, some true)
theorem y_fieldAddr (F : Fr N a l) {f off : Nat} (hF : FieldT P t f off) (ho : o.op = .fieldAddr t x f) {b k : Nat} (hx : ev l x = some (.pointer (some ⟨b, k, none⟩))) :
    (execOp a.eval o).run P w = .ok (.value (.pointer (some ⟨b, k + off, none⟩))) w := by
  unfold FieldT at hF
  split at hF
  · rename_i fs hu
    cases hg : fs[f]? with
    | none => simp [hg] at hF
    | some g =>
      simp only [hg, Option.map_some, Option.some.injEq, Prod.mk.injEq] at hF
      obtain ⟨h1, h2⟩ := hF
      cases hi : P.info? g.type with
      | none => simp [hi] at h2
      | some i =>
        simp [hi] at h2
        have hz : (Go.sizeOf g.type).run P w = .ok i.size w := by
          unfold sizeOf; rw [Sem.run_bind, run_typeInfo hi]; rfl
        have hne : i.size ≠ 0 := by omega
        unfold execOp
        simp [ho, F.eval hx, Instr.fieldAt, Instr.sureAddr, Go.run_underlying hu, hg, fieldPlace, hz, hne, add_none, h1]
  · cases hF
/-- No struct, no array. -/
def Plain (P : Program) (t : TypeId) : Prop := (P.underlying t).map (fun d => match d with | .struct _ | .array _ _ => true | _ => false) = some false
theorem Plain.run_isAgg (h : Plain P t) (w : World) : (isAgg t).run P w = .ok false w := by
  unfold Plain at h
  cases hu : P.underlying t with
  | none => simp [hu] at h
  | some d =>
    rw [hu] at h
    unfold isAgg
    rw [Sem.run_bind, run_underlying hu]
    cases d <;> first | rfl | (simp at h)
theorem y_load1 (F : Fr N a l) (hP : Plain P t) (ho : o.op = .load t x) {b off : Nat} (hx : ev l x = some (.pointer (some ⟨b, off, none⟩))) (hc : w.cell? ⟨b, off, none⟩ = some v) : (execOp a.eval o).run P w = .ok (.value v) w := by
  unfold execOp
  simp [ho, F.eval hx, Instr.loadAt, Instr.sureAddr, loadVar, hP.run_isAgg, run_load, hc]
theorem y_loadA {n : Nat} {zz : List Value} (F : Fr N a l) (hA : AggT P t n zz) (ho : o.op = .load t x) {b off : Nat} (hx : ev l x = some (.pointer (some ⟨b, off, none⟩))) {cs : List Value} (hr : Row w b off cs) (hn : cs.length = n) : (execOp a.eval o).run P w = .ok (.value (.agg cs.toArray)) w := by
  unfold execOp
  simp only [ho, F.eval hx, Instr.loadAt, Instr.sureAddr, Sem.run_bind, Sem.run_pure, Result.andThen_ok, hA.run_load hr hn]
theorem y_boxA (F : Fr N a l) (ho : o.op = .box t x) {cs : List Value} (hx : ev l x = some (.agg cs.toArray)) : (execOp a.eval o).run P w = .ok (.value (.pointer (some ⟨w.heap.size, 0, none⟩))) (w.alloc (.cells cs.toArray t)) := by
  unfold execOp
  simp [ho, F.eval hx, Instr.box, newVar, newRow, newObj, Value.cells, Sem.run]
theorem y_box1 (F : Fr N a l) (ho : o.op = .box t x) (hx : ev l x = some v) (hv : v.cells = #[v]) : (execOp a.eval o).run P w = .ok (.value (.pointer (some ⟨w.heap.size, 0, none⟩))) (w.alloc (.cells [v].toArray t)) := by
  unfold execOp
  simp [ho, F.eval hx, Instr.box, newVar, newRow, newObj, hv, Sem.run]
theorem y_allocA {n : Nat} {zz : List Value} (F : Fr N a l) (hA : AggT P t n zz) (ho : o.op = .alloc t) : (execOp a.eval o).run P w = .ok (.value (.pointer (some ⟨w.heap.size, 0, none⟩))) (w.alloc (.cells zz.toArray t)) := by
  unfold execOp
  simp only [ho, Instr.alloc, Sem.run_bind, hA.run_zero, Result.andThen_ok, newVar, newRow, newObj, Value.cells, Sem.run_pure, Sem.run]
  rfl
/-- The zero of a plain type. -/
def Zero1 (P : Program) (t : TypeId) (z : Value) : Prop := (P.info? t).map (fun i => (i.zero, i.size)) = some (some z, 1) ∧ z.cells = #[z]
theorem Zero1.run (h : Zero1 P t v) (w : World) : (zeroValue t).run P w = .ok v w := by
  have := h.1
  cases hu : P.info? t with
  | none => simp [hu] at this
  | some d =>
    rw [hu] at this; simp at this
    unfold zeroValue
    rw [Sem.run_bind, run_typeInfo hu]
    show Sem.run P (match d.zero with | some v => pure v | none => _) w = _
    rw [this.1]; rfl
theorem Zero1.run_size (h : Zero1 P t v) (w : World) : (sizeOf t).run P w = .ok 1 w := by
  have := h.1
  cases hu : P.info? t with
  | none => simp [hu] at this
  | some d =>
    rw [hu] at this; simp at this
    unfold sizeOf
    rw [Sem.run_bind, run_typeInfo hu, ← this.2]; rfl
theorem y_alloc1 (F : Fr N a l) (hz : Zero1 P t v) (ho : o.op = .alloc t) : (execOp a.eval o).run P w = .ok (.value (.pointer (some ⟨w.heap.size, 0, none⟩))) (w.alloc (.cells [v].toArray t)) := by
  unfold execOp
  simp only [ho, Instr.alloc, Sem.run_bind, hz.run, Result.andThen_ok, newVar, newRow, newObj, hz.2, Sem.run_pure, Sem.run]
  rfl
theorem y_storeA {n : Nat} {zz : List Value} (F : Fr N a l) (hA : AggT P t n zz) (ho : o.op = .store t x y) {b off : Nat} (hx : ev l x = some (.pointer (some ⟨b, off, none⟩))) {old cs : List Value} {u : TypeId} (hy : ev l y = some (.agg cs.toArray)) (hb : Blk w b old u) (hn : cs.length = n) (hl : off + n ≤ old.length) (hf : Flat cs) :
    (execOp a.eval o).run P w = .ok .skip (w.setRow b (old.take off ++ cs ++ old.drop (off + n)).toArray) := by
  unfold execOp
  simp only [ho, F.eval hx, F.eval hy, Instr.storeAt, Instr.sureAddr, Sem.run_bind, Sem.run_pure, Result.andThen_ok, hA.run_store hb hn hl hf]
theorem y_storeA0 {n : Nat} {zz : List Value} (F : Fr N a l) (hA : AggT P t n zz) (ho : o.op = .store t x y) {b : Nat} (hx : ev l x = some (.pointer (some ⟨b, 0, none⟩))) {old cs : List Value} {u : TypeId} (hy : ev l y = some (.agg cs.toArray)) (hb : Blk w b old u) (hn : cs.length = n) (hl : old.length = n) (hf : Flat cs) :
    (execOp a.eval o).run P w = .ok .skip (w.setRow b cs.toArray) := by
  unfold execOp
  simp only [ho, F.eval hx, F.eval hy, Instr.storeAt, Instr.sureAddr, Sem.run_bind, Sem.run_pure, Result.andThen_ok, hA.run_store0 hb hn hl hf]
theorem set_split {α : Type} (old : List α) (off : Nat) (v : α) (h : off < old.length) : old.take off ++ [v] ++ old.drop (off + 1) = old.set off v := by
  rw [List.set_eq_take_append_cons_drop, if_pos h]; simp
theorem y_store1 (F : Fr N a l) {z1 : Value} (hz : Zero1 P t z1) (ho : o.op = .store t x y) {b off : Nat} (hx : ev l x = some (.pointer (some ⟨b, off, none⟩))) {old : List Value} {u : TypeId} (hy : ev l y = some v) (hv : v.cells = #[v]) (h1 : v.oneCell' = true) (hb : Blk w b old u) (hl : off < old.length) :
    (execOp a.eval o).run P w = .ok .skip (w.setRow b (old.set off v).toArray) := by
  have e := run_storeCells_at (P := P) b off u [v] 0 old.toArray w hb (by simp; omega) (by simpa using h1)
  simp only [Nat.add_zero, List.length_singleton, set_split old off v hl] at e
  unfold execOp
  simp only [ho, F.eval hx, F.eval hy, Instr.storeAt, Instr.sureAddr, Sem.run_bind, Sem.run_pure, Result.andThen_ok, storeVar, hz.run_size, hv]
  simp only [List.size_toArray, List.length_singleton, ne_eq, not_true_eq_false, if_false]
  rw [e]
  rfl
theorem y_call (F : Fr N a l) {f : FuncId} {xs : List Operand} {ts : Array TypeId} (ho : o.op = .call { callee := .value (.func f), args := xs.toArray, argTypes := ts }) {vs : List Value} (hv : evs l xs = some vs)
    (he : ∀ args w, (callFunc f args).run P w = .ok (.enter f args) w) : (execOp a.eval o).run P w = .ok (.enter f vs.toArray) w := by
  have := F.evals hv
  unfold execOp
  simp [ho, resolve, Act.eval, Deferred.ofValue, invoke, he, this]
theorem y_buildSlice0 (F : Fr N a l) {e : TypeId} {size bytes : Nat} {z0 : Value} (hE : ElemT P t e size bytes z0) (ho : o.op = .buildSlice t 0 #[]) : (execOp a.eval o).run P w = .ok (.value (.slice (some ⟨w.heap.size, 0, none⟩) 0 0)) (w.alloc (.cells [].toArray e)) := by
  obtain ⟨j, hj, _, hs, _⟩ := info_parts hE.hi
  have hz : (Go.sizeOf e).run P w = .ok size w := by
    unfold sizeOf; rw [Sem.run_bind, run_typeInfo hj, ← hs]; rfl
  unfold execOp
  simp [ho, Instr.buildSlice, Go.run_underlying hE.ht, hz, Instr.fill, newRow, newObj, Sem.run]
  have : Array.map (fun x : Nat => (default : Value)) (Array.range 0) = #[] := by simp
  rw [this]
theorem run_buildSlice1 {n bytes : Nat} {zz : List Value} {e : TypeId} (h : AggT P e n zz) (hE : ElemT P t e n bytes (.agg zz.toArray)) {cs : List Value} (hn : cs.length = n) (h24 : n ≤ 16777216) :
    (Instr.buildSlice t 1 #[(0, .agg cs.toArray)]).run P w = .ok (.slice (some ⟨w.heap.size, 0, none⟩) 1 1) (w.alloc (.cells cs.toArray e)) := by
  have hpos := hE.hs
  unfold Instr.buildSlice
  rw [Sem.run_bind, run_underlying hE.ht]
  simp only [Result.andThen_ok]
  rw [Sem.run_bind, h.run_size]
  simp only [Result.andThen_ok, Nat.one_mul]
  rw [if_neg (by omega)]
  rw [if_neg (by omega)]
  rw [Sem.run_bind, h.run_zero]
  simp only [Result.andThen_ok]
  rw [Sem.run_bind]
  simp only [Result.andThen_ok, Sem.run_pure, Value.cells]
  rw [fill_one n _ cs hn (by simp)]
  rfl
theorem y_buildSlice1 (F : Fr N a l) {n bytes : Nat} {zz : List Value} {e : TypeId} (h : AggT P e n zz) (hE : ElemT P t e n bytes (.agg zz.toArray)) (ho : o.op = .buildSlice t 1 #[(0, y)]) {cs : List Value} (hy : ev l y = some (.agg cs.toArray)) (hn : cs.length = n) (h24 : n ≤ 16777216) :
    (execOp a.eval o).run P w = .ok (.value (.slice (some ⟨w.heap.size, 0, none⟩) 1 1)) (w.alloc (.cells cs.toArray e)) := by
  unfold execOp
  simp only [ho]
  have hm : (#[(0, y)].map fun (p : Nat × Operand) => (p.1, a.eval p.2)) = #[(0, Value.agg cs.toArray)] := by simp [F.eval hy]
  simp only [hm, Sem.run_bind, run_buildSlice1 h hE hn h24, Result.andThen_ok]
  rfl
end

/-! ### append -/
theorem set_same {α : Type} {l : List α} {i : Nat} {x : α} (h : l[i]? = some x) : l.set i x = l := by
  apply List.ext_getElem?
  intro j
  rw [List.getElem?_set]
  by_cases e : i = j
  · subst e; rw [if_pos rfl, if_pos (List.getElem?_eq_some_iff.1 h).1, h]
  · rw [if_neg e]
section
variable {P : Program} {w0 w : World} {ls : List HP} {t e : TypeId} {size bytes : Nat} {z : Value}
theorem run_appendSt (H : St w0 w ls) (i : Nat) {v : Value} {n : Nat} {xs : List Value} (hi : ls[i]? = some (HP.own e size v n xs)) (hE : ElemT P t e size bytes z) {u : Value} {m : Nat} {news : List Value}
    (hsrc : Sl w u m news) (hl : news.length = m * size) (h1 : Flat news) (h63 : n + m ≤ maxLen) (hbytes : (n + m) * bytes ≤ 140737488355328) (ty : TypeId) :
    ∃ v' w', (Builtin.append_ #[t, t] ty #[v, u]).run P w = .ok v' w' ∧ St w0 w' (ls.set i (HP.own e size v' (n + m) (xs ++ news))) := by
  obtain ⟨j, hj, hz0, hz1, hz2⟩ := info_parts hE.hi
  have ho := H.owns i hi
  -- the source nil, or an address
  rcases (show (u = .slice none 0 0 ∧ m = 0 ∧ news = []) ∨ ∃ ad c, u = .slice (some ad) m c ∧ ∀ k x, news[k]? = some x → w.cell? (ad.add k) = some x by
    rcases hsrc with h | ⟨ad, cap, rfl, h0, hn⟩ | ⟨b, off, cap, rfl, _, hr⟩
    · exact .inl h
    · subst h0; subst hn; exact .inr ⟨ad, cap, rfl, fun k x hk => by simp at hk⟩
    · exact .inr ⟨⟨b, off, none⟩, cap, rfl, fun k x hk => by rw [add_none]; exact hr k x hk⟩) with ⟨rfl, rfl, rfl⟩ | ⟨ad, c, rfl, hnews⟩
  · refine ⟨v, w, ?_, ?_⟩
    · exact run_append_owned_none (P := P) (w := w) 0 t ty e j size hE.ht hj v n xs ho
    · rw [Nat.add_zero, List.append_nil, set_same hi]; exact H
  · obtain ⟨hlx, ⟨rfl, rfl⟩ | ⟨g, cap, cur, rfl, _, hg, hnc, hcm, hcs, htake⟩⟩ := ho
    · -- nil: what comes is new
      have hx : xs = [] := List.eq_nil_of_length_eq_zero (by simpa using hlx)
      subst hx
      obtain ⟨v', w', hr, h2, h3, _⟩ := run_append_own (P := P) w w.heap.size t ty e j z size bytes hE.ht hj hz0 hz1 hz2 hE.hz hE.hs (.slice none 0 0) 0 [] (World.ownsRow_nil w _ e size) ad m c news hl hnews h1 h63 hbytes (Nat.le_refl _)
      refine ⟨v', w', hr, H.upd i hi (fun S hA hS => ⟨fun b => v'.ownBlock = some b, ⟨⟨h2.1, ?_⟩, fun b hb => hb⟩, ?_, ?_, ?_⟩) h3.os h3.tape h3.output h3.size⟩
      · rcases h2.2 with h | ⟨g, cap, cur, hv, hb, hr⟩
        · exact .inl h
        · exact .inr ⟨g, cap, cur, hv, Nat.zero_le _, hr⟩
      · intro b hb; exact .inr (h2.lt b hb).1
      · intro b hb; exact (h2.lt b hb).2
      · intro b hb _; exact h3.block b hb (by simp [Value.ownBlock])
    · by_cases hroom : n + m ≤ cap
      · have hfit : n * j.size + news.length ≤ cur.size := by rw [hl, hcs, hz1, ← Nat.add_mul]; exact Nat.mul_le_mul_right _ hroom
        have hr := run_append_room (P := P) w t ty e j hE.ht hj g n cap cur hg ad m c news (by rw [hz1]; exact hl) hnews h1 hroom hfit
        refine ⟨_, _, hr, H.chg i hi (fun S hA => hA.2 g rfl) (Chg.setRow w g _) fun S hA => ⟨⟨?_, .inr ⟨g, cap, _, rfl, Nat.zero_le _, setRow_heap w g cur _ e _ hg, hroom, hcm, ?_, ?_⟩⟩, hA.2⟩⟩
        · rw [List.length_append, hlx, hl, Nat.add_mul]
        · simp only [List.size_toArray, List.length_append, List.length_take, List.length_drop, Array.length_toList]
          rw [hz1] at hfit ⊢
          rw [hcs] at hfit ⊢
          have hns : n * size ≤ cap * size := Nat.mul_le_mul_right _ hnc
          omega
        · rw [hz1, htake]
          have : (n + m) * size = (xs ++ news).length := by rw [List.length_append, hlx, hl, Nat.add_mul]
          rw [this]; exact List.take_left
      · have holds : ∀ k x, xs[k]? = some x → w.cell? ((⟨g, 0, none⟩ : Addr).add k) = some x := (H.owns i hi).cells (g := g) rfl
        have hr := run_append_grow (P := P) w t ty e j z hE.ht hj hz0 ⟨g, 0, none⟩ n cap xs (by rw [hz1]; exact hlx) holds ad m c news (by rw [hz1]; exact hl) hnews (by omega) (by simp only [maxLen] at h63; omega) (growslice_fits (by omega) (by rw [hz2]; exact hbytes))
        have hge := grownCap_ge w (n + m) cap e
        have hcm := grownCap_le_maxLen w (n + m) cap e h63
        refine ⟨_, _, hr, H.upd i hi (fun S hA hS => ⟨fun b => b = w.heap.size, ⟨⟨?_, .inr ⟨w.heap.size, _, _, rfl, Nat.zero_le _, heap_alloc_new w.drew _, hge, hcm, ?_, ?_⟩⟩, fun b hb => by simp [Value.ownBlock] at hb; exact hb.symm⟩, fun b hb => .inr (by omega), fun b hb => by simp; omega, fun b hb _ => heapOld w.drew _ b hb⟩) rfl rfl rfl (by simp)⟩
        · rw [List.length_append, hlx, hl, Nat.add_mul]
        · simp only [Array.size_append, List.size_toArray, size_zeroCells, hE.hz, hlx, hl, ← Nat.add_mul]
          congr 1
          omega
        · simp only [Array.toList_append, List.append_assoc]
          have : (n + m) * size = (xs ++ news).length := by rw [List.length_append, hlx, hl, Nat.add_mul]
          rw [← List.append_assoc, this]
          exact List.take_left
variable {ops : Array Oper} {rest : List Oper} {o : Oper} {a : Act} {W : List Oper → Act → World → Prop} {N : Fs} {l : List (Nat × Value)} {d : Nat}
end
/-- A new empty slice, out of its block. -/
theorem St.ownNew {w0 w : World} {ls : List HP} (H : St w0 w ls) (e : TypeId) (size : Nat) : St w0 (w.alloc (.cells [].toArray e)) (HP.own e size (.slice (some ⟨w.heap.size, 0, none⟩) 0 0) 0 [] :: ls) :=
  H.add _ _ fun S hS => ⟨⟨by simp, .inr ⟨_, 0, #[], rfl, Nat.zero_le _, heapNew w _, Nat.le_refl _, by simp [maxLen], by simp, by simp⟩⟩, fun b hb => by simp [Value.ownBlock] at hb; exact hb ▸ hS⟩
theorem St.ownNil {w0 w : World} {ls : List HP} (H : St w0 w ls) (e : TypeId) (size : Nat) : St w0 w (HP.own e size (.slice none 0 0) 0 [] :: ls) :=
  H.more fun B _ _ => ⟨World.ownsRow_nil w 0 e size, fun b hb => by simp [Value.ownBlock] at hb⟩
end Go.Tri
