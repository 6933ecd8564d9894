/- Laws on a map with integer keys that the program has made: what it holds is a list of pairs of key and value. -/
import Derived.Test.YtodggokkklfopaaDoorLib
set_option linter.unusedSimpArgs false
set_option linter.unusedVariables false
namespace Go.Tri
open Go.RowKit

/-- Only block b has turned. -/
structure Chg (b : Nat) (w w' : World) : Prop where
  os : w'.os = w.os
  tape : w'.tape = w.tape
  output : w'.output = w.output
  size : w'.heap.size = w.heap.size
  oth : ∀ k, k ≠ b → w'.heap[k]? = w.heap[k]?

theorem Blk.chg {w w' : World} {b g : Nat} {cs : List Value} {t : TypeId} (h : Blk w b cs t) (hc : Chg g w w') (hne : b ≠ g) : Blk w' b cs t := by
  unfold Blk; rw [hc.oth b hne]; exact h
theorem Row.chg {w w' : World} {b g off : Nat} {cs : List Value} (h : Row w b off cs) (hc : Chg g w w') (hne : b ≠ g) : Row w' b off cs := by
  intro j v hj
  have := h j v hj
  unfold World.cell? at this ⊢
  rw [hc.oth b hne]; exact this
theorem _root_.Go.RowKit.Below.chg {B : Nat} {a w w' : World} (h : Below B a w) {g : Nat} (hc : Chg g w w') (hg : B ≤ g) : Below B a w' :=
  ⟨hc.os.trans h.os, hc.tape.trans h.tape, hc.output.trans h.output, by rw [hc.size]; exact h.size, fun k hk => by rw [hc.oth k (by omega)]; exact h.block k hk⟩

theorem Chg.setRow (w : World) (b : Nat) (cs : Array Value) : Chg b w (w.setRow b cs) := ⟨rfl, rfl, rfl, size_setRow w b cs, fun k hk => heap_setRow_other w b k cs hk⟩
theorem wl_storeC {P : Program} {t : TypeId} {n : Nat} {z : List Value} {ops : Array Oper} {rest : List Oper} {o : Oper} {a : Act} {w : World} {Q : Exit → Act → World → Prop} (h : AggT P t n z)
    {x y : Operand} (ho : o.op = .store t x y) (hgd : Region.wanted o (yielded ops a.tmps) = true) {b : Nat} (hx : a.eval x = .pointer (some ⟨b, 0, none⟩))
    {old cs : List Value} (hy : a.eval y = .agg cs.toArray) {u : TypeId} (hb : Blk w b old u) (hn : cs.length = n) (hl : old.length = n) (hf : Flat cs)
    (hk : ∀ w', Blk w' b cs u → Chg b w w' → wpList P ops Q rest (a.put o.dst undef) w') : wpList P ops Q (o :: rest) a w :=
  wl_store h ho hgd hx hy hb hn hl hf (hk _ (hb.set_same cs) (Chg.setRow w b _))

/-- Block b is a map with these pairs, in the order in which they came. -/
def MapB (w : World) (b : Nat) (kv : List (Value × Value)) : Prop :=
  ∃ es clock, w.heap[b]? = some (.map es clock) ∧ es.toList.map (fun e => (e.key, e.val)) = kv

theorem MapB.lt {w : World} {b : Nat} {kv : List (Value × Value)} (h : MapB w b kv) : b < w.heap.size := by
  obtain ⟨es, c, h, _⟩ := h; exact (Array.getElem?_eq_some_iff.1 h).1
theorem MapB.new (w : World) : MapB (w.alloc (.map #[] 0)) w.heap.size [] := ⟨#[], 0, heapNew w _, rfl⟩
theorem MapB.alloc {w : World} {b : Nat} {kv : List (Value × Value)} (h : MapB w b kv) (o : Obj) : MapB (w.alloc o) b kv := by
  have hl := h.lt
  obtain ⟨es, c, h, e⟩ := h; exact ⟨es, c, by rw [heapOld w o b hl]; exact h, e⟩
theorem MapB.drew {w : World} {b : Nat} {kv : List (Value × Value)} (h : MapB w b kv) : MapB w.drew b kv := h
theorem MapB.setRow {w : World} {b : Nat} {kv : List (Value × Value)} (h : MapB w b kv) (g : Nat) (cs : Array Value) (hne : b ≠ g) : MapB (w.setRow g cs) b kv := by
  obtain ⟨es, c, h, e⟩ := h; exact ⟨es, c, by rw [heap_setRow_other _ _ _ _ hne]; exact h, e⟩
theorem MapB.below {w w' : World} {B b : Nat} {kv : List (Value × Value)} (h : MapB w b kv) (hb : Below B w w') (hB : b < B) : MapB w' b kv := by
  obtain ⟨es, c, h, e⟩ := h; exact ⟨es, c, by rw [hb.block b hB]; exact h, e⟩
theorem MapB.grow {w w' : World} {b : Nat} {kv : List (Value × Value)} (h : MapB w b kv) (hb : Below w.heap.size w w') : MapB w' b kv := h.below hb h.lt
theorem MapB.chg {w w' : World} {b g : Nat} {kv : List (Value × Value)} (h : MapB w b kv) (hc : Chg g w w') (hne : b ≠ g) : MapB w' b kv := by
  obtain ⟨es, c, h, e⟩ := h; exact ⟨es, c, by rw [hc.oth b hne]; exact h, e⟩

/-- A pair is put into a list of pairs. -/
def aset {K V : Type} [DecidableEq K] (k : K) (v : V) : List (K × V) → List (K × V)
  | [] => [(k, v)]
  | (k', v') :: r => if k' = k then (k, v) :: r else (k', v') :: aset k v r
def aget {K V : Type} [DecidableEq K] (k : K) : List (K × V) → Option V
  | [] => none
  | (k', v') :: r => if k' = k then some v' else aget k r

/-- The pairs of a map whose keys are integers of kind q. -/
def ikv (q : IntKind) (l : List (Int × Value)) : List (Value × Value) := l.map fun p => (.int q p.1, p.2)

theorem findNow_int (q q' : IntKind) (k : Int) : ∀ (es : List MapEntry) (l : List (Int × Value)) (i : Nat), es.map (fun e => (e.key, e.val)) = ikv q l →
    (aget k l = none → Instr.findNow (.int q') (.int q k) es i = some none) ∧
    (∀ v, aget k l = some v → ∃ j, Instr.findNow (.int q') (.int q k) es i = some (some (i + j, v)) ∧ (es[j]?).map (·.key) = some (.int q k) ∧ ∀ x, ((es.modify j fun e => { e with key := .int q k, val := x }).map fun e => (e.key, e.val)) = ikv q (aset k x l))
  | [], l, i, h => by
    cases l with
    | nil => exact ⟨fun _ => rfl, fun v hv => by cases hv⟩
    | cons p l => simp [ikv] at h
  | e :: es, l, i, h => by
    cases l with
    | nil => simp [ikv] at h
    | cons p l =>
      obtain ⟨k', v'⟩ := p
      simp only [ikv, List.map_cons, List.cons.injEq, Prod.mk.injEq] at h
      obtain ⟨⟨hk, hv⟩, ht⟩ := h
      have ih := findNow_int q q' k es l (i + 1) ht
      by_cases hkk : k' = k
      · subst hkk
        refine ⟨fun hn => by simp [aget] at hn, fun v hv' => ⟨0, ?_, ?_, ?_⟩⟩
        · simp only [aget, if_true, Option.some.injEq] at hv'
          subst hv'
          simp [Instr.findNow, Instr.sameNow, hk, hv]
        · simp [hk]
        · intro x
          simp only [List.modify_cons, aset, ikv, List.map_cons, if_true]
          rw [ht]
      · have hne : (k == k') = false := by simp; exact fun hh => hkk hh.symm
        have hs : Instr.findNow (.int q') (.int q k) (e :: es) i = Instr.findNow (.int q') (.int q k) es (i + 1) := by
          simp [Instr.findNow, Instr.sameNow, hk, hne]
        rw [hs]
        refine ⟨fun hn => ih.1 (by simpa [aget, hkk] using hn), fun v hv' => ?_⟩
        obtain ⟨j, h1, h2, h3⟩ := ih.2 v (by simpa [aget, hkk] using hv')
        refine ⟨j + 1, ?_, by simpa using h2, fun x => ?_⟩
        · rw [h1]; congr 3; omega
        · simp only [List.modify_cons, Nat.add_eq_zero_iff, Nat.add_sub_cancel, aset, hkk, if_false, ikv, List.map_cons]
          have := h3 x
          simp only [ikv] at this
          simp [this, hk, hv]

theorem aset_none {K V : Type} [DecidableEq K] (k : K) (v : V) : ∀ l : List (K × V), aget k l = none → aset k v l = l ++ [(k, v)]
  | [], _ => rfl
  | (k', v') :: r, h => by
    by_cases hk : k' = k
    · simp [aget, hk] at h
    · simp only [aset, hk, if_false, List.cons_append]
      rw [aset_none k v r (by simpa [aget, hk] using h)]

section
variable {P : Program} {T K E : TypeId} {q : IntKind} {w : World} {b : Nat} {l : List (Int × Value)}

theorem run_findKey (hK : P.underlying K = some (.int q)) (k : Int) (es : List MapEntry) (r : Option (Nat × Value)) (w : World) (h : Instr.findNow (.int q) (.int q k) es 0 = some r) :
    (Instr.findKey K (.int q k) es).run P w = .ok r w := by
  unfold Instr.findKey
  rw [Sem.run_bind, run_underlying hK]
  show Sem.run P (match Instr.findNow (.int q) (.int q k) es 0 with | some r => pure r | none => _) w = _
  rw [h]; rfl
theorem run_checkKey (hK : P.underlying K = some (.int q)) (e : Bool) (n : Nat) (k : Int) (w : World) : (Instr.checkKey e (n + 1) K (.int q k)).run P w = .ok () w := by
  unfold Instr.checkKey
  rw [Sem.run_bind, run_underlying hK]; rfl
theorem run_getObj (w : World) (b : Nat) (es : Array MapEntry) (c : Nat) (h : w.heap[b]? = some (.map es c)) : (getObj b).run P w = .ok (.map es c) w := by
  unfold getObj Sem.run
  rw [h]; rfl
theorem run_setObj (w : World) (b : Nat) (es : Array MapEntry) (c : Nat) (o : Obj) (h : w.heap[b]? = some (.map es c)) : (setObj b o).run P w = .ok () { w with heap := w.heap.setIfInBounds b o } := by
  unfold setObj Sem.run
  rw [h]; rfl

theorem run_mapUpdate (hT : P.underlying T = some (.map K E)) (hK : P.underlying K = some (.int q)) (h : MapB w b (ikv q l)) (k : Int) (v : Value) :
    ∃ w', (Instr.mapUpdate T (.map (some b)) (.int q k) v).run P w = .ok () w' ∧ MapB w' b (ikv q (aset k v l)) ∧ Chg b w w' := by
  have hlt := h.lt
  obtain ⟨es, c, hb, he⟩ := h
  have hf := findNow_int q q k es.toList l 0 he
  cases hg : aget k l with
  | none =>
    refine ⟨{ w with heap := w.heap.setIfInBounds b (.map (es.push { key := .int q k, val := v, born := c }) (c + 1)) }, ?_, ⟨es.push { key := .int q k, val := v, born := c }, c + 1, ?_, ?_⟩, ⟨rfl, rfl, rfl, by simp, ?_⟩⟩
    · unfold Instr.mapUpdate
      rw [Sem.run_bind, run_underlying hT]
      simp only [Result.andThen_ok]
      rw [Sem.run_bind, run_getObj w b es c hb]
      simp only [Result.andThen_ok]
      rw [Sem.run_bind, run_checkKey hK]
      simp only [Result.andThen_ok]
      rw [Sem.run_bind, run_findKey hK k _ _ w (hf.1 hg)]
      simp only [Result.andThen_ok]
      exact run_setObj w b es c _ hb
    · simp [hlt]
    · rw [aset_none k v l hg]; simp [he, ikv]
    · intro j hj; simp [Array.getElem?_setIfInBounds]; omega
  | some u =>
    obtain ⟨j, h1, h2, h3⟩ := hf.2 u hg
    refine ⟨{ w with heap := w.heap.setIfInBounds b (.map (es.modify j fun e => { e with key := .int q k, val := v }) c) }, ?_, ⟨es.modify j fun e => { e with key := .int q k, val := v }, c, ?_, ?_⟩, ⟨rfl, rfl, rfl, by simp, ?_⟩⟩
    · unfold Instr.mapUpdate
      rw [Sem.run_bind, run_underlying hT]
      simp only [Result.andThen_ok]
      rw [Sem.run_bind, run_getObj w b es c hb]
      simp only [Result.andThen_ok]
      rw [Sem.run_bind, run_checkKey hK]
      simp only [Result.andThen_ok]
      rw [Sem.run_bind, run_findKey hK k _ _ w h1]
      simp only [Result.andThen_ok, Nat.zero_add]
      have hk : ((es[j]?).map (·.key)).getD (.int q k) = .int q k := by
        rw [Array.getElem?_toList] at h2; rw [h2]; rfl
      rw [hk, Sem.run_bind]
      have hs : (Instr.keyThatStays (.int q k) (.int q k)).run P w = .ok (.int q k) w := by
        unfold Instr.keyThatStays
        have : Instr.sameBits 10000 (.int q k) (.int q k) = true := by unfold Instr.sameBits; simp
        rw [if_pos this]; rfl
      rw [hs]
      simp only [Result.andThen_ok]
      exact run_setObj w b es c _ hb
    · simp [hlt]
    · rw [← h3 v]; simp
    · intro j hj; simp [Array.getElem?_setIfInBounds]; omega

theorem run_lenMap (hT : P.underlying T = some (.map K E)) {kv : List (Value × Value)} (h : MapB w b kv) (ty : TypeId) : (Builtin.len_ #[T] ty #[.map (some b)]).run P w = .ok (.int .i64 kv.length) w := by
  obtain ⟨es, c, hb, he⟩ := h
  unfold Builtin.len_
  simp only [List.getElem?_toArray, List.getElem?_cons_zero]
  rw [Sem.run_bind, run_underlying hT]
  simp only [Result.andThen_ok]
  rw [Sem.run_bind, run_getObj w b es c hb]
  simp only [Result.andThen_ok]
  rw [← he]; simp [goInt]

/-! ### The laws at an operation -/
variable {ops : Array Oper} {rest : List Oper} {o : Oper} {a : Act} {Q : Exit → Act → World → Prop}

theorem wl_mapUpdate (hT : P.underlying T = some (.map K E)) (hK : P.underlying K = some (.int q)) {x y z : Operand} (ho : o.op = .mapUpdate T x y z) (hgd : Region.wanted o (yielded ops a.tmps) = true)
    (hx : a.eval x = .map (some b)) {k : Int} (hy : a.eval y = .int q k) {v : Value} (hz : a.eval z = v) (h : MapB w b (ikv q l))
    (hk : ∀ w', MapB w' b (ikv q (aset k v l)) → Chg b w w' → wpList P ops Q rest (a.put o.dst undef) w') : wpList P ops Q (o :: rest) a w := by
  obtain ⟨w', hr, h1, h2⟩ := run_mapUpdate hT hK h k v
  refine BigFrame.wpList_want hgd fun K' hK' => ?_
  unfold Oper.wp execOp
  simp only [ho, hx, hy, hz, Sem.run_bind, hr, Result.andThen_ok]
  exact hK' _ _ (hk w' h1 h2)
theorem wl_lenMap (hT : P.underlying T = some (.map K E)) {x : Operand} (ho : o.op = .call { callee := .builtin .len, args := #[x], argTypes := #[T] }) (hgd : Region.wanted o (yielded ops a.tmps) = true)
    (hx : a.eval x = .map (some b)) {kv : List (Value × Value)} (h : MapB w b kv)
    (hk : wpList P ops Q rest (a.put o.dst (.int .i64 kv.length)) w) : wpList P ops Q (o :: rest) a w := by
  refine BigFrame.wpList_want hgd fun K' hK' => ?_
  have e : execOp a.eval o = (do pure (.value (← Builtin.len_ #[T] o.type #[.map (some b)]))) := by
    unfold execOp; rw [ho]; simp [resolve, invoke, Go.builtin, hx]
  unfold Oper.wp
  rw [e, Sem.run_bind, run_lenMap hT h]
  exact hK' _ _ hk
theorem wl_lenMapI (hT : P.underlying T = some (.map K E)) {x : Operand} (ho : o.op = .call { callee := .builtin .len, args := #[x], argTypes := #[T] }) (hgd : Region.wanted o (yielded ops a.tmps) = true)
    (hx : a.eval x = .map (some b)) (h : MapB w b (ikv q l))
    (hk : wpList P ops Q rest (a.put o.dst (.int .i64 l.length)) w) : wpList P ops Q (o :: rest) a w :=
  wl_lenMap hT ho hgd hx h (by simpa [ikv] using hk)
end
end Go.Tri
