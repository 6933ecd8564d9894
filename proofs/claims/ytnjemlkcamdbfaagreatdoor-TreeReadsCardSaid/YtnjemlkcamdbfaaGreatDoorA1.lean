import Derived.WalkKit
import Derived.ProofKit
import Derived.OpenShut
import Derived.Deep.QuietTactic
import Derived.BigQuiet
import Derived.Lib.Hide
import Derived.StillTailTactics
import Derived.Lib.Bytealg
import Derived.Laws.AppendOwnNone
import Derived.DeepKeys
import Derived.Lib.Overlaps
import Derived.Deep.Slices
import Derived.ChangeOld
/- Laws on rows of cells, aggregates by value and boxes, over any program: what a load, a store, an allocation of a struct or an array does, in terms of its list of cells. -/
set_option linter.unusedSimpArgs false
set_option linter.unusedVariables false
namespace Go.Tri
open Go.RowKit

theorem heapNew (w : World) (o : Obj) : (w.alloc o).heap[w.heap.size]? = some o := by
  show (w.heap.push o)[w.heap.size]? = some o
  rw [Array.getElem?_push]; simp
theorem heapOld (w : World) (o : Obj) (k : Nat) (h : k < w.heap.size) : (w.alloc o).heap[k]? = w.heap[k]? := by
  show (w.heap.push o)[k]? = w.heap[k]?
  rw [Array.getElem?_push, if_neg (by omega)]
theorem ltOfCell {w : World} {b off : Nat} {v : Value} (h : w.cell? ⟨b, off, none⟩ = some v) : b < w.heap.size := by
  unfold World.cell? at h
  cases e : w.heap[b]? with
  | none => simp [e] at h
  | some o => exact (Array.getElem?_eq_some_iff.1 e).1
theorem add_none (b off j : Nat) : (⟨b, off, none⟩ : Addr).add j = ⟨b, off + j, none⟩ := by
  unfold Addr.add; split
  · rename_i h; subst h; rfl
  · rfl

/-- The cells cs lie in block b from off on. -/
def Row (w : World) (b off : Nat) (cs : List Value) : Prop := ∀ j v, cs[j]? = some v → w.cell? ⟨b, off + j, none⟩ = some v

theorem Row.drew {w : World} {b off : Nat} {cs : List Value} (h : Row w b off cs) : Row w.drew b off cs := h
theorem Row.alloc {w : World} {b off : Nat} {cs : List Value} (h : Row w b off cs) (o : Obj) : Row (w.alloc o) b off cs := by
  intro j v hj
  have := h j v hj
  unfold World.cell? at this ⊢
  rw [heapOld w o b (ltOfCell (h j v hj))]; exact this
theorem Row.new (w : World) (cs : List Value) (t : TypeId) (fr : Nat × Nat) : Row (w.alloc (.cells cs.toArray t fr)) w.heap.size 0 cs := by
  intro j v hj
  unfold World.cell?
  rw [heapNew]; simpa using hj
theorem Row.newAt {w : World} {n : Nat} (cs : List Value) (t : TypeId) (fr : Nat × Nat) (h : n = w.heap.size) : Row (w.alloc (.cells cs.toArray t fr)) n 0 cs := h ▸ Row.new w cs t fr
theorem _root_.Go.RowKit.Below.drewN {B : Nat} {a w : World} (h : Below B a w) (n : Nat) : Below B a (w.drewN n) := h.trans ⟨rfl, rfl, rfl, Nat.le_refl _, fun _ _ => rfl⟩
theorem Row.below {w w' : World} {B b off : Nat} {cs : List Value} (h : Row w b off cs) (hb : Below B w w') (hB : b < B) : Row w' b off cs := by
  intro j v hj; rw [hb.cell (p := ⟨b, off + j, none⟩) hB]; exact h j v hj
theorem Row.sub {w : World} {b off : Nat} {cs : List Value} (h : Row w b off cs) (k n : Nat) : Row w b (off + k) ((cs.drop k).take n) := by
  intro j v hj
  rw [Nat.add_assoc]
  refine h (k + j) v ?_
  have : ((cs.drop k).take n)[j]? = if j < n then (cs.drop k)[j]? else none := List.getElem?_take ..
  rw [this] at hj; split at hj
  · rw [List.getElem?_drop] at hj; exact hj
  · cases hj
theorem Row.nil (w : World) (b off : Nat) : Row w b off [] := by intro j v h; simp at h
theorem Row.app {w : World} {b off : Nat} {xs ys : List Value} (h : Row w b off xs) (k : Row w b (off + xs.length) ys) : Row w b off (xs ++ ys) := by
  intro j v hj
  rw [List.getElem?_append] at hj; split at hj
  · exact h j v hj
  · rename_i hge
    have := k (j - xs.length) v hj
    rw [Nat.add_assoc, Nat.add_sub_cancel' (by omega)] at this; exact this
theorem Row.left {w : World} {b off : Nat} {xs ys : List Value} (h : Row w b off (xs ++ ys)) : Row w b off xs := by
  intro j v hj
  exact h j v (by rw [List.getElem?_append_left (List.getElem?_eq_some_iff.1 hj).1]; exact hj)
theorem Row.right {w : World} {b off : Nat} {xs ys : List Value} (h : Row w b off (xs ++ ys)) : Row w b (off + xs.length) ys := by
  intro j v hj
  rw [Nat.add_assoc]
  exact h (xs.length + j) v (by rw [List.getElem?_append_right (by omega)]; simpa using hj)

/-- Block b is whole: the cells cs, none frozen. -/
def Blk (w : World) (b : Nat) (cs : List Value) (t : TypeId) : Prop := w.heap[b]? = some (.cells cs.toArray t (0, 0))

theorem Blk.lt {w : World} {b : Nat} {cs : List Value} {t : TypeId} (h : Blk w b cs t) : b < w.heap.size := (Array.getElem?_eq_some_iff.1 h).1
theorem Blk.row {w : World} {b : Nat} {cs : List Value} {t : TypeId} (h : Blk w b cs t) : Row w b 0 cs := by
  intro j v hj; unfold Blk at h; simp [World.cell?, h, hj]
theorem Blk.cell {w : World} {b : Nat} {cs : List Value} {t : TypeId} (h : Blk w b cs t) (j : Nat) : w.cell? ⟨b, j, none⟩ = cs[j]? := by
  unfold Blk at h; simp [World.cell?, h]
theorem Blk.frozen {w : World} {b : Nat} {cs : List Value} {t : TypeId} (h : Blk w b cs t) (j : Nat) : w.frozen? ⟨b, j, none⟩ = false := by
  unfold Blk at h; simp [World.frozen?, h]
theorem Blk.drew {w : World} {b : Nat} {cs : List Value} {t : TypeId} (h : Blk w b cs t) : Blk w.drew b cs t := h
theorem Blk.alloc {w : World} {b : Nat} {cs : List Value} {t : TypeId} (h : Blk w b cs t) (o : Obj) : Blk (w.alloc o) b cs t := by
  unfold Blk; rw [heapOld w o b h.lt]; exact h
theorem Blk.new (w : World) (cs : List Value) (t : TypeId) : Blk (w.alloc (.cells cs.toArray t)) w.heap.size cs t := heapNew w _
theorem Blk.newAt {w : World} {n : Nat} (cs : List Value) (t : TypeId) (h : n = w.heap.size) : Blk (w.alloc (.cells cs.toArray t)) n cs t := h ▸ Blk.new w cs t
theorem Blk.below {w w' : World} {B b : Nat} {cs : List Value} {t : TypeId} (h : Blk w b cs t) (hb : Below B w w') (hB : b < B) : Blk w' b cs t := by
  unfold Blk; rw [hb.block b hB]; exact h
theorem Blk.grow {w w' : World} {b : Nat} {cs : List Value} {t : TypeId} (h : Blk w b cs t) (hb : Below w.heap.size w w') : Blk w' b cs t := h.below hb h.lt
theorem Blk.set_same {w : World} {b : Nat} {cs : List Value} {t : TypeId} (h : Blk w b cs t) (cs' : List Value) : Blk (w.setRow b cs'.toArray) b cs' t := setRow_heap w b _ _ t _ h
theorem heap_setRow_other (w : World) (g k : Nat) (cs : Array Value) (h : k ≠ g) : (w.setRow g cs).heap[k]? = w.heap[k]? := by
  unfold World.setRow; simp only [Array.getElem?_modify]; split
  · omega
  · rfl
theorem _root_.Go.RowKit.Below.setRow {B : Nat} {a w : World} (h : Below B a w) {g : Nat} (hg : B ≤ g) (cs : Array Value) : Below B a (w.setRow g cs) :=
  ⟨h.os, h.tape, h.output, by rw [size_setRow]; exact h.size, fun k hk => by rw [heap_setRow_other _ _ _ _ (by omega)]; exact h.block k hk⟩

/-- A type whose values are aggregates of n cells, and whose zero is z. -/
structure AggT (P : Program) (t : TypeId) (n : Nat) (z : List Value) : Prop where
  desc : (P.underlying t).map (fun d => match d with | .struct _ | .array _ _ => true | _ => false) = some true
  info : (P.info? t).map (fun i => (i.size, i.zero)) = some (n, some (.agg z.toArray))
  len : z.length = n

section
variable {P : Program} {t : TypeId} {n : Nat} {z : List Value}

theorem run_underlying {d : TypeDesc} (hu : P.underlying t = some d) (w : World) : (underlying t).run P w = .ok d w := by
  show (match P.underlying t with | some d => (pure d : Sem TypeDesc) | none => stuck "no such type").run P w = _
  rw [hu]; rfl
theorem run_typeInfo {i : TypeInfo} (hu : P.info? t = some i) (w : World) : (typeInfo t).run P w = .ok i w := by
  show (match P.info? t with | some i => (pure i : Sem TypeInfo) | none => stuck "no such type").run P w = _
  rw [hu]; rfl
theorem AggT.run_isAgg (h : AggT P t n z) (w : World) : (isAgg t).run P w = .ok true w := by
  have := h.desc
  cases hu : P.underlying t with
  | none => simp [hu] at this
  | some d =>
    rw [hu] at this
    unfold isAgg
    rw [Sem.run_bind, run_underlying hu]
    cases d <;> first | rfl | (simp at this)
theorem AggT.run_size (h : AggT P t n z) (w : World) : (sizeOf t).run P w = .ok n w := by
  have := h.info
  cases hu : P.info? t with
  | none => simp [hu] at this
  | some d =>
    rw [hu] at this; simp at this
    unfold sizeOf
    rw [Sem.run_bind, run_typeInfo hu, ← this.1]; rfl
theorem AggT.run_zero (h : AggT P t n z) (w : World) : (zeroValue t).run P w = .ok (.agg z.toArray) w := by
  have := h.info
  cases hu : P.info? t with
  | none => simp [hu] at this
  | some d =>
    rw [hu] at this; simp at this
    unfold zeroValue
    rw [Sem.run_bind, run_typeInfo hu]
    show Sem.run P (match d.zero with | some v => pure v | none => _) w = _
    rw [this.2]; rfl

theorem AggT.run_load (h : AggT P t n z) {w : World} {b off : Nat} {cs : List Value} (hr : Row w b off cs) (hn : cs.length = n) :
    (loadVar t ⟨b, off, none⟩).run P w = .ok (.agg cs.toArray) w := by
  have hl := run_loadCells_list (P := P) w ⟨b, off, none⟩ cs (fun j v hj => by rw [add_none]; exact hr j v hj)
  unfold loadVar
  simp only [Sem.run_bind, h.run_isAgg, Result.andThen_ok, if_true, h.run_size, ← hn, hl, Sem.run_pure]

/-- No aggregate, no tuple. -/
def Flat (cs : List Value) : Prop := ∀ v ∈ cs, v.oneCell' = true

theorem AggT.run_store (h : AggT P t n z) {w : World} {b off : Nat} {old cs : List Value} {u : TypeId} (hb : Blk w b old u) (hn : cs.length = n) (ho : off + n ≤ old.length) (hf : Flat cs) :
    (storeVar t ⟨b, off, none⟩ (.agg cs.toArray)).run P w = .ok () (w.setRow b (old.take off ++ cs ++ old.drop (off + n)).toArray) := by
  have e := run_storeCells_at (P := P) b off u cs 0 old.toArray w hb (by simp; omega) hf
  simp only [Nat.add_zero, hn] at e
  unfold storeVar
  simp only [Sem.run_bind, h.run_size, Result.andThen_ok, Value.cells, List.size_toArray, hn, ne_eq, not_true_eq_false, if_false]
  exact e
theorem AggT.run_store0 (h : AggT P t n z) {w : World} {b : Nat} {old cs : List Value} {u : TypeId} (hb : Blk w b old u) (hn : cs.length = n) (ho : old.length = n) (hf : Flat cs) :
    (storeVar t ⟨b, 0, none⟩ (.agg cs.toArray)).run P w = .ok () (w.setRow b cs.toArray) := by
  have e := h.run_store (off := 0) hb hn (by omega) hf
  simpa [List.drop_eq_nil_of_le (show old.length ≤ n by omega)] using e

/-! ### The laws at an operation -/
variable {ops : Array Oper} {rest : List Oper} {o : Oper} {a : Act} {w : World} {Q : Exit → Act → World → Prop}

end

end Go.Tri

/- A region that draws its order, whose first n operations only read and call quietly, and whose other operations stand in one forced order behind them: the quiet ones are walked once, in the order of the text, then the others one by one. -/
set_option linter.unusedSimpArgs false
set_option linter.unusedVariables false
namespace Go.Tri
section
variable {P : Program} {md : Region.Mode} {ops : Array Oper} {C : World → Prop}

end
theorem Row.drewN {w : World} {b off : Nat} {cs : List Value} (h : Row w b off cs) (n : Nat) : Row (w.drewN n) b off cs := h
/-! ### A region whose operations are quiet in a class C of worlds that calls may not leave -/
section
variable {P : Program} {ops : Array Oper} {rest : List Oper} {o : Oper} {a : Act} {Q : Act → Prop} {C : World → Prop}
end
end Go.Tri

/- Laws on a map with integer keys that the program has made: what it holds is a list of pairs of key and value. -/
set_option linter.unusedSimpArgs false
set_option linter.unusedVariables false
namespace Go.Tri
open Go.RowKit

/-- Only block b has turned. -/
structure Chg (b : Nat) (w w' : World) : Prop where
  os : w'.os = w.os
  tape : w'.tape = w.tape
  output : w'.output = w.output
  size : w'.heap.size = w.heap.size
  oth : ∀ k, k ≠ b → w'.heap[k]? = w.heap[k]?

theorem Blk.chg {w w' : World} {b g : Nat} {cs : List Value} {t : TypeId} (h : Blk w b cs t) (hc : Chg g w w') (hne : b ≠ g) : Blk w' b cs t := by
  unfold Blk; rw [hc.oth b hne]; exact h
theorem Row.chg {w w' : World} {b g off : Nat} {cs : List Value} (h : Row w b off cs) (hc : Chg g w w') (hne : b ≠ g) : Row w' b off cs := by
  intro j v hj
  have := h j v hj
  unfold World.cell? at this ⊢
  rw [hc.oth b hne]; exact this
theorem _root_.Go.RowKit.Below.chg {B : Nat} {a w w' : World} (h : Below B a w) {g : Nat} (hc : Chg g w w') (hg : B ≤ g) : Below B a w' :=
  ⟨hc.os.trans h.os, hc.tape.trans h.tape, hc.output.trans h.output, by rw [hc.size]; exact h.size, fun k hk => by rw [hc.oth k (by omega)]; exact h.block k hk⟩

theorem Chg.setRow (w : World) (b : Nat) (cs : Array Value) : Chg b w (w.setRow b cs) := ⟨rfl, rfl, rfl, size_setRow w b cs, fun k hk => heap_setRow_other w b k cs hk⟩
/-- Block b is a map with these pairs, in the order in which they came. -/
def MapB (w : World) (b : Nat) (kv : List (Value × Value)) : Prop :=
  ∃ es clock, w.heap[b]? = some (.map es clock) ∧ es.toList.map (fun e => (e.key, e.val)) = kv

theorem MapB.lt {w : World} {b : Nat} {kv : List (Value × Value)} (h : MapB w b kv) : b < w.heap.size := by
  obtain ⟨es, c, h, _⟩ := h; exact (Array.getElem?_eq_some_iff.1 h).1
theorem MapB.new (w : World) : MapB (w.alloc (.map #[] 0)) w.heap.size [] := ⟨#[], 0, heapNew w _, rfl⟩
theorem MapB.alloc {w : World} {b : Nat} {kv : List (Value × Value)} (h : MapB w b kv) (o : Obj) : MapB (w.alloc o) b kv := by
  have hl := h.lt
  obtain ⟨es, c, h, e⟩ := h; exact ⟨es, c, by rw [heapOld w o b hl]; exact h, e⟩
theorem MapB.drew {w : World} {b : Nat} {kv : List (Value × Value)} (h : MapB w b kv) : MapB w.drew b kv := h
theorem MapB.setRow {w : World} {b : Nat} {kv : List (Value × Value)} (h : MapB w b kv) (g : Nat) (cs : Array Value) (hne : b ≠ g) : MapB (w.setRow g cs) b kv := by
  obtain ⟨es, c, h, e⟩ := h; exact ⟨es, c, by rw [heap_setRow_other _ _ _ _ hne]; exact h, e⟩
theorem MapB.below {w w' : World} {B b : Nat} {kv : List (Value × Value)} (h : MapB w b kv) (hb : Below B w w') (hB : b < B) : MapB w' b kv := by
  obtain ⟨es, c, h, e⟩ := h; exact ⟨es, c, by rw [hb.block b hB]; exact h, e⟩
theorem MapB.grow {w w' : World} {b : Nat} {kv : List (Value × Value)} (h : MapB w b kv) (hb : Below w.heap.size w w') : MapB w' b kv := h.below hb h.lt
theorem MapB.chg {w w' : World} {b g : Nat} {kv : List (Value × Value)} (h : MapB w b kv) (hc : Chg g w w') (hne : b ≠ g) : MapB w' b kv := by
  obtain ⟨es, c, h, e⟩ := h; exact ⟨es, c, by rw [hc.oth b hne]; exact h, e⟩

/-- A pair is put into a list of pairs. -/
def aset {K V : Type} [DecidableEq K] (k : K) (v : V) : List (K × V) → List (K × V)
  | [] => [(k, v)]
  | (k', v') :: r => if k' = k then (k, v) :: r else (k', v') :: aset k v r
def aget {K V : Type} [DecidableEq K] (k : K) : List (K × V) → Option V
  | [] => none
  | (k', v') :: r => if k' = k then some v' else aget k r

theorem aset_none {K V : Type} [DecidableEq K] (k : K) (v : V) : ∀ l : List (K × V), aget k l = none → aset k v l = l ++ [(k, v)]
  | [], _ => rfl
  | (k', v') :: r, h => by
    by_cases hk : k' = k
    · simp [aget, hk] at h
    · simp only [aset, hk, if_false, List.cons_append]
      rw [aset_none k v r (by simpa [aget, hk] using h)]

section
variable {P : Program} {T K E : TypeId} {q : IntKind} {w : World} {b : Nat} {l : List (Int × Value)}

theorem run_getObj (w : World) (b : Nat) (es : Array MapEntry) (c : Nat) (h : w.heap[b]? = some (.map es c)) : (getObj b).run P w = .ok (.map es c) w := by
  unfold getObj Sem.run
  rw [h]; rfl
theorem run_setObj (w : World) (b : Nat) (es : Array MapEntry) (c : Nat) (o : Obj) (h : w.heap[b]? = some (.map es c)) : (setObj b o).run P w = .ok () { w with heap := w.heap.setIfInBounds b o } := by
  unfold setObj Sem.run
  rw [h]; rfl

theorem run_lenMap (hT : P.underlying T = some (.map K E)) {kv : List (Value × Value)} (h : MapB w b kv) (ty : TypeId) : (Builtin.len_ #[T] ty #[.map (some b)]).run P w = .ok (.int .i64 kv.length) w := by
  obtain ⟨es, c, hb, he⟩ := h
  unfold Builtin.len_
  simp only [List.getElem?_toArray, List.getElem?_cons_zero]
  rw [Sem.run_bind, run_underlying hT]
  simp only [Result.andThen_ok]
  rw [Sem.run_bind, run_getObj w b es c hb]
  simp only [Result.andThen_ok]
  rw [← he]; simp [goInt]

/-! ### The laws at an operation -/
variable {ops : Array Oper} {rest : List Oper} {o : Oper} {a : Act} {Q : Exit → Act → World → Prop}

end
end Go.Tri

/- Slices as lists of cells, bytes in memory, and bytes.Compare's own entry. -/
set_option linter.unusedSimpArgs false
set_option linter.unusedVariables false
namespace Go.Tri
open Go.RowKit

/-- Bytes as cells. -/
def bcells (l : List UInt8) : List Value := l.map fun c => .int .u8 c.toNat
theorem bcells_length (l : List UInt8) : (bcells l).length = l.length := by simp [bcells]
theorem bcells_flat (l : List UInt8) : Flat (bcells l) := by
  intro v hv; simp only [bcells, List.mem_map] at hv; obtain ⟨c, _, rfl⟩ := hv; rfl

/-- The slice v has n elements, and its first cells are cs. -/
def Sl (w : World) (v : Value) (n : Nat) (cs : List Value) : Prop :=
  (v = .slice none 0 0 ∧ n = 0 ∧ cs = []) ∨ (∃ a cap, v = .slice (some a) 0 cap ∧ n = 0 ∧ cs = []) ∨ ∃ b off cap, v = .slice (some ⟨b, off, none⟩) n cap ∧ n ≤ cap ∧ Row w b off cs
theorem Row.grow {w w' : World} {b off : Nat} {cs : List Value} (h : Row w b off cs) (hb : Below w.heap.size w w') : Row w' b off cs := by
  intro j v hj
  have := h j v hj
  rw [hb.cell (p := ⟨b, off + j, none⟩) (ltOfCell this)]; exact this
theorem Sl.grow {w w' : World} {v : Value} {n : Nat} {cs : List Value} (h : Sl w v n cs) (hb : Below w.heap.size w w') : Sl w' v n cs := by
  rcases h with h | h | ⟨b, off, cap, h1, h2, h3⟩
  · exact .inl h
  · exact .inr (.inl h)
  · exact .inr (.inr ⟨b, off, cap, h1, h2, h3.grow hb⟩)

theorem Sl.alloc {w : World} {v : Value} {n : Nat} {cs : List Value} (h : Sl w v n cs) (o : Obj) : Sl (w.alloc o) v n cs := by
  rcases h with h | h | ⟨b, off, cap, h1, h2, h3⟩
  · exact .inl h
  · exact .inr (.inl h)
  · exact .inr (.inr ⟨b, off, cap, h1, h2, h3.alloc o⟩)
/-- A slice type t of elements of type e. -/
structure ElemT (P : Program) (t e : TypeId) (size bytes : Nat) (z : Value) : Prop where
  ht : P.underlying t = some (.slice e)
  hi : (P.info? e).map (fun i => (i.zero, i.size, i.bytes)) = some (some z, size, bytes)
  hz : z.cells.size = size
  hs : 0 < size

theorem ownsRow_sl {w : World} {base : Nat} {e : TypeId} {size : Nat} {v : Value} {n : Nat} {xs : List Value} (h : w.ownsRow base e size v n xs) : Sl w v n xs := by
  obtain ⟨hl, ⟨rfl, rfl⟩ | ⟨g, cap, cur, rfl, hb, hg, hc, hm, hs, ht⟩⟩ := h
  · refine .inl ⟨rfl, rfl, ?_⟩
    rw [Nat.zero_mul] at hl; exact List.length_eq_zero_iff.1 hl
  · refine .inr (.inr ⟨g, 0, cap, rfl, hc, ?_⟩)
    intro j u hj
    unfold World.cell?
    simp only [hg, Nat.zero_add]
    rw [← ht] at hj
    have : (cur.toList.take (n * size))[j]? = if j < n * size then cur.toList[j]? else none := List.getElem?_take ..
    rw [this] at hj
    split at hj
    · simpa using hj
    · cases hj

theorem run_loadBytes {P : Program} (w : World) (b : Nat) : ∀ (l : List UInt8) (off : Nat) (acc : ByteArray), Row w b off (bcells l) →
    (Extern.Bytes.loadBytes ⟨b, off, none⟩ l.length acc).run P w = .ok ⟨(acc.data.toList ++ l).toArray⟩ w := by
  intro l
  induction l with
  | nil => intro off acc _; simp [Extern.Bytes.loadBytes]
  | cons c l ih =>
    intro off acc h
    have h0 := h 0 (.int .u8 c.toNat) rfl
    rw [Nat.add_zero] at h0
    have hr : Row w b (off + 1) (bcells l) := by
      intro j v hj
      have := h (j + 1) v (by simpa [bcells] using hj)
      rw [show off + 1 + j = off + (j + 1) from by omega]; exact this
    have hl : (Go.load (⟨b, off, none⟩ : Addr)).run P w = .ok (.int .u8 c.toNat) w := by rw [run_load, h0]
    simp only [List.length_cons, Extern.Bytes.loadBytes]
    rw [Sem.run_bind, hl]
    simp only [Result.andThen_ok, add_none]
    rw [ih (off + 1) _ hr]
    have hc : (c.toNat : Int).toNat.toUInt8 = c := by simp
    rw [hc]
    simp [ByteArray.push]
theorem run_bytesOf {P : Program} {w : World} {v : Value} {l : List UInt8} (h : Sl w v l.length (bcells l)) :
    (Extern.Bytes.bytesOf v).run P w = .ok ⟨l.toArray⟩ w := by
  rcases h with ⟨rfl, hn, _⟩ | ⟨ad, cap, rfl, hn, _⟩ | ⟨b, off, cap, rfl, _, hr⟩
  · obtain rfl : l = [] := by cases l <;> simp_all
    rfl
  · obtain rfl : l = [] := by cases l <;> simp_all
    rfl
  · have := run_loadBytes (P := P) w b l off .empty hr
    simpa [Extern.Bytes.bytesOf] using this
theorem run_compare {P : Program} {w : World} {v u : Value} {l m : List UInt8} (h : Sl w v l.length (bcells l)) (k : Sl w u m.length (bcells m)) :
    (Extern.BytealgCompare.compare #[v, u]).run P w = .ok (.int .i64 (Lib.compareBytes l m)) w := by
  show Sem.run P (do pure (goInt (Extern.BytealgCompare.cmp (← Extern.Bytes.bytesOf v) (← Extern.Bytes.bytesOf u)))) w = _
  simp only [Sem.run_bind, run_bytesOf h, run_bytesOf k, Result.andThen_ok, Lib.cmp_eq, Sem.run_pure, goInt]
end Go.Tri

/- Equality of structs and arrays of plain cells: == on two aggregates tells whether their literals are one. -/
set_option linter.unusedSimpArgs false
set_option linter.unusedVariables false
namespace Go.Tri
open Go.RowKit

theorem mapM_some {α β : Type} {f : α → Option β} {g : α → β} : ∀ (l : List α), (∀ i ∈ l, f i = some (g i)) → l.mapM f = some (l.map g)
  | [], _ => rfl
  | a :: l, h => by
    rw [List.mapM_cons, h a (by simp), mapM_some l (fun i hi => h i (by simp [hi]))]
    rfl

section
variable {P : Program}
theorem keyLits_int {t : TypeId} {q : IntKind} (h : P.underlying t = some (.int q)) (D : Nat) (n : Int) (hw : (Lit.int q n).wf = true) : P.keyLits (D + 1) t [.int q n] = some [.int q n] := by
  simp [Program.keyLits, h, hw]
theorem wf_byte (c : UInt8) : (Lit.int .u8 c.toNat).wf = true := by
  have := c.toNat_lt
  simp [Lit.wf, IntKind.min, IntKind.max, IntKind.signed, IntKind.bits] <;> omega
theorem keyLits_bytes {t e : TypeId} {n : Nat} (h : P.underlying t = some (.array n e)) (he : P.underlying e = some (.int .u8)) (hc : P.cellsOf e = 1) (hC : P.cellsOf t = n) (D : Nat) (l : List UInt8) (hl : l.length = n) :
    P.keyLits (D + 2) t (bcells l) = some (l.map fun c => .int .u8 c.toNat) := by
  unfold Program.keyLits
  simp only [h]
  rw [if_pos (by rw [bcells_length, hC, hl]), hc]
  rw [mapM_some (g := fun i => [Lit.int .u8 (l.getD i 0).toNat])]
  · simp only [Option.map_some, Option.some.injEq]
    apply List.ext_getElem?
    intro i
    rw [← hl]
    have : ((List.range l.length).map fun i => [Lit.int .u8 (l.getD i 0).toNat]).flatten = l.map fun c => Lit.int .u8 c.toNat := by
      clear hl
      induction l with
      | nil => rfl
      | cons c l ih =>
        rw [List.length_cons, List.range_succ_eq_map, List.map_cons, List.flatten_cons, List.map_map]
        simpa [Function.comp_def] using ih
    rw [this]
  · intro i hi
    have hi' : i < l.length := by rw [hl]; simpa using hi
    have : ((bcells l).drop (i * 1)).take 1 = [Value.int .u8 (l.getD i 0).toNat] := by
      rw [Nat.mul_one, List.take_one]
      simp [bcells, List.head?_drop, hi', List.getD]
    rw [this]
    exact keyLits_int he D _ (wf_byte _)
theorem lits_inj : ∀ (l m : List UInt8), (l.map fun c => Lit.int .u8 c.toNat) = (m.map fun c => Lit.int .u8 c.toNat) → l = m
  | [], [], _ => rfl
  | [], _ :: _, h => by simp at h
  | _ :: _, [], h => by simp at h
  | a :: l, b :: m, h => by
    simp only [List.map_cons, List.cons.injEq, Lit.int.injEq, true_and] at h
    rw [lits_inj l m h.2]
    have : a.toNat = b.toNat := by omega
    rw [UInt8.toNat_inj.1 this]

/-- == on two aggregates: r is whether their literals are one. -/
theorem run_eqAgg {t : TypeId} {m : Nat} (hm : m ≤ 10000) (hk : P.keyTypeAt m t = true) {cs ds : List Value} (hc : (Value.agg cs.toArray).formed P t = true) (hd : (Value.agg ds.toArray).formed P t = true)
    {D D' : Nat} {la lb : List Lit} (ha : P.keyLits D t cs = some la) (hb : P.keyLits D' t ds = some lb) (hg : P.eqGuardType P.depth t = false) (w : World) (x y : Operand) (c : Bool) (hcc : c = true ↔ la = lb) :
    (do eqGuard .eql t x y (.agg cs.toArray) (.agg ds.toArray); binOp .eql t (.agg cs.toArray) (.agg ds.toArray)).run P w = .ok (.bool c) w ∧
    (do eqGuard .neq t x y (.agg cs.toArray) (.agg ds.toArray); binOp .neq t (.agg cs.toArray) (.agg ds.toArray)).run P w = .ok (.bool (!c)) w := by
  have E := run_equalIn_deep (P := P) (10000 - m) m t hk
  rw [Nat.sub_add_cancel hm] at E
  obtain ⟨r, hr, hi⟩ := E w D D' _ _ la lb hc hd (by simpa [Value.cells] using ha) (by simpa [Value.cells] using hb)
  have : r = c := by
    rw [Bool.eq_iff_iff]; exact hi.trans hcc.symm
  subst this
  constructor
  · rw [Sem.run_bind, run_eqGuard_agg w _ _ _ _ _ _ hg, Result.andThen_ok, run_eql_struct, hr]; rfl
  · rw [Sem.run_bind, run_eqGuard_agg w _ _ _ _ _ _ hg, Result.andThen_ok, run_neq_struct, hr]; rfl

variable {ops : Array Oper} {rest : List Oper} {o : Oper} {a : Act} {w : World} {Q : Exit → Act → World → Prop}
end
end Go.Tri

/- copy into a block that is known whole; append(s, make([]T, k)...) where there is no room. -/
set_option linter.unusedSimpArgs false
set_option linter.unusedVariables false
namespace Go.Tri
open Go.RowKit

section
variable {P : Program} {t e : TypeId} {size bytes : Nat} {z : Value}
theorem ElemT.parts (hE : ElemT P t e size bytes z) : ∃ i, P.info? e = some i ∧ i.zero = some z ∧ i.size = size ∧ i.bytes = bytes := info_parts hE.hi

variable {ops : Array Oper} {rest : List Oper} {o : Oper} {a : Act} {w : World} {Q : Exit → Act → World → Prop}
end
end Go.Tri

/- The address of a slice's element. -/
set_option linter.unusedSimpArgs false
set_option linter.unusedVariables false
namespace Go.Tri
theorem enters {P : Program} {f : FuncId} {fn : Func} {c : Code} (hf : P.funcs[f]? = some fn) (hname : (fn.name == "runtime.NumGoroutine") = false) (hb : fn.body = some c) : ∀ args w, (callFunc f args).run P w = .ok (.enter f args) w := by
  intro args w
  have h1 : fn.name ≠ "runtime.NumGoroutine" := by simpa using hname
  simp [callFunc, hf, h1, hb, mark]
section
variable {P : Program} {ρ : Operand → Value} {o : Oper} {t t' : TypeId} {x y : Operand} {w : World}
end
end Go.Tri

/- A slice literal of one struct: its block holds the struct's cells. -/
set_option linter.unusedSimpArgs false
set_option linter.unusedVariables false
namespace Go.Tri
open Go.RowKit

theorem foldl_set (off : Nat) : ∀ (l : List Value) (k : Nat) (arr : Array Value) (i : Nat), off + k + l.length ≤ arr.size →
    ((l.zipIdx k).foldl (fun (cs : Array Value) (p : Value × Nat) => cs.setIfInBounds (off + p.2) p.1) arr)[i]? = if off + k ≤ i ∧ i < off + k + l.length then l[i - (off + k)]? else arr[i]?
  | [], k, arr, i, _ => by
    have : ¬ (off + k ≤ i ∧ i < off + k + ([] : List Value).length) := by simp
    rw [if_neg this]; rfl
  | c :: l, k, arr, i, h => by
    rw [List.zipIdx_cons, List.foldl_cons, foldl_set off l (k + 1) _ i (by simp at h ⊢; omega)]
    simp only [List.length_cons] at h ⊢
    by_cases h1 : off + (k + 1) ≤ i ∧ i < off + (k + 1) + l.length
    · rw [if_pos h1, if_pos (by omega)]
      rw [show i - (off + k) = (i - (off + (k + 1))) + 1 by omega, List.getElem?_cons_succ]
    · rw [if_neg h1, Array.getElem?_setIfInBounds]
      by_cases h2 : off + k = i
      · subst h2
        rw [if_pos rfl, if_pos (by omega), if_pos (by omega)]
        simp
      · rw [if_neg h2, if_neg (by omega)]

theorem fill_one (size : Nat) (cells : Array Value) (cs : List Value) (hn : cs.length = size) (hc : cells.size = size) :
    Instr.fill (fun i => some (i * size, size)) cells [(0, .agg cs.toArray)] = some cs.toArray := by
  unfold Instr.fill
  simp only [Nat.zero_mul]
  have hcond : ((Value.agg cs.toArray).cells.size ≠ size || 0 + (Value.agg cs.toArray).cells.size > cells.size) = false := by simp [Value.cells, hn, hc]
  rw [if_neg (by rw [hcond]; simp)]
  unfold Instr.fill
  congr 1
  apply Array.ext_getElem?
  intro i
  have := foldl_set 0 cs 0 cells i (by omega)
  simp only [Value.cells]
  rw [← Array.foldl_toList, Array.toList_zipIdx]
  simp only [Nat.add_zero, Nat.zero_le, true_and, Nat.zero_add, Nat.sub_zero] at this ⊢
  rw [this]
  by_cases hi : i < cs.length
  · rw [if_pos hi]; simp
  · rw [if_neg hi, Array.getElem?_eq_none (by omega), Array.getElem?_eq_none (by simp; omega)]

end Go.Tri

/- An argument that came in, opened: bytes in an array, and slices of whatever elements. -/
set_option linter.unusedSimpArgs false
set_option linter.unusedVariables false
namespace Go.Tri
open Go.RowKit Go.ChangeShapes Go.WideShapes Go.Deep

theorem exists_list {α : Type} {p : Nat → α → Prop} : ∀ n, (∀ i, i < n → ∃ a, p i a) → ∃ l : List α, l.length = n ∧ ∀ i a, l[i]? = some a → p i a
  | 0, _ => ⟨[], rfl, fun i a h => by simp at h⟩
  | n + 1, h => by
    obtain ⟨l, hl, hp⟩ := exists_list n (fun i hi => h i (by omega))
    obtain ⟨a, ha⟩ := h n (by omega)
    refine ⟨l ++ [a], by simp [hl], fun i b hb => ?_⟩
    by_cases hi : i < n
    · rw [List.getElem?_append_left (by omega)] at hb; exact hp i b hb
    · have : i = n := by
        have := (List.getElem?_eq_some_iff.1 hb).1
        simp [hl] at this; omega
      subst this
      rw [List.getElem?_append_right (by omega)] at hb
      simp [hl] at hb; subst hb; exact ha

section
variable {H : Type} {enc : TypeId × Value → H} {P : Program} {w : World} {base : Nat} {spare : Nat → Bool} {held : Bool}

theorem byte_of_wf {n : Int} (h : (Lit.int .u8 n).wf = true) : ∃ c : UInt8, n = c.toNat := by
  have hb : 0 ≤ n ∧ n ≤ 255 := by
    simp [Lit.wf, IntKind.min, IntKind.max, IntKind.signed, IntKind.bits] at h; exact h
  refine ⟨n.toNat.toUInt8, ?_⟩
  have : n.toNat < 256 := by omega
  simp [Nat.toUInt8, Nat.mod_eq_of_lt this]
  omega

/-- An array of bytes. -/
theorem open_bytes {t e : TypeId} {n fuel : Nat} {cs : List Value} {x : DataW H × List MemPlace} (ht : P.underlying t = some (.array n e)) (he : P.underlying e = some (.int .u8)) (hc : P.cellsOf e = 1) (hC : P.cellsOf t = n)
    (h : DataW.trod enc P w base spare held fuel t cs = some x) : ∃ l : List UInt8, l.length = n ∧ cs = bcells l := by
  obtain ⟨xs, m, _, _, hl, hxl, hi⟩ := DataW.trod_array ht h
  rw [hC] at hl
  obtain ⟨l, hll, hp⟩ := exists_list (p := fun i (c : UInt8) => cs[i]? = some (.int .u8 c.toNat)) n (fun i hin => by
    have h1 := hi i hin
    rw [hc, Nat.mul_one] at h1
    have hx : xs[i]? = some (xs[i]'(by omega)) := List.getElem?_eq_getElem (by omega)
    rw [hx] at h1
    obtain ⟨k, hk, _, hw⟩ := DataW.trod_int he h1
    obtain ⟨c, rfl⟩ := byte_of_wf hw
    refine ⟨c, ?_⟩
    have : (cs.drop i).take 1 = [cs[i]'(by omega)] := by
      rw [List.drop_eq_getElem_cons (by omega)]; rfl
    rw [this] at hk
    rw [List.getElem?_eq_getElem (by omega)]
    simpa using hk)
  refine ⟨l, hll, List.ext_getElem? fun i => ?_⟩
  by_cases hin : i < n
  · obtain ⟨c, hc⟩ : ∃ c, l[i]? = some c := ⟨_, List.getElem?_eq_getElem (by omega)⟩
    rw [hp i c hc]; simp [bcells, hc]
  · rw [List.getElem?_eq_none (by omega), List.getElem?_eq_none (by rw [bcells_length]; omega)]

theorem row_flat {α : Type} (en : α → List Value) {ok : α → Prop} {size : Nat} (hlen : ∀ y, ok y → (en y).length = size) {b : Nat} :
    ∀ (ys : List α) (off : Nat), (∀ y ∈ ys, ok y) → (∀ i y, ys[i]? = some y → Row w b (off + i * size) (en y)) → Row w b off (ys.flatMap en)
  | [], off, _, _ => Row.nil w b off
  | y :: ys, off, hok, h => by
    have h0 := h 0 y rfl
    rw [Nat.zero_mul, Nat.add_zero] at h0
    rw [List.flatMap_cons]
    refine h0.app ?_
    rw [hlen y (hok y (by simp))]
    refine row_flat en hlen ys (off + size) (fun z hz => hok z (by simp [hz])) fun i z hz => ?_
    have := h (i + 1) z (by simpa using hz)
    rw [show off + (i + 1) * size = off + size + i * size by rw [Nat.add_mul]; omega] at this
    exact this
/-- A slice whose elements can be opened. -/
theorem open_sl {α : Type} (en : α → List Value) (ok : α → Prop) {t e : TypeId} {size : Nat} (ht : P.underlying t = some (.slice e)) (hC : P.cellsOf e = size)
    (hel : ∀ (fuel : Nat) (cs : List Value) (x : DataW H × List MemPlace), DataW.trod enc P w base spare held fuel e cs = some x → ∃ y, ok y ∧ cs = en y) (hlen : ∀ y, ok y → (en y).length = size) (hs : 0 < size)
    {fuel : Nat} {v : Value} {x : DataW H × List MemPlace} (hv : ∃ p n c, v = .slice p n c) (h : DataW.trod enc P w base spare held fuel t v.cells.toList = some x) :
    ∃ ys : List α, (∀ y ∈ ys, ok y) ∧ Sl w v ys.length (ys.flatMap en) ∧ ys.length ≤ maxLen := by
  obtain ⟨p, nn, c, rfl⟩ := hv
  rcases open_slice ht h with ⟨hcs, _⟩ | ⟨a, len, cap, m, n, D, Pl, hcs, hb, hl, hm, hmm, _, hi⟩
  · simp [Value.cells] at hcs
    obtain ⟨rfl, rfl, rfl⟩ := hcs
    exact ⟨[], by simp, .inl ⟨rfl, rfl, rfl⟩, by simp [maxLen]⟩
  · simp [Value.cells] at hcs
    obtain ⟨rfl, rfl, rfl⟩ := hcs
    have hlm : nn ≤ m := by subst hmm; split <;> omega
    obtain ⟨ys, hyl, hp⟩ := exists_list (p := fun i y => ok y ∧ ∀ j u, (en y)[j]? = some u → w.cell? ((a.add (i * size)).add j) = some u) nn (fun i hin => by
      obtain ⟨cs', hc, ht'⟩ := hi i (by omega)
      obtain ⟨y, hy, rfl⟩ := hel _ _ _ ht'
      obtain ⟨_, hcl, hat⟩ := World.cells?_some hc
      refine ⟨y, hy, fun j u hj => ?_⟩
      rw [← hC, hat j (by rw [hC, ← hlen y hy]; exact (List.getElem?_eq_some_iff.1 hj).1)]; exact hj)
    have hok : ∀ y ∈ ys, ok y := fun y hy => by
      obtain ⟨i, hi, rfl⟩ := List.getElem_of_mem hy
      exact (hp i _ (List.getElem?_eq_getElem hi)).1
    refine ⟨ys, hok, ?_, by omega⟩
    by_cases h0 : nn = 0
    · obtain rfl : ys = [] := List.length_eq_zero_iff.1 (by omega)
      subst h0
      exact .inr (.inl ⟨a, c, rfl, rfl, rfl⟩)
    · obtain ⟨y0, hy0⟩ : ∃ y, ys[0]? = some y := ⟨_, List.getElem?_eq_getElem (by omega)⟩
      obtain ⟨u0, hu0⟩ : ∃ u, (en y0)[0]? = some u := ⟨_, List.getElem?_eq_getElem (by rw [hlen y0 (hp 0 y0 hy0).1]; exact hs)⟩
      have hc0 := (hp 0 y0 hy0).2 0 u0 hu0
      rw [Nat.zero_mul] at hc0
      obtain ⟨b, off, spot⟩ := a
      have hspot : spot = none := by simpa [Addr.add] using World.cell?_spot hc0
      subst hspot
      refine .inr (.inr ⟨b, off, c, by rw [hyl], by omega, row_flat en hlen ys off hok fun i y hy => ?_⟩)
      intro j u hj
      have := (hp i y hy).2 j u hj
      rw [add_none, add_none] at this; exact this
end
end Go.Tri

