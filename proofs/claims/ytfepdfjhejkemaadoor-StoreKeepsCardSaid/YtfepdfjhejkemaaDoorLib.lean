/- Laws on rows of cells, aggregates by value and boxes, over any program: what a load, a store, an allocation of a struct or an array does, in terms of its list of cells. -/
import Derived.WalkKit
import Derived.ProofKit
import Derived.OpenShut
import Derived.Deep.QuietTactic
import Derived.BigQuiet
import Derived.Lib.Hide
set_option linter.unusedSimpArgs false
set_option linter.unusedVariables false
namespace Go.Tri
open Go.RowKit

theorem heapNew (w : World) (o : Obj) : (w.alloc o).heap[w.heap.size]? = some o := by
  show (w.heap.push o)[w.heap.size]? = some o
  rw [Array.getElem?_push]; simp
theorem heapOld (w : World) (o : Obj) (k : Nat) (h : k < w.heap.size) : (w.alloc o).heap[k]? = w.heap[k]? := by
  show (w.heap.push o)[k]? = w.heap[k]?
  rw [Array.getElem?_push, if_neg (by omega)]
theorem ltOfCell {w : World} {b off : Nat} {v : Value} (h : w.cell? ⟨b, off, none⟩ = some v) : b < w.heap.size := by
  unfold World.cell? at h
  cases e : w.heap[b]? with
  | none => simp [e] at h
  | some o => exact (Array.getElem?_eq_some_iff.1 e).1
theorem add_none (b off j : Nat) : (⟨b, off, none⟩ : Addr).add j = ⟨b, off + j, none⟩ := by
  unfold Addr.add; split
  · rename_i h; subst h; rfl
  · rfl

/-- The cells cs lie in block b from off on. -/
def Row (w : World) (b off : Nat) (cs : List Value) : Prop := ∀ j v, cs[j]? = some v → w.cell? ⟨b, off + j, none⟩ = some v

theorem Row.drew {w : World} {b off : Nat} {cs : List Value} (h : Row w b off cs) : Row w.drew b off cs := h
theorem Row.alloc {w : World} {b off : Nat} {cs : List Value} (h : Row w b off cs) (o : Obj) : Row (w.alloc o) b off cs := by
  intro j v hj
  have := h j v hj
  unfold World.cell? at this ⊢
  rw [heapOld w o b (ltOfCell (h j v hj))]; exact this
theorem Row.new (w : World) (cs : List Value) (t : TypeId) (fr : Nat × Nat) : Row (w.alloc (.cells cs.toArray t fr)) w.heap.size 0 cs := by
  intro j v hj
  unfold World.cell?
  rw [heapNew]; simpa using hj
theorem Row.newAt {w : World} {n : Nat} (cs : List Value) (t : TypeId) (fr : Nat × Nat) (h : n = w.heap.size) : Row (w.alloc (.cells cs.toArray t fr)) n 0 cs := h ▸ Row.new w cs t fr
theorem _root_.Go.RowKit.Below.drewN {B : Nat} {a w : World} (h : Below B a w) (n : Nat) : Below B a (w.drewN n) := h.trans ⟨rfl, rfl, rfl, Nat.le_refl _, fun _ _ => rfl⟩
theorem Row.below {w w' : World} {B b off : Nat} {cs : List Value} (h : Row w b off cs) (hb : Below B w w') (hB : b < B) : Row w' b off cs := by
  intro j v hj; rw [hb.cell (p := ⟨b, off + j, none⟩) hB]; exact h j v hj
theorem Row.sub {w : World} {b off : Nat} {cs : List Value} (h : Row w b off cs) (k n : Nat) : Row w b (off + k) ((cs.drop k).take n) := by
  intro j v hj
  rw [Nat.add_assoc]
  refine h (k + j) v ?_
  have : ((cs.drop k).take n)[j]? = if j < n then (cs.drop k)[j]? else none := List.getElem?_take ..
  rw [this] at hj; split at hj
  · rw [List.getElem?_drop] at hj; exact hj
  · cases hj
theorem Row.nil (w : World) (b off : Nat) : Row w b off [] := by intro j v h; simp at h
theorem Row.app {w : World} {b off : Nat} {xs ys : List Value} (h : Row w b off xs) (k : Row w b (off + xs.length) ys) : Row w b off (xs ++ ys) := by
  intro j v hj
  rw [List.getElem?_append] at hj; split at hj
  · exact h j v hj
  · rename_i hge
    have := k (j - xs.length) v hj
    rw [Nat.add_assoc, Nat.add_sub_cancel' (by omega)] at this; exact this
theorem Row.left {w : World} {b off : Nat} {xs ys : List Value} (h : Row w b off (xs ++ ys)) : Row w b off xs := by
  intro j v hj
  exact h j v (by rw [List.getElem?_append_left (List.getElem?_eq_some_iff.1 hj).1]; exact hj)
theorem Row.right {w : World} {b off : Nat} {xs ys : List Value} (h : Row w b off (xs ++ ys)) : Row w b (off + xs.length) ys := by
  intro j v hj
  rw [Nat.add_assoc]
  exact h (xs.length + j) v (by rw [List.getElem?_append_right (by omega)]; simpa using hj)

/-- Block b is whole: the cells cs, none frozen. -/
def Blk (w : World) (b : Nat) (cs : List Value) (t : TypeId) : Prop := w.heap[b]? = some (.cells cs.toArray t (0, 0))

theorem Blk.lt {w : World} {b : Nat} {cs : List Value} {t : TypeId} (h : Blk w b cs t) : b < w.heap.size := (Array.getElem?_eq_some_iff.1 h).1
theorem Blk.row {w : World} {b : Nat} {cs : List Value} {t : TypeId} (h : Blk w b cs t) : Row w b 0 cs := by
  intro j v hj; unfold Blk at h; simp [World.cell?, h, hj]
theorem Blk.cell {w : World} {b : Nat} {cs : List Value} {t : TypeId} (h : Blk w b cs t) (j : Nat) : w.cell? ⟨b, j, none⟩ = cs[j]? := by
  unfold Blk at h; simp [World.cell?, h]
theorem Blk.frozen {w : World} {b : Nat} {cs : List Value} {t : TypeId} (h : Blk w b cs t) (j : Nat) : w.frozen? ⟨b, j, none⟩ = false := by
  unfold Blk at h; simp [World.frozen?, h]
theorem Blk.drew {w : World} {b : Nat} {cs : List Value} {t : TypeId} (h : Blk w b cs t) : Blk w.drew b cs t := h
theorem Blk.alloc {w : World} {b : Nat} {cs : List Value} {t : TypeId} (h : Blk w b cs t) (o : Obj) : Blk (w.alloc o) b cs t := by
  unfold Blk; rw [heapOld w o b h.lt]; exact h
theorem Blk.new (w : World) (cs : List Value) (t : TypeId) : Blk (w.alloc (.cells cs.toArray t)) w.heap.size cs t := heapNew w _
theorem Blk.newAt {w : World} {n : Nat} (cs : List Value) (t : TypeId) (h : n = w.heap.size) : Blk (w.alloc (.cells cs.toArray t)) n cs t := h ▸ Blk.new w cs t
theorem Blk.below {w w' : World} {B b : Nat} {cs : List Value} {t : TypeId} (h : Blk w b cs t) (hb : Below B w w') (hB : b < B) : Blk w' b cs t := by
  unfold Blk; rw [hb.block b hB]; exact h
theorem Blk.grow {w w' : World} {b : Nat} {cs : List Value} {t : TypeId} (h : Blk w b cs t) (hb : Below w.heap.size w w') : Blk w' b cs t := h.below hb h.lt
theorem Blk.set_same {w : World} {b : Nat} {cs : List Value} {t : TypeId} (h : Blk w b cs t) (cs' : List Value) : Blk (w.setRow b cs'.toArray) b cs' t := setRow_heap w b _ _ t _ h
theorem heap_setRow_other (w : World) (g k : Nat) (cs : Array Value) (h : k ≠ g) : (w.setRow g cs).heap[k]? = w.heap[k]? := by
  unfold World.setRow; simp only [Array.getElem?_modify]; split
  · omega
  · rfl
theorem _root_.Go.RowKit.Below.setRow {B : Nat} {a w : World} (h : Below B a w) {g : Nat} (hg : B ≤ g) (cs : Array Value) : Below B a (w.setRow g cs) :=
  ⟨h.os, h.tape, h.output, by rw [size_setRow]; exact h.size, fun k hk => by rw [heap_setRow_other _ _ _ _ (by omega)]; exact h.block k hk⟩

/-- A type whose values are aggregates of n cells, and whose zero is z. -/
structure AggT (P : Program) (t : TypeId) (n : Nat) (z : List Value) : Prop where
  desc : (P.underlying t).map (fun d => match d with | .struct _ | .array _ _ => true | _ => false) = some true
  info : (P.info? t).map (fun i => (i.size, i.zero)) = some (n, some (.agg z.toArray))
  len : z.length = n

section
variable {P : Program} {t : TypeId} {n : Nat} {z : List Value}

theorem run_underlying {d : TypeDesc} (hu : P.underlying t = some d) (w : World) : (underlying t).run P w = .ok d w := by
  show (match P.underlying t with | some d => (pure d : Sem TypeDesc) | none => stuck "no such type").run P w = _
  rw [hu]; rfl
theorem run_typeInfo {i : TypeInfo} (hu : P.info? t = some i) (w : World) : (typeInfo t).run P w = .ok i w := by
  show (match P.info? t with | some i => (pure i : Sem TypeInfo) | none => stuck "no such type").run P w = _
  rw [hu]; rfl
theorem AggT.run_isAgg (h : AggT P t n z) (w : World) : (isAgg t).run P w = .ok true w := by
  have := h.desc
  cases hu : P.underlying t with
  | none => simp [hu] at this
  | some d =>
    rw [hu] at this
    unfold isAgg
    rw [Sem.run_bind, run_underlying hu]
    cases d <;> first | rfl | (simp at this)
theorem AggT.run_size (h : AggT P t n z) (w : World) : (sizeOf t).run P w = .ok n w := by
  have := h.info
  cases hu : P.info? t with
  | none => simp [hu] at this
  | some d =>
    rw [hu] at this; simp at this
    unfold sizeOf
    rw [Sem.run_bind, run_typeInfo hu, ← this.1]; rfl
theorem AggT.run_zero (h : AggT P t n z) (w : World) : (zeroValue t).run P w = .ok (.agg z.toArray) w := by
  have := h.info
  cases hu : P.info? t with
  | none => simp [hu] at this
  | some d =>
    rw [hu] at this; simp at this
    unfold zeroValue
    rw [Sem.run_bind, run_typeInfo hu]
    show Sem.run P (match d.zero with | some v => pure v | none => _) w = _
    rw [this.2]; rfl

theorem AggT.run_load (h : AggT P t n z) {w : World} {b off : Nat} {cs : List Value} (hr : Row w b off cs) (hn : cs.length = n) :
    (loadVar t ⟨b, off, none⟩).run P w = .ok (.agg cs.toArray) w := by
  have hl := run_loadCells_list (P := P) w ⟨b, off, none⟩ cs (fun j v hj => by rw [add_none]; exact hr j v hj)
  unfold loadVar
  simp only [Sem.run_bind, h.run_isAgg, Result.andThen_ok, if_true, h.run_size, ← hn, hl, Sem.run_pure]

/-- No aggregate, no tuple. -/
def Flat (cs : List Value) : Prop := ∀ v ∈ cs, v.oneCell' = true

theorem AggT.run_store (h : AggT P t n z) {w : World} {b off : Nat} {old cs : List Value} {u : TypeId} (hb : Blk w b old u) (hn : cs.length = n) (ho : off + n ≤ old.length) (hf : Flat cs) :
    (storeVar t ⟨b, off, none⟩ (.agg cs.toArray)).run P w = .ok () (w.setRow b (old.take off ++ cs ++ old.drop (off + n)).toArray) := by
  have e := run_storeCells_at (P := P) b off u cs 0 old.toArray w hb (by simp; omega) hf
  simp only [Nat.add_zero, hn] at e
  unfold storeVar
  simp only [Sem.run_bind, h.run_size, Result.andThen_ok, Value.cells, List.size_toArray, hn, ne_eq, not_true_eq_false, if_false]
  exact e
theorem AggT.run_store0 (h : AggT P t n z) {w : World} {b : Nat} {old cs : List Value} {u : TypeId} (hb : Blk w b old u) (hn : cs.length = n) (ho : old.length = n) (hf : Flat cs) :
    (storeVar t ⟨b, 0, none⟩ (.agg cs.toArray)).run P w = .ok () (w.setRow b cs.toArray) := by
  have e := h.run_store (off := 0) hb hn (by omega) hf
  simpa [List.drop_eq_nil_of_le (show old.length ≤ n by omega)] using e

/-! ### The laws at an operation -/
variable {ops : Array Oper} {rest : List Oper} {o : Oper} {a : Act} {w : World} {Q : Exit → Act → World → Prop}

end

end Go.Tri
