/- Laws on a map with integer keys that the program has made: what it holds is a list of pairs of key and value. -/
import Derived.Test.YtfepdfjhejkemaaDoorLib
set_option linter.unusedSimpArgs false
set_option linter.unusedVariables false
namespace Go.Tri
open Go.RowKit

/-- Only block b has turned. -/
structure Chg (b : Nat) (w w' : World) : Prop where
  os : w'.os = w.os
  tape : w'.tape = w.tape
  output : w'.output = w.output
  size : w'.heap.size = w.heap.size
  oth : ∀ k, k ≠ b → w'.heap[k]? = w.heap[k]?

theorem Blk.chg {w w' : World} {b g : Nat} {cs : List Value} {t : TypeId} (h : Blk w b cs t) (hc : Chg g w w') (hne : b ≠ g) : Blk w' b cs t := by
  unfold Blk; rw [hc.oth b hne]; exact h
theorem Row.chg {w w' : World} {b g off : Nat} {cs : List Value} (h : Row w b off cs) (hc : Chg g w w') (hne : b ≠ g) : Row w' b off cs := by
  intro j v hj
  have := h j v hj
  unfold World.cell? at this ⊢
  rw [hc.oth b hne]; exact this
theorem _root_.Go.RowKit.Below.chg {B : Nat} {a w w' : World} (h : Below B a w) {g : Nat} (hc : Chg g w w') (hg : B ≤ g) : Below B a w' :=
  ⟨hc.os.trans h.os, hc.tape.trans h.tape, hc.output.trans h.output, by rw [hc.size]; exact h.size, fun k hk => by rw [hc.oth k (by omega)]; exact h.block k hk⟩

theorem Chg.setRow (w : World) (b : Nat) (cs : Array Value) : Chg b w (w.setRow b cs) := ⟨rfl, rfl, rfl, size_setRow w b cs, fun k hk => heap_setRow_other w b k cs hk⟩
/-- Block b is a map with these pairs, in the order in which they came. -/
def MapB (w : World) (b : Nat) (kv : List (Value × Value)) : Prop :=
  ∃ es clock, w.heap[b]? = some (.map es clock) ∧ es.toList.map (fun e => (e.key, e.val)) = kv

theorem MapB.lt {w : World} {b : Nat} {kv : List (Value × Value)} (h : MapB w b kv) : b < w.heap.size := by
  obtain ⟨es, c, h, _⟩ := h; exact (Array.getElem?_eq_some_iff.1 h).1
theorem MapB.new (w : World) : MapB (w.alloc (.map #[] 0)) w.heap.size [] := ⟨#[], 0, heapNew w _, rfl⟩
theorem MapB.alloc {w : World} {b : Nat} {kv : List (Value × Value)} (h : MapB w b kv) (o : Obj) : MapB (w.alloc o) b kv := by
  have hl := h.lt
  obtain ⟨es, c, h, e⟩ := h; exact ⟨es, c, by rw [heapOld w o b hl]; exact h, e⟩
theorem MapB.drew {w : World} {b : Nat} {kv : List (Value × Value)} (h : MapB w b kv) : MapB w.drew b kv := h
theorem MapB.setRow {w : World} {b : Nat} {kv : List (Value × Value)} (h : MapB w b kv) (g : Nat) (cs : Array Value) (hne : b ≠ g) : MapB (w.setRow g cs) b kv := by
  obtain ⟨es, c, h, e⟩ := h; exact ⟨es, c, by rw [heap_setRow_other _ _ _ _ hne]; exact h, e⟩
theorem MapB.below {w w' : World} {B b : Nat} {kv : List (Value × Value)} (h : MapB w b kv) (hb : Below B w w') (hB : b < B) : MapB w' b kv := by
  obtain ⟨es, c, h, e⟩ := h; exact ⟨es, c, by rw [hb.block b hB]; exact h, e⟩
theorem MapB.grow {w w' : World} {b : Nat} {kv : List (Value × Value)} (h : MapB w b kv) (hb : Below w.heap.size w w') : MapB w' b kv := h.below hb h.lt
theorem MapB.chg {w w' : World} {b g : Nat} {kv : List (Value × Value)} (h : MapB w b kv) (hc : Chg g w w') (hne : b ≠ g) : MapB w' b kv := by
  obtain ⟨es, c, h, e⟩ := h; exact ⟨es, c, by rw [hc.oth b hne]; exact h, e⟩

/-- A pair is put into a list of pairs. -/
def aset {K V : Type} [DecidableEq K] (k : K) (v : V) : List (K × V) → List (K × V)
  | [] => [(k, v)]
  | (k', v') :: r => if k' = k then (k, v) :: r else (k', v') :: aset k v r
def aget {K V : Type} [DecidableEq K] (k : K) : List (K × V) → Option V
  | [] => none
  | (k', v') :: r => if k' = k then some v' else aget k r

theorem aset_none {K V : Type} [DecidableEq K] (k : K) (v : V) : ∀ l : List (K × V), aget k l = none → aset k v l = l ++ [(k, v)]
  | [], _ => rfl
  | (k', v') :: r, h => by
    by_cases hk : k' = k
    · simp [aget, hk] at h
    · simp only [aset, hk, if_false, List.cons_append]
      rw [aset_none k v r (by simpa [aget, hk] using h)]

section
variable {P : Program} {T K E : TypeId} {q : IntKind} {w : World} {b : Nat} {l : List (Int × Value)}

theorem run_findKey (hK : P.underlying K = some (.int q)) (k : Int) (es : List MapEntry) (r : Option (Nat × Value)) (w : World) (h : Instr.findNow (.int q) (.int q k) es 0 = some r) :
    (Instr.findKey K (.int q k) es).run P w = .ok r w := by
  unfold Instr.findKey
  rw [Sem.run_bind, run_underlying hK]
  show Sem.run P (match Instr.findNow (.int q) (.int q k) es 0 with | some r => pure r | none => _) w = _
  rw [h]; rfl
theorem run_checkKey (hK : P.underlying K = some (.int q)) (e : Bool) (n : Nat) (k : Int) (w : World) : (Instr.checkKey e (n + 1) K (.int q k)).run P w = .ok () w := by
  unfold Instr.checkKey
  rw [Sem.run_bind, run_underlying hK]; rfl
theorem run_getObj (w : World) (b : Nat) (es : Array MapEntry) (c : Nat) (h : w.heap[b]? = some (.map es c)) : (getObj b).run P w = .ok (.map es c) w := by
  unfold getObj Sem.run
  rw [h]; rfl
theorem run_setObj (w : World) (b : Nat) (es : Array MapEntry) (c : Nat) (o : Obj) (h : w.heap[b]? = some (.map es c)) : (setObj b o).run P w = .ok () { w with heap := w.heap.setIfInBounds b o } := by
  unfold setObj Sem.run
  rw [h]; rfl

/-! ### The laws at an operation -/
variable {ops : Array Oper} {rest : List Oper} {o : Oper} {a : Act} {Q : Exit → Act → World → Prop}

end
end Go.Tri
