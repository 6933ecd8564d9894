/- Slices as lists of cells, bytes in memory, and bytes.Compare's own entry. -/
import Derived.Test.YtfepdfjhejkemaaDoorLibM
import Derived.Test.YtfepdfjhejkemaaDoorLibR
import Derived.Lib.Bytealg
import Derived.Laws.AppendOwnNone
set_option linter.unusedSimpArgs false
set_option linter.unusedVariables false
namespace Go.Tri
open Go.RowKit

/-- Bytes as cells. -/
def bcells (l : List UInt8) : List Value := l.map fun c => .int .u8 c.toNat
theorem bcells_length (l : List UInt8) : (bcells l).length = l.length := by simp [bcells]
theorem bcells_flat (l : List UInt8) : Flat (bcells l) := by
  intro v hv; simp only [bcells, List.mem_map] at hv; obtain ⟨c, _, rfl⟩ := hv; rfl

/-- The slice v has n elements, and its first cells are cs. -/
def Sl (w : World) (v : Value) (n : Nat) (cs : List Value) : Prop :=
  (v = .slice none 0 0 ∧ n = 0 ∧ cs = []) ∨ (∃ a cap, v = .slice (some a) 0 cap ∧ n = 0 ∧ cs = []) ∨ ∃ b off cap, v = .slice (some ⟨b, off, none⟩) n cap ∧ n ≤ cap ∧ Row w b off cs
theorem Row.grow {w w' : World} {b off : Nat} {cs : List Value} (h : Row w b off cs) (hb : Below w.heap.size w w') : Row w' b off cs := by
  intro j v hj
  have := h j v hj
  rw [hb.cell (p := ⟨b, off + j, none⟩) (ltOfCell this)]; exact this
theorem Sl.grow {w w' : World} {v : Value} {n : Nat} {cs : List Value} (h : Sl w v n cs) (hb : Below w.heap.size w w') : Sl w' v n cs := by
  rcases h with h | h | ⟨b, off, cap, h1, h2, h3⟩
  · exact .inl h
  · exact .inr (.inl h)
  · exact .inr (.inr ⟨b, off, cap, h1, h2, h3.grow hb⟩)

theorem Sl.alloc {w : World} {v : Value} {n : Nat} {cs : List Value} (h : Sl w v n cs) (o : Obj) : Sl (w.alloc o) v n cs := by
  rcases h with h | h | ⟨b, off, cap, h1, h2, h3⟩
  · exact .inl h
  · exact .inr (.inl h)
  · exact .inr (.inr ⟨b, off, cap, h1, h2, h3.alloc o⟩)
/-- A slice type t of elements of type e. -/
structure ElemT (P : Program) (t e : TypeId) (size bytes : Nat) (z : Value) : Prop where
  ht : P.underlying t = some (.slice e)
  hi : (P.info? e).map (fun i => (i.zero, i.size, i.bytes)) = some (some z, size, bytes)
  hz : z.cells.size = size
  hs : 0 < size

theorem ownsRow_sl {w : World} {base : Nat} {e : TypeId} {size : Nat} {v : Value} {n : Nat} {xs : List Value} (h : w.ownsRow base e size v n xs) : Sl w v n xs := by
  obtain ⟨hl, ⟨rfl, rfl⟩ | ⟨g, cap, cur, rfl, hb, hg, hc, hm, hs, ht⟩⟩ := h
  · refine .inl ⟨rfl, rfl, ?_⟩
    rw [Nat.zero_mul] at hl; exact List.length_eq_zero_iff.1 hl
  · refine .inr (.inr ⟨g, 0, cap, rfl, hc, ?_⟩)
    intro j u hj
    unfold World.cell?
    simp only [hg, Nat.zero_add]
    rw [← ht] at hj
    have : (cur.toList.take (n * size))[j]? = if j < n * size then cur.toList[j]? else none := List.getElem?_take ..
    rw [this] at hj
    split at hj
    · simpa using hj
    · cases hj

end Go.Tri
