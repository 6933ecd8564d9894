/- A slice literal of one struct: its block holds the struct's cells. -/
import Derived.Test.YtfepdfjhejkemaaDoorLibB
set_option linter.unusedSimpArgs false
set_option linter.unusedVariables false
namespace Go.Tri
open Go.RowKit

theorem foldl_set (off : Nat) : ∀ (l : List Value) (k : Nat) (arr : Array Value) (i : Nat), off + k + l.length ≤ arr.size →
    ((l.zipIdx k).foldl (fun (cs : Array Value) (p : Value × Nat) => cs.setIfInBounds (off + p.2) p.1) arr)[i]? = if off + k ≤ i ∧ i < off + k + l.length then l[i - (off + k)]? else arr[i]?
  | [], k, arr, i, _ => by
    have : ¬ (off + k ≤ i ∧ i < off + k + ([] : List Value).length) := by simp
    rw [if_neg this]; rfl
  | c :: l, k, arr, i, h => by
    rw [List.zipIdx_cons, List.foldl_cons, foldl_set off l (k + 1) _ i (by simp at h ⊢; omega)]
    simp only [List.length_cons] at h ⊢
    by_cases h1 : off + (k + 1) ≤ i ∧ i < off + (k + 1) + l.length
    · rw [if_pos h1, if_pos (by omega)]
      rw [show i - (off + k) = (i - (off + (k + 1))) + 1 by omega, List.getElem?_cons_succ]
    · rw [if_neg h1, Array.getElem?_setIfInBounds]
      by_cases h2 : off + k = i
      · subst h2
        rw [if_pos rfl, if_pos (by omega), if_pos (by omega)]
        simp
      · rw [if_neg h2, if_neg (by omega)]

theorem fill_one (size : Nat) (cells : Array Value) (cs : List Value) (hn : cs.length = size) (hc : cells.size = size) :
    Instr.fill (fun i => some (i * size, size)) cells [(0, .agg cs.toArray)] = some cs.toArray := by
  unfold Instr.fill
  simp only [Nat.zero_mul]
  have hcond : ((Value.agg cs.toArray).cells.size ≠ size || 0 + (Value.agg cs.toArray).cells.size > cells.size) = false := by simp [Value.cells, hn, hc]
  rw [if_neg (by rw [hcond]; simp)]
  unfold Instr.fill
  congr 1
  apply Array.ext_getElem?
  intro i
  have := foldl_set 0 cs 0 cells i (by omega)
  simp only [Value.cells]
  rw [← Array.foldl_toList, Array.toList_zipIdx]
  simp only [Nat.add_zero, Nat.zero_le, true_and, Nat.zero_add, Nat.sub_zero] at this ⊢
  rw [this]
  by_cases hi : i < cs.length
  · rw [if_pos hi]; simp
  · rw [if_neg hi, Array.getElem?_eq_none (by omega), Array.getElem?_eq_none (by simp; omega)]

end Go.Tri
