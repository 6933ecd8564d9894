/- Plain: what was written is read. -/
import Derived.Test.YtohmcgmmphpgoaaGreatDoorFilX
set_option linter.unusedSimpArgs false
set_option linter.unusedVariables false
namespace Go.Proofs.YtohmcgmmphpgoaaGreatDoor
open Go.RowKit Go.Tri
/-- All of a file, and how long it is. -/
def all (s : FS) (p : List UInt8) : List UInt8 × Int := if (rg s p).2 = 0 then ((rg s p).1.2, ((rg s p).1.2.length : Int)) else ([], -1)
theorem putAt_get (xs : List UInt8) (o : Nat) (d : List UInt8) (h : o + d.length ≤ xs.length) (i : Nat) : (putAt xs o d).getD i 0 = if o ≤ i ∧ i < o + d.length then d.getD (i - o) 0 else xs.getD i 0 := by
  unfold putAt
  simp only [List.getD_eq_getElem?_getD]
  by_cases h1 : i < o
  · rw [if_neg (by omega), List.append_assoc, List.getElem?_append_left (by simp; omega), List.getElem?_take_of_lt h1]
  · by_cases h2 : i < o + d.length
    · rw [if_pos ⟨by omega, h2⟩, List.getElem?_append_left (by simp; omega), List.getElem?_append_right (by simp; omega)]
      simp only [List.length_take, Nat.min_eq_left (show o ≤ xs.length by omega)]
    · rw [if_neg (by omega), List.getElem?_append_right (by simp; omega), List.getElem?_drop]
      congr 2
      simp only [List.length_append, List.length_take, Nat.min_eq_left (show o ≤ xs.length by omega)]
      omega
theorem szd_get (d : List UInt8) (n i : Nat) (h : i < n) : (szd d n).getD i 0 = d.getD i 0 := by
  unfold szd
  simp only [List.getD_eq_getElem?_getD]
  by_cases h1 : i < d.length
  · rw [List.getElem?_append_left (by simp; omega), List.getElem?_take_of_lt h]
  · rw [List.getElem?_append_right (by simp; omega), List.getElem?_eq_none (show d.length ≤ i by omega)]
    cases hx : (List.replicate (n - d.length) (0 : UInt8))[i - (d.take n).length]? with
    | none => rfl
    | some y =>
      have := List.mem_of_getElem? hx
      rw [List.mem_replicate] at this
      rw [this.2]; rfl
end Go.Proofs.YtohmcgmmphpgoaaGreatDoor
