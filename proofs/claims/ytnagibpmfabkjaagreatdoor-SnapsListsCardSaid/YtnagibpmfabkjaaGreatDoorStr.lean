/- Texts parted and joined: the library's functions in plain words. -/
import Derived.Test.YtnagibpmfabkjaaGreatDoorCv
import Derived.Lib.SplitLaws
import Derived.Lib.Join
import Derived.Below
set_option linter.unusedSimpArgs false
set_option linter.unusedVariables false
namespace Go.Tri
open Go.RowKit
def sp : List UInt8 → List (List UInt8)
  | [] => [[]]
  | c :: r => if c = 47 then [] :: sp r else match sp r with | h :: t => (c :: h) :: t | [] => [[c]]
theorem split_sp : ∀ s : List UInt8, Lib.splitK [47] 0 (Lib.count s [47]) s = sp s
  | [] => by rw [Lib.count_miss (by simp [Lib.index])]; rfl
  | c :: r => by
    have ih := split_sp r
    by_cases h : c = 47
    · subst h
      rw [Lib.count_cons_eq, Nat.add_comm, Lib.splitK]
      have hix : Lib.index (47 :: r) [47] = 0 := by rw [Lib.index]; simp [List.isPrefixOf]
      rw [hix]
      simp only [sp, if_true]
      rw [if_neg (by decide)]
      simpa using ih
    · have hp : ([47] : List UInt8).isPrefixOf (c :: r) = false := by simp [List.isPrefixOf, Ne.symm h]
      have hix : Lib.index (c :: r) [47] = if Lib.index r [47] == -1 then -1 else Lib.index r [47] + 1 := by rw [Lib.index, hp]; simp
      rw [Lib.count_cons_ne c 47 r h]
      simp only [sp, h, if_false]
      by_cases hm : Lib.index r [47] = -1
      · rw [Lib.count_miss hm] at ih ⊢
        rw [← ih]; rfl
      · have hge := Lib.index_ge r [47]
        obtain ⟨j, hj⟩ : ∃ j : Nat, Lib.index r [47] = j := ⟨(Lib.index r [47]).toNat, by omega⟩
        rw [Lib.count_hit (by simp) hj, Nat.add_comm] at ih ⊢
        rw [Lib.splitK, hj, if_neg (by simp)] at ih
        rw [Lib.splitK, hix, hj, if_neg (show ¬ (((j : Int) == -1) = true) by simp), if_neg (by simp; omega), ← ih]
        simp only [Int.toNat_natCast, Nat.add_zero]
        rw [show ((j : Int) + 1).toNat = j + 1 by omega]
        rfl
/-- Names with a stroke between any two. -/
def jn (xs : List (List UInt8)) : List UInt8 := Lib.join xs [47]
def splitO (s sep : List UInt8) (sv n : Int) : Option (List (List UInt8)) := if sep = [47] ∧ sv = 0 ∧ n = -1 ∧ s.length ≤ 100000 then some (sp s) else none
theorem splitO_some {s sep : List UInt8} {sv n : Int} {r : List (List UInt8)} (h : splitO s sep sv n = some r) : sep = [47] ∧ sv = 0 ∧ n = -1 ∧ s.length ≤ 100000 ∧ r = sp s := by
  unfold splitO at h
  split at h
  · rename_i h0; cases h; exact ⟨h0.1, h0.2.1, h0.2.2.1, h0.2.2.2, rfl⟩
  · cases h
def joinO (xs : List (List UInt8)) (sep : List UInt8) : Option (List UInt8) := if sep = [47] ∧ xs.length ≤ 100000 ∧ (jn xs).length ≤ 100000 then some (jn xs) else none
theorem joinO_some {xs : List (List UInt8)} {sep r : List UInt8} (h : joinO xs sep = some r) : sep = [47] ∧ xs.length ≤ 100000 ∧ (jn xs).length ≤ 100000 ∧ r = jn xs := by
  unfold joinO at h
  split at h
  · rename_i h0; cases h; exact ⟨h0.1, h0.2.1, h0.2.2, rfl⟩
  · cases h
def indexO (s sub : List UInt8) : Option Int := match sub with
  | [c] => some (Lib.indexByte s c)
  | _ => none
theorem indexO_some {s sub : List UInt8} {r : Int} (h : indexO s sub = some r) : ∃ c, sub = [c] ∧ r = Lib.indexByte s c := by
  unfold indexO at h
  split at h
  · rename_i c; cases h; exact ⟨c, rfl, rfl⟩
  · cases h
theorem St.below {w0 w w' : World} {l : List HP} (H : St w0 w l) (hb : Below w.heap.size w w') : St w0 w' l := by
  obtain ⟨hv, B, f, hs, h1, h2, h3⟩ := H
  have hold : ∀ b, b < w.heap.size → w'.heap[b]? = w.heap[b]? := fun b hlt => hb.block b hlt
  refine ⟨⟨hb.os.trans hv.1, hb.tape.trans hv.2.1, hb.output.trans hv.2.2.1, Nat.le_trans hv.2.2.2 hb.size⟩, B, f, fun b o h => ?_, fun i A hi => A.loc (h1 i A hi) fun b hf => hold b (h3 i b (List.getElem?_eq_some_iff.1 hi).1 hf).1, h2, fun i b hi hf => ?_⟩
  · rw [hold b (hs.lt h)]; exact hs b o h
  · have := h3 i b hi hf
    exact ⟨Nat.lt_of_lt_of_le this.1 hb.size, this.2⟩
/-- A new slice of texts. -/
theorem St.newTexts {w0 w : World} {l : List HP} (H : St w0 w l) (e : TypeId) (xs : List (List UInt8)) (hm : xs.length ≤ maxLen) : St w0 (w.alloc (.cells (xs.map fun x => Value.string (txb x)).toArray e)) (HP.ow rStr e (some ⟨w.heap.size, 0, none⟩) xs.length xs :: l) := by
  have hf : (xs.map fun x => [Value.string (txb x)]).flatten = xs.map fun x => Value.string (txb x) := by
    induction xs with
    | nil => rfl
    | cons x xs ih => simp only [List.length_cons] at hm; simp [ih (by omega)]
  have hr : ∀ B : Base, RdL rStr B (xs.map fun x => [Value.string (txb x)]) xs := fun B => by
    clear hm hf
    induction xs with
    | nil => trivial
    | cons x xs ih => exact ⟨rfl, ih⟩
  refine H.add _ _ fun {B} S hS => ⟨_, hr B, ?_⟩
  rw [hf]
  exact ⟨⟨by simp [rStr, Rp.enc], .inr ⟨_, xs.length, _, rfl, Nat.zero_le _, heapNew w _, Nat.le_refl _, hm, by simp [rStr, Rp.enc], by simp only [rStr, Rp.enc, Nat.mul_one]; rw [List.take_of_length_le]; simp⟩⟩, fun b hb => by simp [Value.ownBlock] at hb; exact hb ▸ hS⟩
end Go.Tri
