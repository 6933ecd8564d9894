/- An argument that came in, opened: bytes in an array, and slices of whatever elements. -/
import Derived.Test.YtfepdfjhejkemaaDoorLibB
import Derived.Deep.Slices
import Derived.ChangeOld
set_option linter.unusedSimpArgs false
set_option linter.unusedVariables false
namespace Go.Tri
open Go.RowKit Go.ChangeShapes Go.WideShapes Go.Deep

theorem exists_list {α : Type} {p : Nat → α → Prop} : ∀ n, (∀ i, i < n → ∃ a, p i a) → ∃ l : List α, l.length = n ∧ ∀ i a, l[i]? = some a → p i a
  | 0, _ => ⟨[], rfl, fun i a h => by simp at h⟩
  | n + 1, h => by
    obtain ⟨l, hl, hp⟩ := exists_list n (fun i hi => h i (by omega))
    obtain ⟨a, ha⟩ := h n (by omega)
    refine ⟨l ++ [a], by simp [hl], fun i b hb => ?_⟩
    by_cases hi : i < n
    · rw [List.getElem?_append_left (by omega)] at hb; exact hp i b hb
    · have : i = n := by
        have := (List.getElem?_eq_some_iff.1 hb).1
        simp [hl] at this; omega
      subst this
      rw [List.getElem?_append_right (by omega)] at hb
      simp [hl] at hb; subst hb; exact ha

section
variable {H : Type} {enc : TypeId × Value → H} {P : Program} {w : World} {base : Nat} {spare : Nat → Bool} {held : Bool}

theorem row_flat {α : Type} (en : α → List Value) {ok : α → Prop} {size : Nat} (hlen : ∀ y, ok y → (en y).length = size) {b : Nat} :
    ∀ (ys : List α) (off : Nat), (∀ y ∈ ys, ok y) → (∀ i y, ys[i]? = some y → Row w b (off + i * size) (en y)) → Row w b off (ys.flatMap en)
  | [], off, _, _ => Row.nil w b off
  | y :: ys, off, hok, h => by
    have h0 := h 0 y rfl
    rw [Nat.zero_mul, Nat.add_zero] at h0
    rw [List.flatMap_cons]
    refine h0.app ?_
    rw [hlen y (hok y (by simp))]
    refine row_flat en hlen ys (off + size) (fun z hz => hok z (by simp [hz])) fun i z hz => ?_
    have := h (i + 1) z (by simpa using hz)
    rw [show off + (i + 1) * size = off + size + i * size by rw [Nat.add_mul]; omega] at this
    exact this
/-- A slice whose elements can be opened. -/
theorem open_sl {α : Type} (en : α → List Value) (ok : α → Prop) {t e : TypeId} {size : Nat} (ht : P.underlying t = some (.slice e)) (hC : P.cellsOf e = size)
    (hel : ∀ (fuel : Nat) (cs : List Value) (x : DataW H × List MemPlace), DataW.trod enc P w base spare held fuel e cs = some x → ∃ y, ok y ∧ cs = en y) (hlen : ∀ y, ok y → (en y).length = size) (hs : 0 < size)
    {fuel : Nat} {v : Value} {x : DataW H × List MemPlace} (hv : ∃ p n c, v = .slice p n c) (h : DataW.trod enc P w base spare held fuel t v.cells.toList = some x) :
    ∃ ys : List α, (∀ y ∈ ys, ok y) ∧ Sl w v ys.length (ys.flatMap en) ∧ ys.length ≤ maxLen := by
  obtain ⟨p, nn, c, rfl⟩ := hv
  rcases open_slice ht h with ⟨hcs, _⟩ | ⟨a, len, cap, m, n, D, Pl, hcs, hb, hl, hm, hmm, _, hi⟩
  · simp [Value.cells] at hcs
    obtain ⟨rfl, rfl, rfl⟩ := hcs
    exact ⟨[], by simp, .inl ⟨rfl, rfl, rfl⟩, by simp [maxLen]⟩
  · simp [Value.cells] at hcs
    obtain ⟨rfl, rfl, rfl⟩ := hcs
    have hlm : nn ≤ m := by subst hmm; split <;> omega
    obtain ⟨ys, hyl, hp⟩ := exists_list (p := fun i y => ok y ∧ ∀ j u, (en y)[j]? = some u → w.cell? ((a.add (i * size)).add j) = some u) nn (fun i hin => by
      obtain ⟨cs', hc, ht'⟩ := hi i (by omega)
      obtain ⟨y, hy, rfl⟩ := hel _ _ _ ht'
      obtain ⟨_, hcl, hat⟩ := World.cells?_some hc
      refine ⟨y, hy, fun j u hj => ?_⟩
      rw [← hC, hat j (by rw [hC, ← hlen y hy]; exact (List.getElem?_eq_some_iff.1 hj).1)]; exact hj)
    have hok : ∀ y ∈ ys, ok y := fun y hy => by
      obtain ⟨i, hi, rfl⟩ := List.getElem_of_mem hy
      exact (hp i _ (List.getElem?_eq_getElem hi)).1
    refine ⟨ys, hok, ?_, by omega⟩
    by_cases h0 : nn = 0
    · obtain rfl : ys = [] := List.length_eq_zero_iff.1 (by omega)
      subst h0
      exact .inr (.inl ⟨a, c, rfl, rfl, rfl⟩)
    · obtain ⟨y0, hy0⟩ : ∃ y, ys[0]? = some y := ⟨_, List.getElem?_eq_getElem (by omega)⟩
      obtain ⟨u0, hu0⟩ : ∃ u, (en y0)[0]? = some u := ⟨_, List.getElem?_eq_getElem (by rw [hlen y0 (hp 0 y0 hy0).1]; exact hs)⟩
      have hc0 := (hp 0 y0 hy0).2 0 u0 hu0
      rw [Nat.zero_mul] at hc0
      obtain ⟨b, off, spot⟩ := a
      have hspot : spot = none := by simpa [Addr.add] using World.cell?_spot hc0
      subst hspot
      refine .inr (.inr ⟨b, off, c, by rw [hyl], by omega, row_flat en hlen ys off hok fun i y hy => ?_⟩)
      intro j u hj
      have := (hp i y hy).2 j u hj
      rw [add_none, add_none] at this; exact this
end
end Go.Tri
