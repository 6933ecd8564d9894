/- Plain laws of pdqsort and heapsort. -/
import Derived.Test.YtchcoenpnmgnhaaSort
set_option linter.unusedSimpArgs false
set_option linter.unusedVariables false
namespace Go.Tri
open Go.RowKit
section
variable {α : Type} {lt : α → α → Bool}
/-- Nothing in the segment is less than what stands ahead of it. -/
def Lo (lt : α → α → Bool) (a b : Nat) (ys : List α) : Prop := ∀ k x y, 0 < a → a ≤ k → k < b → ys[a - 1]? = some x → ys[k]? = some y → lt y x = false
/-- All pairs from A up to B are in order but those within a up to b. -/
def Done (lt : α → α → Bool) (A B a b : Nat) (ys : List α) : Prop := ∀ p q x y, A ≤ p → p < q → q < B → ¬ (a ≤ p ∧ q < b) → ys[p]? = some x → ys[q]? = some y → lt y x = false
structure Part (lt : α → α → Bool) (a m b : Nat) (ys : List α) : Prop where
  left : ∀ k x y, a ≤ k → k < m → ys[k]? = some x → ys[m]? = some y → lt y x = false
  right : ∀ k x y, m < k → k < b → ys[k]? = some x → ys[m]? = some y → lt x y = false
theorem Lo.seg {a b : Nat} {xs ys : List α} (h : Lo lt a b xs) (s : Seg a b xs ys) : Lo lt a b ys := by
  intro k x y h0 h1 h2 hx hy
  rw [s.out (a - 1) (by omega)] at hx
  obtain ⟨k', b1, b2, b3⟩ := s.mem k y h1 h2 hy
  exact h k' x y h0 b1 b2 hx b3
theorem Lo.narrow {a b m : Nat} {xs : List α} (h : Lo lt a b xs) (hm : m ≤ b) : Lo lt a m xs := fun k x y h0 h1 h2 => h k x y h0 h1 (by omega)
theorem Lo.zero {b : Nat} {xs : List α} : Lo lt 0 b xs := fun k x y h0 => by omega
theorem Lo.right {a m b : Nat} {ys : List α} (h : Part lt a m b ys) : Lo lt (m + 1) b ys := fun k x y h0 h1 h2 hx hy => h.right k y x (by omega) h2 hy hx
theorem Done.start {A B : Nat} {ys : List α} : Done lt A B A B ys := fun p q x y h1 h2 h3 h4 => by omega
theorem Done.seg {A B a b : Nat} {xs ys : List α} (h : Done lt A B a b xs) (s : Seg a b xs ys) (hA : A ≤ a) (hB : b ≤ B) : Done lt A B a b ys := by
  intro p q x y h1 h2 h3 h4 hx hy
  by_cases hp : a ≤ p ∧ p < b
  · obtain ⟨p', b1, b2, b3⟩ := s.mem p x hp.1 hp.2 hx
    rw [s.out q (by omega)] at hy
    exact h p' q x y (by omega) (by omega) h3 (by omega) b3 hy
  · by_cases hq : a ≤ q ∧ q < b
    · obtain ⟨q', b1, b2, b3⟩ := s.mem q y hq.1 hq.2 hy
      rw [s.out p (by omega)] at hx
      exact h p q' x y h1 (by omega) (by omega) (by omega) hx b3
    · rw [s.out p (by omega)] at hx
      rw [s.out q (by omega)] at hy
      exact h p q x y h1 h2 h3 h4 hx hy
theorem Done.full {A B a b : Nat} {ys : List α} (h : Done lt A B a b ys) (s : Srt lt a b ys) : Srt lt A B ys := by
  intro p q x y h1 h2 h3 hx hy
  by_cases e : a ≤ p ∧ q < b
  · exact s p q x y e.1 h2 e.2 hx hy
  · exact h p q x y h1 h2 h3 e hx hy
theorem Part.segL {a m b : Nat} {xs ys : List α} (h : Part lt a m b xs) (s : Seg a m xs ys) : Part lt a m b ys where
  left k x y h1 h2 hx hy := by
    rw [s.out m (by omega)] at hy
    obtain ⟨k', b1, b2, b3⟩ := s.mem k x h1 h2 hx
    exact h.left k' x y b1 b2 b3 hy
  right k x y h1 h2 hx hy := by
    rw [s.out m (by omega)] at hy
    rw [s.out k (by omega)] at hx
    exact h.right k x y h1 h2 hx hy
theorem Part.segR {a m b : Nat} {xs ys : List α} (h : Part lt a m b xs) (s : Seg (m + 1) b xs ys) : Part lt a m b ys where
  left k x y h1 h2 hx hy := by
    rw [s.out m (by omega)] at hy
    rw [s.out k (by omega)] at hx
    exact h.left k x y h1 h2 hx hy
  right k x y h1 h2 hx hy := by
    rw [s.out m (by omega)] at hy
    obtain ⟨k', b1, b2, b3⟩ := s.mem k x h1 h2 hx
    exact h.right k' x y b1 b2 b3 hy
/-- Two parts, and what stands between them: all pairs but those of one part are in order. -/
theorem Part.pair (hl : SWO lt) {a m b : Nat} {ys : List α} (h : Part lt a m b ys) (hm : m < ys.length) {p q : Nat} {x y : α} (h1 : a ≤ p) (h2 : p < q) (h3 : q < b) (h4 : p ≤ m) (h5 : m ≤ q) (hx : ys[p]? = some x) (hy : ys[q]? = some y) : lt y x = false := by
  have hz : ys[m]? = some ys[m] := List.getElem?_eq_getElem hm
  by_cases e1 : p = m
  · subst e1; exact h.right q y x h2 h3 hy hx
  · by_cases e2 : q = m
    · subst e2; exact h.left p x y h1 h2 hx hy
    · exact hl.trans x _ y (h.left p x _ h1 (by omega) hx hz) (h.right q y _ (by omega) h3 hy hz)
theorem Done.left (hl : SWO lt) {A B a m b : Nat} {ys : List α} (h : Done lt A B a b ys) (hp : Part lt a m b ys) (s : Srt lt a m ys) (hm : m < ys.length) : Done lt A B (m + 1) b ys := by
  intro p q x y h1 h2 h3 h4 hx hy
  by_cases e : a ≤ p ∧ q < b
  · by_cases e2 : q < m
    · exact s p q x y e.1 h2 e2 hx hy
    · exact hp.pair hl hm e.1 h2 e.2 (by omega) (by omega) hx hy
  · exact h p q x y h1 h2 h3 e hx hy
theorem Done.right (hl : SWO lt) {A B a m b : Nat} {ys : List α} (h : Done lt A B a b ys) (hp : Part lt a m b ys) (s : Srt lt (m + 1) b ys) (hm : m < ys.length) : Done lt A B a m ys := by
  intro p q x y h1 h2 h3 h4 hx hy
  by_cases e : a ≤ p ∧ q < b
  · by_cases e2 : m < p
    · exact s p q x y e2 h2 e.2 hx hy
    · exact hp.pair hl hm e.1 h2 e.2 (by omega) (by omega) hx hy
  · exact h p q x y h1 h2 h3 e hx hy
/-- While a partition is made: what is less than the first is ahead of i, what isn't is behind j. -/
structure PI (lt : α → α → Bool) (a b i j : Nat) (ys : List α) : Prop where
  lo : ∀ k x y, a < k → k < i → ys[k]? = some x → ys[a]? = some y → lt x y = true
  hi : ∀ k x y, j < k → k < b → ys[k]? = some x → ys[a]? = some y → lt x y = false
theorem PI.start {a b : Nat} {ys : List α} : PI lt a b (a + 1) (b - 1) ys := ⟨fun k x y h1 h2 => by omega, fun k x y h1 h2 => by omega⟩
theorem PI.incI {a b i j : Nat} {ys : List α} {x y : α} (h : PI lt a b i j ys) (hx : ys[i]? = some x) (hy : ys[a]? = some y) (hlt : lt x y = true) : PI lt a b (i + 1) j ys := by
  refine ⟨fun k u v h1 h2 hu hv => ?_, h.hi⟩
  by_cases e : k = i
  · subst e; rw [hx] at hu; rw [hy] at hv; cases hu; cases hv; exact hlt
  · exact h.lo k u v h1 (by omega) hu hv
theorem PI.decJ {a b i j : Nat} {ys : List α} {x y : α} (h : PI lt a b i j ys) (hx : ys[j]? = some x) (hy : ys[a]? = some y) (hlt : lt x y = false) : PI lt a b i (j - 1) ys := by
  refine ⟨h.lo, fun k u v h1 h2 hu hv => ?_⟩
  by_cases e : k = j
  · subst e; rw [hx] at hu; rw [hy] at hv; cases hu; cases hv; exact hlt
  · exact h.hi k u v (by omega) h2 hu hv
theorem PI.swap {a b i j : Nat} {ys : List α} {x y z : α} (h : PI lt a b i j ys) (ha : a < i) (hij : i < j) (hx : ys[i]? = some x) (hy : ys[j]? = some y) (hz : ys[a]? = some z) (h1 : lt x z = false) (h2 : lt y z = true) : PI lt a b (i + 1) (j - 1) ((ys.set i y).set j x) := by
  refine ⟨fun k u v a1 a2 hu hv => ?_, fun k u v a1 a2 hu hv => ?_⟩ <;> rw [swap_get hx hy] at hu hv <;> rw [if_neg (by omega), if_neg (by omega), hz] at hv <;> cases hv
  · rw [if_neg (by omega)] at hu
    by_cases e : i = k
    · rw [if_pos e] at hu; cases hu; exact h2
    · rw [if_neg e] at hu; exact h.lo k u z a1 (by omega) hu hz
  · by_cases e : j = k
    · rw [if_pos e] at hu; cases hu; exact h1
    · rw [if_neg e, if_neg (by omega)] at hu; exact h.hi k u z (by omega) a2 hu hz
theorem PI.done (hl : SWO lt) {a b i j : Nat} {ys : List α} {x z : α} (h : PI lt a b i j ys) (ha : a ≤ j) (hij : j < i) (hx : ys[j]? = some x) (hz : ys[a]? = some z) : Part lt a j b ((ys.set j z).set a x) := by
  refine ⟨fun k u v a1 a2 hu hv => ?_, fun k u v a1 a2 hu hv => ?_⟩ <;> rw [swap_get hx hz] at hu hv
  · rw [if_neg (by omega), if_pos rfl] at hv; cases hv
    by_cases e : a = k
    · rw [if_pos e] at hu; cases hu; exact hl.asym _ _ (h.lo j _ z (by omega) hij hx hz)
    · rw [if_neg e, if_neg (by omega)] at hu; exact hl.asym _ _ (h.lo k u z (by omega) (by omega) hu hz)
  · have hv' : v = z := by
      by_cases e : a = j
      · rw [if_pos e] at hv; cases hv
        subst e; rw [hx] at hz; cases hz; rfl
      · rw [if_neg e, if_pos rfl] at hv; cases hv; rfl
    subst hv'
    rw [if_neg (by omega), if_neg (by omega)] at hu
    exact h.hi k u v a1 a2 hu hz
/-- The same, where what is like the first comes ahead. -/
structure PE (lt : α → α → Bool) (a b i j : Nat) (ys : List α) : Prop where
  lo : ∀ k x y, a < k → k < i → ys[k]? = some x → ys[a]? = some y → lt y x = false
  hi : ∀ k x y, j < k → k < b → ys[k]? = some x → ys[a]? = some y → lt y x = true
theorem PE.start {a b : Nat} {ys : List α} : PE lt a b (a + 1) (b - 1) ys := ⟨fun k x y h1 h2 => by omega, fun k x y h1 h2 => by omega⟩
theorem PE.incI {a b i j : Nat} {ys : List α} {x y : α} (h : PE lt a b i j ys) (hx : ys[i]? = some x) (hy : ys[a]? = some y) (hlt : lt y x = false) : PE lt a b (i + 1) j ys := by
  refine ⟨fun k u v h1 h2 hu hv => ?_, h.hi⟩
  by_cases e : k = i
  · subst e; rw [hx] at hu; rw [hy] at hv; cases hu; cases hv; exact hlt
  · exact h.lo k u v h1 (by omega) hu hv
theorem PE.decJ {a b i j : Nat} {ys : List α} {x y : α} (h : PE lt a b i j ys) (hx : ys[j]? = some x) (hy : ys[a]? = some y) (hlt : lt y x = true) : PE lt a b i (j - 1) ys := by
  refine ⟨h.lo, fun k u v h1 h2 hu hv => ?_⟩
  by_cases e : k = j
  · subst e; rw [hx] at hu; rw [hy] at hv; cases hu; cases hv; exact hlt
  · exact h.hi k u v (by omega) h2 hu hv
theorem PE.swap {a b i j : Nat} {ys : List α} {x y z : α} (h : PE lt a b i j ys) (ha : a < i) (hij : i < j) (hx : ys[i]? = some x) (hy : ys[j]? = some y) (hz : ys[a]? = some z) (h1 : lt z x = true) (h2 : lt z y = false) : PE lt a b (i + 1) (j - 1) ((ys.set i y).set j x) := by
  refine ⟨fun k u v a1 a2 hu hv => ?_, fun k u v a1 a2 hu hv => ?_⟩ <;> rw [swap_get hx hy] at hu hv <;> rw [if_neg (by omega), if_neg (by omega), hz] at hv <;> cases hv
  · rw [if_neg (by omega)] at hu
    by_cases e : i = k
    · rw [if_pos e] at hu; cases hu; exact h2
    · rw [if_neg e] at hu; exact h.lo k u z a1 (by omega) hu hz
  · by_cases e : j = k
    · rw [if_pos e] at hu; cases hu; exact h1
    · rw [if_neg e, if_neg (by omega)] at hu; exact h.hi k u z (by omega) a2 hu hz
/-- What is like the first stands ahead of m. -/
structure PEq (lt : α → α → Bool) (a m b : Nat) (ys : List α) : Prop where
  lo : ∀ k x y, a ≤ k → k < m → ys[k]? = some x → ys[a]? = some y → lt y x = false
  hi : ∀ k x y, m ≤ k → k < b → ys[k]? = some x → ys[a]? = some y → lt y x = true
theorem PE.done (hl : SWO lt) {a b i j : Nat} {ys : List α} (h : PE lt a b i j ys) (hij : j + 1 = i) (ha : a < i) : PEq lt a i b ys := by
  refine ⟨fun k x y h1 h2 hx hy => ?_, fun k x y h1 h2 hx hy => h.hi k x y (by omega) h2 hx hy⟩
  by_cases e : k = a
  · subst e; rw [hx] at hy; cases hy; exact hl.irr _
  · exact h.lo k x y (by omega) h2 hx hy
theorem Done.eq (hl : SWO lt) {A B a m b : Nat} {ys : List α} (h : Done lt A B a b ys) (hp : PEq lt a m b ys) (hlo : Lo lt a b ys) (h0 : 0 < a) (ham : a < m) (hmb : m ≤ b) (hbl : b ≤ ys.length) (hpv : ∀ x y, ys[a - 1]? = some x → ys[a]? = some y → lt x y = false) : Done lt A B m b ys := by
  have hz : ys[a]? = some ys[a] := List.getElem?_eq_getElem (by omega)
  have hw : ys[a - 1]? = some ys[a - 1] := List.getElem?_eq_getElem (by omega)
  intro p q x y h1 h2 h3 h4 hx hy
  by_cases e : a ≤ p ∧ q < b
  · have e1 : p < m := by omega
    -- y is not less than what stands ahead of the segment; that not less than the first; that not less than x
    exact hl.trans x _ y (hp.lo p x _ e.1 e1 hx hz) (hl.trans _ _ y (hpv _ _ hw hz) (hlo q _ y h0 (by omega) e.2 hw hy))
  · exact h p q x y h1 h2 h3 e hx hy
theorem Lo.eq (hl : SWO lt) {a m b : Nat} {ys : List α} (hp : PEq lt a m b ys) (hlo : Lo lt a b ys) (h0 : 0 < a) (ham : a < m) (hbl : b ≤ ys.length) (hmb : m ≤ b) (hpv : ∀ x y, ys[a - 1]? = some x → ys[a]? = some y → lt x y = false) : Lo lt m b ys := by
  have hz : ys[a]? = some ys[a] := List.getElem?_eq_getElem (by omega)
  have hw : ys[a - 1]? = some ys[a - 1] := List.getElem?_eq_getElem (by omega)
  intro k x y _ h1 h2 hx hy
  exact hl.trans x _ y (hp.lo (m - 1) x _ (by omega) (by omega) hx hz) (hl.trans _ _ y (hpv _ _ hw hz) (hlo k _ y h0 (by omega) h2 hw hy))
/-! ### Heaps -/
def Heap (lt : α → α → Bool) (f lo hi : Nat) (ys : List α) : Prop := ∀ i c x y, lo ≤ i → (c = 2 * i + 1 ∨ c = 2 * i + 2) → c < hi → ys[f + i]? = some x → ys[f + c]? = some y → lt x y = false
structure Sift (lt : α → α → Bool) (f lo hi r : Nat) (ys : List α) : Prop where
  off : ∀ i c x y, lo ≤ i → i ≠ r → (c = 2 * i + 1 ∨ c = 2 * i + 2) → c < hi → ys[f + i]? = some x → ys[f + c]? = some y → lt x y = false
  up : ∀ i c x y, lo ≤ i → (r = 2 * i + 1 ∨ r = 2 * i + 2) → (c = 2 * r + 1 ∨ c = 2 * r + 2) → c < hi → ys[f + i]? = some x → ys[f + c]? = some y → lt x y = false
theorem Sift.start {f lo hi : Nat} {ys : List α} (h : Heap lt f (lo + 1) hi ys) : Sift lt f lo hi lo ys :=
  ⟨fun i c x y h1 h2 => h i c x y (by omega), fun i c x y h1 h2 => by omega⟩
theorem Sift.leaf {f lo hi r : Nat} {ys : List α} (h : Sift lt f lo hi r ys) (hr : hi ≤ 2 * r + 1) : Heap lt f lo hi ys := by
  intro i c x y h1 h2 h3
  by_cases e : i = r
  · subst e; omega
  · exact h.off i c x y h1 e h2 h3
theorem Sift.stop (hl : SWO lt) {f lo hi r c : Nat} {ys : List α} {x z : α} (h : Sift lt f lo hi r ys) (hc : c = 2 * r + 1 ∨ c = 2 * r + 2) (hch : c < hi) (hx : ys[f + r]? = some x) (hz : ys[f + c]? = some z)
    (hmax : ∀ o y, (o = 2 * r + 1 ∨ o = 2 * r + 2) → o < hi → ys[f + o]? = some y → lt z y = false) (hlt : lt x z = false) : Heap lt f lo hi ys := by
  intro i o u y h1 h2 h3 hu hy
  by_cases e : i = r
  · subst e; rw [hx] at hu; cases hu
    exact hl.trans y z x (hmax o y h2 h3 hy) hlt
  · exact h.off i o u y h1 e h2 h3 hu hy
theorem Sift.step (hl : SWO lt) {f lo hi r c : Nat} {ys : List α} {x z : α} (h : Sift lt f lo hi r ys) (hr : lo ≤ r) (hc : c = 2 * r + 1 ∨ c = 2 * r + 2) (hch : c < hi) (hx : ys[f + r]? = some x) (hz : ys[f + c]? = some z)
    (hmax : ∀ o y, (o = 2 * r + 1 ∨ o = 2 * r + 2) → o < hi → ys[f + o]? = some y → lt z y = false) (hlt : lt x z = true) : Sift lt f lo hi c ((ys.set (f + r) z).set (f + c) x) := by
  refine ⟨fun i o u y h1 h2 h3 h4 hu hy => ?_, fun i o u y h1 h2 h3 h4 hu hy => ?_⟩ <;> rw [swap_get hx hz] at hu hy
  · rw [if_neg (by omega)] at hu
    by_cases e : i = r
    · subst e
      rw [if_pos rfl] at hu; cases hu
      by_cases eo : o = c
      · subst eo; rw [if_pos rfl] at hy; cases hy; exact hl.asym _ _ hlt
      · rw [if_neg (by omega), if_neg (by omega)] at hy
        exact hmax o y h3 h4 hy
    · rw [if_neg (by omega)] at hu
      by_cases eo : o = r
      · subst eo
        rw [if_neg (by omega), if_pos rfl] at hy; cases hy
        exact h.up i c u _ h1 h3 hc hch hu hz
      · rw [if_neg (by omega), if_neg (by omega)] at hy
        exact h.off i o u y h1 e h3 h4 hu hy
  · have e : i = r := by omega
    subst e
    rw [if_neg (by omega), if_pos rfl] at hu; cases hu
    rw [if_neg (by omega), if_neg (by omega)] at hy
    exact h.off c o _ y (by omega) (by omega) h3 h4 hz hy
theorem Heap.max (hl : SWO lt) {f hi : Nat} {ys : List α} (h : Heap lt f 0 hi ys) (hn : f + hi ≤ ys.length) {x : α} (hx : ys[f]? = some x) : ∀ j y, j < hi → ys[f + j]? = some y → lt x y = false := by
  intro j
  induction j using Nat.strongRecOn with
  | ind j ih =>
    intro y hj hy
    by_cases e : j = 0
    · subst e; rw [Nat.add_zero, hx] at hy; cases hy; exact hl.irr _
    · have hz : ys[f + (j - 1) / 2]? = some ys[f + (j - 1) / 2] := List.getElem?_eq_getElem (by omega)
      have h1 := ih ((j - 1) / 2) (by omega) _ (by omega) hz
      have h2 := h ((j - 1) / 2) j _ y (Nat.zero_le _) (by omega) hj hz hy
      exact hl.trans y _ x h2 h1
theorem Heap.pop (hl : SWO lt) {f k B : Nat} {ys : List α} {x z : α} (h : Heap lt f 0 (k + 1) ys) (hn : f + (k + 1) ≤ ys.length) (hx : ys[f]? = some x) (hz : ys[f + k]? = some z) (hd : Done lt f B f (f + (k + 1)) ys) :
    Heap lt f 1 k ((ys.set f z).set (f + k) x) ∧ Done lt f B f (f + k) ((ys.set f z).set (f + k) x) := by
  have hm := h.max hl hn hx
  refine ⟨fun i c u y h1 h2 h3 hu hy => ?_, fun p q u y h1 h2 h3 h4 hu hy => ?_⟩
  · rw [swap_get hx hz, if_neg (by omega), if_neg (by omega)] at hu hy
    exact h i c u y (Nat.zero_le _) h2 (by omega) hu hy
  · rw [swap_get hx hz] at hu hy
    have hp : ∀ u, (if f + k = p then some x else if f = p then some z else ys[p]?) = some u → p < f + k → ∃ j, j < k + 1 ∧ ys[f + j]? = some u := by
      intro u hu hpk
      rw [if_neg (by omega)] at hu
      by_cases e : f = p
      · rw [if_pos e] at hu; cases hu; exact ⟨k, by omega, hz⟩
      · rw [if_neg e] at hu; exact ⟨p - f, by omega, by rw [show f + (p - f) = p by omega]; exact hu⟩
    by_cases eq : f + k = q
    · rw [if_pos eq] at hy; cases hy
      obtain ⟨j, hj, hju⟩ := hp u hu (by omega)
      exact hm j u hj hju
    · rw [if_neg eq, if_neg (by omega)] at hy
      by_cases ep : p < f + k
      · obtain ⟨j, hj, hju⟩ := hp u hu ep
        exact hd (f + j) q u y (by omega) (by omega) h3 (by omega) hju hy
      · by_cases e2 : f + k = p
        · rw [if_pos e2] at hu; cases hu
          exact hd f q _ y (by omega) (by omega) h3 (by omega) hx hy
        · rw [if_neg e2, if_neg (by omega)] at hu
          exact hd p q u y h1 h2 h3 (by omega) hu hy
theorem Heap.leaves {f hi : Nat} {ys : List α} (k : Nat) (h : hi ≤ 2 * k + 1) : Heap lt f k hi ys := fun i c x y h1 h2 h3 => by omega
theorem Srt.snoc (hl : SWO lt) {a i : Nat} {ys : List α} (h : Srt lt a i ys) (hi : i < ys.length) (ha : a < i) {x y : α} (hx : ys[i]? = some x) (hy : ys[i - 1]? = some y) (hlt : lt x y = false) : Srt lt a (i + 1) ys := by
  intro p q u v h1 h2 h3 hu hv
  by_cases e : q = i
  · subst e; rw [hx] at hv; cases hv
    by_cases e2 : p = q - 1
    · subst e2; rw [hy] at hu; cases hu; exact hlt
    · exact hl.trans u y _ (h p (q - 1) u y h1 (by omega) (by omega) hu hy) hlt
  · exact h p q u v h1 h2 (by omega) hu hv
theorem Srt.seg {a b c d : Nat} {xs ys : List α} (h : Srt lt a b xs) (s : Seg c d xs ys) (hd : b ≤ c ∨ d ≤ a) : Srt lt a b ys := by
  intro p q u v h1 h2 h3 hu hv
  rw [s.out p (by omega)] at hu
  rw [s.out q (by omega)] at hv
  exact h p q u v h1 h2 h3 hu hv
theorem Sift.max2 (hl : SWO lt) {f hi r : Nat} {ys : List α} {x1 x2 : α} (h1 : ys[f + (2 * r + 1)]? = some x1) (h2 : ys[f + (2 * r + 1 + 1)]? = some x2) (h : lt x1 x2 = true) :
    ∀ z, ys[f + (2 * r + 1 + 1)]? = some z → ∀ oo y, (oo = 2 * r + 1 ∨ oo = 2 * r + 2) → oo < hi → ys[f + oo]? = some y → lt z y = false := by
  intro z hz oo y ho hoh hy
  cases hz.symm.trans h2
  rcases ho with rfl | rfl
  · cases hy.symm.trans h1; exact hl.asym _ _ h
  · cases (show ys[f + (2 * r + 1 + 1)]? = some y from hy).symm.trans h2; exact hl.irr _
theorem Sift.max1 (hl : SWO lt) {f hi r : Nat} {ys : List α} {x1 x2 : α} (h1 : ys[f + (2 * r + 1)]? = some x1) (h2 : ys[f + (2 * r + 1 + 1)]? = some x2) (h : lt x1 x2 = false) :
    ∀ z, ys[f + (2 * r + 1)]? = some z → ∀ oo y, (oo = 2 * r + 1 ∨ oo = 2 * r + 2) → oo < hi → ys[f + oo]? = some y → lt z y = false := by
  intro z hz oo y ho hoh hy
  cases hz.symm.trans h1
  rcases ho with rfl | rfl
  · cases hy.symm.trans h1; exact hl.irr _
  · cases (show ys[f + (2 * r + 1 + 1)]? = some y from hy).symm.trans h2; exact h
theorem Sift.max0 (hl : SWO lt) {f hi r : Nat} {ys : List α} (h : hi ≤ 2 * r + 2) :
    ∀ z, ys[f + (2 * r + 1)]? = some z → ∀ oo y, (oo = 2 * r + 1 ∨ oo = 2 * r + 2) → oo < hi → ys[f + oo]? = some y → lt z y = false := by
  intro z hz oo y ho hoh hy
  rcases ho with rfl | rfl
  · cases hz.symm.trans hy; exact hl.irr _
  · omega
theorem swap_at {l : List α} {i j : Nat} {x y : α} (hi : l[i]? = some x) (hj : l[j]? = some y) : ((l.set i y).set j x)[i]? = l[j]? := by
  rw [swap_get hi hj]
  by_cases e : j = i
  · subst e; rw [if_pos rfl]; exact hi.symm
  · rw [if_neg e, if_pos rfl]; exact hj.symm
end
end Go.Tri
