/- The reference's Majority and Choose. -/
import Derived.Test.YtoohllmhlbgamaaVoteD
set_option linter.unusedSimpArgs false
set_option linter.unusedVariables false
namespace Go.Proofs.Ytoohllmhlbgamaa
open Go.ChangeShapes Go.WideShapes Go.ChangeAt Go.RowKit Go.Tri

theorem majorityR (n : Int) (w : World) (h : -9223372036854775808 ≤ n) (h' : n ≤ 9223372036854775807) :
    Calls Try.prog 13 #[.int .i64 n] w fun e w' => e = .returned (.int .i64 (majI n)) ∧ w = w' := by
  by_cases c : n < 1
  · go_enter Try.func13, Try.ntmps13
    go_wp2
    all_goals (go_ret; exact ⟨by simp [majI, c], rfl⟩)
  · have h1 : 0 < n := by omega
    go_enter Try.func13, Try.ntmps13
    go_wp2
    all_goals (go_ret; exact ⟨by simp [majI, show ¬ n < 1 by omega], rfl⟩)

/-! The plain part: the two ways to reckon agree. -/
theorem cmp3_eq (x y : Int) (h : x = y) : cmp3 x y = 0 := by subst h; simp [cmp3]
theorem firstNot_zero (l : List Int) : firstNot (0 :: l) = firstNot l := by simp [firstNot]
theorem firstNot_ne (z : Int) (l : List Int) (h : z ≠ 0) : firstNot (z :: l) = z := by simp [firstNot, h]
theorem cmp3_pos (x y : Int) : 0 < cmp3 x y ↔ y < x := by unfold cmp3; split <;> (try split) <;> omega
theorem cmp3_ne (x y : Int) (h : x ≠ y) : cmp3 x y ≠ 0 := by unfold cmp3; split <;> (try split) <;> omega
theorem compare_sym : ∀ l m : List UInt8, Lib.compareBytes m l < 0 ↔ 0 < Lib.compareBytes l m
  | [], [] => by simp [Lib.compareBytes]
  | [], _ :: _ => by simp [Lib.compareBytes]
  | _ :: _, [] => by simp [Lib.compareBytes]
  | a :: l, b :: m => by
    unfold Lib.compareBytes
    have ih := compare_sym l m
    by_cases h1 : a < b
    · have h2 : ¬ b < a := by rw [UInt8.lt_iff_toNat_lt] at *; omega
      simp [h1, h2]
    · by_cases h2 : b < a
      · simp [h1, h2]
      · simp [h1, h2, ih]
theorem compare_ne : ∀ l m : List UInt8, l ≠ m → Lib.compareBytes l m ≠ 0
  | [], [], h => absurd rfl h
  | [], _ :: _, _ => by simp [Lib.compareBytes]
  | _ :: _, [], _ => by simp [Lib.compareBytes]
  | a :: l, b :: m, h => by
    unfold Lib.compareBytes
    by_cases h1 : a < b
    · simp [h1]
    · by_cases h2 : b < a
      · simp [h1, h2]
      · have hab : a = b := by
          rw [UInt8.lt_iff_toNat_lt] at *
          exact UInt8.toNat_inj.1 (by omega)
        subst hab
        simp only [h1, if_false]
        exact compare_ne l m (fun e => h (by rw [e]))
theorem above_better (x y : Vote) : aboveB x y = decide (0 < betterI x y) := by
  unfold aboveB betterI
  by_cases h2 : x.normal = y.normal
  · rw [if_neg (by simp [h2]), cmp3_eq _ _ h2, firstNot_zero]
    by_cases h3 : x.gen = y.gen
    · rw [if_neg (by simp [h3]), cmp3_eq _ _ h3, firstNot_zero]
      by_cases h5 : x.head = y.head
      · rw [if_neg (by simp [h5]), h5, compare_self, firstNot_zero]
        by_cases h0 : x.node = y.node
        · rw [if_neg (by simp [h0]), cmp3_eq _ _ h0.symm, firstNot_zero]
          by_cases h4 : x.commit = y.commit
          · rw [cmp3_eq _ _ h4, firstNot_zero]; simp [firstNot, h4]
          · rw [firstNot_ne _ _ (cmp3_ne _ _ h4)]; simp [cmp3_pos]
        · rw [if_pos h0, firstNot_ne _ _ (cmp3_ne _ _ (Ne.symm h0))]; simp [cmp3_pos]
      · rw [if_pos h5, firstNot_ne _ _ (compare_ne _ _ h5)]; simp [compare_sym]
    · rw [if_pos h3, firstNot_ne _ _ (cmp3_ne _ _ h3)]; simp [cmp3_pos]
  · rw [if_pos h2, firstNot_ne _ _ (cmp3_ne _ _ h2)]; simp [cmp3_pos]

/-- No vote of the list counts in the view and is of the node. -/
def freshB (view node : Int) (xs : List Vote) : Bool := !(xs.any fun y => (y.view == view) && (y.node == node))
theorem freshB_snoc (view node : Int) (xs : List Vote) (y : Vote) : freshB view node (xs ++ [y]) = (freshB view node xs && !((y.view == view) && (y.node == node))) := by
  simp [freshB]
theorem aget_aset {K V : Type} [DecidableEq K] (k k' : K) (v : V) : ∀ l : List (K × V), aget k (aset k' v l) = if k' = k then some v else aget k l
  | [] => by simp [aset, aget]
  | (k1, v1) :: r => by
    by_cases h : k1 = k'
    · subst h; simp only [aset, if_true, aget]; split <;> rfl
    · simp only [aset, h, if_false, aget, aget_aset k k' v r]
      by_cases h1 : k1 = k
      · subst h1; simp [Ne.symm h]
      · simp [h1]
theorem aset_length {K V : Type} [DecidableEq K] (k : K) (v : V) : ∀ l : List (K × V), (aset k v l).length = if (aget k l).isNone then l.length + 1 else l.length
  | [] => rfl
  | (k1, v1) :: r => by
    by_cases h : k1 = k
    · simp [aset, aget, h]
    · simp only [aset, h, if_false, aget, List.length_cons, aset_length k v r]; split <;> rfl
theorem aset_ne {K V : Type} [DecidableEq K] (k : K) (v : V) (l : List (K × V)) : aset k v l ≠ [] := by
  cases l with
  | nil => simp [aset]
  | cons p l => obtain ⟨k', v'⟩ := p; simp only [aset]; split <;> simp
theorem CSt.fresh (view node : Int) (xs : List Vote) : (aget node (CSt.of view xs).who).isNone = freshB view node xs := by
  induction xs using snocInd with
  | nil => rfl
  | snoc xs x ih =>
    rw [CSt.of_snoc, freshB_snoc, ← ih, CSt.step]
    by_cases hv : x.view = view
    · rw [if_pos hv]
      simp only [aget_aset, hv, beq_self_eq_true, Bool.true_and]
      by_cases hn : x.node = node
      · simp [hn]
      · simp [hn]
    · rw [if_neg hv]; simp [hv]
theorem CSt.len (view : Int) (xs : List Vote) : (CSt.of view xs).who.length ≤ xs.length := by
  induction xs using snocInd with
  | nil => exact Nat.le_refl _
  | snoc xs x ih =>
    rw [CSt.of_snoc, CSt.step]
    split
    · simp only [aset_length, List.length_append, List.length_cons, List.length_nil]; split <;> omega
    · simp; omega
theorem CSt.wf (view : Int) (xs : List Vote) (h : ∀ x ∈ xs, x.wf) : (CSt.of view xs).best.wf := by
  induction xs using snocInd with
  | nil => exact Vote.zero_wf
  | snoc xs x ih =>
    have h1 := ih (fun y hy => h y (by simp [hy]))
    have h2 := h x (by simp)
    rw [CSt.of_snoc, CSt.step]
    split
    · dsimp only; split
      · exact h2
      · exact h1
    · exact h1
end Go.Proofs.Ytoohllmhlbgamaa
