/- The plain law of Add: in a list that rises by node, both Adds put the vote at one place. -/
import Derived.Test.YtoohllmhlbgamaaVoteQ
set_option linter.unusedSimpArgs false
set_option linter.unusedVariables false
namespace Go.Proofs.Ytoohllmhlbgamaa
open Go.ChangeShapes Go.WideShapes Go.ChangeAt Go.RowKit Go.Tri
noncomputable instance voteDec : DecidableEq Vote := fun _ _ => Classical.propDecidable _
def Up (xs : List Vote) : Prop := xs.Pairwise fun a b => a.node < b.node
theorem bsL_spec (f : Nat → Bool) (i j : Nat) (hij : i ≤ j) (hm : ∀ a b, a ≤ b → b < j → f b = true → f a = true) :
    (∀ k, i ≤ k → k < bsL f i j → f k = true) ∧ (∀ k, bsL f i j ≤ k → k < j → f k = false) := by
  induction i, j using bsL.induct f with
  | case1 i j hlt hf ih =>
    rw [bsL, dif_pos hlt, if_pos hf]
    obtain ⟨h1, h2⟩ := ih (by omega) hm
    refine ⟨fun k hk hk2 => ?_, h2⟩
    by_cases h : (i + j) / 2 + 1 ≤ k
    · exact h1 k h hk2
    · exact hm k ((i + j) / 2) (by omega) (by omega) hf
  | case2 i j hlt hf ih =>
    rw [bsL, dif_pos hlt, if_neg hf]
    obtain ⟨h1, h2⟩ := ih (by omega) (fun a b hab hb => hm a b hab (by omega))
    refine ⟨h1, fun k hk hk2 => ?_⟩
    by_cases h : k < (i + j) / 2
    · exact h2 k hk h
    · cases e : f k with
      | false => rfl
      | true => exact absurd (hm ((i + j) / 2) k (by omega) hk2 e) hf
  | case3 i j hlt => rw [bsL, dif_neg hlt]; exact ⟨fun k _ _ => by omega, fun k _ _ => by omega⟩
theorem Up.at {xs : List Vote} (h : Up xs) {a b : Nat} {x y : Vote} (hab : a < b) (hx : xs[a]? = some x) (hy : xs[b]? = some y) : x.node < y.node := by
  obtain ⟨ha, rfl⟩ := List.getElem?_eq_some_iff.1 hx
  obtain ⟨hb, rfl⟩ := List.getElem?_eq_some_iff.1 hy
  exact List.pairwise_iff_getElem.1 h a b ha hb hab
theorem up_of {xs : List Vote} (h : ∀ k x y, xs[k]? = some x → xs[k + 1]? = some y → x.node < y.node) : Up xs := by
  refine List.pairwise_iff_getElem.2 fun a b ha hb hab => ?_
  obtain ⟨d, rfl⟩ : ∃ d, b = a + 1 + d := ⟨b - a - 1, by omega⟩
  induction d with
  | zero => exact h a _ _ (List.getElem?_eq_getElem ha) (List.getElem?_eq_getElem hb)
  | succ d ih =>
    have h1 := ih (by omega) (by omega)
    have h2 := h (a + 1 + d) _ _ (List.getElem?_eq_getElem (by omega)) (List.getElem?_eq_getElem hb)
    omega
/-- The place of a node in a list that rises. -/
theorem find_spec {xs : List Vote} (h : Up xs) (v : Vote) : (∀ x ∈ xs.take (findAt xs v), x.node < v.node) ∧ (∀ x ∈ xs.drop (findAt xs v), v.node ≤ x.node) := by
  have hm : ∀ a b, a ≤ b → b < xs.length → belowAt xs v b = true → belowAt xs v a = true := by
    intro a b hab hb hf
    have ea : xs[a]? = some xs[a] := List.getElem?_eq_getElem (by omega)
    have eb : xs[b]? = some xs[b] := List.getElem?_eq_getElem hb
    simp only [belowAt, ea, eb, decide_eq_true_eq] at hf ⊢
    by_cases e : a = b
    · subst e; exact hf
    · have := h.at (show a < b by omega) ea eb; omega
  obtain ⟨h1, h2⟩ := bsL_spec (belowAt xs v) 0 xs.length (Nat.zero_le _) hm
  have hle := findAt_le xs v
  refine ⟨fun x hx => ?_, fun x hx => ?_⟩
  · obtain ⟨k, hk, rfl⟩ := List.getElem_of_mem hx
    rw [List.length_take] at hk
    have := h1 k (Nat.zero_le _) (show k < findAt xs v by omega)
    rw [List.getElem_take]
    simpa [belowAt, List.getElem?_eq_getElem (show k < xs.length by omega)] using this
  · obtain ⟨k, hk, rfl⟩ := List.getElem_of_mem hx
    rw [List.length_drop] at hk
    have := h2 (findAt xs v + k) (show findAt xs v ≤ _ by omega) (by omega)
    rw [List.getElem_drop]
    simpa [belowAt, List.getElem?_eq_getElem (show findAt xs v + k < xs.length by omega)] using this
/-- What Add makes of a list that rises. -/
theorem addV_form {xs : List Vote} (h : Up xs) (v : Vote) :
    (∃ A C, xs = A ++ C ∧ addV xs v = A ++ v :: C ∧ (∀ x ∈ A, x.node < v.node) ∧ (∀ x ∈ C, v.node < x.node)) ∨
    (∃ A y C, xs = A ++ y :: C ∧ y.node = v.node ∧ addV xs v = A ++ (if y.view ≤ v.view then v else y) :: C ∧ (∀ x ∈ A, x.node < v.node) ∧ (∀ x ∈ C, v.node < x.node)) := by
  obtain ⟨h1, h2⟩ := find_spec h v
  have hle := findAt_le xs v
  cases hf : foundAt xs v with
  | false =>
    refine .inl ⟨xs.take (findAt xs v), xs.drop (findAt xs v), (List.take_append_drop _ _).symm, addV_not hf, h1, fun x hx => ?_⟩
    have h3 := h2 x hx
    cases e : xs[findAt xs v]? with
    | none =>
      have : xs.length ≤ findAt xs v := List.getElem?_eq_none_iff.1 e
      rw [List.drop_eq_nil_of_le this] at hx; cases hx
    | some y =>
      have hne : y.node ≠ v.node := by simpa [foundAt, e] using hf
      obtain ⟨hlt, hy⟩ := List.getElem?_eq_some_iff.1 e
      have h4 : v.node ≤ y.node := h2 y (by rw [List.drop_eq_getElem_cons hlt, hy]; exact List.mem_cons_self ..)
      obtain ⟨k, hk, rfl⟩ := List.getElem_of_mem hx
      rw [List.length_drop] at hk
      rw [List.getElem_drop]
      by_cases e0 : k = 0
      · subst e0
        simp only [Nat.add_zero]
        rw [hy]; omega
      · have := h.at (show findAt xs v < findAt xs v + k by omega) e (List.getElem?_eq_getElem (by omega))
        omega
  | true =>
    obtain ⟨y, hy, hn⟩ := found_at hf
    obtain ⟨hlt, hye⟩ := List.getElem?_eq_some_iff.1 hy
    have hs : xs = xs.take (findAt xs v) ++ y :: xs.drop (findAt xs v + 1) := by
      conv => lhs; rw [← List.take_append_drop (findAt xs v) xs, List.drop_eq_getElem_cons hlt, hye]
    refine .inr ⟨xs.take (findAt xs v), y, xs.drop (findAt xs v + 1), hs, hn, ?_, h1, fun x hx => ?_⟩
    · by_cases hv : y.view ≤ v.view
      · rw [addV_set hf hy hv, if_pos hv, List.set_eq_take_append_cons_drop, if_pos hlt]
      · rw [addV_keep hf hy hv, if_neg hv]; exact hs
    · obtain ⟨k, hk, rfl⟩ := List.getElem_of_mem hx
      rw [List.length_drop] at hk
      rw [List.getElem_drop]
      have := h.at (show findAt xs v < findAt xs v + 1 + k by omega) hy (List.getElem?_eq_getElem (by omega))
      omega
theorem addV_up {xs : List Vote} (h : Up xs) (v : Vote) : Up (addV xs v) := by
  rcases addV_form h v with ⟨A, C, he, ha, h1, h2⟩ | ⟨A, y, C, he, hn, ha, h1, h2⟩
  · rw [ha]; rw [he] at h
    obtain ⟨p1, p2, p3⟩ := List.pairwise_append.1 h
    refine List.pairwise_append.2 ⟨p1, List.pairwise_cons.2 ⟨h2, p2⟩, fun a ha b hb => ?_⟩
    rcases List.mem_cons.1 hb with hbe | hb
    · rw [hbe]; exact h1 a ha
    · exact p3 a ha b hb
  · rw [ha]; rw [he] at h
    obtain ⟨p1, p2, p3⟩ := List.pairwise_append.1 h
    obtain ⟨p4, p5⟩ := List.pairwise_cons.1 p2
    have hz : (if y.view ≤ v.view then v else y).node = v.node := by split; rfl; exact hn
    refine List.pairwise_append.2 ⟨p1, List.pairwise_cons.2 ⟨fun b hb => by rw [hz]; exact h2 b hb, p5⟩, fun a ha b hb => ?_⟩
    rcases List.mem_cons.1 hb with rfl | hb
    · rw [hz]; exact h1 a ha
    · exact p3 a ha b (List.mem_cons_of_mem _ hb)
theorem addV_wf {xs : List Vote} (hw : ∀ x ∈ xs, x.wf) {v : Vote} (hv : v.wf) : ∀ x ∈ addV xs v, x.wf := by
  intro x hx
  unfold addV at hx
  split at hx
  · split at hx
    · split at hx
      · rcases List.mem_or_eq_of_mem_set hx with h | h
        · exact hw x h
        · subst h; exact hv
      · exact hw x hx
    · exact hw x hx
  · rcases List.mem_append.1 hx with h | h
    · exact hw x (List.mem_of_mem_take h)
    · rcases List.mem_cons.1 h with rfl | h
      · exact hv
      · exact hw x (List.mem_of_mem_drop h)
theorem addV_len (xs : List Vote) (v : Vote) : xs.length ≤ (addV xs v).length ∧ (addV xs v).length ≤ xs.length + 1 := by
  unfold addV
  have := findAt_le xs v
  split
  · split
    · split <;> simp
    · simp
  · simp; omega

/-- The document's Add: what is made behind a part of the list. -/
def raddStep (v : Vote) (s : List Vote × Bool) (x : Vote) : List Vote × Bool :=
  if x.node = v.node then ((if s.2 = false ∧ v.node < x.node then s.1 ++ [v] else s.1) ++ [if x.view ≤ v.view then v else x], true)
  else ((if s.2 = false ∧ v.node < x.node then s.1 ++ [v] else s.1) ++ [x], if s.2 = false ∧ v.node < x.node then true else s.2)
def raddSt (v : Vote) (xs : List Vote) : List Vote × Bool := xs.foldl (raddStep v) ([], false)
def raddV (xs : List Vote) (v : Vote) : List Vote := if (raddSt v xs).2 = true then (raddSt v xs).1 else (raddSt v xs).1 ++ [v]
theorem raddSt_succ (v : Vote) {xs : List Vote} {k : Nat} {x : Vote} (hx : xs[k]? = some x) : raddSt v (xs.take (k + 1)) = raddStep v (raddSt v (xs.take k)) x := by
  rw [List.take_add_one, hx]; simp [raddSt]
theorem radd_below (v : Vote) (A : List Vote) (h : ∀ x ∈ A, x.node < v.node) (o : List Vote) : A.foldl (raddStep v) (o, false) = (o ++ A, false) := by
  induction A generalizing o with
  | nil => simp
  | cons x A ih =>
    have hx := h x (List.mem_cons_self ..)
    rw [List.foldl_cons]
    have : raddStep v (o, false) x = (o ++ [x], false) := by
      unfold raddStep
      rw [if_neg (by omega), if_neg (by simp; omega), if_neg (by simp; omega)]
    rw [this, ih (fun y hy => h y (List.mem_cons_of_mem _ hy)), List.append_assoc]; rfl
theorem radd_above (v : Vote) (C : List Vote) (h : ∀ x ∈ C, v.node < x.node) (o : List Vote) : C.foldl (raddStep v) (o, true) = (o ++ C, true) := by
  induction C generalizing o with
  | nil => simp
  | cons x C ih =>
    have hx := h x (List.mem_cons_self ..)
    rw [List.foldl_cons]
    have : raddStep v (o, true) x = (o ++ [x], true) := by
      unfold raddStep
      rw [if_neg (by omega)]; simp
    rw [this, ih (fun y hy => h y (List.mem_cons_of_mem _ hy)), List.append_assoc]; rfl
theorem adds_same {xs : List Vote} (h : Up xs) (v : Vote) : addV xs v = raddV xs v := by
  rcases addV_form h v with ⟨A, C, he, ha, h1, h2⟩ | ⟨A, y, C, he, hn, ha, h1, h2⟩
  · rw [ha, he]
    unfold raddV raddSt
    rw [List.foldl_append, radd_below v A h1, List.nil_append]
    cases C with
    | nil => simp
    | cons y C =>
      have hy := h2 y (List.mem_cons_self ..)
      rw [List.foldl_cons]
      have : raddStep v (A, false) y = (A ++ [v] ++ [y], true) := by
        unfold raddStep
        rw [if_neg (by omega), if_pos ⟨rfl, hy⟩, if_pos ⟨rfl, hy⟩]
      rw [this, radd_above v C (fun z hz => h2 z (List.mem_cons_of_mem _ hz))]
      simp
  · rw [ha, he]
    unfold raddV raddSt
    rw [List.foldl_append, radd_below v A h1, List.nil_append, List.foldl_cons]
    have : raddStep v (A, false) y = (A ++ [if y.view ≤ v.view then v else y], true) := by
      unfold raddStep
      rw [if_pos hn, if_neg (by simp; omega)]
    rw [this, radd_above v C h2]
    simp
/-- Behind an Add: whoever has the node of the vote is the vote itself, or of a later view; all others stay. -/
theorem addV_node {xs : List Vote} (h : Up xs) (v : Vote) {x : Vote} (hx : x ∈ addV xs v) (hn : x.node = v.node) (hne : ¬ x = v) : ¬ x.view ≤ v.view := by
  rcases addV_form h v with ⟨A, C, he, ha, h1, h2⟩ | ⟨A, y, C, he, hn', ha, h1, h2⟩
  · rw [ha] at hx
    rcases List.mem_append.1 hx with hm | hm
    · have := h1 x hm; omega
    · rcases List.mem_cons.1 hm with rfl | hm
      · exact absurd rfl hne
      · have := h2 x hm; omega
  · rw [ha] at hx
    rcases List.mem_append.1 hx with hm | hm
    · have := h1 x hm; omega
    · rcases List.mem_cons.1 hm with hm | hm
      · by_cases hv : y.view ≤ v.view
        · rw [if_pos hv] at hm; exact absurd hm hne
        · rw [if_neg hv] at hm; subst hm; exact hv
      · have := h2 x hm; omega
theorem addV_stay {xs : List Vote} (h : Up xs) (v : Vote) {x y : Vote} (hx : x ∈ xs) (hy : y ∈ addV xs v) (hn : x.node = y.node) (hne : ¬ x.node = v.node) : x = y := by
  have up := addV_up h v
  have hm : x ∈ addV xs v := by
    rcases addV_form h v with ⟨A, C, he, ha, h1, h2⟩ | ⟨A, z, C, he, hn', ha, h1, h2⟩
    · rw [ha]; rw [he] at hx
      rcases List.mem_append.1 hx with hm | hm
      · exact List.mem_append_left _ hm
      · exact List.mem_append_right _ (List.mem_cons_of_mem _ hm)
    · rw [ha]; rw [he] at hx
      rcases List.mem_append.1 hx with hm | hm
      · exact List.mem_append_left _ hm
      · rcases List.mem_cons.1 hm with rfl | hm
        · exact absurd hn' hne
        · exact List.mem_append_right _ (List.mem_cons_of_mem _ hm)
  obtain ⟨i, hi, rfl⟩ := List.getElem_of_mem hm
  obtain ⟨j, hj, rfl⟩ := List.getElem_of_mem hy
  rcases Nat.lt_trichotomy i j with h1 | h1 | h1
  · have := up.at h1 (List.getElem?_eq_getElem hi) (List.getElem?_eq_getElem hj); omega
  · subst h1; rfl
  · have := up.at h1 (List.getElem?_eq_getElem hj) (List.getElem?_eq_getElem hi); omega
/-- How many have the node. -/
def cnt (v : Vote) (xs : List Vote) : Nat := (xs.filter fun x => decide (x.node = v.node)).length
theorem cnt_succ (v : Vote) {xs : List Vote} {k : Nat} {x : Vote} (hx : xs[k]? = some x) : cnt v (xs.take (k + 1)) = cnt v (xs.take k) + if x.node = v.node then 1 else 0 := by
  rw [List.take_add_one, hx]
  unfold cnt
  rw [List.filter_append, List.length_append]
  by_cases h : x.node = v.node <;> simp [h]
theorem cnt_le (v : Vote) (xs : List Vote) : cnt v xs ≤ xs.length := List.length_filter_le ..
theorem filter_no {v : Vote} {A : List Vote} (h : ∀ x ∈ A, ¬ x.node = v.node) : A.filter (fun x => decide (x.node = v.node)) = [] := by
  rw [List.filter_eq_nil_iff]; intro x hx; simpa using h x hx
theorem cnt_one {xs : List Vote} (h : Up xs) (v : Vote) : cnt v (addV xs v) = 1 := by
  unfold cnt
  rcases addV_form h v with ⟨A, C, he, ha, h1, h2⟩ | ⟨A, y, C, he, hn, ha, h1, h2⟩
  · rw [ha, List.filter_append, List.filter_cons, filter_no (fun x hx => by have := h1 x hx; omega), filter_no (fun x hx => by have := h2 x hx; omega)]
    simp
  · have hz : (if y.view ≤ v.view then v else y).node = v.node := by split; rfl; exact hn
    rw [ha, List.filter_append, List.filter_cons, filter_no (fun x hx => by have := h1 x hx; omega), filter_no (fun x hx => by have := h2 x hx; omega)]
    simp [hz]
/-- All votes, put one behind the other. -/
def addAll (xs : List Vote) : List Vote := xs.foldl addV []
theorem addAll_succ {xs : List Vote} {k : Nat} {x : Vote} (hx : xs[k]? = some x) : addAll (xs.take (k + 1)) = addV (addAll (xs.take k)) x := by
  rw [List.take_add_one, hx]; simp [addAll]
theorem addAll_up (xs : List Vote) : Up (addAll xs) := by
  have : ∀ (ys o : List Vote), Up o → Up (ys.foldl addV o) := by
    intro ys
    induction ys with
    | nil => intro o h; exact h
    | cons y ys ih => intro o h; exact ih _ (addV_up h y)
  exact this xs [] List.Pairwise.nil
theorem addAll_wf (xs : List Vote) (hw : ∀ x ∈ xs, x.wf) : ∀ x ∈ addAll xs, x.wf := by
  have : ∀ (ys o : List Vote), (∀ x ∈ ys, x.wf) → (∀ x ∈ o, x.wf) → ∀ x ∈ ys.foldl addV o, x.wf := by
    intro ys
    induction ys with
    | nil => intro o _ h; exact h
    | cons y ys ih => intro o h1 h2; exact ih _ (fun x hx => h1 x (List.mem_cons_of_mem _ hx)) (addV_wf h2 (h1 y (List.mem_cons_self ..)))
  exact this xs [] hw (by simp)
theorem addAll_len (xs : List Vote) : (addAll xs).length ≤ xs.length := by
  have : ∀ (ys o : List Vote), (ys.foldl addV o).length ≤ o.length + ys.length := by
    intro ys
    induction ys with
    | nil => intro o; simp
    | cons y ys ih => intro o; have := ih (addV o y); have := (addV_len o y).2; simp only [List.foldl_cons, List.length_cons]; omega
  have h := this xs []
  simpa [addAll] using h
end Go.Proofs.Ytoohllmhlbgamaa
