/- tally.Add as a plain function; the document's Add; the plain law of both. -/
import Derived.Test.YtchcoenpnmgnhaaTalA
import Derived.Test.YtchcoenpnmgnhaaMarkJ
set_option linter.unusedSimpArgs false
set_option linter.unusedVariables false
namespace Go.Proofs.Ytchcoenpnmgnhaa
open Go.ChangeShapes Go.WideShapes Go.ChangeAt Go.RowKit Go.Tri
theorem cmpN_lt (x y : Mrk) : (cmpN x y < 0) = (x.node < y.node) := by
  unfold cmpN cmp3; apply propext
  by_cases h : x.node < y.node
  · simp [h]
  · by_cases h2 : y.node < x.node <;> simp [h, h2]
theorem cmpN_eq (x y : Mrk) : (cmpN x y = 0) = (x.node = y.node) := by
  unfold cmpN cmp3; apply propext
  by_cases h : x.node < y.node
  · simp [h]; omega
  · by_cases h2 : y.node < x.node
    · simp [h, h2]; omega
    · simp [h, h2]; omega
theorem insertSt {w0 w : World} {ls : List HP} (H : St w0 w ls) (i j : Nat) (hij : i ≠ j) {s : Value} {n k : Nat} {xs : List Value} (hi : ls[i]? = some (HP.own 28 2 s n xs)) {bv cv : Nat} {cs : List Value} {tv : TypeId} (hj : ls[j]? = some (HP.blk bv cs tv))
    (hfx : Flat xs) (hn : n ≤ 1000) (hk : k ≤ n) (hcs : cs.length = 2) (hfc : Flat cs) :
    Calls Try.prog 24 [s, .int .i64 (k : Int), .slice (some ⟨bv, 0, none⟩) 1 (cv + 1)].toArray w fun e w' => ∃ r, e = .returned r ∧ St w0 w' [HP.own 28 2 r (n + 1) (xs.take (k * 2) ++ cs ++ xs.drop (k * 2))] := by
  have H' := H
  obtain ⟨hb, f, h1, h2, h3⟩ := H
  have hil : i < ls.length := (List.getElem?_eq_some_iff.1 hi).1
  have hjl : j < ls.length := (List.getElem?_eq_some_iff.1 hj).1
  have hA := h1 i _ hi
  have hB := h1 j _ hj
  have hne : s.ownBlock ≠ some bv := fun e => hij (h2 i j bv hil hjl (hA.2 bv e) hB.2)
  have hown := own_base (base := w0.heap.size) hA.1 (fun b hbb => (h3 i b hil (hA.2 b hbb)).1)
  refine (insert w0.heap.size s n k xs w hown hfx hb.size hn hk bv cv cs tv hB.1 hcs hfc hne).mono fun e w' ⟨r, he, ho, hg⟩ => ⟨r, he, st_of_own ho ?_⟩
  exact hb.grown hg hb.size (fun b hbb => (h3 i b hil (hA.2 b hbb)).1)
/-- Marks with one more. -/
def addM (xs : List Mrk) (v : Mrk) : List Mrk :=
  if foundC cmpN xs v = true then (match xs[findC cmpN xs v]? with | some x => if x.gen < v.gen then xs.set (findC cmpN xs v) v else xs | none => xs)
  else xs.take (findC cmpN xs v) ++ v :: xs.drop (findC cmpN xs v)
theorem found_at {xs : List Mrk} {v : Mrk} (h : foundC cmpN xs v = true) : ∃ x, xs[findC cmpN xs v]? = some x ∧ x.node = v.node := by
  obtain ⟨x, hx, hn⟩ := foundC_at cmpN h
  exact ⟨x, hx, by rwa [cmpN_eq] at hn⟩
theorem addM_not {xs : List Mrk} {v : Mrk} (h : foundC cmpN xs v = false) : addM xs v = xs.take (findC cmpN xs v) ++ v :: xs.drop (findC cmpN xs v) := by simp [addM, h]
theorem addM_set {xs : List Mrk} {v x : Mrk} (h : foundC cmpN xs v = true) (hx : xs[findC cmpN xs v]? = some x) (hv : x.gen < v.gen) : addM xs v = xs.set (findC cmpN xs v) v := by simp [addM, h, hx, hv]
theorem addM_keep {xs : List Mrk} {v x : Mrk} (h : foundC cmpN xs v = true) (hx : xs[findC cmpN xs v]? = some x) (hv : ¬ x.gen < v.gen) : addM xs v = xs := by simp [addM, h, hx, hv]
def Up (xs : List Mrk) : Prop := xs.Pairwise fun a b => a.node < b.node
theorem Up.at {xs : List Mrk} (h : Up xs) {a b : Nat} {x y : Mrk} (hab : a < b) (hx : xs[a]? = some x) (hy : xs[b]? = some y) : x.node < y.node := by
  obtain ⟨ha, rfl⟩ := List.getElem?_eq_some_iff.1 hx
  obtain ⟨hb, rfl⟩ := List.getElem?_eq_some_iff.1 hy
  exact List.pairwise_iff_getElem.1 h a b ha hb hab
theorem up_of {xs : List Mrk} (h : ∀ k x y, xs[k]? = some x → xs[k + 1]? = some y → x.node < y.node) : Up xs := by
  refine List.pairwise_iff_getElem.2 fun a b ha hb hab => ?_
  obtain ⟨d, rfl⟩ : ∃ d, b = a + 1 + d := ⟨b - a - 1, by omega⟩
  induction d with
  | zero => exact h a _ _ (List.getElem?_eq_getElem ha) (List.getElem?_eq_getElem hb)
  | succ d ih =>
    have h1 := ih (by omega) (by omega)
    have h2 := h (a + 1 + d) _ _ (List.getElem?_eq_getElem (by omega)) (List.getElem?_eq_getElem hb)
    omega
/-- The place of a node in a list that rises. -/
theorem find_spec {xs : List Mrk} (h : Up xs) (v : Mrk) : (∀ x ∈ xs.take (findC cmpN xs v), x.node < v.node) ∧ (∀ x ∈ xs.drop (findC cmpN xs v), v.node ≤ x.node) := by
  have hm : ∀ a b, a ≤ b → b < xs.length → ltAt cmpN xs v b = true → ltAt cmpN xs v a = true := by
    intro a b hab hb hf
    have ea : xs[a]? = some xs[a] := List.getElem?_eq_getElem (by omega)
    have eb : xs[b]? = some xs[b] := List.getElem?_eq_getElem hb
    simp only [ltAt, ea, eb, decide_eq_true_eq, cmpN_lt] at hf ⊢
    by_cases e : a = b
    · subst e; exact hf
    · have := h.at (show a < b by omega) ea eb; omega
  obtain ⟨h1, h2⟩ := bsL_spec (ltAt cmpN xs v) 0 xs.length (Nat.zero_le _) hm
  have hle := findC_le cmpN xs v
  refine ⟨fun x hx => ?_, fun x hx => ?_⟩
  · obtain ⟨k, hk, rfl⟩ := List.getElem_of_mem hx
    rw [List.length_take] at hk
    have := h1 k (Nat.zero_le _) (show k < findC cmpN xs v by omega)
    rw [List.getElem_take]
    simpa [ltAt, cmpN_lt, List.getElem?_eq_getElem (show k < xs.length by omega)] using this
  · obtain ⟨k, hk, rfl⟩ := List.getElem_of_mem hx
    rw [List.length_drop] at hk
    have := h2 (findC cmpN xs v + k) (show findC cmpN xs v ≤ _ by omega) (by omega)
    rw [List.getElem_drop]
    simpa [ltAt, cmpN_lt, List.getElem?_eq_getElem (show findC cmpN xs v + k < xs.length by omega)] using this
/-- What Add makes of a list that rises. -/
theorem addM_form {xs : List Mrk} (h : Up xs) (v : Mrk) :
    (∃ A C, xs = A ++ C ∧ addM xs v = A ++ v :: C ∧ (∀ x ∈ A, x.node < v.node) ∧ (∀ x ∈ C, v.node < x.node)) ∨
    (∃ A y C, xs = A ++ y :: C ∧ y.node = v.node ∧ addM xs v = A ++ (if y.gen < v.gen then v else y) :: C ∧ (∀ x ∈ A, x.node < v.node) ∧ (∀ x ∈ C, v.node < x.node)) := by
  obtain ⟨h1, h2⟩ := find_spec h v
  have hle := findC_le cmpN xs v
  cases hf : foundC cmpN xs v with
  | false =>
    refine .inl ⟨xs.take (findC cmpN xs v), xs.drop (findC cmpN xs v), (List.take_append_drop _ _).symm, addM_not hf, h1, fun x hx => ?_⟩
    have h3 := h2 x hx
    cases e : xs[findC cmpN xs v]? with
    | none =>
      have : xs.length ≤ findC cmpN xs v := List.getElem?_eq_none_iff.1 e
      rw [List.drop_eq_nil_of_le this] at hx; cases hx
    | some y =>
      have hne : y.node ≠ v.node := by simpa [foundC, e, cmpN_eq] using hf
      obtain ⟨hlt, hy⟩ := List.getElem?_eq_some_iff.1 e
      have h4 : v.node ≤ y.node := h2 y (by rw [List.drop_eq_getElem_cons hlt, hy]; exact List.mem_cons_self ..)
      obtain ⟨k, hk, rfl⟩ := List.getElem_of_mem hx
      rw [List.length_drop] at hk
      rw [List.getElem_drop]
      by_cases e0 : k = 0
      · subst e0
        simp only [Nat.add_zero]
        rw [hy]; omega
      · have := h.at (show findC cmpN xs v < findC cmpN xs v + k by omega) e (List.getElem?_eq_getElem (by omega))
        omega
  | true =>
    obtain ⟨y, hy, hn⟩ := found_at hf
    obtain ⟨hlt, hye⟩ := List.getElem?_eq_some_iff.1 hy
    have hs : xs = xs.take (findC cmpN xs v) ++ y :: xs.drop (findC cmpN xs v + 1) := by
      conv => lhs; rw [← List.take_append_drop (findC cmpN xs v) xs, List.drop_eq_getElem_cons hlt, hye]
    refine .inr ⟨xs.take (findC cmpN xs v), y, xs.drop (findC cmpN xs v + 1), hs, hn, ?_, h1, fun x hx => ?_⟩
    · by_cases hv : y.gen < v.gen
      · rw [addM_set hf hy hv, if_pos hv, List.set_eq_take_append_cons_drop, if_pos hlt]
      · rw [addM_keep hf hy hv, if_neg hv]; exact hs
    · obtain ⟨k, hk, rfl⟩ := List.getElem_of_mem hx
      rw [List.length_drop] at hk
      rw [List.getElem_drop]
      have := h.at (show findC cmpN xs v < findC cmpN xs v + 1 + k by omega) hy (List.getElem?_eq_getElem (by omega))
      omega
theorem addM_up {xs : List Mrk} (h : Up xs) (v : Mrk) : Up (addM xs v) := by
  rcases addM_form h v with ⟨A, C, he, ha, h1, h2⟩ | ⟨A, y, C, he, hn, ha, h1, h2⟩
  · rw [ha]; rw [he] at h
    obtain ⟨p1, p2, p3⟩ := List.pairwise_append.1 h
    refine List.pairwise_append.2 ⟨p1, List.pairwise_cons.2 ⟨h2, p2⟩, fun a ha b hb => ?_⟩
    rcases List.mem_cons.1 hb with hbe | hb
    · rw [hbe]; exact h1 a ha
    · exact p3 a ha b hb
  · rw [ha]; rw [he] at h
    obtain ⟨p1, p2, p3⟩ := List.pairwise_append.1 h
    obtain ⟨p4, p5⟩ := List.pairwise_cons.1 p2
    have hz : (if y.gen < v.gen then v else y).node = v.node := by split; rfl; exact hn
    refine List.pairwise_append.2 ⟨p1, List.pairwise_cons.2 ⟨fun b hb => by rw [hz]; exact h2 b hb, p5⟩, fun a ha b hb => ?_⟩
    rcases List.mem_cons.1 hb with rfl | hb
    · rw [hz]; exact h1 a ha
    · exact p3 a ha b (List.mem_cons_of_mem _ hb)
theorem addM_wf {xs : List Mrk} (hw : ∀ x ∈ xs, x.wf) {v : Mrk} (hv : v.wf) : ∀ x ∈ addM xs v, x.wf := by
  intro x hx
  unfold addM at hx
  split at hx
  · split at hx
    · split at hx
      · rcases List.mem_or_eq_of_mem_set hx with h | h
        · exact hw x h
        · subst h; exact hv
      · exact hw x hx
    · exact hw x hx
  · rcases List.mem_append.1 hx with h | h
    · exact hw x (List.mem_of_mem_take h)
    · rcases List.mem_cons.1 h with rfl | h
      · exact hv
      · exact hw x (List.mem_of_mem_drop h)
theorem addM_len (xs : List Mrk) (v : Mrk) : xs.length ≤ (addM xs v).length ∧ (addM xs v).length ≤ xs.length + 1 := by
  unfold addM
  have := findC_le cmpN xs v
  split
  · split
    · split <;> simp
    · simp
  · simp; omega

/-- The document's Add: what is made behind a part of the list. -/
def raddStep (v : Mrk) (s : List Mrk × Bool) (x : Mrk) : List Mrk × Bool :=
  if x.node = v.node then ((if s.2 = false ∧ v.node < x.node then s.1 ++ [v] else s.1) ++ [if x.gen < v.gen then v else x], true)
  else ((if s.2 = false ∧ v.node < x.node then s.1 ++ [v] else s.1) ++ [x], if s.2 = false ∧ v.node < x.node then true else s.2)
def raddSt (v : Mrk) (xs : List Mrk) : List Mrk × Bool := xs.foldl (raddStep v) ([], false)
def raddM (xs : List Mrk) (v : Mrk) : List Mrk := if (raddSt v xs).2 = true then (raddSt v xs).1 else (raddSt v xs).1 ++ [v]
theorem raddSt_succ (v : Mrk) {xs : List Mrk} {k : Nat} {x : Mrk} (hx : xs[k]? = some x) : raddSt v (xs.take (k + 1)) = raddStep v (raddSt v (xs.take k)) x := by
  rw [List.take_add_one, hx]; simp [raddSt]
theorem radd_below (v : Mrk) (A : List Mrk) (h : ∀ x ∈ A, x.node < v.node) (o : List Mrk) : A.foldl (raddStep v) (o, false) = (o ++ A, false) := by
  induction A generalizing o with
  | nil => simp
  | cons x A ih =>
    have hx := h x (List.mem_cons_self ..)
    rw [List.foldl_cons]
    have : raddStep v (o, false) x = (o ++ [x], false) := by
      unfold raddStep
      rw [if_neg (by omega), if_neg (by simp; omega), if_neg (by simp; omega)]
    rw [this, ih (fun y hy => h y (List.mem_cons_of_mem _ hy)), List.append_assoc]; rfl
theorem radd_above (v : Mrk) (C : List Mrk) (h : ∀ x ∈ C, v.node < x.node) (o : List Mrk) : C.foldl (raddStep v) (o, true) = (o ++ C, true) := by
  induction C generalizing o with
  | nil => simp
  | cons x C ih =>
    have hx := h x (List.mem_cons_self ..)
    rw [List.foldl_cons]
    have : raddStep v (o, true) x = (o ++ [x], true) := by
      unfold raddStep
      rw [if_neg (by omega)]; simp
    rw [this, ih (fun y hy => h y (List.mem_cons_of_mem _ hy)), List.append_assoc]; rfl
theorem adds_same {xs : List Mrk} (h : Up xs) (v : Mrk) : addM xs v = raddM xs v := by
  rcases addM_form h v with ⟨A, C, he, ha, h1, h2⟩ | ⟨A, y, C, he, hn, ha, h1, h2⟩
  · rw [ha, he]
    unfold raddM raddSt
    rw [List.foldl_append, radd_below v A h1, List.nil_append]
    cases C with
    | nil => simp
    | cons y C =>
      have hy := h2 y (List.mem_cons_self ..)
      rw [List.foldl_cons]
      have : raddStep v (A, false) y = (A ++ [v] ++ [y], true) := by
        unfold raddStep
        rw [if_neg (by omega), if_pos ⟨rfl, hy⟩, if_pos ⟨rfl, hy⟩]
      rw [this, radd_above v C (fun z hz => h2 z (List.mem_cons_of_mem _ hz))]
      simp
  · rw [ha, he]
    unfold raddM raddSt
    rw [List.foldl_append, radd_below v A h1, List.nil_append, List.foldl_cons]
    have : raddStep v (A, false) y = (A ++ [if y.gen < v.gen then v else y], true) := by
      unfold raddStep
      rw [if_pos hn, if_neg (by simp; omega)]
    rw [this, radd_above v C h2]
    simp
/-- All marks, put one behind the other. -/
def addAll (xs : List Mrk) : List Mrk := xs.foldl addM []
theorem addAll_succ {xs : List Mrk} {k : Nat} {x : Mrk} (hx : xs[k]? = some x) : addAll (xs.take (k + 1)) = addM (addAll (xs.take k)) x := by
  rw [List.take_add_one, hx]; simp [addAll]
theorem addAll_up (xs : List Mrk) : Up (addAll xs) := by
  have : ∀ (ys o : List Mrk), Up o → Up (ys.foldl addM o) := by
    intro ys
    induction ys with
    | nil => intro o h; exact h
    | cons y ys ih => intro o h; exact ih _ (addM_up h y)
  exact this xs [] List.Pairwise.nil
theorem addAll_wf (xs : List Mrk) (hw : ∀ x ∈ xs, x.wf) : ∀ x ∈ addAll xs, x.wf := by
  have : ∀ (ys o : List Mrk), (∀ x ∈ ys, x.wf) → (∀ x ∈ o, x.wf) → ∀ x ∈ ys.foldl addM o, x.wf := by
    intro ys
    induction ys with
    | nil => intro o _ h; exact h
    | cons y ys ih => intro o h1 h2; exact ih _ (fun x hx => h1 x (List.mem_cons_of_mem _ hx)) (addM_wf h2 (h1 y (List.mem_cons_self ..)))
  exact this xs [] hw (by simp)
theorem addAll_len (xs : List Mrk) : (addAll xs).length ≤ xs.length := by
  have : ∀ (ys o : List Mrk), (ys.foldl addM o).length ≤ o.length + ys.length := by
    intro ys
    induction ys with
    | nil => intro o; simp
    | cons y ys ih => intro o; have := ih (addM o y); have := (addM_len o y).2; simp only [List.foldl_cons, List.length_cons]; omega
  have h := this xs []
  simpa [addAll] using h
end Go.Proofs.Ytchcoenpnmgnhaa
