/- Marks that rise by node: what is committed of them. -/
import Derived.Test.YtchcoenpnmgnhaaTalR
set_option linter.unusedSimpArgs false
set_option linter.unusedVariables false
namespace Go.Proofs.Ytchcoenpnmgnhaa
open Go.ChangeShapes Go.WideShapes Go.ChangeAt Go.RowKit Go.Tri
theorem aget_none_of {V : Type} {k : Int} : ∀ {l : List (Int × V)}, (∀ p ∈ l, p.1 ≠ k) → aget k l = none
  | [], _ => rfl
  | (k', v) :: r, h => by
    simp only [aget]
    rw [if_neg (h _ (List.mem_cons_self ..))]
    exact aget_none_of fun p hp => h p (List.mem_cons_of_mem _ hp)
def pairs (xs : List Mrk) : List (Int × Int) := xs.map fun x => (x.node, x.gen)
/-- Where the nodes rise, each node is there once. -/
theorem cmap_up {xs : List Mrk} (h : Up xs) (hw : ∀ x ∈ xs, x.wf) : cmap xs = pairs xs := by
  have key : ∀ (ys o : List Mrk), Up (o ++ ys) → (∀ x ∈ ys, x.wf) → ys.foldl cstep (pairs o) = pairs (o ++ ys) := by
    intro ys
    induction ys with
    | nil => intro o _ _; simp
    | cons y ys ih =>
      intro o hu hw
      have hn : aget y.node (pairs o) = none := by
        apply aget_none_of
        intro p hp
        obtain ⟨x, hx, rfl⟩ := List.mem_map.1 hp
        have := (List.pairwise_append.1 hu).2.2 x hx y (List.mem_cons_self ..)
        show x.node ≠ y.node
        omega
      have hg := Mrk.genB (hw y (List.mem_cons_self ..))
      have : cstep (pairs o) y = pairs (o ++ [y]) := by
        unfold cstep
        rw [hn, aset_none _ _ _ hn]
        simp [pairs]
        omega
      rw [List.foldl_cons, this, ih (o ++ [y]) (by simpa using hu) (fun x hx => hw x (List.mem_cons_of_mem _ hx))]
      simp
  have := key xs [] (by simpa using h) hw
  simpa [cmap, pairs] using this
theorem addAll_snoc (xs : List Mrk) (v : Mrk) : addAll (xs ++ [v]) = addM (addAll xs) v := by simp [addAll]
theorem addM_last {xs : List Mrk} (h : Up xs) {v : Mrk} (hv : ∀ x ∈ xs, x.node < v.node) : addM xs v = xs ++ [v] := by
  rcases addM_form h v with ⟨A, C, he, ha, h1, h2⟩ | ⟨A, y, C, he, hn, ha, h1, h2⟩
  · cases C with
    | nil => rw [ha, he]; simp
    | cons c C =>
      have h3 := h2 c (List.mem_cons_self ..)
      have h4 := hv c (by rw [he]; simp)
      omega
  · have := hv y (by rw [he]; simp)
    omega
theorem marksL_node {gs : List Int} {x : Mrk} (h : x ∈ marksL gs) : x.node < gs.length := by
  obtain ⟨p, hp, rfl⟩ := List.mem_map.1 h
  obtain ⟨h1, h2⟩ := List.mem_zipIdx' hp
  show (p.2 : Int) < _
  omega
theorem addAll_marksL (gs : List Int) : addAll (marksL gs) = marksL gs ∧ Up (marksL gs) := by
  have : ∀ k, k ≤ gs.length → addAll (marksL (gs.take k)) = marksL (gs.take k) ∧ Up (marksL (gs.take k)) := by
    intro k
    induction k with
    | zero => intro _; exact ⟨rfl, List.Pairwise.nil⟩
    | succ k ih =>
      intro hk
      obtain ⟨h1, h2⟩ := ih (by omega)
      have hx : gs[k]? = some gs[k] := List.getElem?_eq_getElem (by omega)
      have hl : addM (marksL (gs.take k)) ⟨k, gs[k]⟩ = marksL (gs.take k) ++ [⟨k, gs[k]⟩] := addM_last h2 (fun x hx => by
        have := marksL_node hx
        rw [List.length_take] at this
        show x.node < (k : Int)
        omega)
      rw [marksL_succ hx, addAll_snoc, h1, hl]
      exact ⟨rfl, by rw [← hl]; exact addM_up h2 _⟩
  have := this gs.length (Nat.le_refl _)
  rwa [List.take_length] at this
theorem vals_marksL {gs : List Int} (hb : ∀ g ∈ gs, 0 ≤ g ∧ g ≤ 18446744073709551615) (hl : gs.length ≤ 1000) : (cmap (addAll (marksL gs))).map (·.2) = gs := by
  rw [(addAll_marksL gs).1, cmap_up (addAll_marksL gs).2 (marksL_wf hb hl)]
  simp only [pairs, marksL, List.map_map]
  have : ((fun x => x.2) ∘ (fun x : Mrk => (x.node, x.gen))) ∘ (fun p : Int × Nat => (⟨p.2, p.1⟩ : Mrk)) = Prod.fst := rfl
  simp only [Function.comp_def]
  exact List.zipIdx_map_fst 0 gs
theorem cnt_succ {c x : Int} {gs : List Int} {k : Nat} (hx : gs[k]? = some x) : cnt c (gs.take (k + 1)) = cnt c (gs.take k) + if c ≤ x then 1 else 0 := by
  rw [List.take_add_one, hx]
  unfold cnt
  rw [List.countP_append]
  simp [List.countP_cons]
theorem take_all {p : Int → Prop} {gs : List Int} {k : Nat} {x : Int} (hx : gs[k]? = some x) (h : ∀ g ∈ gs.take k, p g) (hpx : p x) : ∀ g ∈ gs.take (k + 1), p g := by
  intro g hg
  rw [List.take_add_one, hx, List.mem_append] at hg
  rcases hg with h1 | h1
  · exact h g h1
  · simp at h1; subst h1; exact hpx
theorem com_bounds {gs : List Int} {c lo hi : Int} (h : Com gs (majN gs.length) c) (h0 : 0 < gs.length) (hlo : ∀ g ∈ gs, lo ≤ g) (hhi : ∀ g ∈ gs, g ≤ hi) : lo ≤ c ∧ c ≤ hi ∧ gs.length < 2 * cnt c gs := by
  rcases h with ⟨h1, _⟩ | ⟨h1, h2, h3, h4⟩
  · unfold majN at h1; omega
  · refine ⟨hlo c h2, hhi c h2, ?_⟩
    unfold majN at h3; omega
end Go.Proofs.Ytchcoenpnmgnhaa
