/- Marks of few nodes: what is committed never falls, and two that are committed have a node in common. -/
import Derived.Test.YtchcoenpnmgnhaaTalS
set_option linter.unusedSimpArgs false
set_option linter.unusedVariables false
namespace Go.Proofs.Ytchcoenpnmgnhaa
open Go.ChangeShapes Go.WideShapes Go.ChangeAt Go.RowKit Go.Tri
theorem sub_perm' {α : Type} : ∀ {vis es : List α}, (∀ e ∈ vis, e ∈ es) → vis.Nodup → ∃ rest, (vis ++ rest).Perm es
  | [], es, _, _ => ⟨es, List.Perm.refl _⟩
  | e :: vis, es, hsub, hnd => by
    obtain ⟨A, B, rfl⟩ := List.append_of_mem (hsub e (List.mem_cons_self ..))
    have hn := List.nodup_cons.1 hnd
    obtain ⟨rest, hr⟩ := sub_perm' (vis := vis) (es := A ++ B) (fun x hx => by
      have h1 := hsub x (List.mem_cons_of_mem _ hx)
      have hne : x ≠ e := fun h => hn.1 (h ▸ hx)
      simp only [List.mem_append, List.mem_cons] at h1 ⊢
      rcases h1 with h | h | h
      · exact .inl h
      · exact absurd h hne
      · exact .inr h) hn.2
    exact ⟨rest, ((List.Perm.cons e hr).trans List.perm_middle.symm)⟩
theorem take_all' {α : Type} {p : α → Prop} {gs : List α} {k : Nat} {x : α} (hx : gs[k]? = some x) (h : ∀ g ∈ gs.take k, p g) (hpx : p x) : ∀ g ∈ gs.take (k + 1), p g := by
  intro g hg
  rw [List.take_add_one, hx, List.mem_append] at hg
  rcases hg with h1 | h1
  · exact h g h1
  · simp at h1; subst h1; exact hpx
theorem nodup_few {l : List Int} {n : Nat} (h : l.Nodup) (hb : ∀ x ∈ l, 0 ≤ x ∧ x < (n : Int)) : l.length ≤ n := by
  obtain ⟨rest, hr⟩ := sub_perm' (vis := l) (es := (List.range n).map Int.ofNat) (fun x hx => by
    have := hb x hx
    exact List.mem_map.2 ⟨x.toNat, List.mem_range.2 (by omega), by simp; omega⟩) h
  have := hr.length_eq
  simp at this
  omega
def Bnd (n : Nat) (xs : List Mrk) : Prop := ∀ x ∈ xs, 0 ≤ x.node ∧ x.node < (n : Int)
theorem Up.nodup {xs : List Mrk} (h : Up xs) : (xs.map (·.node)).Nodup := by
  unfold List.Nodup
  rw [List.pairwise_map]
  exact h.imp fun hab => by omega
theorem Up.few {xs : List Mrk} (h : Up xs) {n : Nat} (hb : Bnd n xs) : xs.length ≤ n := by
  have := nodup_few h.nodup (n := n) (fun x hx => by
    obtain ⟨y, hy, rfl⟩ := List.mem_map.1 hx
    exact hb y hy)
  simpa using this
theorem addM_bnd {xs : List Mrk} (h : Up xs) {n : Nat} (hb : Bnd n xs) {v : Mrk} (hv : 0 ≤ v.node ∧ v.node < (n : Int)) : Bnd n (addM xs v) := by
  rcases addM_form h v with ⟨A, C, he, ha, h1, h2⟩ | ⟨A, y, C, he, hn, ha, h1, h2⟩ <;> rw [ha] <;> intro x hx <;> simp only [List.mem_append, List.mem_cons] at hx
  · rcases hx with hx | rfl | hx
    · exact hb x (by rw [he]; simp [hx])
    · exact hv
    · exact hb x (by rw [he]; simp [hx])
  · rcases hx with hx | hx | hx
    · exact hb x (by rw [he]; simp [hx])
    · subst hx; split
      · exact hv
      · rw [hn]; exact hv
    · exact hb x (by rw [he]; simp [hx])
theorem vals_up {xs : List Mrk} (h : Up xs) (hw : ∀ x ∈ xs, x.wf) : (cmap xs).map (·.2) = xs.map (·.gen) := by
  rw [cmap_up h hw]; simp [pairs]
theorem cnt_add {xs : List Mrk} (h : Up xs) (v : Mrk) (u : Int) : cnt u (xs.map (·.gen)) ≤ cnt u ((addM xs v).map (·.gen)) := by
  unfold cnt
  rcases addM_form h v with ⟨A, C, he, ha, h1, h2⟩ | ⟨A, y, C, he, hn, ha, h1, h2⟩ <;> rw [ha, he] <;> simp only [List.map_append, List.map_cons, List.countP_append, List.countP_cons]
  · omega
  · have : (if decide (u ≤ y.gen) = true then 1 else 0) ≤ (if decide (u ≤ (if y.gen < v.gen then v else y).gen) = true then 1 else 0) := by
      by_cases h1 : y.gen < v.gen
      · simp only [h1, if_true]
        split
        · rw [if_pos (by simp_all; omega)]; omega
        · omega
      · simp only [h1, if_false]; omega
    omega
theorem cnt_le (u : Int) (vs : List Int) : cnt u vs ≤ vs.length := List.countP_le_length
theorem Com.mono {vs us : List Int} {m : Nat} {c d : Int} (h : Com vs m c) (k : Com us m d) (hle : ∀ u, cnt u vs ≤ cnt u us) (h0 : ∀ u ∈ us, 0 ≤ u) : c ≤ d := by
  rcases h with ⟨h1, rfl⟩ | ⟨h1, h2, h3, h4⟩
  · rcases k with ⟨k1, rfl⟩ | ⟨k1, k2, k3, k4⟩
    · exact Int.le_refl _
    · exact h0 d k2
  · have h5 := hle c
    have h6 := cnt_le c us
    rcases k with ⟨k1, rfl⟩ | ⟨k1, k2, k3, k4⟩
    · omega
    · rcases Int.lt_or_le d c with e | e
      · have := k4 c e; omega
      · exact e
theorem com_grows {xs : List Mrk} (h : Up xs) (hw : ∀ x ∈ xs, x.wf) {v : Mrk} (hv : v.wf) {m : Nat} {c d : Int} (h1 : Com ((cmap xs).map (·.2)) m c) (h2 : Com ((cmap (addM xs v)).map (·.2)) m d) : c ≤ d := by
  rw [vals_up h hw] at h1
  rw [vals_up (addM_up h v) (addM_wf hw hv)] at h2
  refine h1.mono h2 (cnt_add h v) fun u hu => ?_
  obtain ⟨x, hx, rfl⟩ := List.mem_map.1 hu
  exact (Mrk.genB (addM_wf hw hv x hx)).1
theorem cnt_anti {g c : Int} (h : g ≤ c) (vs : List Int) : cnt c vs ≤ cnt g vs := by
  unfold cnt
  refine List.countP_mono_left fun x _ hx => ?_
  simp at hx ⊢; omega
theorem com_pos {vs : List Int} {m : Nat} {c g : Int} (h : Com vs m c) (h0 : 0 < g) (hg : g ≤ c) : m ≤ cnt g vs := by
  rcases h with ⟨_, h1⟩ | ⟨_, _, h3, _⟩
  · omega
  · have := cnt_anti hg vs; omega
theorem common {L M : List Mrk} (hL : Up L) (hM : Up M) {n : Nat} (bL : Bnd n L) (bM : Bnd n M) {g : Int} (h1 : majN n ≤ cnt g (L.map (·.gen))) (h2 : majN n ≤ cnt g (M.map (·.gen))) (hno : ∀ x ∈ L, ∀ y ∈ M, ¬ (x.node = y.node ∧ g ≤ x.gen ∧ g ≤ y.gen)) : False := by
  have key : ∀ xs : List Mrk, cnt g (xs.map (·.gen)) = ((xs.filter fun x => decide (g ≤ x.gen)).map (·.node)).length := by
    intro xs
    unfold cnt
    rw [List.countP_map, List.length_map, List.countP_eq_length_filter]
    rfl
  rw [key] at h1 h2
  have hnd : ((L.filter fun x => decide (g ≤ x.gen)).map (·.node) ++ (M.filter fun x => decide (g ≤ x.gen)).map (·.node)).Nodup := by
    refine List.nodup_append.2 ⟨Up.nodup (hL.sublist List.filter_sublist), Up.nodup (hM.sublist List.filter_sublist), ?_⟩
    intro a ha b hb e
    obtain ⟨x, hx, rfl⟩ := List.mem_map.1 ha
    obtain ⟨y, hy, rfl⟩ := List.mem_map.1 hb
    rw [List.mem_filter] at hx hy
    exact hno x hx.1 y hy.1 ⟨e, by simpa using hx.2, by simpa using hy.2⟩
  have := nodup_few hnd (n := n) (fun a ha => by
    rcases List.mem_append.1 ha with h | h
    · obtain ⟨x, hx, rfl⟩ := List.mem_map.1 h; exact bL x (List.mem_filter.1 hx).1
    · obtain ⟨x, hx, rfl⟩ := List.mem_map.1 h; exact bM x (List.mem_filter.1 hx).1)
  rw [List.length_append] at this
  unfold majN at h1 h2
  omega
end Go.Proofs.Ytchcoenpnmgnhaa
