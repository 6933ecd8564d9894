/- What is committed hangs on the greatest generation of each node alone. -/
import Derived.Test.YtchcoenpnmgnhaaTalT
set_option linter.unusedSimpArgs false
set_option linter.unusedVariables false
namespace Go.Proofs.Ytchcoenpnmgnhaa
open Go.ChangeShapes Go.WideShapes Go.ChangeAt Go.RowKit Go.Tri
theorem snocInd {α : Type} {p : List α → Prop} (h0 : p []) (h1 : ∀ l x, p l → p (l ++ [x])) : ∀ l, p l := by
  intro l
  rw [← List.reverse_reverse l]
  induction l.reverse with
  | nil => exact h0
  | cons x r ih => rw [List.reverse_cons]; exact h1 _ _ ih
theorem nodup_perm {α : Type} {A B : List α} (hA : A.Nodup) (hB : B.Nodup) (h : ∀ x, x ∈ A ↔ x ∈ B) : A.Perm B := by
  obtain ⟨rest, hr⟩ := sub_perm' (vis := A) (es := B) (fun e he => (h e).1 he) hA
  cases rest with
  | nil => simpa using hr
  | cons e rest =>
    exfalso
    have h1 : e ∈ B := hr.mem_iff.1 (by simp)
    have h2 := (h e).2 h1
    have h3 : (A ++ e :: rest).Nodup := hr.nodup_iff.2 hB
    exact (List.nodup_append.1 h3).2.2 e h2 e (by simp) rfl
/-- The greatest of its node among those with P. -/
def BestP (P : Mrk → Prop) (x : Mrk) : Prop := P x ∧ ∀ y, P y → y.node = x.node → y.gen ≤ x.gen
theorem BestP.congr {P Q : Mrk → Prop} (h : ∀ y, P y ↔ Q y) (x : Mrk) : BestP P x ↔ BestP Q x := by
  unfold BestP; simp only [h]
/-- Each node with its greatest generation, once. -/
structure CanonM (P : Mrk → Prop) (l : List (Int × Int)) : Prop where
  keys : (l.map (·.1)).Nodup
  best : ∀ k v, (k, v) ∈ l → BestP P ⟨k, v⟩
  has : ∀ y, P y → ∃ v, (y.node, v) ∈ l
theorem aget_mem {l : List (Int × Int)} {k v : Int} (h : aget k l = some v) : (k, v) ∈ l := by
  induction l with
  | nil => cases h
  | cons p r ih =>
    obtain ⟨k', v'⟩ := p
    simp only [aget] at h
    split at h
    · rename_i e; cases h; subst e; simp
    · exact List.mem_cons_of_mem _ (ih h)
theorem aget_none {l : List (Int × Int)} {k : Int} (h : aget k l = none) : ∀ v, (k, v) ∉ l := by
  induction l with
  | nil => simp
  | cons p r ih =>
    obtain ⟨k', v'⟩ := p
    simp only [aget] at h
    split at h
    · cases h
    · rename_i e
      intro v hv
      simp only [List.mem_cons, Prod.mk.injEq] at hv
      rcases hv with ⟨h1, _⟩ | h1
      · exact e h1.symm
      · exact ih h v h1
theorem aset_keys (k v : Int) : ∀ l : List (Int × Int), ∀ n, n ∈ (aset k v l).map (·.1) ↔ n = k ∨ n ∈ l.map (·.1)
  | [], n => by simp [aset]
  | (k', v') :: r, n => by
    by_cases h : k' = k
    · subst h; simp [aset]
    · simp only [aset, h, if_false, List.map_cons, List.mem_cons, aset_keys k v r n]
      constructor
      · rintro (h | h | h)
        · exact .inr (.inl h)
        · exact .inl h
        · exact .inr (.inr h)
      · rintro (h | h | h)
        · exact .inr (.inl h)
        · exact .inl h
        · exact .inr (.inr h)
theorem aset_nodup (k v : Int) : ∀ l : List (Int × Int), (l.map (·.1)).Nodup → ((aset k v l).map (·.1)).Nodup
  | [], _ => by simp [aset]
  | (k', v') :: r, h => by
    rw [List.map_cons, List.nodup_cons] at h
    by_cases hk : k' = k
    · subst hk; simp only [aset, if_true, List.map_cons, List.nodup_cons]; exact h
    · simp only [aset, hk, if_false, List.map_cons, List.nodup_cons]
      refine ⟨fun hm => ?_, aset_nodup k v r h.2⟩
      rcases (aset_keys k v r k').1 hm with e | e
      · exact hk e
      · exact h.1 e
theorem aset_mem {k v : Int} : ∀ {l : List (Int × Int)}, (l.map (·.1)).Nodup → ∀ a b, (a, b) ∈ aset k v l ↔ (a = k ∧ b = v) ∨ (a ≠ k ∧ (a, b) ∈ l)
  | [], _, a, b => by simp [aset]
  | (k', v') :: r, h, a, b => by
    rw [List.map_cons, List.nodup_cons] at h
    by_cases hk : k' = k
    · subst hk
      simp only [aset, if_true, List.mem_cons, Prod.mk.injEq]
      constructor
      · rintro (e | e)
        · exact .inl e
        · refine .inr ⟨fun e1 => h.1 (List.mem_map.2 ⟨(a, b), e, e1⟩), .inr e⟩
      · rintro (e | ⟨e1, e2 | e2⟩)
        · exact .inl e
        · exact absurd e2.1 e1
        · exact .inr e2
    · simp only [aset, hk, if_false, List.mem_cons, Prod.mk.injEq, aset_mem h.2 a b]
      constructor
      · rintro (e | e | e)
        · exact .inr ⟨by rw [e.1]; exact hk, .inl e⟩
        · exact .inl e
        · exact .inr ⟨e.1, .inr e.2⟩
      · rintro (e | ⟨e1, e2 | e2⟩)
        · exact .inr (.inl e)
        · exact .inl e2
        · exact .inr (.inr ⟨e1, e2⟩)
theorem CanonM.nodup {P : Mrk → Prop} {l : List (Int × Int)} (h : CanonM P l) : l.Nodup := by
  have := h.keys
  unfold List.Nodup at *
  rw [List.pairwise_map] at this
  exact this.imp fun hne e => hne (by rw [e])
theorem CanonM.sub {P : Mrk → Prop} {l m : List (Int × Int)} (h : CanonM P l) (k : CanonM P m) : ∀ p, p ∈ l → p ∈ m := by
  rintro ⟨a, b⟩ hp
  have h1 := h.best a b hp
  obtain ⟨v, hv⟩ := k.has _ h1.1
  have h2 := k.best _ _ hv
  have h3 := h1.2 _ h2.1 rfl
  have h4 := h2.2 _ h1.1 rfl
  simp at h3 h4
  have : b = v := by omega
  rw [this]; exact hv
theorem CanonM.perm {P : Mrk → Prop} {l m : List (Int × Int)} (h : CanonM P l) (k : CanonM P m) : l.Perm m := nodup_perm h.nodup k.nodup fun p => ⟨h.sub k p, k.sub h p⟩
theorem CanonM.congr {P Q : Mrk → Prop} {l : List (Int × Int)} (h : CanonM P l) (e : ∀ y, P y ↔ Q y) : CanonM Q l := ⟨h.keys, fun k v hm => (BestP.congr e _).1 (h.best k v hm), fun y hy => h.has y ((e y).2 hy)⟩
theorem CanonM.nil : CanonM (fun _ => False) [] := ⟨by simp, by simp, fun _ h => h.elim⟩
theorem CanonM.step {P : Mrk → Prop} {l : List (Int × Int)} (h : CanonM P l) {x : Mrk} (hx : 0 ≤ x.gen) : CanonM (fun y => P y ∨ y = x) (cstep l x) := by
  refine ⟨aset_nodup _ _ _ h.keys, fun a b hm => ?_, fun y hy => ?_⟩
  · unfold cstep at hm
    rw [aset_mem h.keys] at hm
    rcases hm with ⟨rfl, rfl⟩ | ⟨hne, hm⟩
    · cases hg : aget x.node l with
      | none =>
        have hno := aget_none hg
        have e : max ((none : Option Int).getD 0) x.gen = x.gen := by simp; omega
        rw [e]
        refine ⟨.inr rfl, ?_⟩
        rintro y (hy | rfl) e
        · obtain ⟨v, hv⟩ := h.has y hy
          rw [show y.node = x.node from e] at hv
          exact absurd hv (hno v)
        · exact Int.le_refl _
      | some o =>
        have hb := h.best _ _ (aget_mem hg)
        simp only [Option.getD_some]
        by_cases hlt : o ≤ x.gen
        · rw [show max o x.gen = x.gen by omega]
          refine ⟨.inr rfl, ?_⟩
          rintro y (hy | rfl) e
          · have := hb.2 y hy e; simp at this; show y.gen ≤ x.gen; omega
          · exact Int.le_refl _
        · rw [show max o x.gen = o by omega]
          refine ⟨.inl hb.1, ?_⟩
          rintro y (hy | rfl) e
          · exact hb.2 y hy e
          · show y.gen ≤ o; omega
    · have hb := h.best _ _ hm
      refine ⟨.inl hb.1, ?_⟩
      rintro y (hy | rfl) e
      · exact hb.2 y hy e
      · exact absurd e.symm hne
  · unfold cstep
    by_cases e : y.node = x.node
    · exact ⟨_, (aset_mem h.keys _ _).2 (.inl ⟨e, rfl⟩)⟩
    · rcases hy with hy | rfl
      · obtain ⟨v, hv⟩ := h.has y hy
        exact ⟨v, (aset_mem h.keys _ _).2 (.inr ⟨e, hv⟩)⟩
      · exact absurd rfl e
theorem cmap_canon (xs : List Mrk) (hw : ∀ x ∈ xs, x.wf) : CanonM (· ∈ xs) (cmap xs) := by
  revert hw
  induction xs using snocInd with
  | h0 => intro _; exact CanonM.nil.congr (by simp)
  | h1 l x ih =>
    intro hw
    have : cmap (l ++ [x]) = cstep (cmap l) x := by simp [cmap]
    rw [this]
    exact ((ih fun y hy => hw y (List.mem_append_left _ hy)).step (Mrk.genB (hw x (by simp))).1).congr (by simp)
theorem pairs_mem {L : List Mrk} {k v : Int} : (k, v) ∈ pairs L ↔ ⟨k, v⟩ ∈ L := by
  unfold pairs
  rw [List.mem_map]
  constructor
  · rintro ⟨x, hx, e⟩; cases e; exact hx
  · intro h; exact ⟨_, h, rfl⟩
theorem pairs_canon {P : Mrk → Prop} {L : List Mrk} (h : CanonM P (pairs L)) (hu : Up L) (v : Mrk) : CanonM (fun y => P y ∨ y = v) (pairs (addM L v)) := by
  have hun := (addM_up hu v).nodup
  refine ⟨by simpa [pairs, Function.comp_def] using hun, fun a b hm => ?_, fun y hy => ?_⟩
  · rw [pairs_mem] at hm
    rcases addM_form hu v with ⟨A, C, he, ha, h1, h2⟩ | ⟨A, z, C, he, hn, ha, h1, h2⟩ <;> rw [ha] at hm <;> simp only [List.mem_append, List.mem_cons] at hm
    · have hno : ∀ y, P y → y.node ≠ v.node := by
        intro y hy e
        obtain ⟨w, hw⟩ := h.has y hy
        rw [pairs_mem, he, List.mem_append] at hw
        rcases hw with hw | hw
        · have := h1 _ hw; simp at this; omega
        · have := h2 _ hw; simp at this; omega
      have old : ∀ m : Mrk, m ∈ L → BestP (fun y => P y ∨ y = v) m := by
        intro m hm
        have hb := h.best m.node m.gen (pairs_mem.2 hm)
        refine ⟨.inl hb.1, ?_⟩
        rintro y (hy | rfl) e
        · exact hb.2 y hy e
        · exact absurd e.symm (hno m hb.1)
      rcases hm with hm | hm | hm
      · exact old _ (by rw [he]; simp [hm])
      · rw [hm]
        refine ⟨.inr rfl, ?_⟩
        rintro y (hy | rfl) e
        · exact absurd e (hno y hy)
        · exact Int.le_refl _
      · exact old _ (by rw [he]; simp [hm])
    · have hz := h.best z.node z.gen (pairs_mem.2 (by rw [he]; simp))
      have old : ∀ m : Mrk, m ∈ L → m.node ≠ v.node → BestP (fun y => P y ∨ y = v) m := by
        intro m hm hne
        have hb := h.best m.node m.gen (pairs_mem.2 hm)
        refine ⟨.inl hb.1, ?_⟩
        rintro y (hy | rfl) e
        · exact hb.2 y hy e
        · exact absurd e.symm hne
      rcases hm with hm | hm | hm
      · exact old _ (by rw [he]; simp [hm]) (by have := h1 _ hm; omega)
      · rw [hm]
        by_cases hlt : z.gen < v.gen
        · rw [if_pos hlt]
          refine ⟨.inr rfl, ?_⟩
          rintro y (hy | rfl) e
          · have := hz.2 y hy (by rw [e, hn]); simp at this; omega
          · exact Int.le_refl _
        · rw [if_neg hlt]
          refine ⟨.inl hz.1, ?_⟩
          rintro y (hy | rfl) e
          · exact hz.2 y hy e
          · omega
      · exact old _ (by rw [he]; simp [hm]) (by have := h2 _ hm; omega)
  · have key : ∃ m ∈ addM L v, m.node = y.node := by
      rcases addM_form hu v with ⟨A, C, he, ha, h1, h2⟩ | ⟨A, z, C, he, hn, ha, h1, h2⟩ <;> rw [ha]
      · rcases hy with hy | rfl
        · obtain ⟨w, hw⟩ := h.has y hy
          rw [pairs_mem, he, List.mem_append] at hw
          refine ⟨⟨y.node, w⟩, ?_, rfl⟩
          rcases hw with hw | hw <;> simp [hw]
        · exact ⟨y, by simp, rfl⟩
      · rcases hy with hy | rfl
        · obtain ⟨w, hw⟩ := h.has y hy
          rw [pairs_mem, he, List.mem_append, List.mem_cons] at hw
          rcases hw with hw | hw | hw
          · exact ⟨⟨y.node, w⟩, by simp [hw], rfl⟩
          · refine ⟨if z.gen < v.gen then v else z, by simp, ?_⟩
            have : y.node = z.node := by rw [← hw]
            split
            · rw [this, hn]
            · rw [this]
          · exact ⟨⟨y.node, w⟩, by simp [hw], rfl⟩
        · refine ⟨if z.gen < y.gen then y else z, by simp, ?_⟩
          split
          · rfl
          · exact hn
    obtain ⟨m, hm, e⟩ := key
    exact ⟨m.gen, by rw [← e]; exact pairs_mem.2 hm⟩
theorem up_ext : ∀ {L M : List Mrk}, Up L → Up M → (∀ x, x ∈ L ↔ x ∈ M) → L = M
  | [], [], _, _, _ => rfl
  | [], b :: M, _, _, h => by have := (h b).2 (by simp); cases this
  | a :: L, [], _, _, h => by have := (h a).1 (by simp); cases this
  | a :: L, b :: M, hL, hM, h => by
    have h1 := List.pairwise_cons.1 hL
    have h2 := List.pairwise_cons.1 hM
    have e : a = b := by
      have ha := (h a).1 (by simp)
      have hb := (h b).2 (by simp)
      rw [List.mem_cons] at ha hb
      rcases ha with ha | ha
      · exact ha
      · rcases hb with hb | hb
        · exact hb.symm
        · have := h2.1 a ha; have := h1.1 b hb; omega
    subst e
    rw [up_ext h1.2 h2.2 fun x => ⟨fun hx => ?_, fun hx => ?_⟩]
    · have := (h x).1 (List.mem_cons_of_mem _ hx)
      rw [List.mem_cons] at this
      rcases this with rfl | this
      · have := h1.1 x hx; omega
      · exact this
    · have := (h x).2 (List.mem_cons_of_mem _ hx)
      rw [List.mem_cons] at this
      rcases this with rfl | this
      · have := h2.1 x hx; omega
      · exact this
theorem canon_eq {P : Mrk → Prop} {L M : List Mrk} (hL : CanonM P (pairs L)) (hM : CanonM P (pairs M)) (uL : Up L) (uM : Up M) : L = M :=
  up_ext uL uM fun x => by
    have h1 := hL.sub hM (x.node, x.gen)
    have h2 := hM.sub hL (x.node, x.gen)
    rw [pairs_mem, pairs_mem] at h1 h2
    exact ⟨h1, h2⟩
/-! ### The document's counting -/
def freshT (g : Int) (x : Mrk) (ys : List Mrk) : Bool := decide (g ≤ x.gen) && !(ys.any fun y => decide (y.node = x.node) && decide (g ≤ y.gen))
theorem fresh_step {g : Int} {x y : Mrk} {xs : List Mrk} {j : Nat} (hy : xs[j]? = some y) : freshT g x (xs.take (j + 1)) = (freshT g x (xs.take j) && !(decide (y.node = x.node) && decide (g ≤ y.gen))) := by
  unfold freshT
  rw [List.take_add_one, hy]
  simp [List.any_append, Bool.and_assoc]
/-- The nodes that have g, or more, as they are met. -/
def haveS (g : Int) (s : List Int × List Mrk) (x : Mrk) : List Int × List Mrk := (if freshT g x s.2 = true then s.1 ++ [x.node] else s.1, s.2 ++ [x])
def haveL (g : Int) (xs : List Mrk) : List Int := (xs.foldl (haveS g) ([], [])).1
theorem haveS_snd (g : Int) (xs : List Mrk) : (xs.foldl (haveS g) ([], [])).2 = xs := by
  induction xs using snocInd with
  | h0 => rfl
  | h1 l x ih => rw [List.foldl_append]; simp [haveS, ih]
theorem haveL_snoc (g : Int) (xs : List Mrk) (x : Mrk) : haveL g (xs ++ [x]) = if freshT g x xs = true then haveL g xs ++ [x.node] else haveL g xs := by
  unfold haveL
  rw [List.foldl_append]
  simp only [List.foldl_cons, List.foldl_nil, haveS, haveS_snd]
theorem haveL_succ {g : Int} {xs : List Mrk} {k : Nat} {x : Mrk} (hx : xs[k]? = some x) : (haveL g (xs.take (k + 1))).length = (haveL g (xs.take k)).length + if freshT g x (xs.take k) = true then 1 else 0 := by
  rw [List.take_add_one, hx]
  show (haveL g (xs.take k ++ [x])).length = _
  rw [haveL_snoc]
  split <;> simp
theorem haveL_mem (g : Int) (xs : List Mrk) : ∀ k, k ∈ haveL g xs ↔ ∃ y ∈ xs, y.node = k ∧ g ≤ y.gen := by
  induction xs using snocInd with
  | h0 => simp [haveL]
  | h1 l x ih =>
    intro k
    rw [haveL_snoc]
    have hf : freshT g x l = true ↔ g ≤ x.gen ∧ ¬ ∃ y ∈ l, y.node = x.node ∧ g ≤ y.gen := by
      simp [freshT, List.any_eq_true]
    by_cases h : freshT g x l = true
    · rw [if_pos h, List.mem_append, ih]
      rw [hf] at h
      constructor
      · rintro (⟨y, hy, h1⟩ | h1)
        · exact ⟨y, by simp [hy], h1⟩
        · simp at h1; exact ⟨x, by simp, h1.symm, h.1⟩
      · rintro ⟨y, hy, h1⟩
        rw [List.mem_append] at hy
        rcases hy with hy | hy
        · exact .inl ⟨y, hy, h1⟩
        · simp at hy; subst hy; exact .inr (by simp [h1.1])
    · rw [if_neg h, ih]
      rw [hf] at h
      constructor
      · rintro ⟨y, hy, h1⟩
        exact ⟨y, by simp [hy], h1⟩
      · rintro ⟨y, hy, h1⟩
        rw [List.mem_append] at hy
        rcases hy with hy | hy
        · exact ⟨y, hy, h1⟩
        · simp at hy; subst hy
          have : ∃ z ∈ l, z.node = y.node ∧ g ≤ z.gen := by
            apply Classical.byContradiction
            intro hc
            exact h ⟨h1.2, hc⟩
          obtain ⟨z, hz, h2⟩ := this
          exact ⟨z, hz, by rw [← h1.1]; exact h2.1, h2.2⟩
theorem haveL_nodup (g : Int) (xs : List Mrk) : (haveL g xs).Nodup := by
  induction xs using snocInd with
  | h0 => simp [haveL]
  | h1 l x ih =>
    rw [haveL_snoc]
    by_cases h : freshT g x l = true
    · rw [if_pos h]
      refine List.nodup_append.2 ⟨ih, by simp, fun a ha b hb e => ?_⟩
      simp at hb; subst hb; subst e
      rw [haveL_mem] at ha
      have hf : freshT g x l = true ↔ g ≤ x.gen ∧ ¬ ∃ y ∈ l, y.node = x.node ∧ g ≤ y.gen := by
        simp [freshT, List.any_eq_true]
      exact (hf.1 h).2 ha
    · rw [if_neg h]; exact ih
theorem have_cnt {xs : List Mrk} {l : List (Int × Int)} (h : CanonM (· ∈ xs) l) (g : Int) : (haveL g xs).length = cnt g (l.map (·.2)) := by
  have e : cnt g (l.map (·.2)) = ((l.filter fun p => decide (g ≤ p.2)).map (·.1)).length := by
    unfold cnt
    rw [List.countP_map, List.length_map, List.countP_eq_length_filter]
    rfl
  rw [e]
  refine (nodup_perm (haveL_nodup g xs) ?_ fun k => ?_).length_eq
  · have := h.keys
    unfold List.Nodup at *
    rw [List.pairwise_map] at *
    exact this.sublist List.filter_sublist
  · rw [haveL_mem, List.mem_map]
    constructor
    · rintro ⟨y, hy, rfl, hg⟩
      obtain ⟨v, hv⟩ := h.has y hy
      refine ⟨_, List.mem_filter.2 ⟨hv, ?_⟩, rfl⟩
      have := (h.best _ _ hv).2 y hy rfl
      simp at this ⊢; omega
    · rintro ⟨⟨a, b⟩, hp, rfl⟩
      rw [List.mem_filter] at hp
      have := h.best _ _ hp.1
      exact ⟨_, this.1, rfl, by simpa using hp.2⟩
/-- The greatest generation that m nodes have is what is committed. -/
theorem com_best {xs : List Mrk} {l : List (Int × Int)} (h : CanonM (· ∈ xs) l) (hw : ∀ x ∈ xs, x.wf) {m : Nat} (hm : 1 ≤ m) {best c : Int} (hc : Com (l.map (·.2)) m c) (hb : best = 0 ∨ m ≤ (haveL best xs).length) (h0 : 0 ≤ best) (hmx : ∀ y ∈ xs, best < y.gen → (haveL y.gen xs).length < m) : c = best := by
  rcases hc with ⟨h1, rfl⟩ | ⟨h1, h2, h3, h4⟩
  · rcases hb with hb | hb
    · exact hb.symm
    · rw [have_cnt h] at hb
      have := cnt_le best (l.map (·.2))
      omega
  · obtain ⟨p, hp, rfl⟩ := List.mem_map.1 h2
    obtain ⟨a, b⟩ := p
    have hbst := h.best a b hp
    have hg := Mrk.genB (hw _ hbst.1)
    rcases Int.lt_trichotomy b best with e | e | e
    · have h5 := h4 best e
      rcases hb with hb | hb
      · subst hb
        have : 0 ≤ b := hg.1
        exact absurd e (by show ¬ b < 0; omega)
      · rw [have_cnt h] at hb; omega
    · exact e
    · have h5 := hmx _ hbst.1 e
      rw [have_cnt h] at h5
      have h6 : m ≤ cnt b (l.map (·.2)) := h3
      exact absurd h5 (by show ¬ cnt b _ < m; omega)
theorem com_order {xs A : List Mrk} (hA : CanonM (· ∈ xs) (pairs A)) (uA : Up A) (hw : ∀ x ∈ xs, x.wf) (wA : ∀ x ∈ A, x.wf) {m : Nat} {c d : Int} (h1 : Com ((cmap xs).map (·.2)) m c) (h2 : Com ((cmap A).map (·.2)) m d) : c = d := by
  rw [cmap_up uA wA] at h2
  exact (h1.perm (((cmap_canon xs hw).perm hA).map _)).uniq h2
end Go.Proofs.Ytchcoenpnmgnhaa
