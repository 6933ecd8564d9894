/- Plain: lists of digests in order. -/
import Derived.Test.YtnjemlkcamdbfaaGreatDoorTrO
set_option linter.unusedSimpArgs false
set_option linter.unusedVariables false
namespace Go.Proofs.YtnjemlkcamdbfaaGreatDoor
open Go.RowKit Go.Tri
theorem cmp_app : ∀ p a b : List UInt8, Lib.compareBytes (p ++ a) (p ++ b) = Lib.compareBytes a b
  | [], _, _ => rfl
  | c :: p, a, b => by simp [Lib.compareBytes, cmp_app p a b]
theorem set_get {α : Type} (l : List α) (i j : Nat) (x d : α) : (l.set i x).getD j d = if j = i ∧ i < l.length then x else l.getD j d := by
  rw [List.getD_eq_getElem?_getD, List.getElem?_set]
  by_cases h : i = j
  · subst h
    by_cases h2 : i < l.length
    · simp [h2]
    · simp [h2, List.getD_eq_getElem?_getD, List.getElem?_eq_none (show l.length ≤ i by omega)]
  · rw [if_neg h, if_neg (fun h' => h h'.1.symm), ← List.getD_eq_getElem?_getD]
theorem same_eq (x y : List (List UInt8)) (hx : x.length ≤ 1000000) : m_triremeref05_Same x y = some (decide (x = y)) := by
  unfold m_triremeref05_Same
  by_cases hl : (x.length : Int) = (y.length : Int)
  · rw [if_pos hl]
    refine bind_run (fun k (s : Int) => s = (k : Int) ∧ ∀ j, j < k → x.getD j [] = y.getD j []) (fun r => (r = .inl () ∧ x = y) ∨ (r = .inr false ∧ x ≠ y)) x.length ⟨rfl, fun j hj => by omega⟩ ?_ ?_ ?_
    · rintro k _ hk ⟨rfl, hne⟩
      rw [if_pos (by omega), idxO_getD [] rfl hk, idxO_getD [] rfl (show k < y.length by omega)]
      simp only [Option.bind_some]
      by_cases e : x.getD k [] = y.getD k []
      · rw [if_pos e, i64_id (by omega) (by omega)]
        exact .inl ⟨_, rfl, rfl, fun j hj => by
          by_cases ej : j = k
          · subst ej; exact e
          · exact hne j (by omega)⟩
      · rw [if_neg e]
        exact .inr ⟨_, rfl, .inr ⟨rfl, fun h => e (by rw [h])⟩⟩
    · rintro _ ⟨rfl, hne⟩
      refine ⟨.inl (), ?_, .inl ⟨rfl, List.ext_getElem (by omega) fun j h1 h2 => ?_⟩⟩
      · rw [if_neg (by omega)]
      · have := hne j h1
        simpa [List.getD_eq_getElem?_getD, List.getElem?_eq_getElem h1, List.getElem?_eq_getElem h2] using this
    · rintro _ (⟨rfl, h1⟩ | ⟨rfl, h1⟩)
      · simp [h1]
      · simp [h1]
  · rw [if_neg hl, decide_eq_false fun h => hl (by rw [h])]
theorem less_eq (x y : List UInt8) (hx : x.length = 32) (hy : y.length = 32) : m_triremeref05_Less x y = some (decide (Lib.compareBytes x y < 0)) := by
  unfold m_triremeref05_Less
  refine bind_run (fun k (s : Int) => s = (k : Int) ∧ x.take k = y.take k) (fun r => (r = .inl () ∧ x = y) ∨ (r = .inr (decide (Lib.compareBytes x y < 0)))) 32 ⟨rfl, rfl⟩ ?_ ?_ ?_
  · rintro k _ hk ⟨rfl, hne⟩
    have h1 : k < x.length := by omega
    have h2 : k < y.length := by omega
    have ex : x = x.take k ++ x.getD k 0 :: x.drop (k + 1) := by rw [List.getD_eq_getElem?_getD, List.getElem?_eq_getElem h1, Option.getD_some, ← List.drop_eq_getElem_cons h1, List.take_append_drop]
    have ey : y = y.take k ++ y.getD k 0 :: y.drop (k + 1) := by rw [List.getD_eq_getElem?_getD, List.getElem?_eq_getElem h2, Option.getD_some, ← List.drop_eq_getElem_cons h2, List.take_append_drop]
    rw [if_pos (by omega), idxO_getD 0 rfl h1, idxO_getD 0 rfl h2]
    simp only [Option.bind_some]
    by_cases e : ((x.getD k 0).toNat : Int) = ((y.getD k 0).toNat : Int)
    · rw [if_pos e, i64_id (by omega) (by omega)]
      refine .inl ⟨_, rfl, rfl, ?_⟩
      have e' : x.getD k 0 = y.getD k 0 := UInt8.toNat_inj.1 (by omega)
      rw [List.take_add_one, List.take_add_one, hne, List.getElem?_eq_getElem h1, List.getElem?_eq_getElem h2]
      simp only [List.getD_eq_getElem?_getD, List.getElem?_eq_getElem h1, List.getElem?_eq_getElem h2, Option.getD_some] at e'
      rw [e']
    · rw [if_neg e]
      refine .inr ⟨_, rfl, .inr ?_⟩
      have hc : Lib.compareBytes x y = Lib.compareBytes (x.getD k 0 :: x.drop (k + 1)) (y.getD k 0 :: y.drop (k + 1)) := by
        have h3 := cmp_app (x.take k) (x.getD k 0 :: x.drop (k + 1)) (y.getD k 0 :: y.drop (k + 1))
        rw [← ex, hne, ← ey] at h3
        exact h3
      rw [hc]
      simp only [Lib.compareBytes, UInt8.lt_iff_toNat_lt]
      by_cases hlt : (x.getD k 0).toNat < (y.getD k 0).toNat
      · rw [if_pos hlt, decide_eq_true (by omega), decide_eq_true (by omega)]
      · rw [if_neg hlt, if_pos (by omega), decide_eq_false (by omega), decide_eq_false (by omega)]
  · rintro _ ⟨rfl, hne⟩
    refine ⟨.inl (), ?_, .inl ⟨rfl, ?_⟩⟩
    · rw [if_neg (by omega)]
    · rw [List.take_of_length_le (by omega), List.take_of_length_le (by omega)] at hne
      exact hne
  · rintro _ (⟨rfl, rfl⟩ | rfl)
    · simp [cmp_self]
    · rfl
instance ltKDec (a b : List UInt8) : Decidable (ltK a b) := by unfold ltK; infer_instance
theorem shift_step (L : List (List UInt8)) (x : List UInt8) (k : Nat) (hk : k < L.length) :
    idxO (L.take (k + 1) ++ x :: L.drop (k + 1)) ((k + 1 : Nat) : Int) = some x ∧ idxO (L.take (k + 1) ++ x :: L.drop (k + 1)) (k : Int) = some (L.getD k []) ∧
    ((L.take (k + 1) ++ x :: L.drop (k + 1)).set (k + 1) (L.getD k [])).set k x = L.take k ++ x :: L.drop k := by
  have hg : L.getD k [] = L[k] := by rw [List.getD_eq_getElem?_getD, List.getElem?_eq_getElem hk]; rfl
  have hlt : (L.take (k + 1)).length = k + 1 := by simp; omega
  have htk : L.take (k + 1) = L.take k ++ [L[k]] := by rw [List.take_add_one, List.getElem?_eq_getElem hk]; rfl
  have hlk : (L.take k).length = k := by simp; omega
  refine ⟨?_, ?_, ?_⟩
  · rw [idxO_getD (n := k + 1) [] rfl (by simp; omega), List.getD_eq_getElem?_getD, List.getElem?_append_right (by omega), hlt, Nat.sub_self]; rfl
  · rw [idxO_getD (n := k) [] rfl (by simp; omega), List.getD_eq_getElem?_getD, List.getElem?_append_left (by omega), List.getElem?_take_of_lt (by omega), ← List.getD_eq_getElem?_getD]
  · rw [List.set_append_right _ _ (by omega), hlt, Nat.sub_self, List.set_cons_zero, hg, htk, List.append_assoc, List.set_append_right _ _ (by omega), hlk, Nat.sub_self, List.singleton_append, List.set_cons_zero, List.drop_eq_getElem_cons hk]
/-- x is put into a sorted list. -/
theorem ins_sorted {L : List (List UInt8)} {x : List UInt8} {at' : Nat} (hL : L.Pairwise ltK) (h1 : ∀ j, j < at' → ltK (L.getD j []) x) (h2 : at' < L.length → ltK x (L.getD at' [])) (h3 : at' ≤ L.length) : (L.take at' ++ x :: L.drop at').Pairwise ltK := by
  have hlow : ∀ y ∈ L.take at', ltK y x := fun y hy => by
    obtain ⟨j, hj, rfl⟩ := List.getElem_of_mem hy
    have := h1 j (by simp at hj; omega)
    simp only [List.length_take] at hj
    rw [List.getD_eq_getElem?_getD, List.getElem?_eq_getElem (by omega)] at this
    simpa using this
  have hhigh : ∀ y ∈ L.drop at', ltK x y := fun y hy => by
    have hlt : at' < L.length := by
      by_cases h : at' < L.length
      · exact h
      · rw [List.drop_eq_nil_of_le (by omega)] at hy; cases hy
    have h4 := h2 hlt
    have hp := hL.sublist (List.drop_sublist at' L)
    rw [List.drop_eq_getElem_cons hlt] at hy hp
    rw [List.getD_eq_getElem?_getD, List.getElem?_eq_getElem hlt] at h4
    rcases List.mem_cons.1 hy with rfl | hy
    · exact h4
    · exact cmp_trans _ _ _ h4 (List.rel_of_pairwise_cons hp hy)
  refine List.pairwise_append.2 ⟨hL.sublist (List.take_sublist _ _), List.pairwise_cons.2 ⟨hhigh, hL.sublist (List.drop_sublist _ _)⟩, fun a ha b hb => ?_⟩
  rcases List.mem_cons.1 hb with rfl | hb
  · exact hlow a ha
  · exact cmp_trans _ _ _ (hlow a ha) (hhigh b hb)
/-- What stands in the list when so many are in. -/
def SortI (src : List (List UInt8)) (i : Nat) (L : List (List UInt8)) : Prop := L.Pairwise ltK ∧ (∀ k, k ∈ L ↔ k ∈ src.take i) ∧ L.length ≤ i
theorem sorted_eq (src : List (List UInt8)) (hl : src.length ≤ 1000000) (h32 : ∀ x ∈ src, x.length = 32) : ∃ l, m_triremeref05_Sorted src = some l ∧ SortI src src.length l := by
  unfold m_triremeref05_Sorted
  refine bind_runP (C := fun o => ∃ l, o = some l ∧ SortI src src.length l) (fun i s => s.2 = (i : Int) ∧ SortI src i s.1) (fun r => SortI src src.length r) src.length ⟨rfl, List.Pairwise.nil, fun k => by simp, by simp⟩ ?_ ?_ ?_
  · rintro i ⟨L, k⟩ hi ⟨hk, hP, hM, hlen⟩
    simp only at hk hP hM hlen
    subst hk
    obtain ⟨x, hx⟩ : ∃ x, src[i]? = some x := ⟨_, List.getElem?_eq_getElem hi⟩
    have hg : src.getD i [] = x := by simp [List.getD_eq_getElem?_getD, hx]
    have hx32 : x.length = 32 := h32 x (List.mem_of_getElem? hx)
    have hidx : idxO src (i : Int) = some x := by rw [idxO_getD [] rfl hi, hg]
    have hm' : ∀ y, y ∈ src.take (i + 1) ↔ y ∈ L ∨ y = x := fun y => by
      rw [List.take_add_one, hx, List.mem_append, ← hM y]; simp
    have hL32 : ∀ y ∈ L, y.length = 32 := fun y hy => h32 y (List.mem_of_mem_take ((hM y).1 hy))
    have hLg : ∀ j, j < L.length → L.getD j [] ∈ L := fun j hj => by rw [List.getD_eq_getElem?_getD, List.getElem?_eq_getElem hj]; exact List.getElem_mem hj
    left
    simp only
    rw [if_pos (by omega), hidx, i64_id (n := (i : Int) + 1) (by omega) (by omega)]
    simp only [Option.bind_some]
    refine bind_runP (C := fun o => ∃ s', Option.bind (α := List (List UInt8)) o (fun r3242 => some (Sum.inl (r3242, (i : Int) + 1))) = some (Sum.inl s') ∧ s'.2 = ((i + 1 : Nat) : Int) ∧ SortI src (i + 1) s'.1) (fun j (s : Int) => s = (j : Int) ∧ ∀ q, q < j → ltK (L.getD q []) x) (fun r => ∃ j : Nat, r = (j : Int) ∧ j ≤ L.length ∧ (∀ q, q < j → ltK (L.getD q []) x) ∧ (j < L.length → ¬ ltK (L.getD j []) x)) L.length ⟨rfl, fun q hq => by omega⟩ ?_ ?_ ?_
    · rintro j _ hj ⟨rfl, hq⟩
      rw [if_pos (by omega), idxO_getD [] rfl hj]
      simp only [Option.bind_some]
      rw [less_eq _ _ (hL32 _ (hLg j hj)) hx32]
      simp only [Option.bind_some]
      by_cases hlt : ltK (L.getD j []) x
      · rw [if_pos (decide_eq_true (show Lib.compareBytes (L.getD j []) x < 0 from hlt)), i64_id (by omega) (by omega)]
        exact .inl ⟨_, rfl, by omega, fun q hq' => by
          by_cases e : q = j
          · subst e; exact hlt
          · exact hq q (by omega)⟩
      · rw [if_neg (show ¬ (decide (Lib.compareBytes (L.getD j []) x < 0) = true) from fun h => hlt (of_decide_eq_true h))]
        exact .inr ⟨_, rfl, j, rfl, by omega, hq, fun _ => hlt⟩
    · rintro _ ⟨rfl, hq⟩
      exact ⟨_, by rw [if_neg (by omega)], L.length, rfl, Nat.le_refl _, hq, fun h => by omega⟩
    · rintro _ ⟨at', rfl, hat, hlow, hnot⟩
      -- the shift
      have shift : ltK x (L.getD at' []) ∨ ¬ at' < L.length → ∀ (f : (List (List UInt8)) × Int → Option ((List (List UInt8)) × Int ⊕ List (List UInt8))), (∀ k : Nat, at' ≤ k → k < L.length → f (L.take (k + 1) ++ x :: L.drop (k + 1), ((k + 1 : Nat) : Int)) = some (.inl (L.take k ++ x :: L.drop k, (k : Int)))) → f (L.take at' ++ x :: L.drop at', (at' : Int)) = some (.inr (L.take at' ++ x :: L.drop at')) →
          ∃ s' : List (List UInt8) × Int, Option.bind (α := List (List UInt8)) (Option.bind (α := List (List UInt8)) (loopO f (L ++ [x], IntKind.i64.wrap (((L ++ [x]).length : Int) - 1))) fun r => some r) (fun r3242 => some ((Sum.inl (r3242, (i : Int) + 1)) : (List (List UInt8) × Int) ⊕ List (List UInt8))) = some (Sum.inl s') ∧ s'.2 = ((i + 1 : Nat) : Int) ∧ SortI src (i + 1) s'.1 := by
        intro hcase f hf he
        refine ⟨(L.take at' ++ x :: L.drop at', ((i + 1 : Nat) : Int)), ?_, rfl, ins_sorted hP hlow (fun h => hcase.resolve_right (fun hn => hn h)) hat, fun y => ?_, by simp; omega⟩
        · have hrun : loopO f (L ++ [x], IntKind.i64.wrap (((L ++ [x]).length : Int) - 1)) = some (L.take at' ++ x :: L.drop at') := by
            obtain ⟨r, h1, rfl⟩ := loop_run (f := f) (fun j s => s = (L.take (L.length - j) ++ x :: L.drop (L.length - j), ((L.length - j : Nat) : Int))) (fun r => r = L.take at' ++ x :: L.drop at') (L.length - at') (fun j s hj hs => by
              subst hs
              refine .inl ⟨_, ?_, rfl⟩
              have := hf (L.length - (j + 1)) (by omega) (by omega)
              rw [show L.length - (j + 1) + 1 = L.length - j by omega] at this
              exact this) (fun s hs => by
              subst hs
              exact ⟨_, by rw [show L.length - (L.length - at') = at' by omega]; exact he, rfl⟩) (L.length - at') 0 (L ++ [x], (L.length : Int)) (by omega) (by simp)
            rw [show IntKind.i64.wrap (((L ++ [x]).length : Int) - 1) = (L.length : Int) by rw [List.length_append, List.length_singleton, i64_id (by omega) (by omega)]; omega]
            exact h1
          rw [hrun]
          rfl
        · rw [hm' y]
          constructor
          · intro h
            rcases List.mem_append.1 h with h | h
            · exact .inl (List.mem_of_mem_take h)
            · rcases List.mem_cons.1 h with h | h
              · exact .inr h
              · exact .inl (List.mem_of_mem_drop h)
          · rintro (h | rfl)
            · rw [← List.take_append_drop at' L] at h
              rcases List.mem_append.1 h with h | h
              · exact List.mem_append_left _ h
              · exact List.mem_append_right _ (List.mem_cons_of_mem _ h)
            · exact List.mem_append_right _ List.mem_cons_self
      by_cases hlt : at' < L.length
      · rw [if_pos (by omega), idxO_getD [] rfl hlt]
        simp only [Option.bind_some]
        by_cases e : L.getD at' [] = x
        · rw [if_pos e]
          refine ⟨_, rfl, rfl, hP, fun y => ?_, by simp only; omega⟩
          rw [hm' y]
          exact ⟨.inl, fun h => h.elim id fun h => by rw [h, ← e]; exact hLg at' hlt⟩
        · rw [if_neg e, appO_of (by simp; omega)]
          simp only [Option.bind_some]
          have hgt : ltK x (L.getD at' []) := by
            have h1 := hnot hlt
            have h2 := cmp_zero (L.getD at' []) x
            have h3 := cmp_swap x (L.getD at' [])
            have h4 : Lib.compareBytes (L.getD at' []) x ≠ 0 := fun h => e (h2 h)
            unfold ltK at *
            omega
          refine shift (.inl hgt) _ (fun k h1 h2 => ?_) ?_
          · obtain ⟨s1, s2, s3⟩ := shift_step L x k h2
            have s2' : idxO ((L.take (k + 1) ++ x :: L.drop (k + 1)).set (k + 1) (L.getD k [])) (k : Int) = some (L.getD k []) := by
              rw [idxO_getD (n := k) [] rfl (by simp; omega), set_get, if_neg (by omega), ← idxO_getD (n := k) [] rfl (by simp; omega), s2]
            simp only
            rw [if_pos (by omega), s1, i64_id (n := ((k + 1 : Nat) : Int) - 1) (by omega) (by omega), show ((k + 1 : Nat) : Int) - 1 = (k : Int) by omega, s2]
            simp only [Option.bind_some, Int.toNat_natCast]
            rw [s2']
            simp only [Option.bind_some]
            rw [s3]
          · simp only
            rw [if_neg (by omega)]
      · rw [if_neg (by omega), appO_of (by simp; omega)]
        simp only [Option.bind_some]
        refine shift (.inr hlt) _ (fun k h1 h2 => ?_) ?_
        · omega
        · simp only
          rw [if_neg (by omega)]
  · rintro ⟨L, k⟩ ⟨hk, h⟩
    simp only at hk h
    subst hk
    refine ⟨L, ?_, h⟩
    simp only
    rw [if_neg (by omega)]
  · intro r h
    exact ⟨r, rfl, h⟩
end Go.Proofs.YtnjemlkcamdbfaaGreatDoor
