/- Plain: what all laws on files use. -/
import Derived.Test.YtnagibpmfabkjaaGreatDoorFilS
set_option linter.unusedSimpArgs false
set_option linter.unusedVariables false
namespace Go.Proofs.YtnagibpmfabkjaaGreatDoor
open Go.RowKit Go.Tri
theorem samePairs_eq (x y : List P2) (hx : x.length ≤ 100000000) : rSamePairs x y = some (decide (x = y)) := by
  unfold rSamePairs
  by_cases hl : (x.length : Int) = (y.length : Int)
  · rw [if_pos hl]
    refine bind_run (fun k (s : Int) => s = (k : Int) ∧ ∀ j, j < k → x.getD j ([], []) = y.getD j ([], [])) (fun r => (r = .inl () ∧ x = y) ∨ (r = .inr false ∧ x ≠ y)) x.length ⟨rfl, fun j hj => by omega⟩ ?_ ?_ ?_
    · rintro k _ hk ⟨rfl, hne⟩
      rw [if_pos (by omega), idxO_getD ([], []) rfl hk, idxO_getD ([], []) rfl (show k < y.length by omega)]
      simp only [Option.bind_some]
      by_cases e1 : (x.getD k ([], [])).1 = (y.getD k ([], [])).1
      · rw [if_pos e1]
        by_cases e2 : (x.getD k ([], [])).2 = (y.getD k ([], [])).2
        · rw [if_pos e2, i64_id (by omega) (by omega)]
          exact .inl ⟨_, rfl, rfl, fun j hj => by
            by_cases ej : j = k
            · subst ej; exact Prod.ext e1 e2
            · exact hne j (by omega)⟩
        · rw [if_neg e2]
          exact .inr ⟨_, rfl, .inr ⟨rfl, fun h => e2 (by rw [h])⟩⟩
      · rw [if_neg e1]
        exact .inr ⟨_, rfl, .inr ⟨rfl, fun h => e1 (by rw [h])⟩⟩
    · rintro _ ⟨rfl, hne⟩
      refine ⟨.inl (), ?_, .inl ⟨rfl, List.ext_getElem (by omega) fun j h1 h2 => ?_⟩⟩
      · rw [if_neg (by omega)]
      · have := hne j h1
        simpa [List.getD_eq_getElem?_getD, List.getElem?_eq_getElem h1, List.getElem?_eq_getElem h2] using this
    · rintro _ (⟨rfl, h1⟩ | ⟨rfl, h1⟩)
      · simp [h1]
      · simp [h1]
  · rw [if_neg hl, decide_eq_false fun h => hl (by rw [h])]
theorem great_eq (L : List P2) : rGreat L = some true ∨ (rGreat L = some false ∧ (∀ x ∈ L, x.1.length ≤ 8000 ∧ x.2.length ≤ 8000)) := by
  unfold rGreat
  refine bind_runP (C := fun o => o = some true ∨ (o = some false ∧ ∀ x ∈ L, x.1.length ≤ 8000 ∧ x.2.length ≤ 8000)) (fun k (s : Int × Int) => s.2 = (k : Int) ∧ 8 * (k : Int) ≤ s.1 ∧ s.1 ≤ 30000 ∧ k ≤ 1001 ∧ k ≤ L.length ∧ ∀ j (hj : j < L.length), j < k → L[j].1.length ≤ 8000 ∧ L[j].2.length ≤ 8000) (fun r => r = .inr true ∨ (∃ n : Int, r = .inl n ∧ (8000 < n ∨ ∀ x ∈ L, x.1.length ≤ 8000 ∧ x.2.length ≤ 8000))) (min L.length 1002) ⟨rfl, by omega, by omega, by omega, by omega, fun j hj hk => by omega⟩ ?_ ?_ ?_
  · rintro k ⟨n, i⟩ hk ⟨h1, h2, h3, h3', h4, h5⟩
    simp only at h1 h2 h3
    subst h1
    simp only
    have hkl : k < L.length := by omega
    rw [if_pos (by omega)]
    by_cases h6 : n ≤ 8000
    · rw [if_pos h6]
      simp only [idxO_get hkl, Option.bind_some]
      by_cases h7 : 8000 < (L[k].1.length : Int)
      · rw [if_pos h7]; exact .inr ⟨_, rfl, .inl rfl⟩
      · rw [if_neg h7]
        by_cases h8 : 8000 < (L[k].2.length : Int)
        · rw [if_pos h8]; exact .inr ⟨_, rfl, .inl rfl⟩
        · rw [if_neg h8]
          rw [i64_id (n := 8 + (L[k].1.length : Int)) (by omega) (by omega), i64_id (n := 8 + (L[k].1.length : Int) + (L[k].2.length : Int)) (by omega) (by omega), i64_id (n := n + (8 + (L[k].1.length : Int) + (L[k].2.length : Int))) (by omega) (by omega), i64_id (n := (k : Int) + 1) (by omega) (by omega)]
          refine .inl ⟨_, rfl, rfl, ?_, ?_, ?_, ?_, fun j hj hk2 => ?_⟩
          · simp only; omega
          · simp only; omega
          · omega
          · omega
          · by_cases e : j = k
            · subst e; omega
            · exact h5 j hj (by omega)
    · rw [if_neg h6]
      exact .inr ⟨_, rfl, .inr ⟨n, rfl, .inl (by omega)⟩⟩
  · rintro ⟨n, i⟩ ⟨h1, h2, h3, h3', h4, h5⟩
    simp only at h1 h2 h3
    subst h1
    simp only
    by_cases h0 : L.length ≤ 1001
    · rw [if_neg (by omega)]
      refine ⟨_, rfl, .inr ⟨n, rfl, .inr fun x hx => ?_⟩⟩
      obtain ⟨j, hj, rfl⟩ := List.getElem_of_mem hx
      exact h5 j hj (by omega)
    · omega
  · rintro _ (rfl | ⟨n, rfl, h | h⟩)
    · exact .inl rfl
    · exact .inl (by simp only [Sum.elim_inl]; rw [decide_eq_true h])
    · by_cases h8 : 8000 < n
      · exact .inl (by simp only [Sum.elim_inl]; rw [decide_eq_true h8])
      · exact .inr ⟨by simp only [Sum.elim_inl]; rw [decide_eq_false h8], h⟩
theorem greatOp_eq (o : Opr) : rGreatOp o = some true ∨ (rGreatOp o = some false ∧ o.2.1.length ≤ 400 ∧ o.2.2.1.length ≤ 400 ∧ o.2.2.2.2.2.length ≤ 400) := by
  unfold rGreatOp
  by_cases h1 : 400 < (o.2.1.length : Int)
  · rw [if_pos h1]; exact .inl rfl
  · rw [if_neg h1]
    by_cases h2 : 400 < (o.2.2.1.length : Int)
    · rw [if_pos h2]; exact .inl rfl
    · rw [if_neg h2]
      by_cases h3 : 400 < (o.2.2.2.2.2.length : Int)
      · rw [decide_eq_true h3]; exact .inl rfl
      · rw [decide_eq_false h3]; exact .inr ⟨rfl, by omega, by omega, by omega⟩
theorem opOk {o : Opr} (h1 : o.2.1.length ≤ 400) (h2 : o.2.2.1.length ≤ 400) (h3 : o.2.2.2.2.2.length ≤ 400) : OpOk o := ⟨by omega, by omega, by omega⟩
def s00 : FS := fset [47] (true, []) fnil
theorem s00_enum : Enum s00 [([47], (true, []))] := ⟨by simp, fun k => by
  unfold s00 fset fnil
  simp only [aget]
  by_cases h : k = [47]
  · rw [if_pos h, if_pos h.symm]
  · rw [if_neg h, if_neg (Ne.symm h)]⟩
theorem s00_crd : Crd s00 1 := ⟨_, s00_enum, by simp⟩
theorem s00_snd : Snd s00 := by
  have h : ∀ p f, s00 p = some f → p = [47] ∧ f = (true, []) := fun p f hp => by
    unfold s00 fset fnil at hp
    split at hp
    · rename_i e; exact ⟨e, (Option.some.inj hp).symm⟩
    · cases hp
  exact ⟨⟨[], rfl⟩, fun p f hp => by rw [(h p f hp).1]; rfl, fun p f hp => by rw [(h p f hp).2]; simp, fun p d hp => by have := (h p _ hp).2; injection this, fun p f hp hn => absurd (h p f hp).1 hn⟩
theorem fNew_eq : fNew = some (prsF s00) := by
  unfold fNew
  have := (s00_snd.prs s00_crd (by omega)).1
  show (sPairs s00).bind _ = _
  rw [this]; rfl
theorem lss_iff : ∀ l m : List UInt8, lssB l m = true ↔ l < m
  | [], [] => by simp [lssB, Op.bytesLess]
  | [], b :: m => by simp [lssB, Op.bytesLess]
  | a :: l, [] => by simp [lssB, Op.bytesLess]
  | a :: l, b :: m => by
    have ih := lss_iff l m
    unfold lssB at ih ⊢
    rw [List.cons_lt_cons_iff, ← ih]
    simp [Op.bytesLess]
end Go.Proofs.YtnagibpmfabkjaaGreatDoor
