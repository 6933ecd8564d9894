/- Plain: laws of files. -/
import Derived.Test.YtohmcgmmphpgoaaGreatDoorFilS
set_option linter.unusedSimpArgs false
set_option linter.unusedVariables false
namespace Go.Proofs.YtohmcgmmphpgoaaGreatDoor
open Go.RowKit Go.Tri
theorem samePairs_eq (x y : List P2) (hx : x.length ≤ 100000000) : rSamePairs x y = some (decide (x = y)) := by
  unfold rSamePairs
  by_cases hl : (x.length : Int) = (y.length : Int)
  · rw [if_pos hl]
    refine bind_run (fun k (s : Int) => s = (k : Int) ∧ ∀ j, j < k → x.getD j ([], []) = y.getD j ([], [])) (fun r => (r = .inl () ∧ x = y) ∨ (r = .inr false ∧ x ≠ y)) x.length ⟨rfl, fun j hj => by omega⟩ ?_ ?_ ?_
    · rintro k _ hk ⟨rfl, hne⟩
      rw [if_pos (by omega), idxO_getD ([], []) rfl hk, idxO_getD ([], []) rfl (show k < y.length by omega)]
      simp only [Option.bind_some]
      by_cases e1 : (x.getD k ([], [])).1 = (y.getD k ([], [])).1
      · rw [if_pos e1]
        by_cases e2 : (x.getD k ([], [])).2 = (y.getD k ([], [])).2
        · rw [if_pos e2, i64_id (by omega) (by omega)]
          exact .inl ⟨_, rfl, rfl, fun j hj => by
            by_cases ej : j = k
            · subst ej; exact Prod.ext e1 e2
            · exact hne j (by omega)⟩
        · rw [if_neg e2]
          exact .inr ⟨_, rfl, .inr ⟨rfl, fun h => e2 (by rw [h])⟩⟩
      · rw [if_neg e1]
        exact .inr ⟨_, rfl, .inr ⟨rfl, fun h => e1 (by rw [h])⟩⟩
    · rintro _ ⟨rfl, hne⟩
      refine ⟨.inl (), ?_, .inl ⟨rfl, List.ext_getElem (by omega) fun j h1 h2 => ?_⟩⟩
      · rw [if_neg (by omega)]
      · have := hne j h1
        simpa [List.getD_eq_getElem?_getD, List.getElem?_eq_getElem h1, List.getElem?_eq_getElem h2] using this
    · rintro _ (⟨rfl, h1⟩ | ⟨rfl, h1⟩)
      · simp [h1]
      · simp [h1]
  · rw [if_neg hl, decide_eq_false fun h => hl (by rw [h])]
theorem sameT_eq (x y : List (List UInt8)) (hx : x.length ≤ 1000000) : rSameT x y = some (decide (x = y)) := by
  have : rSameT x y = m_slices_Equal___string_string_ x y := rfl
  rw [this, equalT_eq x y hx]
theorem sameAns_eq (a b : Ans) (h : a.2.2.2.length ≤ 1000000) : rSameAns a b = some (decide (a = b)) := by
  obtain ⟨a1, a2, a3, a4⟩ := a
  obtain ⟨b1, b2, b3, b4⟩ := b
  simp only at h
  unfold rSameAns
  simp only
  by_cases h1 : a1 = b1
  · rw [if_pos h1]
    by_cases h2 : a2 = b2
    · rw [if_pos h2]
      by_cases h3 : a3 = b3
      · rw [if_pos h3, sameT_eq _ _ h]
        simp [h1, h2, h3]
      · rw [if_neg h3]; simp [h3]
    · rw [if_neg h2]; simp [h2]
  · rw [if_neg h1]; simp [h1]
theorem greatOp_eq (o : Opr) : rGreatOp o = some true ∨ (rGreatOp o = some false ∧ o.2.1.length ≤ 400 ∧ o.2.2.1.length ≤ 400 ∧ o.2.2.2.2.2.length ≤ 400) := by
  unfold rGreatOp
  by_cases h1 : 400 < (o.2.1.length : Int)
  · rw [if_pos h1]; exact .inl rfl
  · rw [if_neg h1]
    by_cases h2 : 400 < (o.2.2.1.length : Int)
    · rw [if_pos h2]; exact .inl rfl
    · rw [if_neg h2]
      by_cases h3 : 400 < (o.2.2.2.2.2.length : Int)
      · rw [decide_eq_true h3]; exact .inl rfl
      · rw [decide_eq_false h3]; exact .inr ⟨rfl, by omega, by omega, by omega⟩
theorem opOk {o : Opr} (h1 : o.2.1.length ≤ 400) (h2 : o.2.2.1.length ≤ 400) (h3 : o.2.2.2.2.2.length ≤ 400) : OpOk o := ⟨by omega, by omega, by omega⟩
/-- Right files are told to be such. -/
theorem check_right {s : FS} (hs : Snd s) {n : Nat} (hc : Crd s n) (hn : n ≤ 250) : fCheck (prsF s) = some 0 := by
  obtain ⟨h1, h2, h3, h4⟩ := hs.prs hc (by omega)
  rcases fCheck_eq (prsF s) (by omega) (fun x hx => by have := h4 x hx; omega) with ⟨h, _⟩ | ⟨_, h⟩
  · exact h
  · exact absurd ⟨by rw [h2]; exact hs, by rw [h2]⟩ h
/-! ### The example -/
def s00 : FS := fset [47] (true, []) fnil
theorem s00_enum : Enum s00 [([47], (true, []))] := ⟨by simp, fun k => by
  unfold s00 fset fnil
  simp only [aget]
  by_cases h : k = [47]
  · rw [if_pos h, if_pos h.symm]
  · rw [if_neg h, if_neg (Ne.symm h)]⟩
theorem s00_crd : Crd s00 1 := ⟨_, s00_enum, by simp⟩
theorem s00_snd : Snd s00 := by
  have h : ∀ p f, s00 p = some f → p = [47] ∧ f = (true, []) := fun p f hp => by
    unfold s00 fset fnil at hp
    split at hp
    · rename_i e; exact ⟨e, (Option.some.inj hp).symm⟩
    · cases hp
  exact ⟨⟨[], rfl⟩, fun p f hp => by rw [(h p f hp).1]; rfl, fun p f hp => by rw [(h p f hp).2]; simp, fun p d hp => by have := (h p _ hp).2; injection this, fun p f hp hn => absurd (h p f hp).1 hn⟩
theorem fNew_eq : fNew = some (prsF s00) := by
  unfold fNew
  have := (s00_snd.prs s00_crd (by omega)).1
  show (sPairs s00).bind _ = _
  rw [this]; rfl
def sA : List UInt8 := [47, 97]
def sB : List UInt8 := [47, 97, 47, 98]
def s01 : FS := fset sA (true, []) s00
def s02 : FS := fset sB (false, []) s01
def s03 : FS := fset sB (false, [0, 0, 120, 121]) s02
theorem lk01 : rm s00 sA = 0 := by decide +kernel
theorem lk02 : rm s01 sB = 0 := by decide +kernel
theorem lk03 : rg s02 sB = ((false, []), 0) := by decide +kernel
theorem lk04 : rg s03 sB = ((false, [0, 0, 120, 121]), 0) := by decide +kernel
theorem lk05 : lk s03 [47] = ((true, []), 0) := by decide +kernel
theorem lk06 : lk s03 sA = ((true, []), 0) := by decide +kernel
theorem speaks_eq : lSpeaks = some true := by
  have k1 : Snd s01 := s00_snd.create lk01 true
  have c1 : Crd s01 2 := s00_crd.set _ _
  have k2 : Snd s02 := k1.create lk02 false
  have c2 : Crd s02 3 := c1.set _ _
  have k3 : Snd s03 := k2.write (p := sB) (d := []) rfl (by simp)
  have c3 : Crd s03 4 := c2.set _ _
  have d1 : doP s00 (2, sA, [], 0, 0, []) = ((0, 0, [], []), s01) := by
    unfold doP; simp only [lk01]; rfl
  have d2 : doP s01 (1, sB, [], 0, 0, []) = ((0, 0, [], []), s02) := by
    unfold doP; simp only [lk02]; rfl
  have d3 : doP s02 (3, sB, [], 2, 0, [120, 121]) = ((0, 2, [], []), s03) := by
    unfold doP wr; simp only [lk03]; rfl
  have d4 : (doP s03 (5, sB, [], 0, 9, [])).1 = (0, 4, [0, 0, 120, 121], []) := by
    unfold doP rdA; simp only [lk04]; rfl
  have hB := k3.below c3 (by omega)
  have hm : ∀ q f, s03 q = some f → q = sB ∨ q = sA ∨ q = [47] := fun q f hq => by
    unfold s03 s02 s01 s00 fset fnil at hq
    split at hq
    · rename_i e; exact .inl e
    · split at hq
      · rename_i e; exact .inr (.inl e)
      · split at hq
        · rename_i e; exact .inr (.inr e)
        · cases hq
  have hpB : par sB = sA := by decide +kernel
  have hpA : par sA = [47] := by decide +kernel
  have hbA : bas sA = [97] := by decide +kernel
  have bl1 : bl s03 [47] = [[97]] := by
    have h1 : ∀ x, x ∈ bl s03 [47] ↔ x = [97] := fun x => by
      rw [(hB [47]).mem]
      constructor
      · rintro ⟨q, f, h1, h2, h3, rfl⟩
        rcases hm q f h1 with rfl | rfl | rfl
        · rw [hpB] at h3; exact absurd h3 (by decide)
        · exact hbA
        · exact absurd rfl h2
      · rintro rfl
        exact ⟨sA, (true, []), rfl, by decide, hpA, hbA⟩
    have hn := (hB [47]).nd
    have h2 : (bl s03 [47]).Perm [[97]] := (List.perm_ext_iff_of_nodup hn (by simp)).2 fun x => by rw [h1]; simp
    exact List.perm_singleton.1 h2
  have bl2 : 0 < (bl s03 sA).length := List.length_pos_of_mem (((hB sA).mem (bas sB)).2 ⟨sB, (false, [0, 0, 120, 121]), rfl, by decide, hpB, rfl⟩)
  have d5 : (doP s03 (8, [47], [], 0, 0, [])).1 = (0, 1, [], [[97]]) := by
    unfold doP ls; simp only [lk05, bl1]; rfl
  have d6 : (doP s03 (7, sA, [], 0, 0, [])).1 = (95, 0, [], []) := by
    unfold doP rv; simp only [lk06, if_pos bl2]; rfl
  have n1 : nx s00 (2, sA, [], 0, 0, []) = s01 := by unfold nx; rw [d1]; rfl
  have n2 : nx s01 (1, sB, [], 0, 0, []) = s02 := by unfold nx; rw [d2]; rfl
  have n3 : nx s02 (3, sB, [], 2, 0, [120, 121]) = s03 := by unfold nx; rw [d3]; rfl
  unfold lSpeaks
  rw [fNew_eq]
  simp only [Option.bind_some]
  rw [show ([47, 97] : List UInt8) = sA from rfl, show ([47, 97, 47, 98] : List UInt8) = sB from rfl, fDo_eq s00_snd s00_crd (by omega) _ (opOk (by decide) (by decide) (by decide)), n1]
  simp only [Option.bind_some]
  rw [fDo_eq k1 c1 (by omega) _ (opOk (by decide) (by decide) (by decide)), n2, show u8O 120 = some 120 from rfl, show u8O 121 = some 121 from rfl]
  simp only [Option.bind_some]
  rw [fDo_eq k2 c2 (by omega) _ (opOk (by decide) (by decide) (by decide)), n3]
  simp only [Option.bind_some]
  rw [fDo_eq k3 c3 (by omega) _ (opOk (by decide) (by decide) (by decide)), fDo_eq k3 c3 (by omega) _ (opOk (by decide) (by decide) (by decide)), fDo_eq k3 c3 (by omega) _ (opOk (by decide) (by decide) (by decide))]
  simp only [Option.bind_some, d1, d2, d3, d4, d5, d6]
  rfl
/-! ### Errors change nothing -/
theorem doP_names {s : FS} (hs : Snd s) {n : Nat} (hc : Crd s n) (hn : n ≤ 1000000) (o : Opr) : (doP s o).1.2.2.2.length ≤ 6 := by
  unfold doP
  split
  · simp
  · split
    · unfold wr
      by_cases h1 : (rg s o.2.1).2 = 0
      · rw [if_pos h1]
        generalize (if o.1 = 3 then o.2.2.2.1 else o.2.2.2.2.1) = m
        by_cases g1 : m < 0
        · rw [if_pos g1]; simp
        · rw [if_neg g1]
          by_cases g2 : 192 < m ∨ (o.1 = 3 ∧ 192 < o.2.2.2.1 + (o.2.2.2.2.2.length : Int))
          · rw [if_pos g2]; simp
          · rw [if_neg g2]
            by_cases g3 : o.1 = 4
            · rw [if_pos g3]; simp
            · rw [if_neg g3]; simp
      · rw [if_neg h1]; simp
    · split
      · unfold rdA
        split
        · split <;> simp
        · simp
      · split
        · simp
        · split
          · simp
          · split
            · unfold ls
              split
              · split
                · simp; omega
                · simp
              · simp
            · split
              · unfold stt
                split
                · split <;> simp
                · simp
              · simp
end Go.Proofs.YtohmcgmmphpgoaaGreatDoor
