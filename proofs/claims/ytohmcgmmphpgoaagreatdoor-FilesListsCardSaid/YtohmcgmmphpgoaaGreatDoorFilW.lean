/- Plain: laws of files. -/
import Derived.Test.YtohmcgmmphpgoaaGreatDoorFilS
set_option linter.unusedSimpArgs false
set_option linter.unusedVariables false
namespace Go.Proofs.YtohmcgmmphpgoaaGreatDoor
open Go.RowKit Go.Tri
theorem samePairs_eq (x y : List P2) (hx : x.length ≤ 100000000) : rSamePairs x y = some (decide (x = y)) := by
  unfold rSamePairs
  by_cases hl : (x.length : Int) = (y.length : Int)
  · rw [if_pos hl]
    refine bind_run (fun k (s : Int) => s = (k : Int) ∧ ∀ j, j < k → x.getD j ([], []) = y.getD j ([], [])) (fun r => (r = .inl () ∧ x = y) ∨ (r = .inr false ∧ x ≠ y)) x.length ⟨rfl, fun j hj => by omega⟩ ?_ ?_ ?_
    · rintro k _ hk ⟨rfl, hne⟩
      rw [if_pos (by omega), idxO_getD ([], []) rfl hk, idxO_getD ([], []) rfl (show k < y.length by omega)]
      simp only [Option.bind_some]
      by_cases e1 : (x.getD k ([], [])).1 = (y.getD k ([], [])).1
      · rw [if_pos e1]
        by_cases e2 : (x.getD k ([], [])).2 = (y.getD k ([], [])).2
        · rw [if_pos e2, i64_id (by omega) (by omega)]
          exact .inl ⟨_, rfl, rfl, fun j hj => by
            by_cases ej : j = k
            · subst ej; exact Prod.ext e1 e2
            · exact hne j (by omega)⟩
        · rw [if_neg e2]
          exact .inr ⟨_, rfl, .inr ⟨rfl, fun h => e2 (by rw [h])⟩⟩
      · rw [if_neg e1]
        exact .inr ⟨_, rfl, .inr ⟨rfl, fun h => e1 (by rw [h])⟩⟩
    · rintro _ ⟨rfl, hne⟩
      refine ⟨.inl (), ?_, .inl ⟨rfl, List.ext_getElem (by omega) fun j h1 h2 => ?_⟩⟩
      · rw [if_neg (by omega)]
      · have := hne j h1
        simpa [List.getD_eq_getElem?_getD, List.getElem?_eq_getElem h1, List.getElem?_eq_getElem h2] using this
    · rintro _ (⟨rfl, h1⟩ | ⟨rfl, h1⟩)
      · simp [h1]
      · simp [h1]
  · rw [if_neg hl, decide_eq_false fun h => hl (by rw [h])]
theorem sameT_eq (x y : List (List UInt8)) (hx : x.length ≤ 1000000) : rSameT x y = some (decide (x = y)) := by
  have : rSameT x y = m_slices_Equal___string_string_ x y := rfl
  rw [this, equalT_eq x y hx]
theorem sameAns_eq (a b : Ans) (h : a.2.2.2.length ≤ 1000000) : rSameAns a b = some (decide (a = b)) := by
  obtain ⟨a1, a2, a3, a4⟩ := a
  obtain ⟨b1, b2, b3, b4⟩ := b
  simp only at h
  unfold rSameAns
  simp only
  by_cases h1 : a1 = b1
  · rw [if_pos h1]
    by_cases h2 : a2 = b2
    · rw [if_pos h2]
      by_cases h3 : a3 = b3
      · rw [if_pos h3, sameT_eq _ _ h]
        simp [h1, h2, h3]
      · rw [if_neg h3]; simp [h3]
    · rw [if_neg h2]; simp [h2]
  · rw [if_neg h1]; simp [h1]
theorem great_eq (L : List P2) : rGreat L = some true ∨ (rGreat L = some false ∧ (∀ x ∈ L, x.1.length ≤ 8000 ∧ x.2.length ≤ 8000)) := by
  unfold rGreat
  refine bind_runP (C := fun o => o = some true ∨ (o = some false ∧ ∀ x ∈ L, x.1.length ≤ 8000 ∧ x.2.length ≤ 8000)) (fun k (s : Int × Int) => s.2 = (k : Int) ∧ 8 * (k : Int) ≤ s.1 ∧ s.1 ≤ 30000 ∧ k ≤ 1001 ∧ k ≤ L.length ∧ ∀ j (hj : j < L.length), j < k → L[j].1.length ≤ 8000 ∧ L[j].2.length ≤ 8000) (fun r => r = .inr true ∨ (∃ n : Int, r = .inl n ∧ (8000 < n ∨ ∀ x ∈ L, x.1.length ≤ 8000 ∧ x.2.length ≤ 8000))) (min L.length 1002) ⟨rfl, by omega, by omega, by omega, by omega, fun j hj hk => by omega⟩ ?_ ?_ ?_
  · rintro k ⟨n, i⟩ hk ⟨h1, h2, h3, h3', h4, h5⟩
    simp only at h1 h2 h3
    subst h1
    simp only
    have hkl : k < L.length := by omega
    rw [if_pos (by omega)]
    by_cases h6 : n ≤ 8000
    · rw [if_pos h6]
      simp only [idxO_get hkl, Option.bind_some]
      by_cases h7 : 8000 < (L[k].1.length : Int)
      · rw [if_pos h7]; exact .inr ⟨_, rfl, .inl rfl⟩
      · rw [if_neg h7]
        by_cases h8 : 8000 < (L[k].2.length : Int)
        · rw [if_pos h8]; exact .inr ⟨_, rfl, .inl rfl⟩
        · rw [if_neg h8]
          rw [i64_id (n := 8 + (L[k].1.length : Int)) (by omega) (by omega), i64_id (n := 8 + (L[k].1.length : Int) + (L[k].2.length : Int)) (by omega) (by omega), i64_id (n := n + (8 + (L[k].1.length : Int) + (L[k].2.length : Int))) (by omega) (by omega), i64_id (n := (k : Int) + 1) (by omega) (by omega)]
          refine .inl ⟨_, rfl, rfl, ?_, ?_, ?_, ?_, fun j hj hk2 => ?_⟩
          · simp only; omega
          · simp only; omega
          · omega
          · omega
          · by_cases e : j = k
            · subst e; omega
            · exact h5 j hj (by omega)
    · rw [if_neg h6]
      exact .inr ⟨_, rfl, .inr ⟨n, rfl, .inl (by omega)⟩⟩
  · rintro ⟨n, i⟩ ⟨h1, h2, h3, h3', h4, h5⟩
    simp only at h1 h2 h3
    subst h1
    simp only
    by_cases h0 : L.length ≤ 1001
    · rw [if_neg (by omega)]
      refine ⟨_, rfl, .inr ⟨n, rfl, .inr fun x hx => ?_⟩⟩
      obtain ⟨j, hj, rfl⟩ := List.getElem_of_mem hx
      exact h5 j hj (by omega)
    · omega
  · rintro _ (rfl | ⟨n, rfl, h | h⟩)
    · exact .inl rfl
    · exact .inl (by simp only [Sum.elim_inl]; rw [decide_eq_true h])
    · by_cases h8 : 8000 < n
      · exact .inl (by simp only [Sum.elim_inl]; rw [decide_eq_true h8])
      · exact .inr ⟨by simp only [Sum.elim_inl]; rw [decide_eq_false h8], h⟩
theorem greatOp_eq (o : Opr) : rGreatOp o = some true ∨ (rGreatOp o = some false ∧ o.2.1.length ≤ 400 ∧ o.2.2.1.length ≤ 400 ∧ o.2.2.2.2.2.length ≤ 400) := by
  unfold rGreatOp
  by_cases h1 : 400 < (o.2.1.length : Int)
  · rw [if_pos h1]; exact .inl rfl
  · rw [if_neg h1]
    by_cases h2 : 400 < (o.2.2.1.length : Int)
    · rw [if_pos h2]; exact .inl rfl
    · rw [if_neg h2]
      by_cases h3 : 400 < (o.2.2.2.2.2.length : Int)
      · rw [decide_eq_true h3]; exact .inl rfl
      · rw [decide_eq_false h3]; exact .inr ⟨rfl, by omega, by omega, by omega⟩
theorem lGreat_eq (L : List P2) (o : Opr) : lGreat L o = some true ∨ (lGreat L o = some false ∧ L.length ≤ 60 ∧ (∀ x ∈ L, x.1.length ≤ 8000 ∧ x.2.length ≤ 8000) ∧ o.2.1.length ≤ 400 ∧ o.2.2.1.length ≤ 400 ∧ o.2.2.2.2.2.length ≤ 400) := by
  unfold lGreat
  rcases great_eq L with h | ⟨h, hb⟩
  · rw [h]; exact .inl rfl
  · rw [h]
    simp only [Option.bind_some, Bool.false_eq_true, if_false]
    by_cases hl : 60 < (L.length : Int)
    · rw [if_pos hl]; exact .inl rfl
    · rw [if_neg hl]
      rcases greatOp_eq o with h2 | ⟨h2, h3⟩
      · rw [h2]; exact .inl rfl
      · rw [h2]; exact .inr ⟨rfl, by omega, hb, h3⟩
theorem opOk {o : Opr} (h1 : o.2.1.length ≤ 400) (h2 : o.2.2.1.length ≤ 400) (h3 : o.2.2.2.2.2.length ≤ 400) : OpOk o := ⟨by omega, by omega, by omega⟩
/-- Right files are told to be such. -/
theorem check_right {s : FS} (hs : Snd s) {n : Nat} (hc : Crd s n) (hn : n ≤ 250) : fCheck (prsF s) = some 0 := by
  obtain ⟨h1, h2, h3, h4⟩ := hs.prs hc (by omega)
  rcases fCheck_eq (prsF s) (by omega) (fun x hx => by have := h4 x hx; omega) with ⟨h, _⟩ | ⟨_, h⟩
  · exact h
  · exact absurd ⟨by rw [h2]; exact hs, by rw [h2]⟩ h
/-! ### The example -/
def s00 : FS := fset [47] (true, []) fnil
theorem s00_enum : Enum s00 [([47], (true, []))] := ⟨by simp, fun k => by
  unfold s00 fset fnil
  simp only [aget]
  by_cases h : k = [47]
  · rw [if_pos h, if_pos h.symm]
  · rw [if_neg h, if_neg (Ne.symm h)]⟩
theorem s00_crd : Crd s00 1 := ⟨_, s00_enum, by simp⟩
theorem s00_snd : Snd s00 := by
  have h : ∀ p f, s00 p = some f → p = [47] ∧ f = (true, []) := fun p f hp => by
    unfold s00 fset fnil at hp
    split at hp
    · rename_i e; exact ⟨e, (Option.some.inj hp).symm⟩
    · cases hp
  exact ⟨⟨[], rfl⟩, fun p f hp => by rw [(h p f hp).1]; rfl, fun p f hp => by rw [(h p f hp).2]; simp, fun p d hp => by have := (h p _ hp).2; injection this, fun p f hp hn => absurd (h p f hp).1 hn⟩
theorem fNew_eq : fNew = some (prsF s00) := by
  unfold fNew
  have := (s00_snd.prs s00_crd (by omega)).1
  show (sPairs s00).bind _ = _
  rw [this]; rfl
def sA : List UInt8 := [47, 97]
def sB : List UInt8 := [47, 97, 47, 98]
def s01 : FS := fset sA (true, []) s00
def s02 : FS := fset sB (false, []) s01
def s03 : FS := fset sB (false, [0, 0, 120, 121]) s02
theorem lk01 : rm s00 sA = 0 := by decide +kernel
theorem lk02 : rm s01 sB = 0 := by decide +kernel
theorem lk03 : rg s02 sB = ((false, []), 0) := by decide +kernel
theorem lk04 : rg s03 sB = ((false, [0, 0, 120, 121]), 0) := by decide +kernel
theorem lk05 : lk s03 [47] = ((true, []), 0) := by decide +kernel
theorem lk06 : lk s03 sA = ((true, []), 0) := by decide +kernel
theorem speaks_eq : lSpeaks = some true := by
  have k1 : Snd s01 := s00_snd.create lk01 true
  have c1 : Crd s01 2 := s00_crd.set _ _
  have k2 : Snd s02 := k1.create lk02 false
  have c2 : Crd s02 3 := c1.set _ _
  have k3 : Snd s03 := k2.write (p := sB) (d := []) rfl (by simp)
  have c3 : Crd s03 4 := c2.set _ _
  have d1 : doP s00 (2, sA, [], 0, 0, []) = ((0, 0, [], []), s01) := by
    unfold doP; simp only [lk01]; rfl
  have d2 : doP s01 (1, sB, [], 0, 0, []) = ((0, 0, [], []), s02) := by
    unfold doP; simp only [lk02]; rfl
  have d3 : doP s02 (3, sB, [], 2, 0, [120, 121]) = ((0, 2, [], []), s03) := by
    unfold doP wr; simp only [lk03]; rfl
  have d4 : (doP s03 (5, sB, [], 0, 9, [])).1 = (0, 4, [0, 0, 120, 121], []) := by
    unfold doP rdA; simp only [lk04]; rfl
  have hB := k3.below c3 (by omega)
  have hm : ∀ q f, s03 q = some f → q = sB ∨ q = sA ∨ q = [47] := fun q f hq => by
    unfold s03 s02 s01 s00 fset fnil at hq
    split at hq
    · rename_i e; exact .inl e
    · split at hq
      · rename_i e; exact .inr (.inl e)
      · split at hq
        · rename_i e; exact .inr (.inr e)
        · cases hq
  have hpB : par sB = sA := by decide +kernel
  have hpA : par sA = [47] := by decide +kernel
  have hbA : bas sA = [97] := by decide +kernel
  have bl1 : bl s03 [47] = [[97]] := by
    have h1 : ∀ x, x ∈ bl s03 [47] ↔ x = [97] := fun x => by
      rw [(hB [47]).mem]
      constructor
      · rintro ⟨q, f, h1, h2, h3, rfl⟩
        rcases hm q f h1 with rfl | rfl | rfl
        · rw [hpB] at h3; exact absurd h3 (by decide)
        · exact hbA
        · exact absurd rfl h2
      · rintro rfl
        exact ⟨sA, (true, []), rfl, by decide, hpA, hbA⟩
    have hn := (hB [47]).nd
    have h2 : (bl s03 [47]).Perm [[97]] := (List.perm_ext_iff_of_nodup hn (by simp)).2 fun x => by rw [h1]; simp
    exact List.perm_singleton.1 h2
  have bl2 : 0 < (bl s03 sA).length := List.length_pos_of_mem (((hB sA).mem (bas sB)).2 ⟨sB, (false, [0, 0, 120, 121]), rfl, by decide, hpB, rfl⟩)
  have d5 : (doP s03 (8, [47], [], 0, 0, [])).1 = (0, 1, [], [[97]]) := by
    unfold doP ls; simp only [lk05, bl1]; rfl
  have d6 : (doP s03 (7, sA, [], 0, 0, [])).1 = (95, 0, [], []) := by
    unfold doP rv; simp only [lk06, if_pos bl2]; rfl
  have n1 : nx s00 (2, sA, [], 0, 0, []) = s01 := by unfold nx; rw [d1]; rfl
  have n2 : nx s01 (1, sB, [], 0, 0, []) = s02 := by unfold nx; rw [d2]; rfl
  have n3 : nx s02 (3, sB, [], 2, 0, [120, 121]) = s03 := by unfold nx; rw [d3]; rfl
  unfold lSpeaks
  rw [fNew_eq]
  simp only [Option.bind_some]
  rw [show ([47, 97] : List UInt8) = sA from rfl, show ([47, 97, 47, 98] : List UInt8) = sB from rfl, fDo_eq s00_snd s00_crd (by omega) _ (opOk (by decide) (by decide) (by decide)), n1]
  simp only [Option.bind_some]
  rw [fDo_eq k1 c1 (by omega) _ (opOk (by decide) (by decide) (by decide)), n2, show u8O 120 = some 120 from rfl, show u8O 121 = some 121 from rfl]
  simp only [Option.bind_some]
  rw [fDo_eq k2 c2 (by omega) _ (opOk (by decide) (by decide) (by decide)), n3]
  simp only [Option.bind_some]
  rw [fDo_eq k3 c3 (by omega) _ (opOk (by decide) (by decide) (by decide)), fDo_eq k3 c3 (by omega) _ (opOk (by decide) (by decide) (by decide)), fDo_eq k3 c3 (by omega) _ (opOk (by decide) (by decide) (by decide))]
  simp only [Option.bind_some, d1, d2, d3, d4, d5, d6]
  rfl
/-! ### Errors change nothing -/
theorem doP_err {s : FS} {o : Opr} (h : (doP s o).1.1 ≠ 0) : (doP s o).1 = ((doP s o).1.1, 0, [], []) := by
  unfold doP at h ⊢
  split
  · rfl
  · rename_i h12
    rw [if_neg h12] at h
    split
    · rename_i h34
      rw [if_pos h34] at h
      unfold wr at h ⊢
      by_cases h1 : (rg s o.2.1).2 = 0
      · rw [if_pos h1] at h ⊢
        generalize (if o.1 = 3 then o.2.2.2.1 else o.2.2.2.2.1) = m at h ⊢
        by_cases g1 : m < 0
        · rw [if_pos g1]
        · rw [if_neg g1] at h ⊢
          by_cases g2 : 192 < m ∨ (o.1 = 3 ∧ 192 < o.2.2.2.1 + (o.2.2.2.2.2.length : Int))
          · rw [if_pos g2]
          · rw [if_neg g2] at h ⊢
            by_cases g3 : o.1 = 4
            · rw [if_pos g3]
            · rw [if_neg g3] at h
              exact absurd rfl h
      · rw [if_neg h1]
    · rename_i h34
      rw [if_neg h34] at h
      split
      · rename_i h5
        rw [if_pos h5] at h
        unfold rdA at h ⊢
        split
        · rename_i h1
          rw [if_pos h1] at h
          split
          · rfl
          · rename_i h2; rw [if_neg h2] at h; exact absurd rfl h
        · rfl
      · rename_i h5
        rw [if_neg h5] at h
        split
        · rfl
        · rename_i h6
          rw [if_neg h6] at h
          split
          · rfl
          · rename_i h7
            rw [if_neg h7] at h
            split
            · rename_i h8
              rw [if_pos h8] at h
              unfold ls at h ⊢
              split
              · rename_i h1
                rw [if_pos h1] at h
                split
                · rename_i h2; rw [if_pos h2] at h; exact absurd rfl h
                · rfl
              · rfl
            · rename_i h8
              rw [if_neg h8] at h
              split
              · rename_i h9
                rw [if_pos h9] at h
                unfold stt at h ⊢
                split
                · rename_i h1
                  rw [if_pos h1] at h
                  split
                  · rename_i h2; rw [if_pos h2] at h; exact absurd rfl h
                  · rename_i h2; rw [if_neg h2] at h; exact absurd rfl h
                · rfl
              · rfl
theorem nx_asks (s : FS) {o : Opr} (h : o.1 = 5 ∨ o.1 = 8 ∨ o.1 = 9) : nx s o = s := by
  unfold nx doP
  rcases h with h | h | h <;> simp [h]
theorem nx_err {s : FS} {o : Opr} (h : (doP s o).1.1 ≠ 0) : nx s o = s := by unfold nx; rw [if_neg h]
theorem doP_names {s : FS} (hs : Snd s) {n : Nat} (hc : Crd s n) (hn : n ≤ 1000000) (o : Opr) : (doP s o).1.2.2.2.length ≤ 6 := by
  unfold doP
  split
  · simp
  · split
    · unfold wr
      by_cases h1 : (rg s o.2.1).2 = 0
      · rw [if_pos h1]
        generalize (if o.1 = 3 then o.2.2.2.1 else o.2.2.2.2.1) = m
        by_cases g1 : m < 0
        · rw [if_pos g1]; simp
        · rw [if_neg g1]
          by_cases g2 : 192 < m ∨ (o.1 = 3 ∧ 192 < o.2.2.2.1 + (o.2.2.2.2.2.length : Int))
          · rw [if_pos g2]; simp
          · rw [if_neg g2]
            by_cases g3 : o.1 = 4
            · rw [if_pos g3]; simp
            · rw [if_neg g3]; simp
      · rw [if_neg h1]; simp
    · split
      · unfold rdA
        split
        · split <;> simp
        · simp
      · split
        · simp
        · split
          · simp
          · split
            · unfold ls
              split
              · split
                · simp; omega
                · simp
              · simp
            · split
              · unfold stt
                split
                · split <;> simp
                · simp
              · simp
/-- Pairs that a law is about: they are right files. -/
theorem law_start (L : List P2) (hl : L.length ≤ 60) (hb : ∀ x ∈ L, x.1.length ≤ 8000 ∧ x.2.length ≤ 8000) : fCheck L = some 22 ∨ (fCheck L = some 0 ∧ ∃ s, Snd s ∧ Crd s 60 ∧ prsF s = L) := by
  rcases fCheck_eq L (by omega) (fun x hx => by have := hb x hx; omega) with ⟨h1, h2, h3⟩ | ⟨h, _⟩
  · exact .inr ⟨h1, rdF L, h2, (rdF_crd L).mono hl, h3⟩
  · exact .inl h
theorem errors_true (L : List P2) (o : Opr) : lErrors L o = some true := by
  unfold lErrors
  rw [speaks_eq]
  simp only [Option.bind_some, Bool.not_true, Bool.false_eq_true, if_false]
  rcases lGreat_eq L o with h | ⟨h, hl, hb, o1, o2, o3⟩
  · rw [h]; rfl
  rw [h]
  simp only [Option.bind_some, Bool.false_eq_true, if_false]
  rcases law_start L hl hb with h2 | ⟨h2, s, hs, hc, rfl⟩
  · rw [h2]; rfl
  rw [h2]
  simp only [Option.bind_some, if_true]
  rw [fDo_eq hs hc (by omega) o (opOk o1 o2 o3)]
  simp only [Option.bind_some]
  obtain ⟨k1, k2⟩ := nx_ok hs hc (by omega) o
  have hlen := (k1.prs k2 (by omega)).2.2.1
  have hnm := doP_names hs hc (by omega) o
  have hsa := sameAns_eq ((doP s o).1.1, (doP s o).1.2.1, (doP s o).1.2.2.1, (doP s o).1.2.2.2) ((doP s o).1.1, 0, [], []) (by simp only; omega)
  simp only [hsa, Option.bind_some, samePairs_eq _ (prsF s) (show (prsF (nx s o)).length ≤ 100000000 by omega)]
  have hz : (doP s o).1.1 ≠ 0 → decide (((doP s o).1.1, (doP s o).1.2.1, (doP s o).1.2.2.1, (doP s o).1.2.2.2) = ((doP s o).1.1, (0 : Int), ([] : List UInt8), ([] : List (List UInt8)))) = true := fun h => decide_eq_true (doP_err h)
  have fin : ∀ h0 : nx s o = s, (if decide (prsF (nx s o) = prsF s) = true then (if (doP s o).1.1 = 0 then some true else some (decide (((doP s o).1.1, (doP s o).1.2.1, (doP s o).1.2.2.1, (doP s o).1.2.2.2) = ((doP s o).1.1, (0 : Int), ([] : List UInt8), ([] : List (List UInt8)))))) else some false) = some true := fun h0 => by
    rw [h0, if_pos (by simp)]
    split
    · rfl
    · rename_i hne; rw [hz hne]
  by_cases h5 : o.1 = 5
  · rw [if_pos h5]; exact fin (nx_asks s (.inl h5))
  rw [if_neg h5]
  by_cases h8 : o.1 = 8
  · rw [if_pos h8]; exact fin (nx_asks s (.inr (.inl h8)))
  rw [if_neg h8]
  by_cases h9 : o.1 = 9
  · rw [if_pos h9]; exact fin (nx_asks s (.inr (.inr h9)))
  rw [if_neg h9]
  by_cases h0 : (doP s o).1.1 = 0
  · rw [if_pos h0, check_right k1 k2 (by omega)]; rfl
  · rw [if_neg h0]; exact fin (nx_err h0)
end Go.Proofs.YtohmcgmmphpgoaaGreatDoor
