/- Plain: the list of snapshots comes whole. -/
import Derived.Test.YtnagibpmfabkjaaGreatDoorSpD
set_option linter.unusedSimpArgs false
set_option linter.unusedVariables false
namespace Go.Proofs.YtnagibpmfabkjaaGreatDoor
open Go.RowKit Go.Tri
def lastM (B : List (List UInt8)) (m : Nat) : List UInt8 := if m = 0 then [] else B.getD (m - 1) []
theorem filter_lss {B : List (List UInt8)} (hs : B.Pairwise (· < ·)) (hn : ∀ x ∈ B, x ≠ []) {m : Nat} (hm : m ≤ B.length) : (B.filter fun x => lssB (lastM B m) x) = B.drop m := by
  have hB : (B.filter fun x => lssB (lastM B m) x) = ((B.take m ++ B.drop m).filter fun x => lssB (lastM B m) x) := by rw [List.take_append_drop]
  rw [hB, List.filter_append, List.filter_eq_nil_iff.2 ?_, List.filter_eq_self.2 ?_, List.nil_append]
  · intro x hx
    rw [lss_iff]
    unfold lastM
    by_cases h0 : m = 0
    · rw [if_pos h0]
      have := hn x (List.mem_of_mem_drop hx)
      cases x with
      | nil => exact absurd rfl this
      | cons a l => exact List.nil_lt_cons a l
    · rw [if_neg h0]
      obtain ⟨j, hj, rfl⟩ := List.getElem_of_mem hx
      rw [List.length_drop] at hj
      rw [List.getElem_drop, List.getD_eq_getElem?_getD, List.getElem?_eq_getElem (show m - 1 < B.length by omega), Option.getD_some]
      exact List.pairwise_iff_getElem.1 hs (m - 1) (m + j) (by omega) (by omega) (by omega)
  · intro x hx
    rw [lss_iff]
    unfold lastM
    obtain ⟨j, hj, rfl⟩ := List.getElem_of_mem hx
    rw [List.length_take] at hj
    rw [if_neg (by omega), List.getElem_take, List.getD_eq_getElem?_getD, List.getElem?_eq_getElem (show m - 1 < B.length by omega), Option.getD_some]
    intro h
    by_cases e : m - 1 = j
    · have h2 : B[m - 1] = B[j] := by congr 1
      rw [h2] at h
      exact lt_irr _ h
    · exact lt_irr _ (lt_tr h (List.pairwise_iff_getElem.1 hs j (m - 1) (by omega) (by omega) (by omega)))
theorem st_list {s : SS} (h : Rt s) (T : List UInt8) (g : Int) : stP s (13, [], T, 0, 0, []) g = (s, lsP s T) := by
  have e : opP s (13, [], T, 0, 0, []) g = (s, lsP s T) := by
    unfold opP
    rw [if_neg (by simp), if_pos rfl]
  unfold stP
  rw [e, if_pos (show (lsP s T).1 = 0 from rfl), if_neg (by have := h.un; simp only; omega)]
theorem lists_true (s : SS) : lLists s = some true := by
  unfold lLists
  rw [speaks_eq]
  simp only [Option.bind_some]
  rw [if_neg (by simp)]
  rcases greatS_eq s with h | ⟨h, hs, hl1, hl2⟩
  · rw [h]; rfl
  · rw [h]
    simp only [Option.bind_some, Bool.false_eq_true, if_false]
    rcases nCheck_eq s hs with ⟨h1, hr⟩ | ⟨h1, _⟩
    · rw [h1]
      simp only [Option.bind_some]
      rw [if_pos trivial]
      obtain ⟨B, hB⟩ : ∃ B, B = s.2.map (·.1) := ⟨_, rfl⟩
      have hBl : B.length = s.2.length := by rw [hB]; simp
      have hst : B.Pairwise (· < ·) := by rw [hB, List.pairwise_map]; exact hr.srt
      have hne : ∀ x ∈ B, x ≠ [] := fun x hx => by
        rw [hB] at hx
        obtain ⟨y, hy, rfl⟩ := List.mem_map.1 hx
        exact isNm_nil (hr.sn y hy).2
      have hlen := hr.len
      refine bind_run (fun k (q : SS × List UInt8 × List (List UInt8) × Int) => q = (s, lastM B (min (6 * k) B.length), B.take (6 * k), (k : Int)) ∧ 6 * k ≤ B.length + 5) (fun r => r = .inl (s, B)) 40 ⟨by simp [lastM], by omega⟩ ?_ ?_ ?_
      · rintro k _ hk ⟨rfl, hk2⟩
        simp only
        have hlast : lsP s (lastM B (min (6 * k) B.length)) = (0, (s.2.length : Int), [], (B.drop (6 * k)).take 6) := by
          unfold lsP
          rw [← hB, filter_lss hst hne (Nat.min_le_right _ _)]
          have : B.drop (min (6 * k) B.length) = B.drop (6 * k) := by
            by_cases e : 6 * k ≤ B.length
            · rw [Nat.min_eq_left e]
            · rw [Nat.min_eq_right (by omega), List.drop_length, List.drop_of_length_le (by omega)]
          rw [this]
        rw [if_pos (by omega), nDo_eq hr _ 1 (opOk (by simp) (by
          simp only
          unfold lastM
          split
          · simp
          · rw [List.getD_eq_getElem?_getD]
            cases e : B[min (6 * k) B.length - 1]? with
            | none => simp
            | some x =>
              have hx := List.mem_of_getElem? e
              rw [hB] at hx
              obtain ⟨y, hy, rfl⟩ := List.mem_map.1 hx
              have := isNm_len (hr.sn y hy).2
              simp only [Option.getD_some]; omega) (by simp)), st_list hr, hlast]
        simp only [Option.bind_some]
        rw [if_pos trivial, if_pos trivial, if_neg (by rw [List.length_take]; omega), show rSameS s (s.1, s.2) = _ from sameS_eq s s hs]
        simp only [Option.bind_some]
        rw [if_neg (by simp)]
        by_cases h0 : ((((B.drop (6 * k)).take 6).length : Nat) : Int) = 0
        · rw [if_pos h0]
          have : B.length ≤ 6 * k := by rw [List.length_take, List.length_drop] at h0; omega
          exact .inr ⟨_, rfl, by rw [List.take_of_length_le this]⟩
        · rw [if_neg h0, appO_of (by rw [List.length_take, List.length_take]; omega)]
          have hlt : 6 * k < B.length := by rw [List.length_take, List.length_drop] at h0; omega
          have hd : ((B.drop (6 * k)).take 6).length = min 6 (B.length - 6 * k) := by rw [List.length_take, List.length_drop]
          simp only [Option.bind_some]
          rw [i64_id (n := ((((B.drop (6 * k)).take 6).length : Nat) : Int) - 1) (by omega) (by omega), show ((((B.drop (6 * k)).take 6).length : Nat) : Int) - 1 = (((((B.drop (6 * k)).take 6).length - 1 : Nat)) : Int) by omega, idxO_get (show ((B.drop (6 * k)).take 6).length - 1 < ((B.drop (6 * k)).take 6).length by omega)]
          simp only [Option.bind_some]
          refine .inl ⟨_, rfl, ?_, by omega⟩
          rw [i64_id (by omega) (by omega)]
          refine Prod.ext rfl (Prod.ext ?_ (Prod.ext ?_ rfl))
          · simp only
            rw [List.getElem_take, List.getElem_drop]
            unfold lastM
            rw [if_neg (by omega), List.getD_eq_getElem?_getD, List.getElem?_eq_getElem (show min (6 * (k + 1)) B.length - 1 < B.length by omega), Option.getD_some]
            congr 1; omega
          · simp only
            rw [show 6 * (k + 1) = 6 * k + 6 by omega, List.take_add]
      · rintro _ ⟨rfl, hk2⟩
        simp only
        omega
      · rintro _ rfl
        simp only [Sum.elim_inl]
        rw [if_pos (by omega)]
        refine bind_run (fun k (q : Int) => q = (k : Int)) (fun r => r = .inl ()) s.2.length rfl ?_ ?_ ?_
        · rintro k _ hk rfl
          rw [if_pos (by omega), idxO_get hk, idxO_get (show k < B.length by omega)]
          simp only [Option.bind_some]
          rw [if_pos (by simp [hB]), i64_id (by omega) (by omega)]
          exact .inl ⟨_, rfl, rfl⟩
        · rintro _ rfl
          exact ⟨_, by rw [if_neg (by omega)], rfl⟩
        · rintro _ rfl; rfl
    · rw [h1]; rfl
end Go.Proofs.YtnagibpmfabkjaaGreatDoor
