/- Plain: what an operation makes of a state. -/
import Derived.Test.YtnagibpmfabkjaaGreatDoorSpB
set_option linter.unusedSimpArgs false
set_option linter.unusedVariables false
namespace Go.Proofs.YtnagibpmfabkjaaGreatDoor
open Go.RowKit Go.Tri
theorem gtr_lss (a b : List UInt8) : gtrB a b = lssB b a := by
  unfold gtrB
  cases h : lssB b a with
  | true =>
    have h1 := (lss_iff b a).1 h
    cases h2 : lssB a b with
    | true => exact absurd (lt_tr h1 ((lss_iff a b).1 h2)) (lt_irr _)
    | false =>
      cases h3 : a == b with
      | true => rw [beq_iff_eq] at h3; rw [h3] at h1; exact absurd h1 (lt_irr _)
      | false => rfl
  | false =>
    rcases lt_or a b with h1 | h1 | h1
    · rw [(lss_iff a b).2 h1]; rfl
    · rw [h1]; simp
    · rw [(lss_iff b a).2 h1] at h; cases h
def lsP (s : SS) (T : List UInt8) : Ans := (0, (s.2.length : Int), [], ((s.2.map (·.1)).filter fun n => lssB T n).take 6)
theorem six_step (B : List (List UInt8)) (T : List UInt8) (k : Nat) (hk : k < B.length) : (if lssB T B[k] = true then (if ((((B.take k).filter fun n => lssB T n).take 6).length : Int) < 6 then (((B.take k).filter fun n => lssB T n).take 6) ++ [B[k]] else (((B.take k).filter fun n => lssB T n).take 6)) else (((B.take k).filter fun n => lssB T n).take 6)) = ((B.take (k + 1)).filter fun n => lssB T n).take 6 := by
  rw [List.take_succ_eq_append_getElem hk, List.filter_append]
  generalize (B.take k).filter (fun n => lssB T n) = F
  by_cases h : lssB T B[k] = true
  · rw [if_pos h, List.filter_cons, if_pos h, List.filter_nil]
    by_cases h2 : F.length < 6
    · rw [if_pos (by rw [List.length_take]; omega), List.take_of_length_le (by omega), List.take_of_length_le (by simp; omega)]
    · rw [if_neg (by rw [List.length_take]; omega), List.take_append_of_le_length (by omega)]
  · rw [if_neg h, List.filter_cons, if_neg h, List.filter_nil, List.append_nil]
theorem nList_eq (s : SS) (T : List UInt8) (h : s.2.length ≤ 100000) : nList s T = some (lsP s T) := by
  unfold nList
  refine bind_run (fun k (q : List (List UInt8) × Int) => q = ((((s.2.map (·.1)).take k).filter fun n => lssB T n).take 6, (k : Int))) (fun r => r = ((s.2.map (·.1)).filter fun n => lssB T n).take 6) s.2.length (by simp) ?_ ?_ ?_
  · rintro k _ hk rfl
    simp only
    rw [if_pos (by omega), idxO_get hk]
    simp only [Option.bind_some, gtr_lss]
    have hk' : k < (s.2.map (·.1)).length := by simpa using hk
    have hs := six_step (s.2.map (·.1)) T k hk'
    simp only [List.getElem_map] at hs
    refine .inl ⟨_, ?_, rfl⟩
    rw [← hs, i64_id (by omega) (by omega)]
    by_cases h1 : lssB T s.2[k].1 = true
    · rw [if_pos h1, if_pos h1]
      by_cases h2 : ((((((s.2.map (·.1)).take k).filter fun n => lssB T n).take 6).length : Nat) : Int) < 6
      · rw [if_pos h2, if_pos h2, appO_of (by rw [List.length_take]; simp; omega)]; rfl
      · rw [if_neg h2, if_neg h2]; rfl
    · rw [if_neg h1, if_neg h1]; rfl
  · rintro _ rfl
    simp only
    rw [if_neg (by omega), show (s.2.map (·.1)).take s.2.length = s.2.map (·.1) from List.take_of_length_le (by simp)]; exact ⟨_, rfl, rfl⟩
  · rintro _ rfl; rfl
/-- An operation, ahead of the look at the units. -/
noncomputable def opP (s : SS) (o : Opr) (gen : Int) : SS × Ans :=
  if o.1 = 10 ∨ o.1 = 11 ∨ o.1 = 12 then ((snP s o gen).2, ((snP s o gen).1, 0, [], []))
  else if o.1 = 13 then (s, lsP s o.2.2.1)
  else ((prsF (nx (rdF s.1) o), s.2), (doP (rdF s.1) o).1)
noncomputable def stP (s : SS) (o : Opr) (gen : Int) : SS × Ans :=
  if (opP s o gen).2.1 = 0 then (if 48 < unN (opP s o gen).1 then (s, (98, 0, [], [])) else opP s o gen) else (s, (opP s o gen).2)
theorem prs_len {s : FS} (hs : Snd s) {n : Nat} (hc : Crd s n) (hn : n ≤ 1000) : (prsF s).length ≤ 4 * n ∧ ∀ x ∈ prsF s, x.1.length ≤ 100 ∧ x.2.length ≤ 100 := (hs.prs hc (by omega)).2.2
theorem RF.of {s : FS} (hs : Snd s) {n : Nat} (hc : Crd s n) (hn : n ≤ 1000) : RF (prsF s) := by
  have h := (hs.prs hc (by omega)).2.1
  exact ⟨by rw [h]; exact hs, by rw [h]⟩
theorem RF.nx {L : List P2} (h : RF L) (hl : L.length ≤ 100) (o : Opr) : RF (prsF (nx (rdF L) o)) ∧ (prsF (nx (rdF L) o)).length ≤ 4 * (L.length + 1) := by
  obtain ⟨h1, h2⟩ := nx_ok h.1 (rdF_crd L) (by omega) o
  exact ⟨RF.of h1 h2 (by omega), (prs_len h1 h2 (by omega)).1⟩
/-- Right but for its units, which are not many. -/
structure Rt' (s : SS) : Prop where
  fl : RF s.1
  fln : s.1.length ≤ 400
  sn : ∀ x ∈ s.2, RF x.2.2 ∧ isNm x.1 = true ∧ x.2.2.length ≤ 400
  srt : s.2.Pairwise fun a b => a.1 < b.1
  len : s.2.length ≤ 400
theorem Rt.w {s : SS} (h : Rt s) : Rt' s := by
  obtain ⟨h1, h2, h3⟩ := h.len
  exact ⟨h.fl, by omega, fun x hx => ⟨(h.sn x hx).1, (h.sn x hx).2, by have := h3 x hx; omega⟩, h.srt, by omega⟩
theorem Rt'.rt {s : SS} (h : Rt' s) (hn : unN s ≤ 48) : Rt s := ⟨h.fl, fun x hx => ⟨(h.sn x hx).1, (h.sn x hx).2.1⟩, h.srt, hn⟩
theorem Rt'.small {s : SS} (h : Rt' s) : SmS s := ⟨h.fl.small (by have := h.fln; omega), by have := h.len; omega, fun x hx => ⟨(h.sn x hx).1.small (by have := (h.sn x hx).2.2; omega), by have := isNm_len (h.sn x hx).2.1; omega⟩⟩
theorem mem_lo {xs : List Sn} {T : List UInt8} {x : Sn} (h : x ∈ loS xs T) : x ∈ xs := (List.mem_filter.1 h).1
theorem mem_hi {xs : List Sn} {T : List UInt8} {x : Sn} (h : x ∈ hiS xs T) : x ∈ xs := (List.mem_filter.1 h).1
theorem snP_rt {s : SS} (h : Rt s) (o : Opr) (gen : Int) : Rt' (snP s o gen).2 := by
  have hw := h.w
  obtain ⟨l1, l2, l3⟩ := h.len
  have hlo : (loS s.2 o.2.1).length ≤ s.2.length := List.length_filter_le _ _
  have hhi : (hiS s.2 o.2.1).length ≤ s.2.length := List.length_filter_le _ _
  have slo : (loS s.2 o.2.1).Pairwise fun a b => a.1 < b.1 := h.srt.filter _
  have shi : (hiS s.2 o.2.1).Pairwise fun a b => a.1 < b.1 := h.srt.filter _
  unfold snP
  split
  · exact hw
  · rename_i hnm
    split
    · rename_i x hx
      split
      · exact hw
      · split
        · refine ⟨hw.fl, hw.fln, fun y hy => ?_, ?_, ?_⟩
          · rcases List.mem_append.1 hy with hy | hy
            · exact hw.sn y (mem_lo hy)
            · exact hw.sn y (mem_hi hy)
          · exact List.pairwise_append.2 ⟨slo, shi, fun a ha b hb => lt_tr (lo_lt a ha) (hi_lt b hb)⟩
          · simp only [List.length_append]; omega
        · have hm := (at_eq hx).2
          exact ⟨(h.sn x hm).1, by have := l3 x hm; simp only; omega, hw.sn, hw.srt, hw.len⟩
    · split
      · refine ⟨hw.fl, hw.fln, fun y hy => ?_, ?_, ?_⟩
        · rcases List.mem_append.1 hy with hy | hy
          · exact hw.sn y (mem_lo hy)
          · rcases List.mem_cons.1 hy with rfl | hy
            · exact ⟨h.fl, by simpa using hnm, hw.fln⟩
            · exact hw.sn y (mem_hi hy)
        · refine List.pairwise_append.2 ⟨slo, List.pairwise_cons.2 ⟨fun b hb => hi_lt b hb, shi⟩, fun a ha b hb => ?_⟩
          rcases List.mem_cons.1 hb with rfl | hb
          · exact lo_lt a ha
          · exact lt_tr (lo_lt a ha) (hi_lt b hb)
        · simp only [List.length_append, List.length_cons]; omega
      · exact hw
theorem opP_rt {s : SS} (h : Rt s) (o : Opr) (gen : Int) : Rt' (opP s o gen).1 := by
  have hw := h.w
  obtain ⟨l1, l2, l3⟩ := h.len
  unfold opP
  split
  · exact snP_rt h o gen
  · split
    · exact hw
    · obtain ⟨h1, h2⟩ := h.fl.nx (by omega) o
      exact ⟨h1, by simp only; omega, hw.sn, hw.srt, hw.len⟩
theorem stP_rt {s : SS} (h : Rt s) (o : Opr) (gen : Int) : Rt (stP s o gen).1 := by
  unfold stP
  split
  · split
    · exact h
    · exact (opP_rt h o gen).rt (by omega)
  · exact h
theorem stP_err {s : SS} {o : Opr} {gen : Int} (h : (stP s o gen).2.1 ≠ 0) : (stP s o gen).1 = s := by
  unfold stP at h ⊢
  split
  · rename_i h1
    rw [if_pos h1] at h
    split
    · rfl
    · rename_i h2
      rw [if_neg h2] at h; exact absurd h1 h
  · rfl
theorem nDo_eq {s : SS} (h : Rt s) (o : Opr) (gen : Int) (ho : OpOk o) : nDo s o gen = some (stP s o gen) := by
  obtain ⟨l1, l2, l3⟩ := h.len
  have hc := nCopied_eq s h.small
  have hfd : fDo s.1 o = some (prsF (nx (rdF s.1) o), (doP (rdF s.1) o).1) := by
    have := fDo_eq h.fl.1 (rdF_crd s.1) (by omega) o ho
    rw [h.fl.2] at this; exact this
  have hrt := opP_rt h o gen
  unfold nDo
  rw [hc]
  simp only [Option.bind_some]
  have key : ∀ (K : (SS × Ans × SS) → Option (SS × Ans)), (Option.bind (α := (SS × Ans × SS)) (Option.bind (α := Bool) (if o.1 = 10 then (some (decide (o.1 = 10))) else (Option.bind (α := Bool) (if o.1 = 11 then (some (decide (o.1 = 11))) else (some (decide (o.1 = 12)))) fun r104 => some r104)) fun r101 => Option.bind (α := (SS × Ans × SS)) (if r101 = true then ((nSnap (s.1, s.2) (o.1, o.2.1, o.2.2.1, o.2.2.2.1, o.2.2.2.2.1, o.2.2.2.2.2) gen).bind fun x143 =>
      some (x143.2, (x143.1, 0, ([] : List UInt8), ([] : List (List UInt8))), s))
      else (Option.bind (α := (SS × Ans × SS)) (if o.1 = 13 then ((nList s o.2.2.1).bind fun x162 => some ((s.1, s.2), x162, s))
      else ((fDo s.1 (o.1, o.2.1, o.2.2.1, o.2.2.2.1, o.2.2.2.2.1, o.2.2.2.2.2)).bind fun x168 => some ((x168.1, (s.1, s.2).2), x168.2, (s.1, s.2)))) fun r158 => some (r158.1, r158.2.1, r158.2.2))) fun r139 => some (r139.1, r139.2.1, r139.2.2)) fun r94 => K r94) = K ((opP s o gen).1, (opP s o gen).2, s) := by
    intro K
    have e : ∀ (b : Bool) (X Y : Option (SS × Ans × SS)), (Option.bind (α := Bool) (if o.1 = 10 then (some (decide (o.1 = 10))) else (Option.bind (α := Bool) (if o.1 = 11 then (some (decide (o.1 = 11))) else (some (decide (o.1 = 12)))) fun r104 => some r104)) fun r101 => Option.bind (α := (SS × Ans × SS)) (if r101 = true then X else Y) fun r139 => some (r139.1, r139.2.1, r139.2.2)) = (if o.1 = 10 ∨ o.1 = 11 ∨ o.1 = 12 then X else Y) := by
      intro b X Y
      have e2 : ∀ Z : Option (SS × Ans × SS), (Option.bind Z fun r139 => some (r139.1, r139.2.1, r139.2.2)) = Z := fun Z => by cases Z <;> rfl
      by_cases h1 : o.1 = 10
      · simp only [h1, if_pos, Option.bind_some, decide_true, e2, true_or]
      · by_cases h2 : o.1 = 11
        · rw [if_neg h1, if_pos h2]
          simp only [Option.bind_some, h2, decide_true, if_pos, e2, true_or, or_true]
        · rw [if_neg h1, if_neg h2]
          simp only [Option.bind_some, e2, h1, h2, false_or, decide_eq_true_eq]
    rw [e true]
    unfold opP
    by_cases h1 : o.1 = 10 ∨ o.1 = 11 ∨ o.1 = 12
    · rw [if_pos h1, if_pos h1, show nSnap (s.1, s.2) (o.1, o.2.1, o.2.2.1, o.2.2.2.1, o.2.2.2.2.1, o.2.2.2.2.2) gen = some (snP s o gen) from nSnap_eq s o gen h.srt h.small (by have := ho.p; omega)]
      rfl
    · rw [if_neg h1, if_neg h1]
      by_cases h2 : o.1 = 13
      · rw [if_pos h2, if_pos h2, nList_eq s _ (by omega)]; rfl
      · rw [if_neg h2, if_neg h2, show fDo s.1 (o.1, o.2.1, o.2.2.1, o.2.2.2.1, o.2.2.2.2.1, o.2.2.2.2.2) = _ from hfd]; rfl
  refine (key _).trans ?_
  simp only
  unfold stP
  by_cases h1 : (opP s o gen).2.1 = 0
  · rw [if_pos h1, if_pos h1, show nUnits ((opP s o gen).1.1, (opP s o gen).1.2) = _ from nUnits_eq (opP s o gen).1 hrt.small]
    simp only [Option.bind_some]
    by_cases h2 : 48 < unN (opP s o gen).1
    · rw [if_pos (by omega), if_pos h2]
      simp only [Option.bind_some]
      rw [if_neg (by decide), hc]; rfl
    · rw [if_neg (by omega), if_neg h2]
      simp only [Option.bind_some]
      rw [if_pos h1]
  · rw [if_neg h1, if_neg h1, if_neg h1, hc]; rfl
end Go.Proofs.YtnagibpmfabkjaaGreatDoor
