/- Plain: a tree in a bag is gone through. -/
import Derived.Test.YtnjemlkcamdbfaaGreatDoorTrM
set_option linter.unusedSimpArgs false
set_option linter.unusedVariables false
namespace Go.Proofs.YtnjemlkcamdbfaaGreatDoor
open Go.RowKit Go.Tri
/-- May a node stand here? -/
def okN (n : Nd) (lv : Int) (met : List Pr) : Bool :=
  (decide (lv < 0) || decide (n.1 = lv)) && (if n.1 = 0 then (match n.2.1 with | [] => decide (lv < 0) | p :: _ => match met.getLast? with | none => true | some q => decide (Lib.compareBytes q.1 p.1 < 0)) else true)
def kdS (rec : List UInt8 → Int → List Pr → List Pr ⊕ Int) (lv : Int) : List Pr → List Pr → List Pr ⊕ Int
  | [], met => .inl met
  | k :: ks, met => (rec k.2 lv met).elim (fun m => kdS rec lv ks m) .inr
def wkS (bag : Mp) : Nat → List UInt8 → Int → List Pr → List Pr ⊕ Int
  | 0, _, _, _ => .inr 99
  | f + 1, h, lv, met => match bag h with
    | none => .inr 51
    | some b => if Hs b = h then (match strN b with
      | none => .inr 22
      | some n => if okN n lv met = true then kdS (wkS bag f) (n.1 - 1) n.2.2 (met ++ n.2.1) else .inr 22) else .inr 51
/-- The pairs of the leaf at a digest. -/
def lf (bag : Mp) (h : List UInt8) : List Pr := match bag h with | none => [] | some b => match strN b with | none => [] | some n => n.2.1
/-- What was met: leaves of the bag, each once. -/
def Met (bag : Mp) (met : List Pr) : Prop := ∃ vs : List (List UInt8), vs.Nodup ∧ (∀ h ∈ vs, lf bag h ≠ []) ∧ met = vs.flatMap (lf bag) ∧ Rises met
/-- A bag that isn't great. -/
def Fits (bag : Mp) : Prop := (∀ h b, bag h = some b → b.length ≤ 30000) ∧ ∀ vs : List (List UInt8), vs.Nodup → (vs.map (fun h => ((bag h).getD []).length)).sum ≤ 30000
theorem Met.nil (bag : Mp) : Met bag [] := ⟨[], List.nodup_nil, fun _ h => (by cases h), rfl, List.Pairwise.nil⟩
theorem strN_right {b : List UInt8} {n : Nd} (h : strN b = some n) : rightN n = true ∧ n.2.1.all okP = true ∧ enc n = b ∧ b.length ≤ 470 := by
  have h1 := wrN_ok (strN_some h).2.1
  exact ⟨h1.1, h1.2.1, h1.2.2.2.1, h1.2.2.2.2⟩
theorem flat_ge : ∀ l : List Pr, 4 * l.length ≤ (l.flatMap encP).length
  | [] => by simp
  | p :: l => by have := flat_ge l; have := encP_len p; simp only [List.flatMap_cons, List.length_append, List.length_cons]; omega
theorem flat_mem : ∀ (l : List Pr) (p : Pr), p ∈ l → p.1.length + p.2.length ≤ (l.flatMap encP).length
  | q :: l, p, h => by
    have := encP_len q
    simp only [List.flatMap_cons, List.length_append]
    rcases List.mem_cons.1 h with rfl | h
    · omega
    · have := flat_mem l p h; omega
theorem node_small {b : List UInt8} {n : Nd} (h : strN b = some n) : 4 * n.2.1.length ≤ b.length ∧ ∀ p ∈ n.2.1, p.1.length + p.2.length ≤ 470 := by
  obtain ⟨_, _, he, hl⟩ := strN_right h
  have e : b.length = (hd3 n).length + (n.2.1.flatMap encP).length + (n.2.2.flatMap encK).length := by rw [← he]; unfold enc; simp only [List.length_append]
  refine ⟨by have := flat_ge n.2.1; omega, fun p hp => by have := flat_mem n.2.1 p hp; omega⟩
theorem lf_len (bag : Mp) (h : List UInt8) : 4 * (lf bag h).length ≤ ((bag h).getD []).length := by
  unfold lf
  cases hb : bag h with
  | none => simp
  | some b =>
    simp only [Option.getD_some]
    cases hn : strN b with
    | none => simp
    | some n => exact (node_small hn).1
theorem lf_mem {bag : Mp} {h : List UInt8} {p : Pr} (hp : p ∈ lf bag h) : p.1.length + p.2.length ≤ 470 := by
  unfold lf at hp
  cases hb : bag h with
  | none => rw [hb] at hp; cases hp
  | some b =>
    rw [hb] at hp
    cases hn : strN b with
    | none => simp only [hn] at hp; cases hp
    | some n => simp only [hn] at hp; exact (node_small hn).2 p hp
theorem flat_lf (bag : Mp) : ∀ vs : List (List UInt8), 4 * (vs.flatMap (lf bag)).length ≤ (vs.map (fun h => ((bag h).getD []).length)).sum
  | [] => by simp
  | h :: vs => by have := flat_lf bag vs; have := lf_len bag h; simp only [List.flatMap_cons, List.length_append, List.map_cons, List.sum_cons]; omega
theorem Met.small {bag : Mp} (hF : Fits bag) {met : List Pr} (h : Met bag met) : met.length ≤ 7500 ∧ SmallP met ∧ risB met = true := by
  obtain ⟨vs, h1, h2, h3, h4⟩ := h
  have h5 := flat_lf bag vs
  have h6 := hF.2 vs h1
  rw [← h3] at h5
  refine ⟨by omega, ⟨by omega, fun p hp => ?_⟩, (risB_iff met).2 h4⟩
  rw [h3] at hp
  obtain ⟨h, _, hp⟩ := List.mem_flatMap.1 hp
  have := lf_mem hp
  omega
theorem rises_last : ∀ {l : List Pr} {q p : Pr}, Rises l → l.getLast? = some q → p ∈ l → p = q ∨ ltK p.1 q.1
  | [a], q, p, _, hq, hp => by simp at hq hp; subst hq hp; exact .inl rfl
  | a :: b :: l, q, p, h, hq, hp => by
    rw [List.getLast?_cons_cons] at hq
    rcases List.mem_cons.1 hp with rfl | hp
    · exact .inr (List.rel_of_pairwise_cons h (List.mem_of_getLast? hq))
    · exact rises_last (List.pairwise_cons.1 h).2 hq hp
theorem lf_eq {bag : Mp} {h b : List UInt8} {n : Nd} (hb : bag h = some b) (hn : strN b = some n) : lf bag h = n.2.1 := by
  unfold lf; rw [hb]; simp only [hn]
theorem Met.leaf {bag : Mp} {met : List Pr} (h : Met bag met) {d b : List UInt8} {n : Nd} {lv : Int} (hb : bag d = some b) (hn : strN b = some n) (hok : okN n lv met = true) : Met bag (met ++ n.2.1) := by
  obtain ⟨vs, h1, h2, h3, h4⟩ := h
  have hlf := lf_eq hb hn
  have hR := rightN_lv (strN_right hn).1
  unfold okN at hok
  rw [Bool.and_eq_true] at hok
  by_cases h0 : n.1 = 0
  · have hr := (hR.2.2.1 h0).2.2
    have hok := hok.2
    rw [if_pos h0] at hok
    cases hp : n.2.1 with
    | nil => rw [List.append_nil]; exact ⟨vs, h1, h2, h3, h4⟩
    | cons p r =>
      rw [hp] at hok hlf hr
      simp only at hok
      have hall : ∀ q ∈ met, ltK q.1 p.1 := by
        intro q hq
        cases hl : met.getLast? with
        | none => rw [List.getLast?_eq_none_iff] at hl; subst hl; cases hq
        | some z =>
          rw [hl] at hok
          simp only [decide_eq_true_eq] at hok
          rcases rises_last h4 hl hq with rfl | h
          · exact hok
          · exact cmp_trans _ _ _ h hok
      refine ⟨vs ++ [d], ?_, fun x hx => ?_, ?_, ?_⟩
      · refine List.nodup_append.2 ⟨h1, by simp, fun a ha b hb => ?_⟩
        simp at hb; subst hb
        rintro rfl
        have : p ∈ met := by rw [h3]; exact List.mem_flatMap.2 ⟨a, ha, by rw [hlf]; simp⟩
        have := hall p this
        unfold ltK at this
        rw [cmp_self] at this; omega
      · rcases List.mem_append.1 hx with hx | hx
        · exact h2 x hx
        · simp at hx; subst hx; rw [hlf]; simp
      · rw [List.flatMap_append, ← h3]; simp [hlf]
      · refine List.pairwise_append.2 ⟨h4, hr, fun a ha c hc => ?_⟩
        rcases List.mem_cons.1 hc with rfl | hc
        · exact hall a ha
        · exact cmp_trans _ _ _ (hall a ha) (List.rel_of_pairwise_cons hr hc)
  · rw [(hR.2.2.2 h0).1, List.append_nil]
    exact ⟨vs, h1, h2, h3, h4⟩
theorem kdS_met {bag : Mp} {rec : List UInt8 → Int → List Pr → List Pr ⊕ Int} {lv : Int} (hrec : ∀ h met m, Met bag met → rec h lv met = .inl m → Met bag m) : ∀ (ks : List Pr) (met m : List Pr), Met bag met → kdS rec lv ks met = .inl m → Met bag m
  | [], met, m, h, e => by cases e; exact h
  | k :: ks, met, m, h, e => by
    unfold kdS at e
    cases hx : rec k.2 lv met with
    | inr z => rw [hx] at e; cases e
    | inl m1 => rw [hx] at e; exact kdS_met hrec ks m1 m (hrec _ _ _ h hx) e
theorem wkS_met {bag : Mp} : ∀ (f : Nat) (h : List UInt8) (lv : Int) (met m : List Pr), Met bag met → wkS bag f h lv met = .inl m → Met bag m
  | 0, _, _, _, _, _, e => by cases e
  | f + 1, h, lv, met, m, hM, e => by
    unfold wkS at e
    cases hb : bag h with
    | none => rw [hb] at e; cases e
    | some b =>
      rw [hb] at e
      simp only at e
      split at e
      · cases hn : strN b with
        | none => rw [hn] at e; cases e
        | some n =>
          rw [hn] at e
          simp only at e
          split at e
          · rename_i hok
            exact kdS_met (fun h met m h1 h2 => wkS_met f h _ met m h1 h2) _ _ _ (hM.leaf hb hn hok) e
          · cases e
      · cases e
/-- What is wrong has a number. -/
theorem kdS_err {rec : List UInt8 → Int → List Pr → List Pr ⊕ Int} {lv : Int} (hrec : ∀ h met e, rec h lv met = .inr e → e ≠ 0) : ∀ (ks : List Pr) (met : List Pr) (e : Int), kdS rec lv ks met = .inr e → e ≠ 0
  | [], met, e, h => by cases h
  | k :: ks, met, e, h => by
    unfold kdS at h
    cases hx : rec k.2 lv met with
    | inr z => rw [hx] at h; cases h; exact hrec _ _ _ hx
    | inl m1 => rw [hx] at h; exact kdS_err hrec ks m1 e h
theorem wkS_err {bag : Mp} : ∀ (f : Nat) (h : List UInt8) (lv : Int) (met : List Pr) (e : Int), wkS bag f h lv met = .inr e → e ≠ 0
  | 0, _, _, _, _, e => by cases e; decide
  | f + 1, h, lv, met, x, e => by
    unfold wkS at e
    cases hb : bag h with
    | none => rw [hb] at e; cases e; decide
    | some b =>
      rw [hb] at e
      simp only at e
      split at e
      · cases hn : strN b with
        | none => rw [hn] at e; cases e; decide
        | some n =>
          rw [hn] at e
          simp only at e
          split at e
          · exact kdS_err (fun h met e h2 => wkS_err f h _ met e h2) _ _ _ e
          · cases e; decide
      · cases e; decide
end Go.Proofs.YtnjemlkcamdbfaaGreatDoor
