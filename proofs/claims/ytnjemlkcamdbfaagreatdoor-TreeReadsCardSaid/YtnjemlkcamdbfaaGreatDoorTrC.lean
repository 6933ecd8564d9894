/- Plain: the document writes a node just so. -/
import Derived.Test.YtnjemlkcamdbfaaGreatDoorTrB
set_option linter.unusedSimpArgs false
set_option linter.unusedVariables false
namespace Go.Proofs.YtnjemlkcamdbfaaGreatDoor
open Go.RowKit Go.Tri
theorem flat_len : ∀ l : List Pr, (∀ p ∈ l, p.1.length ≤ 100000 ∧ p.2.length ≤ 100000) → (l.flatMap encP).length ≤ 210000 * l.length ∧ (l.flatMap encK).length ≤ 210000 * l.length := by
  intro l
  induction l with
  | nil => simp
  | cons p l ih =>
    intro hh
    have h3 := hh p List.mem_cons_self
    have h4 := ih (fun q hq => hh q (List.mem_cons_of_mem _ hq))
    rw [List.flatMap_cons, List.flatMap_cons, List.length_append, List.length_append, encP_len, encK_len, List.length_cons]; omega
theorem rWrite_eq (n : Nd) (h1 : SmallP n.2.1) (h2 : SmallP n.2.2) : m_triremeref07_Write n = some (wrN n) := by
  unfold m_triremeref07_Write wrN
  rw [rRight_eq n (by have := h1.1; omega) (by have := h2.1; omega)]
  simp only [Option.bind_some]
  by_cases hr : rightN n = true
  · simp only [hr, Bool.not_true, Bool.false_eq_true, if_false, Bool.true_eq_false]
    rw [show u8O 84 = some 84 from rfl, u8w, u8w]
    simp only [Option.bind_some]
    rw [loop_xs0 n.2.1 (fun s i => (s, i)) stP (fun s => .inl s) (fun i s => s.length ≤ 3 + 210000 * i) (by simp) (fun i s p hp hI => ?_) (fun s hI => by rw [if_neg (by omega)])]
    · rw [runP_eq]
      simp only [Option.bind_some]
      by_cases hp : n.2.1.all okP = true
      · rw [if_pos hp]
        simp only [Sum.elim_inl, hp, Bool.true_and]
        rw [loop_xs0 n.2.2 (fun s i => (s, i)) stK (fun s => .inl s) (fun i s => s.length ≤ 3 + 210000 * 100000 + 210000 * i) (by
          have := (flat_len _ h1.2).1
          have := h1.1
          simp only [List.length_append, List.length_cons, List.length_nil]; omega) (fun i s p hp hI => ?_) (fun s hI => by rw [if_neg (by omega)])]
        · rw [runK_eq]
          simp only [Option.bind_some]
          by_cases hk : n.2.2.all okK = true
          · rw [if_pos hk]
            simp only [Sum.elim_inl, hk, if_true]
            have e : [84, u8 (IntKind.u8.wrap n.1), u8 (IntKind.u8.wrap (IntKind.i64.wrap ((n.2.1.length : Int) + (n.2.2.length : Int))))] ++ n.2.1.flatMap encP ++ n.2.2.flatMap encK = enc n := rfl
            rw [e]
            by_cases h : 470 < (enc n).length
            · rw [if_pos (by omega), if_pos h]
            · rw [if_neg (by omega), if_neg h]
          · rw [if_neg hk]
            simp [hk]
        · obtain ⟨g1, g2, g3, g4⟩ := h2.at hp
          simp only
          rw [if_pos (by omega), idxO_nat hp]
          simp only [Option.bind_some]
          rw [rText_eq _ (by omega)]
          simp only [Option.bind_some]
          unfold stK okK
          by_cases h : p.1.length < 65536
          · simp only [h, if_true, decide_true, Sum.elim_inl]
            rw [appO_of (by simp [tx_len]; omega)]
            simp only [Option.bind_some]
            rw [appO_of (by simp [tx_len]; omega)]
            simp only [Option.bind_some]
            rw [i64_id (by omega) (by omega)]
            refine ⟨by simp [encK], fun s' hs' => ?_⟩
            cases hs'
            rw [List.length_append, encK_len]; omega
          · simp [h]
      · rw [if_neg hp]
        simp [hp]
    · obtain ⟨g1, g2, g3, g4⟩ := h1.at hp
      simp only
      rw [if_pos (by omega), idxO_nat hp]
      simp only [Option.bind_some]
      rw [rText_eq _ (by omega), rText_eq _ (by omega)]
      simp only [Option.bind_some]
      unfold stP okP
      by_cases h : p.1.length < 65536
      · simp only [h, if_true, decide_true, Bool.true_and]
        by_cases h' : p.2.length < 65536
        · simp only [h', if_true, decide_true, Sum.elim_inl]
          rw [appO_of (by simp [tx_len]; omega)]
          simp only [Option.bind_some]
          rw [appO_of (by simp [tx_len]; omega)]
          simp only [Option.bind_some]
          rw [i64_id (by omega) (by omega)]
          refine ⟨by simp [encP], fun s' hs' => ?_⟩
          cases hs'
          rw [List.length_append, encP_len]; omega
        · simp [h']
      · simp [h]
  · simp only [Bool.not_eq_true] at hr
    simp [hr]
end Go.Proofs.YtnjemlkcamdbfaaGreatDoor
