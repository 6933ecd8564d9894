/- Plain: the program and the document go through a tree alike. -/
import Derived.Test.YtnjemlkcamdbfaaGreatDoorTrN
set_option linter.unusedSimpArgs false
set_option linter.unusedVariables false
namespace Go.Proofs.YtnjemlkcamdbfaaGreatDoor
open Go.RowKit Go.Tri
theorem kids_loop {ρ : Type} {f : List Pr × Int → Option ((List Pr × Int) ⊕ ρ)} (ks : List Pr) (rec : List UInt8 → Int → List Pr → List Pr ⊕ Int) (lv : Int) (I : List Pr → Prop) (Q : List Pr ⊕ Int → ρ → Prop)
    (he : ∀ m, I m → ∃ r, f (m, (ks.length : Int)) = some (.inr r) ∧ Q (.inl m) r)
    (hs : ∀ (i : Nat) m k, ks[i]? = some k → I m → (∀ m', rec k.2 lv m = .inl m' → f (m, (i : Int)) = some (.inl (m', ((i + 1 : Nat) : Int))) ∧ I m') ∧ (∀ e, rec k.2 lv m = .inr e → ∃ r, f (m, (i : Int)) = some (.inr r) ∧ Q (.inr e) r)) :
    ∀ (j i : Nat) (m : List Pr), i + j = ks.length → I m → ∃ r, loopO f (m, (i : Int)) = some r ∧ Q (kdS rec lv (ks.drop i) m) r
  | 0, i, m, h, hi => by
    obtain rfl : i = ks.length := by omega
    obtain ⟨r, h1, h2⟩ := he m hi
    rw [loopO_eq, h1, List.drop_length]
    exact ⟨r, rfl, h2⟩
  | j + 1, i, m, h, hi => by
    have hlt : i < ks.length := by omega
    obtain ⟨h1, h2⟩ := hs i m ks[i] (List.getElem?_eq_getElem hlt) hi
    rw [loopO_eq, List.drop_eq_getElem_cons hlt]
    simp only [kdS]
    cases hx : rec ks[i].2 lv m with
    | inl m' =>
      obtain ⟨h3, h4⟩ := h1 m' hx
      rw [h3]
      exact kids_loop ks rec lv I Q he hs j (i + 1) m' (by omega) h4
    | inr e =>
      obtain ⟨r, h3, h4⟩ := h2 e hx
      rw [h3]
      exact ⟨r, rfl, h4⟩
def folB (met l : List Pr) (root : Bool) : Bool := match l with | [] => root | p :: _ => match met.getLast? with | none => true | some q => decide (Lib.compareBytes q.1 p.1 < 0)
theorem last_idx {α : Type} {l : List α} (h : l ≠ []) (hl : l.length ≤ 1000000) : ∃ q, l.getLast? = some q ∧ idxO l (IntKind.i64.wrap ((l.length : Int) - 1)) = some q := by
  have h1 : 0 < l.length := by cases l with | nil => exact absurd rfl h | cons _ _ => simp
  refine ⟨l.getLast h, List.getLast?_eq_some_getLast h, ?_⟩
  rw [sub1 (by omega) (by omega), idxO_get (by omega), List.getLast_eq_getElem]
theorem trFollows_eq (met l : List Pr) (root : Bool) (hm : met.length ≤ 100000) : trFollows met l root = some (folB met l root) := by
  unfold trFollows folB
  cases l with
  | nil => rfl
  | cons p l =>
    rw [if_neg (by simp; omega)]
    by_cases h : met = []
    · subst h; rfl
    · obtain ⟨q, h1, h2⟩ := last_idx h (by omega)
      rw [if_neg (by intro e; exact h (List.eq_nil_of_length_eq_zero (by omega))), h2, h1]
      simp [idxO, m_tree_compare, cmpB]
theorem okN_fol (n : Nd) (lv : Int) (met : List Pr) : okN n lv met = ((decide (lv < 0) || decide (n.1 = lv)) && (if n.1 = 0 then folB met n.2.1 (decide (lv < 0)) else true)) := by
  unfold okN folB
  cases n.2.1 <;> rfl
/-- The program's looks at a node. -/
theorem look_eq (n : Nd) (lv : Int) (met : List Pr) (hm : met.length ≤ 100000) :
    (if 0 ≤ lv then (if n.1 = lv then (if n.1 = 0 then ((trFollows met n.2.1 (decide (lv < 0))).bind fun x28 => some (n.2.1, !x28)) else (some (n.2.1, false))) else (some (n.2.1, true)))
     else (if n.1 = 0 then ((trFollows met n.2.1 (decide (lv < 0))).bind fun x30 => some (n.2.1, !x30)) else (some (n.2.1, false)))) = some (n.2.1, !okN n lv met) := by
  rw [trFollows_eq met n.2.1 _ hm, okN_fol]
  by_cases h1 : 0 ≤ lv
  · rw [if_pos h1]
    have h2 : decide (lv < 0) = false := by simp; omega
    rw [h2]
    by_cases h3 : n.1 = lv
    · rw [if_pos h3]
      by_cases h4 : n.1 = 0
      · rw [if_pos h4, if_pos h4]; simp [h3]
      · rw [if_neg h4, if_neg h4]; simp [h3]
    · rw [if_neg h3]; simp [h3]
  · rw [if_neg h1]
    have h2 : decide (lv < 0) = true := by simp; omega
    rw [h2]
    by_cases h4 : n.1 = 0
    · rw [if_pos h4, if_pos h4]; simp
    · rw [if_neg h4, if_neg h4]; simp
theorem ndRead_str (b : List UInt8) (hb : b.length ≤ 30000) : ndRead b = some (match strN b with | some n => (n, 0) | none => (zNd, 22)) := by
  rw [ndRead_eq b hb, read_agree]
  cases strN b <;> rfl
theorem tWalk_eq {bag : Mp} (hF : Fits bag) : ∀ (f : Nat) (h : List UInt8) (lv : Int) (met : List Pr), Met bag met → (0 ≤ lv → lv < f) → (lv < 0 → 17 ≤ f) → ∃ x, trWalkF f (bag, met) h lv = some ((wkS bag f h lv met).elim (fun m => (0, m)) (fun e => (e, x)))
  | 0, h, lv, met, hM, h1, h2 => by
    exfalso
    by_cases hh : 0 ≤ lv
    · have := h1 hh; omega
    · have := h2 (by omega); omega
  | f + 1, h, lv, met, hM, h1, h2 => by
    have hs := hM.small hF
    show ∃ x, trWalkS (trWalkF f) (bag, met) h lv = _
    unfold trWalkS wkS
    simp only
    cases hb : bag h with
    | none => exact ⟨met, rfl⟩
    | some b =>
      have hbl := hF.1 h b hb
      simp only [Option.isSome_some, Bool.not_true, Bool.false_eq_true, if_false, Option.getD_some]
      rw [shaSum_eq b (by omega)]
      simp only [Option.bind_some]
      by_cases hh : Hs b = h
      case neg => rw [if_neg hh, if_neg hh]; exact ⟨met, rfl⟩
      rw [if_pos hh, if_pos hh, ndRead_str b hbl]
      simp only [Option.bind_some]
      cases hn : strN b with
      | none => exact ⟨met, rfl⟩
      | some n =>
        have hR := rightN_lv (strN_right hn).1
        simp only [if_true]
        rw [look_eq n lv met (by omega)]
        simp only [Option.bind_some]
        cases hok : okN n lv met with
        | false => exact ⟨met, rfl⟩
        | true =>
          simp only [Bool.not_true, Bool.false_eq_true, if_false, if_true]
          have hM2 := hM.leaf hb hn hok
          have hs2 := hM2.small hF
          rw [appO_of (by have := hs2.1; simp at this; omega)]
          simp only [Option.bind_some]
          rw [i64_id (n := n.1 - 1) (by omega) (by omega)]
          have hlv : 0 ≤ lv → n.1 = lv := fun hl => by
            unfold okN at hok
            rw [Bool.and_eq_true, Bool.or_eq_true] at hok
            rcases hok.1 with h | h
            · have := of_decide_eq_true h; omega
            · exact of_decide_eq_true h
          refine Exists.elim (kids_loop (ρ := List Pr ⊕ (Int × List Pr)) (f := fun (s88 : T_tree_walker_o × Int) => if s88.2 < ((n.2.2).length : Int) then ((idxO n.2.2 s88.2).bind fun x90 =>
              (trWalkF f (bag, s88.1) x90.2 (n.1 - 1)).bind fun x97 => if x97.1 = 0 then (some (.inl (x97.2, IntKind.i64.wrap (s88.2 + 1)))) else (some (.inr (.inr (x97.1, x97.2))))) else (some (.inr (.inl s88.1))))
            n.2.2 (wkS bag f) (n.1 - 1) (Met bag) (fun z r => ∃ x, r = z.elim (fun m => .inl m) (fun e => .inr (e, x))) (fun m hm => ⟨_, by rw [if_neg (by simp)]; rfl, m, rfl⟩) (fun i m k hk hm => ?_) n.2.2.length 0 (met ++ n.2.1) (by omega) hM2) (fun r hr => ?_)
          rotate_left
          · obtain ⟨hr1, x, hr2⟩ := hr
            refine ⟨x, ?_⟩
            refine (congrArg (fun o => Option.bind o _) hr1).trans ?_
            rw [hr2]
            simp only [List.drop_zero, Option.bind_some]
            cases kdS (wkS bag f) (n.1 - 1) n.2.2 (met ++ n.2.1) <;> rfl
          · have hi := (List.getElem?_eq_some_iff.1 hk).1
            have hn0 : n.1 ≠ 0 := fun e => by rw [(hR.2.2.1 e).1] at hi; simp at hi
            have h4 := (hR.2.2.2 hn0).2.2
            obtain ⟨x, hx⟩ := tWalk_eq hF f k.2 (n.1 - 1) m hm (fun _ => by
              by_cases hl : 0 ≤ lv
              · have := h1 hl; have := hlv hl; omega
              · have := h2 (by omega); omega) (fun h => by omega)
            simp only
            rw [if_pos (by omega), idxO_nat hk]
            simp only [Option.bind_some]
            rw [hx]
            refine ⟨fun m' hm' => ?_, fun e he => ?_⟩
            · rw [hm']
              simp only [Sum.elim_inl, Option.bind_some, if_true]
              rw [i64_id (by omega) (by omega)]
              exact ⟨rfl, wkS_met f _ _ _ _ hm hm'⟩
            · rw [he]
              simp only [Sum.elim_inr, Option.bind_some]
              rw [if_neg (wkS_err f _ _ _ _ he)]
              exact ⟨_, rfl, x, rfl⟩
theorem rColl_eq {bag : Mp} (hF : Fits bag) : ∀ (f : Nat) (h : List UInt8) (lv : Int) (met : List Pr), Met bag met → (0 ≤ lv → lv < f) → (lv < 0 → 17 ≤ f) → rCollectF f bag h lv met = some ((wkS bag f h lv met).elim (fun m => (m, 0)) (fun e => ([], e)))
  | 0, h, lv, met, hM, h1, h2 => by
    exfalso
    by_cases hh : 0 ≤ lv
    · have := h1 hh; omega
    · have := h2 (by omega); omega
  | f + 1, h, lv, met, hM, h1, h2 => by
    have hs := hM.small hF
    show rCollectS (rCollectF f) bag h lv met = _
    unfold rCollectS wkS
    cases hb : bag h with
    | none => rfl
    | some b =>
      have hbl := hF.1 h b hb
      simp only [Option.isSome_some, Bool.not_true, Bool.false_eq_true, if_false, Option.getD_some]
      rw [rSum_eq b (by omega)]
      simp only [Option.bind_some]
      by_cases hh : Hs b = h
      case neg => rw [if_neg hh, if_neg hh]; rfl
      rw [if_pos hh, if_pos hh, r07Read_eq b hbl]
      simp only [Option.bind_some]
      cases hn : strN b with
      | none => rfl
      | some n =>
        have hR := rightN_lv (strN_right hn).1
        simp only [if_true]
        have hloop : Met bag (met ++ n.2.1) → (0 ≤ lv → n.1 = lv) → (Option.bind (α := ((List T_api_Pair)) ⊕ ((List T_api_Pair) × Int)) (loopO (fun (s139 : (List T_api_Pair) × Int) => if s139.2 < ((n.2.2).length : Int) then ((idxO n.2.2 s139.2).bind fun x142 =>
              (rCollectF f bag x142.2 (IntKind.i64.wrap (n.1 - 1)) s139.1).bind fun x148 => if x148.2 = 0 then (some (.inl (x148.1, IntKind.i64.wrap (s139.2 + 1)))) else (some (.inr (.inr (([] : List T_api_Pair), x148.2))))) else (some (.inr (.inl s139.1)))) (met ++ n.2.1, 0)) fun o113 => Sum.elim (fun r113 => some (r113, 0)) (fun rv => some rv) o113) =
            some ((kdS (wkS bag f) (n.1 - 1) n.2.2 (met ++ n.2.1)).elim (fun m => (m, 0)) (fun e => ([], e))) := by
          intro hM2 hlv
          rw [i64_id (n := n.1 - 1) (by omega) (by omega)]
          refine Exists.elim (kids_loop (ρ := List Pr ⊕ (List Pr × Int)) (f := fun (s139 : (List T_api_Pair) × Int) => if s139.2 < ((n.2.2).length : Int) then ((idxO n.2.2 s139.2).bind fun x142 =>
              (rCollectF f bag x142.2 (n.1 - 1) s139.1).bind fun x148 => if x148.2 = 0 then (some (.inl (x148.1, IntKind.i64.wrap (s139.2 + 1)))) else (some (.inr (.inr (([] : List T_api_Pair), x148.2))))) else (some (.inr (.inl s139.1))))
            n.2.2 (wkS bag f) (n.1 - 1) (Met bag) (fun z r => r = z.elim (fun m => .inl m) (fun e => .inr ([], e))) (fun m hm => ⟨_, by rw [if_neg (by simp)]; rfl, rfl⟩) (fun i m k hk hm => ?_) n.2.2.length 0 (met ++ n.2.1) (by omega) hM2) (fun r hr => ?_)
          rotate_left
          · obtain ⟨hr1, hr2⟩ := hr
            refine (congrArg (fun o => Option.bind o _) hr1).trans ?_
            rw [hr2]
            simp only [List.drop_zero, Option.bind_some]
            cases kdS (wkS bag f) (n.1 - 1) n.2.2 (met ++ n.2.1) <;> rfl
          · have hi := (List.getElem?_eq_some_iff.1 hk).1
            have hn0 : n.1 ≠ 0 := fun e => by rw [(hR.2.2.1 e).1] at hi; simp at hi
            have h4 := (hR.2.2.2 hn0).2.2
            have hx := rColl_eq hF f k.2 (n.1 - 1) m hm (fun _ => by
              by_cases hl : 0 ≤ lv
              · have := h1 hl; have := hlv hl; omega
              · have := h2 (by omega); omega) (fun h => by omega)
            simp only
            rw [if_pos (by omega), idxO_nat hk]
            simp only [Option.bind_some]
            rw [hx]
            refine ⟨fun m' hm' => ?_, fun e he => ?_⟩
            · rw [hm']
              simp only [Sum.elim_inl, Option.bind_some, if_true]
              rw [i64_id (by omega) (by omega)]
              exact ⟨rfl, wkS_met f _ _ _ _ hm hm'⟩
            · rw [he]
              simp only [Sum.elim_inr, Option.bind_some]
              rw [if_neg (wkS_err f _ _ _ _ he)]
              exact ⟨_, rfl, rfl⟩
        have hok := okN_fol n lv met
        unfold folB at hok
        -- the level
        by_cases hlv : 0 ≤ lv ∧ n.1 ≠ lv
        · have hf : okN n lv met = false := by rw [hok]; simp [hlv.2]; omega
          rw [hf, if_pos hlv.1]
          simp [hlv.2]
        have hlv' : 0 ≤ lv → n.1 = lv := fun h => Classical.byContradiction fun h2 => hlv ⟨h, h2⟩
        have hd : (decide (lv < 0) || decide (n.1 = lv)) = true := by
          by_cases h : 0 ≤ lv
          · simp [hlv' h]
          · simp; omega
        rw [hd, Bool.true_and] at hok
        have e1 : (if 0 ≤ lv then (some ((n.1, n.2.1, n.2.2), !decide (n.1 = lv))) else (some (n, false))) = some (n, false) := by
          by_cases h : 0 ≤ lv
          · rw [if_pos h]; simp [hlv' h]; rw [← hlv' h]
          · rw [if_neg h]
        rw [e1]
        simp only [Option.bind_some, Bool.false_eq_true, if_false]
        by_cases h0 : n.1 = 0
        · rw [if_pos h0] at hok ⊢
          cases hp : n.2.1 with
          | nil =>
            rw [hp] at hok hloop
            simp only at hok
            simp only [List.length_nil, Int.ofNat_zero, if_true, Option.bind_some]
            by_cases h : 0 ≤ lv
            · have : okN n lv met = false := by rw [hok]; simp; omega
              rw [this]; simp [h]
            · have hk : okN n lv met = true := by rw [hok]; simp; omega
              have hM2 := hM.leaf hb hn hk
              rw [hp] at hM2
              rw [hk, if_neg (by simpa using h), if_neg (by simp), appO_of (by simp; omega)]
              simp only [Option.bind_some, List.nil_append, if_true]
              rw [appO_of (by simp; omega)]
              simp only [Option.bind_some]
              exact hloop hM2 hlv'
          | cons p r =>
            rw [hp] at hok hloop
            simp only at hok
            rw [if_neg (by simp; omega)]
            simp only [Option.bind_some, Bool.false_eq_true, if_false]
            rw [if_pos (by simp)]
            by_cases hm : met = []
            · subst hm
              have hk : okN n lv [] = true := by rw [hok]; rfl
              have hM2 := hM.leaf hb hn hk
              have hs2 := (hM2.small hF).1
              rw [hp] at hM2 hs2
              rw [hk, if_neg (by simp), appO_of (by simp)]
              simp only [Option.bind_some, List.nil_append, if_true]
              rw [appO_of (by simp at hs2 ⊢; omega)]
              simp only [Option.bind_some]
              exact hloop hM2 hlv'
            · obtain ⟨q, hq1, hq2⟩ := last_idx hm (by omega)
              have hml : 0 < met.length := by cases met with | nil => exact absurd rfl hm | cons _ _ => simp
              rw [hq1] at hok
              simp only at hok
              rw [if_pos (by omega), show idxO (p :: r) 0 = some p from rfl, hq2]
              simp only [Option.bind_some, leq_cmp, decide_eq_true_eq]
              have hsw := cmp_swap q.1 p.1
              by_cases hc : Lib.compareBytes p.1 q.1 ≤ 0
              · have hk : okN n lv met = false := by rw [hok]; simp; omega
                rw [hk, if_pos hc]; simp
              · have hk : okN n lv met = true := by rw [hok]; simp; omega
                have hM2 := hM.leaf hb hn hk
                have hs2 := (hM2.small hF).1
                rw [hp] at hM2 hs2
                rw [hk, if_neg hc, appO_of (by simp; omega)]
                simp only [Option.bind_some, List.nil_append, if_true]
                rw [appO_of (by simp at hs2 ⊢; omega)]
                simp only [Option.bind_some]
                exact hloop hM2 hlv'
        · rw [if_neg h0] at hok ⊢
          have hM2 := hM.leaf hb hn hok
          have hp := (hR.2.2.2 h0).1
          rw [hp] at hloop hM2
          simp only [Option.bind_some, Bool.false_eq_true, if_false]
          rw [hok, hp, if_neg (by simp), appO_of (by simp; omega)]
          simp only [Option.bind_some, List.nil_append, if_true]
          rw [appO_of (by simp; omega)]
          simp only [Option.bind_some]
          exact hloop hM2 hlv'
end Go.Proofs.YtnjemlkcamdbfaaGreatDoor
