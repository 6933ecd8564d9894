/- Plain: laws on snapshots. -/
import Derived.Test.YtnagibpmfabkjaaGreatDoorSpC
set_option linter.unusedSimpArgs false
set_option linter.unusedVariables false
namespace Go.Proofs.YtnagibpmfabkjaaGreatDoor
open Go.RowKit Go.Tri
theorem sameS_eq (a b : SS) (ha : SmS a) : rSameS a b = some (decide (a = b)) := by
  obtain ⟨a1, a2⟩ := a
  obtain ⟨b1, b2⟩ := b
  obtain ⟨h1, h2, h3⟩ := ha
  simp only at h1 h2 h3
  unfold rSameS
  simp only
  rw [samePairs_eq _ _ (by have := h1.1; omega)]
  simp only [Option.bind_some]
  by_cases e1 : a1 = b1
  · rw [if_neg (by simp [e1])]
    by_cases hl : (a2.length : Int) = (b2.length : Int)
    · rw [if_pos hl]
      have hl' : a2.length = b2.length := by omega
      refine bind_run (fun k (s : Int) => s = (k : Int) ∧ ∀ j (h : j < a2.length), j < k → a2[j] = b2[j]'(by omega)) (fun r => (r = .inl () ∧ a2 = b2) ∨ (r = .inr false ∧ a2 ≠ b2)) a2.length ⟨rfl, fun j _ hj => by omega⟩ ?_ ?_ ?_
      · rintro k _ hk ⟨rfl, hne⟩
        rw [if_pos (by omega), idxO_get hk, idxO_get (show k < b2.length by omega)]
        simp only [Option.bind_some]
        have bad : a2[k] ≠ b2[k] → a2 ≠ b2 := fun h e => h (by subst e; rfl)
        by_cases e2 : a2[k].1 = b2[k].1
        · rw [if_pos e2]
          by_cases e3 : a2[k].2.1 = b2[k].2.1
          · rw [if_pos e3, samePairs_eq _ _ (by have := (h3 _ (List.getElem_mem hk)).1.1; omega)]
            simp only [Option.bind_some]
            by_cases e4 : a2[k].2.2 = b2[k].2.2
            · rw [if_neg (by simp [e4]), i64_id (by omega) (by omega)]
              exact .inl ⟨_, rfl, rfl, fun j hj hjk => by
                by_cases ej : j = k
                · subst ej; exact Prod.ext e2 (Prod.ext e3 e4)
                · exact hne j hj (by omega)⟩
            · rw [if_pos (by simp [e4])]
              exact .inr ⟨_, rfl, .inr ⟨rfl, bad fun h => e4 (by rw [h])⟩⟩
          · rw [if_neg e3]
            exact .inr ⟨_, rfl, .inr ⟨rfl, bad fun h => e3 (by rw [h])⟩⟩
        · rw [if_neg e2]
          exact .inr ⟨_, rfl, .inr ⟨rfl, bad fun h => e2 (by rw [h])⟩⟩
      · rintro _ ⟨rfl, hne⟩
        refine ⟨.inl (), by rw [if_neg (by omega)], .inl ⟨rfl, List.ext_getElem hl' fun j h1 h2 => hne j h1 h1⟩⟩
      · rintro _ (⟨rfl, h⟩ | ⟨rfl, h⟩)
        · simp [e1, h]
        · simp [e1, h]
    · rw [if_neg hl, decide_eq_false fun h => hl (by rw [(Prod.mk.inj h).2])]
  · rw [if_pos (by simp [e1]), decide_eq_false fun h => e1 (Prod.mk.inj h).1]
theorem greatS_eq (s : SS) : rGreatS s = some true ∨ (rGreatS s = some false ∧ SmS s ∧ s.1.length ≤ 60 ∧ s.2.length ≤ 40) := by
  unfold rGreatS
  rcases great_eq s.1 with h | ⟨h, hb⟩
  · rw [h]; exact .inl rfl
  · rw [h]
    simp only [Option.bind_some, Bool.false_eq_true, if_false]
    by_cases h1 : 60 < (s.1.length : Int)
    · rw [if_pos h1]; exact .inl rfl
    · rw [if_neg h1]
      by_cases h2 : 40 < (s.2.length : Int)
      · rw [if_pos h2]; exact .inl rfl
      · rw [if_neg h2]
        refine bind_runP (C := fun o => o = some true ∨ (o = some false ∧ SmS s ∧ s.1.length ≤ 60 ∧ s.2.length ≤ 40)) (fun k (q : Int) => q = (k : Int) ∧ ∀ j (hj : j < s.2.length), j < k → SmL s.2[j].2.2 ∧ s.2[j].1.length ≤ 1000) (fun r => r = .inr true ∨ (r = .inl () ∧ ∀ x ∈ s.2, SmL x.2.2 ∧ x.1.length ≤ 1000)) s.2.length ⟨rfl, fun j _ hj => by omega⟩ ?_ ?_ ?_
        · rintro k _ hk ⟨rfl, hq⟩
          rw [if_pos (by omega), idxO_get hk]
          simp only [Option.bind_some]
          rcases great_eq s.2[k].2.2 with h3 | ⟨h3, h4⟩
          · rw [h3]; exact .inr ⟨_, rfl, .inl rfl⟩
          · rw [h3]
            simp only [Option.bind_some, Bool.false_eq_true, if_false]
            by_cases h5 : 60 < (s.2[k].2.2.length : Int)
            · rw [if_pos h5]; exact .inr ⟨_, rfl, .inl rfl⟩
            · rw [if_neg h5]
              by_cases h6 : 50 < (s.2[k].1.length : Int)
              · rw [if_pos h6]; exact .inr ⟨_, rfl, .inl rfl⟩
              · rw [if_neg h6, i64_id (by omega) (by omega)]
                refine .inl ⟨_, rfl, rfl, fun j hj hjk => ?_⟩
                by_cases e : j = k
                · subst e; exact ⟨⟨by omega, fun x hx => by have := h4 x hx; omega⟩, by omega⟩
                · exact hq j hj (by omega)
        · rintro _ ⟨rfl, hq⟩
          rw [if_neg (by omega)]
          refine ⟨_, rfl, .inr ⟨rfl, fun x hx => ?_⟩⟩
          obtain ⟨j, hj, rfl⟩ := List.getElem_of_mem hx
          exact hq j hj hj
        · rintro _ (rfl | ⟨rfl, hq⟩)
          · exact .inl rfl
          · exact .inr ⟨rfl, ⟨⟨by omega, fun x hx => by have := hb x hx; omega⟩, by omega, hq⟩, by omega, by omega⟩
/-! ### The example -/
theorem s00_prs : prsF s00 = [([110, 47], [100])] := by
  rw [prs_of s00_snd s00_enum (by simp)]; decide +kernel
def s1f : FS := fset [47, 97] (false, []) s00
theorem s1f_room : rm s00 [47, 97] = 0 := by decide +kernel
theorem s1f_snd : Snd s1f := s00_snd.create s1f_room false
theorem s1f_prs : (prsF s1f).length = 2 := by
  rw [prs_of s1f_snd (enum_set s00_enum [47, 97] (false, [])) (by decide), prs2_len]; decide
noncomputable def S0 : SS := (prsF s00, [])
noncomputable def S1 : SS := (prsF s00, [([115], 1, prsF s00)])
noncomputable def S2 : SS := (prsF s1f, [([115], 1, prsF s00)])
theorem S0_rt : Rt S0 := ⟨RF.of s00_snd s00_crd (by omega), (fun x hx => by cases hx), List.Pairwise.nil, (by unfold S0; rw [s00_prs]; decide)⟩
theorem nNew_eq : nNew = some S0 := by unfold nNew; rw [fNew_eq]; rfl
theorem rd_prs0 : rdF (prsF s00) = s00 := (s00_snd.prs s00_crd (by omega)).2.1
theorem at_S (g : Int) (L : List P2) : atS [([115], g, L)] [115] = some ([115], g, L) := by unfold atS; simp
theorem st_S0 : stP S0 (10, [115], [], 0, 0, []) 1 = (S1, (0, 0, [], [])) := by
  have e : opP S0 (10, [115], [], 0, 0, []) 1 = (S1, (0, 0, [], [])) := by
    unfold opP
    rw [if_pos (.inl rfl)]
    unfold snP
    rw [if_neg (by decide)]
    rfl
  unfold stP
  rw [e, if_pos rfl, if_neg (by unfold S1; rw [s00_prs]; decide)]
theorem st_S1 : stP S1 (1, [47, 97], [], 0, 0, []) 2 = (S2, (0, 0, [], [])) := by
  have d : doP s00 (1, [47, 97], [], 0, 0, []) = ((0, 0, [], []), s1f) := by
    unfold doP; simp only [s1f_room]; rfl
  have e : opP S1 (1, [47, 97], [], 0, 0, []) 2 = (S2, (0, 0, [], [])) := by
    unfold opP
    rw [if_neg (by decide), if_neg (by decide)]
    have hn : nx s00 (1, [47, 97], [], 0, 0, []) = s1f := by unfold nx; rw [d]; rfl
    show ((prsF (nx (rdF (prsF s00)) _), _), (doP (rdF (prsF s00)) _).1) = _
    rw [rd_prs0, hn, d]; rfl
  unfold stP
  rw [e, if_pos rfl, if_neg (by unfold S2 unN; simp only; rw [s00_prs, s1f_prs]; decide)]
theorem st_S2 : stP S2 (12, [115], [], 0, 0, []) 3 = (S1, (0, 0, [], [])) := by
  have e : opP S2 (12, [115], [], 0, 0, []) 3 = (S1, (0, 0, [], [])) := by
    unfold opP
    rw [if_pos (.inr (.inr rfl))]
    unfold snP
    rw [if_neg (by decide)]
    simp only [S2, at_S]; rfl
  unfold stP
  rw [e, if_pos rfl, if_neg (by unfold S1; rw [s00_prs]; decide)]
theorem st_S3 : (stP S1 (9, [47, 97], [], 0, 0, []) 4).2.1 = 91 := by
  have d : (doP s00 (9, [47, 97], [], 0, 0, [])).1 = (91, 0, [], []) := by
    have : lk s00 [47, 97] = (zf, 91) := by decide +kernel
    unfold doP stt; simp only [this]; rfl
  have e : (opP S1 (9, [47, 97], [], 0, 0, []) 4).2 = (91, 0, [], []) := by
    unfold opP
    rw [if_neg (by decide), if_neg (by decide)]
    show (doP (rdF (prsF s00)) _).1 = _
    rw [rd_prs0, d]
  unfold stP
  rw [e, if_neg (by decide)]
theorem speaks_eq : lSpeaks = some true := by
  have r1 : Rt S1 := by have := stP_rt S0_rt (10, [115], [], 0, 0, []) 1; rw [st_S0] at this; exact this
  have r2 : Rt S2 := by have := stP_rt r1 (1, [47, 97], [], 0, 0, []) 2; rw [st_S1] at this; exact this
  unfold lSpeaks
  rw [nNew_eq]
  simp only [Option.bind_some]
  rw [nDo_eq S0_rt _ 1 (opOk (by decide) (by decide) (by decide)), st_S0]
  simp only [Option.bind_some]
  rw [nDo_eq r1 _ 2 (opOk (by decide) (by decide) (by decide)), st_S1]
  simp only [Option.bind_some]
  rw [nDo_eq r2 _ 3 (opOk (by decide) (by decide) (by decide)), st_S2]
  simp only [Option.bind_some]
  rw [nDo_eq r1 _ 4 (opOk (by decide) (by decide) (by decide))]
  simp only [Option.bind_some, st_S3]
  rw [nUnits_eq _ S0_rt.small]
  simp only [Option.bind_some]
  rw [show unN S0 = 1 by unfold S0; rw [s00_prs]; rfl]
  rfl
/-! ### Full -/
theorem full_true (s : SS) (o : Opr) : lFull s o = some true := by
  unfold lFull
  rw [speaks_eq]
  simp only [Option.bind_some]
  rw [if_neg (by simp)]
  rcases greatS_eq s with h | ⟨h, hs, hl1, hl2⟩
  · rw [h]; rfl
  · rw [h]
    simp only [Option.bind_some, Bool.false_eq_true, if_false]
    rcases greatOp_eq o with g | ⟨g, g1, g2, g3⟩
    · rw [g]; rfl
    · rw [g]
      simp only [Option.bind_some, Bool.false_eq_true, if_false]
      rcases nCheck_eq s hs with ⟨h1, hr⟩ | ⟨h1, _⟩
      · rw [h1]
        simp only [Option.bind_some]
        rw [if_pos trivial, nDo_eq hr o 5 (opOk g1 g2 g3)]
        have hr2 := stP_rt hr o 5
        have hu := nUnits_eq _ hr2.small
        have hun := hr2.un
        have hck : nCheck (stP s o 5).1 = some 0 := by
          rcases nCheck_eq _ hr2.small with ⟨h2, _⟩ | ⟨_, h2⟩
          · exact h2
          · exact absurd hr2 h2
        simp only [Option.bind_some]
        rw [hu, hck]
        simp only [Option.bind_some]
        rw [if_pos (show (unN (stP s o 5).1 : Int) ≤ 48 by omega)]
        by_cases h3 : (stP s o 5).2.1 = 0
        · rw [if_pos h3]; rfl
        · rw [if_neg h3, sameS_eq _ _ hr2.small, stP_err h3]
          simp
      · rw [h1]; rfl
/-! ### Units -/
theorem op_new {s : SS} (hs : s.2.Pairwise fun a b => a.1 < b.1) {nm : List UInt8} {gen : Int} (h : (opP s (10, nm, [], 0, 0, []) gen).2.1 = 0) : isNm nm = true ∧ atS s.2 nm = none ∧ opP s (10, nm, [], 0, 0, []) gen = ((s.1, loS s.2 nm ++ (nm, gen, s.1) :: hiS s.2 nm), (0, 0, [], [])) := by
  unfold opP at h ⊢
  rw [if_pos (.inl rfl)] at h ⊢
  unfold snP at h ⊢
  simp only at h ⊢
  cases h1 : isNm nm with
  | false => rw [h1, if_pos rfl] at h; cases h
  | true =>
    rw [h1, if_neg (by simp)] at h
    rw [if_neg (by simp)]
    cases h2 : atS s.2 nm with
    | some x => rw [h2] at h; cases h
    | none => exact ⟨rfl, rfl, rfl⟩
theorem at_mid {A B : List Sn} {x : Sn} (hA : ∀ a ∈ A, a.1 < x.1) : atS (A ++ x :: B) x.1 = some x := by
  unfold atS
  rw [List.find?_append, List.find?_eq_none.2 fun a ha => by simpa using fun h => lt_irr _ (by have := hA a ha; rw [h] at this; exact this)]
  simp
theorem units_true (s : SS) (nm : List UInt8) : lUnits s nm = some true := by
  unfold lUnits
  rw [speaks_eq]
  simp only [Option.bind_some]
  rw [if_neg (by simp)]
  rcases greatS_eq s with h | ⟨h, hs, hl1, hl2⟩
  · rw [h]; rfl
  · rw [h]
    simp only [Option.bind_some, Bool.false_eq_true, if_false]
    by_cases hn : 50 < (nm.length : Int)
    · rw [if_pos hn]
    · rw [if_neg hn]
      rcases nCheck_eq s hs with ⟨h1, hr⟩ | ⟨h1, _⟩
      · rw [h1]
        simp only [Option.bind_some]
        rw [if_pos trivial, nUnits_eq _ hs]
        simp only [Option.bind_some]
        have hok : OpOk (10, nm, [], 0, 0, []) := opOk (by simp only; omega) (by simp) (by simp)
        have hok2 : OpOk (11, nm, [], 0, 0, []) := opOk (by simp only; omega) (by simp) (by simp)
        rw [nDo_eq hr _ 3 hok]
        simp only [Option.bind_some]
        have hr2 := stP_rt hr (10, nm, [], 0, 0, []) 3
        by_cases h3 : (stP s (10, nm, [], 0, 0, []) 3).2.1 = 0
        · rw [if_pos h3]
          have h4 : (opP s (10, nm, [], 0, 0, []) 3).2.1 = 0 := by
            unfold stP at h3
            split at h3
            · assumption
            · exact h3
          obtain ⟨n1, n2, n3⟩ := op_new hr.srt h4
          have h5 : stP s (10, nm, [], 0, 0, []) 3 = opP s (10, nm, [], 0, 0, []) 3 := by
            unfold stP at h3 ⊢
            rw [if_pos h4] at h3 ⊢
            by_cases h6 : 48 < unN (opP s (10, nm, [], 0, 0, []) 3).1
            · rw [if_pos h6] at h3; cases h3
            · rw [if_neg h6]
          rw [h5, n3] at hr2 ⊢
          have hp := part_of hr.srt nm
          rw [n2] at hp
          simp only [Option.toList_none, List.nil_append] at hp
          simp only at hr2 ⊢
          have d1 : opP (s.1, loS s.2 nm ++ (nm, 3, s.1) :: hiS s.2 nm) (11, nm, [], 0, 0, []) 4 = (s, (0, 0, [], [])) := by
            unfold opP
            rw [if_pos (.inr (.inl rfl))]
            unfold snP
            simp only
            rw [n1, if_neg (by simp), at_mid (x := (nm, 3, s.1)) lo_lt]
            simp only
            rw [if_neg (by decide), if_pos trivial, lo_of lo_lt (fun b hb => by
              rcases List.mem_cons.1 hb with rfl | hb
              · exact lt_irr _
              · exact fun h => lt_irr _ (lt_tr h (hi_lt b hb))), List.append_cons, hi_of (fun a ha => by
              rcases List.mem_append.1 ha with ha | ha
              · exact fun h => lt_irr _ (lt_tr h (lo_lt a ha))
              · obtain rfl : a = (nm, 3, s.1) := by simpa using ha
                exact lt_irr _) hi_lt, ← hp]
          have d2 : stP (s.1, loS s.2 nm ++ (nm, 3, s.1) :: hiS s.2 nm) (11, nm, [], 0, 0, []) 4 = (s, (0, 0, [], [])) := by
            unfold stP
            rw [d1, if_pos rfl, if_neg (by have := hr.un; simp only; omega)]
          rw [nDo_eq hr2 _ 4 hok2, d2]
          simp only [Option.bind_some]
          rw [nUnits_eq _ hr2.small]
          simp only [Option.bind_some]
          have hu : unN (s.1, loS s.2 nm ++ (nm, 3, s.1) :: hiS s.2 nm) = unN s + 1 + s.1.length := by
            have e2 : (s.2.map fun x : Sn => 1 + x.2.2.length).sum = ((loS s.2 nm).map fun x : Sn => 1 + x.2.2.length).sum + ((hiS s.2 nm).map fun x : Sn => 1 + x.2.2.length).sum := by
              conv => lhs; rw [hp]
              rw [List.map_append, List.sum_append] <;> rw [← hp]
            unfold unN
            rw [e2]
            simp only [List.map_append, List.map_cons, List.sum_append, List.sum_cons]; omega
          have hun := hr.un
          rw [hu, i64_id (n := (unN s : Int) + 1) (by omega) (by omega), i64_id (by omega) (by omega), if_pos (by omega), if_pos trivial, show rSameS s (s.1, s.2) = _ from sameS_eq s s hs]
          simp
        · rw [if_neg h3, sameS_eq _ _ hr2.small, stP_err h3]; simp
      · rw [h1]; rfl
/-! ### Twice -/
theorem twice_true (s : SS) (nm : List UInt8) : lTwice s nm = some true := by
  unfold lTwice
  rw [speaks_eq]
  simp only [Option.bind_some]
  rw [if_neg (by simp)]
  rcases greatS_eq s with h | ⟨h, hs, hl1, hl2⟩
  · rw [h]; rfl
  · rw [h]
    simp only [Option.bind_some, Bool.false_eq_true, if_false]
    by_cases hn : 50 < (nm.length : Int)
    · rw [if_pos hn]
    · rw [if_neg hn]
      rcases nCheck_eq s hs with ⟨h1, hr⟩ | ⟨h1, _⟩
      · rw [h1]
        simp only [Option.bind_some]
        have hok : OpOk (12, nm, [], 0, 0, []) := opOk (by simp only; omega) (by simp) (by simp)
        rw [if_pos trivial, nDo_eq hr _ 1 hok]
        simp only [Option.bind_some]
        have hr2 := stP_rt hr (12, nm, [], 0, 0, []) 1
        -- what a rollback is, from any state with these snapshots
        have hrb : ∀ (q : SS) (g : Int), q.2 = s.2 → opP q (12, nm, [], 0, 0, []) g = (if isNm nm = false then ((q, (90, 0, [], [])) : SS × Ans) else match atS s.2 nm with | some x => ((x.2.2, s.2), (0, 0, [], [])) | none => (q, (91, 0, [], []))) := fun q g hq => by
          unfold opP
          rw [if_pos (.inr (.inr rfl))]
          unfold snP
          simp only
          rw [hq]
          split
          · rfl
          · cases g5 : atS s.2 nm with
            | some x => simp only; rw [if_neg (by decide), if_neg (by decide)]
            | none => simp only; rw [if_neg (by decide)]
        have e : (stP s (12, nm, [], 0, 0, []) 1).1.2 = s.2 ∧ stP (stP s (12, nm, [], 0, 0, []) 1).1 (12, nm, [], 0, 0, []) 2 = stP s (12, nm, [], 0, 0, []) 1 := by
          by_cases g1 : isNm nm = false
          · have e1 : stP s (12, nm, [], 0, 0, []) 1 = (s, (90, 0, [], [])) := by unfold stP; rw [hrb s 1 rfl, if_pos g1, if_neg (show ¬ (90 : Int) = 0 by decide)]
            rw [e1]
            refine ⟨rfl, ?_⟩
            unfold stP; rw [hrb s 2 rfl, if_pos g1, if_neg (show ¬ (90 : Int) = 0 by decide)]
          · cases g2 : atS s.2 nm with
            | none =>
              have e1 : stP s (12, nm, [], 0, 0, []) 1 = (s, (91, 0, [], [])) := by unfold stP; rw [hrb s 1 rfl, if_neg g1, g2]; simp only; rw [if_neg (by decide)]
              rw [e1]
              refine ⟨rfl, ?_⟩
              unfold stP; rw [hrb s 2 rfl, if_neg g1, g2]; simp only; rw [if_neg (by decide)]
            | some x =>
              have e0 : ∀ (q : SS) (g : Int), q.2 = s.2 → stP q (12, nm, [], 0, 0, []) g = if 48 < unN (x.2.2, s.2) then (q, (98, 0, [], [])) else ((x.2.2, s.2), (0, 0, [], [])) := fun q g hq => by
                unfold stP; rw [hrb q g hq, if_neg g1, g2]; simp only; rw [if_pos trivial]
              rw [e0 s 1 rfl]
              by_cases g3 : 48 < unN (x.2.2, s.2)
              · rw [if_pos g3]; exact ⟨rfl, by rw [e0 s 2 rfl, if_pos g3]⟩
              · rw [if_neg g3]; exact ⟨rfl, by rw [e0 (x.2.2, s.2) 2 rfl, if_neg g3]⟩
        rw [nDo_eq hr2 _ 2 hok, e.2]
        simp only [Option.bind_some]
        rw [if_pos trivial, sameS_eq _ _ hr2.small, decide_eq_true rfl]
        simp only [Option.bind_some]
        rw [if_pos trivial, e.1]; simp
      · rw [h1]; rfl
end Go.Proofs.YtnagibpmfabkjaaGreatDoor
