/- Plain: what is made and removed; what is renamed and renamed back. -/
import Derived.Test.YtohmcgmmphpgoaaGreatDoorFilW
set_option linter.unusedSimpArgs false
set_option linter.unusedVariables false
namespace Go.Proofs.YtohmcgmmphpgoaaGreatDoor
open Go.RowKit Go.Tri
theorem undone_true (L : List P2) (p : List UInt8) (dir : Bool) : lUndone L p dir = some true := by
  unfold lUndone
  rw [speaks_eq]
  simp only [Option.bind_some, Bool.not_true, Bool.false_eq_true, if_false]
  rcases lGreat_eq L (0, p, [], 0, 0, []) with h | ⟨h, hl, hb, o1, _, _⟩
  · rw [h]; rfl
  rw [h]
  simp only [Option.bind_some, Bool.false_eq_true, if_false]
  rcases law_start L hl hb with h2 | ⟨h2, s, hs, hc, rfl⟩
  · rw [h2]; rfl
  rw [h2]
  simp only at o1
  simp only [Option.bind_some, if_true]
  obtain ⟨k, hk, hkk⟩ : ∃ k : Int, (if dir = true then (some (2 : Int)) else some 1) = some k ∧ (k = 1 ∨ k = 2) := by cases dir <;> simp
  rw [hk]
  simp only [Option.bind_some]
  rw [fDo_eq hs hc (by omega) (k, p, [], 0, 0, []) (opOk (by simp only; omega) (by simp) (by simp))]
  simp only [Option.bind_some]
  have hd : doP s (k, p, [], 0, 0, []) = ((rm s p, 0, [], []), if rm s p = 0 then fset p (decide (k = 2), []) s else s) := by
    unfold doP; rw [if_pos hkk]
  obtain ⟨k1, k2⟩ := nx_ok hs hc (by omega) (k, p, [], 0, 0, [])
  by_cases h0 : rm s p = 0
  · have hn : nx s (k, p, [], 0, 0, []) = fset p (decide (k = 2), []) s := by unfold nx; rw [hd]; simp only [h0, if_true]
    rw [hn] at k1 k2 ⊢
    have hd1 : (doP s (k, p, [], 0, 0, [])).1.1 = 0 := by rw [hd]; exact h0
    rw [if_pos hd1, fDo_eq k1 k2 (by omega) (7, p, [], 0, 0, []) (opOk (by simp only; omega) (by simp) (by simp))]
    simp only [Option.bind_some]
    obtain ⟨a1, a2, ⟨dd, a3⟩, a4⟩ := rm_ok h0
    generalize hx : ((decide (k = 2), []) : Bool × List UInt8) = x at k1 k2 hn ⊢
    have hlk := lk_some k1 (fset_eq (k := p) (v := x) (m := s))
    have hB := k1.below k2 (by omega) p
    have hempty : bl (fset p x s) p = [] := by
      refine List.eq_nil_iff_forall_not_mem.2 fun y hy => ?_
      obtain ⟨q, f, q1, q2, q3, _⟩ := (hB.mem y).1 hy
      by_cases e : q = p
      · subst e; exact par_ne a1 a2 q3
      · rw [fset_ne e] at q1
        obtain ⟨d', hd'⟩ := hs.up q f q1 q2
        rw [q3, a4] at hd'; cases hd'
    have hrv : rv (fset p x s) p = (0, fdel p (fset p x s)) := by
      unfold rv
      rw [hlk, if_pos rfl, if_neg a2, hempty, if_neg (by simp)]
    have hback : fdel p (fset p x s) = s := by
      funext q
      unfold fdel fset
      by_cases e : q = p
      · rw [if_pos e, e, a4]
      · rw [if_neg e, if_neg e]
    have hd7 : doP (fset p x s) (7, p, [], 0, 0, []) = ((0, 0, [], []), s) := by
      unfold doP
      simp only [hrv, hback]
      rfl
    have hn7 : nx (fset p x s) (7, p, [], 0, 0, []) = s := by unfold nx; rw [hd7]; rfl
    rw [hd7, hn7]
    obtain ⟨l, hE, hll⟩ := hc
    have hE2 := enum_set hE p x
    have hnk : p ∉ l.map (·.1) := fun hm => by
      have := (enum_keys hE p).1 hm
      rw [a4] at this; cases this
    rw [filter_keys hnk] at hE2
    have hlen : (prsF (fset p x s)).length = (prsF s).length + 1 := by
      rw [prs_of k1 hE2 (by simp; omega), prs_of hs hE (by omega), prs2_len, prs2_len, List.flatMap_cons, List.length_append]
      have : (encE (p, x)).length = 1 := by
        rw [← hx]
        unfold encE
        split
        · rfl
        · simp only [List.length_cons, chk_len, chunkL_len]; rfl
      omega
    have hl4 := (hs.prs ⟨l, hE, hll⟩ (by omega)).2.2.1
    rw [if_pos (by rw [hlen, i64_id (by omega) (by omega)]; omega), if_pos rfl, samePairs_eq _ _ (by omega)]
    simp
  · have hd1 : ¬ (doP s (k, p, [], 0, 0, [])).1.1 = 0 := by rw [hd]; exact h0
    rw [if_neg hd1, nx_err hd1]
    have hl4 := (hs.prs hc (by omega)).2.2.1
    rw [samePairs_eq _ _ (by omega)]
    simp
theorem encE_same (p q : List UInt8) (f : Bool × List UInt8) : (encE (p, f)).length = (encE (q, f)).length := by
  unfold encE
  simp only
  split
  · rfl
  · simp [chk_len]
open Classical in
theorem rnF_def (s : FS) (F T q : List UInt8) : rnF s F T q = if wthn F q = true then none else if wthn T q = true then s (mvP T F q) else s q := rfl
theorem Ren.flip {s : FS} {F T : List UInt8} (h : Ren s F T) (hb : ¬ badR s F T) : rn (rnF s F T) T F = (0, s) := by
  have hs := h.snd
  have h1 := h.sound hb
  obtain ⟨f, hf⟩ := h.isF
  have hTF : wthn T F = false := by
    cases hw : wthn T F with
    | false => rfl
    | true => exact (h.apart h.self hw).elim
  have hT1 : rnF s F T T = some f := by
    have := (h.back hb hf).1
    unfold ren at this
    rw [if_pos h.self] at this
    have e : mvP F T F = T := by unfold mvP; simp
    rwa [e] at this
  have hF0 : rnF s F T F = none := by unfold rnF; rw [if_pos h.self]
  obtain ⟨d, hd⟩ := hs.up F f hf h.neF
  have hparF : wthn F (par F) = false := by
    cases hw : wthn F (par F) with
    | false => rfl
    | true =>
      obtain ⟨_, c, hc⟩ := (wthn_iff h.okF).1 hw
      have := congrArg List.length hc
      rw [(nm_par h.okF h.neF).1, List.length_append, List.length_dropLast] at this
      have := List.length_pos_iff.2 h.aF
      omega
  have hup : rnF s F T (par F) = some (true, d) := by
    unfold rnF
    rw [if_neg (by rw [hparF]; decide), if_neg (fun hw => by rw [h.notT hw] at hd; cases hd)]
    exact hd
  have hrm : rm (rnF s F T) F = 0 := rm_some h1 h.okF h.neF hup hF0
  have hnb : ¬ badR (rnF s F T) T F := by
    rintro ⟨p, g, hp, hw, hl⟩
    obtain ⟨_, ⟨_, h3, _⟩ | ⟨h2, _⟩⟩ := h.from hp
    · have := (okP_pth (hs.ok _ _ h3)).2.2; omega
    · rw [hw] at h2; cases h2
  have hR : Ren (rnF s F T) T F := ⟨h1, h.okT, h.okF, h.neT, h.neF, hTF, ⟨d, hup⟩, hF0, ⟨f, hT1⟩⟩
  have hback : rnF (rnF s F T) T F = s := by
    funext q
    cases hq : s q with
    | some g =>
      obtain ⟨b1, b2⟩ := h.back hb hq
      unfold ren at b1
      by_cases hw : wthn F q = true
      · rw [if_pos hw] at b1
        have hnT : ¬ wthn T q = true := fun hh => h.apart hw hh
        have e : rnF (rnF s F T) T F q = rnF s F T (mvP F T q) := by
          rw [rnF_def (rnF s F T) T F q, if_neg hnT, if_pos hw]
        rw [e]; exact b1
      · rw [if_neg hw] at b1
        have hnT : ¬ wthn T q = true := fun hh => by rw [h.notT hh] at hq; cases hq
        have e : rnF (rnF s F T) T F q = rnF s F T q := by
          rw [rnF_def (rnF s F T) T F q, if_neg hnT, if_neg hw]
        rw [e]; exact b1
    | none =>
      cases hr : rnF (rnF s F T) T F q with
      | none => rfl
      | some g =>
        obtain ⟨g1, ⟨g2, g3, g4, g5⟩ | ⟨g2, g3⟩⟩ := hR.from hr
        · obtain ⟨e1, ⟨e2, e3, e4, e5⟩ | ⟨e2, e3⟩⟩ := h.from g3
          · rw [g5, hq] at e3; cases e3
          · rw [g4] at e2; cases e2
        · obtain ⟨e1, ⟨e2, e3, e4, e5⟩ | ⟨e2, e3⟩⟩ := h.from g3
          · rw [g1] at e2; cases e2
          · rw [hq] at e3; cases e3
  unfold rn
  rw [if_pos h.okT, if_pos h.okF, lk_some h1 hT1, if_pos rfl, if_neg h.neT, if_neg (by rw [hTF]; decide), if_pos hrm, if_neg hnb, hback]
theorem Ren.gone {s : FS} {F T : List UInt8} (h : Ren s F T) : lk (rnF s F T) F = (zf, 91) := by
  obtain ⟨f, hf⟩ := h.isF
  have hF0 : rnF s F T F = none := by unfold rnF; rw [if_pos h.self]
  unfold lk
  rw [if_pos h.okF, anc_dirs fun i hi => ?_]
  · simp only [hF0]
  · obtain ⟨d, hd⟩ := take_pre h.snd hf i hi
    refine ⟨d, ?_⟩
    have hk := h.snd.ok _ _ hd
    unfold rnF
    rw [if_neg (fun hw => ?_), if_neg (fun hw => by rw [h.notT hw] at hd; cases hd)]
    · exact hd
    · obtain ⟨_, c, hc⟩ := (wthn_iff h.okF).1 hw
      have hn := pth_nm (xs := (nmP F).take i) (fun x hx => (okP_pth h.okF).1 x (List.mem_of_mem_take hx)) (okP_pth hk).2.2
      rw [hn] at hc
      have := congrArg List.length hc
      rw [List.length_append, List.length_take] at this
      omega
theorem moves_true (L : List P2) (F T : List UInt8) : lMoves L F T = some true := by
  unfold lMoves
  rw [speaks_eq]
  simp only [Option.bind_some, Bool.not_true, Bool.false_eq_true, if_false]
  rcases lGreat_eq L (0, F, T, 0, 0, []) with h | ⟨h, hl, hb, o1, o2, _⟩
  · rw [h]; rfl
  rw [h]
  simp only [Option.bind_some, Bool.false_eq_true, if_false]
  rcases law_start L hl hb with h2 | ⟨h2, s, hs, hc, rfl⟩
  · rw [h2]; rfl
  rw [h2]
  simp only at o1 o2
  simp only [Option.bind_some, if_true]
  rw [fDo_eq hs hc (by omega) (6, F, T, 0, 0, []) (opOk (by simp only; omega) (by simp only; omega) (by simp))]
  simp only [Option.bind_some]
  have hd : doP s (6, F, T, 0, 0, []) = (((rn s F T).1, 0, [], []), (rn s F T).2) := rfl
  have hl4 := (hs.prs hc (by omega)).2.2.1
  by_cases h0 : (rn s F T).1 = 0
  · have hkey : ∃ hR : Ren s F T, ¬ badR s F T ∧ (rn s F T).2 = rnF s F T := by
      unfold rn at h0 ⊢
      by_cases a1 : okP F = true
      · rw [if_pos a1] at h0 ⊢
        by_cases a2 : okP T = true
        · rw [if_pos a2] at h0 ⊢
          by_cases a3 : (lk s F).2 = 0
          · rw [if_pos a3] at h0 ⊢
            by_cases a4 : F = [47]
            · rw [if_pos a4] at h0; cases h0
            · rw [if_neg a4] at h0 ⊢
              by_cases a5 : wthn F T = true
              · rw [if_pos a5] at h0; cases h0
              · rw [if_neg a5] at h0 ⊢
                by_cases a6 : rm s T = 0
                · rw [if_pos a6] at h0 ⊢
                  by_cases a7 : badR s F T
                  · rw [if_pos a7] at h0; cases h0
                  · rw [if_neg a7]
                    exact ⟨ren_of hs a1 a3 a4 (by simpa using a5) a6, a7, rfl⟩
                · rw [if_neg a6] at h0; exact absurd h0 a6
          · rw [if_neg a3] at h0; exact absurd h0 a3
        · rw [if_neg a2] at h0; cases h0
      · rw [if_neg a1] at h0; cases h0
    obtain ⟨hR, hnb, hr2⟩ := hkey
    have hd1 : (doP s (6, F, T, 0, 0, [])).1.1 = 0 := h0
    have hn : nx s (6, F, T, 0, 0, []) = rnF s F T := by unfold nx; rw [if_pos hd1, hd]; exact hr2
    have k1 := hR.sound hnb
    obtain ⟨l, hE, hll⟩ := hc
    have hE1 := hR.enum hnb hE
    have k2 : Crd (rnF s F T) 60 := ⟨_, hE1, by simp; omega⟩
    rw [hn, if_pos hd1, fDo_eq k1 k2 (by omega) (6, T, F, 0, 0, []) (opOk (by simp only; omega) (by simp only; omega) (by simp))]
    simp only [Option.bind_some]
    rw [fDo_eq k1 k2 (by omega) (9, F, [], 0, 0, []) (opOk (by simp only; omega) (by simp) (by simp))]
    simp only [Option.bind_some]
    have hd2 : doP (rnF s F T) (6, T, F, 0, 0, []) = ((0, 0, [], []), s) := by
      show (((rn (rnF s F T) T F).1, 0, [], []), (rn (rnF s F T) T F).2) = _
      rw [hR.flip hnb]
    have hn2 : nx (rnF s F T) (6, T, F, 0, 0, []) = s := by unfold nx; rw [hd2]; rfl
    have hd3 : (doP (rnF s F T) (9, F, [], 0, 0, [])).1.1 = 91 := by
      show (stt (rnF s F T) F).1 = 91
      unfold stt
      rw [hR.gone]; rfl
    rw [hd2, hn2, if_pos rfl, samePairs_eq _ _ (by omega), hd3]
    simp only [Option.bind_some]
    rw [if_pos (by simp), if_pos trivial]
    have hlen : (prsF (rnF s F T)).length = (prsF s).length := by
      rw [prs_of k1 hE1 (by simp; omega), prs_of hs hE (by omega), prs2_len, prs2_len]
      have : ∀ l : List Ent, ((l.map fun x => (ren F T x.1, x.2)).flatMap encE).length = (l.flatMap encE).length := by
        intro l
        induction l with
        | nil => rfl
        | cons x l ih =>
          simp only [List.map_cons, List.flatMap_cons, List.length_append, ih]
          rw [encE_same (ren F T x.1) x.1 x.2]
      exact this l
    rw [hlen]; simp
  · have hd1 : ¬ (doP s (6, F, T, 0, 0, [])).1.1 = 0 := h0
    rw [if_neg hd1, nx_err hd1, samePairs_eq _ _ (by omega)]
    simp
end Go.Proofs.YtohmcgmmphpgoaaGreatDoor
