/- Plain: pairs, values, ranges and digests of a tree. -/
import Derived.Test.YtnjemlkcamdbfaaGreatDoorTrP
set_option linter.unusedSimpArgs false
set_option linter.unusedVariables false
namespace Go.Proofs.YtnjemlkcamdbfaaGreatDoor
open Go.RowKit Go.Tri
def allS (bag : Mp) (root : List UInt8) : (List Pr × Bk) ⊕ Int :=
  (wkS bag 20 root (-1) []).elim (fun m => (bldS m).elim (fun t => if t.1 = root then .inl (m, t.2) else .inr 22) (fun _ => .inr 22)) .inr
theorem rowS_err (lv : Nat) : ∀ (gs : List (List Pr)) (s : Bk × List Pr) (e : Int), rowS lv gs s = .inr e → e ≠ 0
  | [], s, e, h => by cases h
  | g :: gs, s, e, h => by
    unfold rowS at h
    split at h
    · exact rowS_err lv gs _ e h
    · cases h; assumption
theorem lvS_err : ∀ (k : Nat) (s : Bk × List Pr) (e : Int), lvS k s = .inr e → e ≠ 0
  | 0, s, e, h => by
    unfold lvS at h
    split at h
    · cases h; decide
    · cases h
  | k + 1, s, e, h => by
    unfold lvS at h
    split at h
    · cases hx : rowS (15 - k) (cutN (inn (15 - k) (s.2.map (·.1))) s.2) (s.1, []) with
      | inr z => rw [hx] at h; cases h; exact rowS_err _ _ _ _ hx
      | inl v => rw [hx] at h; exact lvS_err k v e h
    · cases h
theorem bldS_err {l : List Pr} {e : Int} (h : bldS l = .inr e) : e ≠ 0 := by
  unfold bldS at h
  split at h
  · cases hx : rowS 0 (cutN (lvs l) l) ([], []) with
    | inr z => rw [hx] at h; cases h; exact rowS_err _ _ _ _ hx
    | inl s =>
      rw [hx] at h
      simp only [Sum.elim_inl] at h
      cases hy : lvS 15 s with
      | inr z => rw [hy] at h; cases h; exact lvS_err _ _ _ hy
      | inl t => rw [hy] at h; cases h
  · cases h; decide
/-- Its blocks: not too many, their digests have 32 bytes. -/
theorem rowS_blk (lv : Nat) : ∀ (gs : List (List Pr)) (s t : Bk × List Pr), rowS lv gs s = .inl t → (∀ x ∈ s.1, x.1.length = 32) → ∀ x ∈ t.1, x.1.length = 32
  | [], s, t, h, h32 => by cases h; exact h32
  | g :: gs, s, t, h, h32 => by
    unfold rowS at h
    split at h
    · refine rowS_blk lv gs _ _ h fun x hx => ?_
      rcases List.mem_append.1 hx with hx | hx
      · exact h32 x hx
      · simp at hx; subst hx; exact Hs_len _
    · cases h
theorem lvS_blk : ∀ (k : Nat) (s t : Bk × List Pr), lvS k s = .inl t → (∀ x ∈ s.1, x.1.length = 32) → (∀ x ∈ t.1, x.1.length = 32) ∧ t.1.length ≤ s.1.length + k * s.2.length
  | 0, s, t, h, h32 => by
    unfold lvS at h
    split at h
    · cases h
    · cases h; exact ⟨h32, by omega⟩
  | k + 1, s, t, h, h32 => by
    unfold lvS at h
    split at h
    · cases hx : rowS (15 - k) (cutN (inn (15 - k) (s.2.map (·.1))) s.2) (s.1, []) with
      | inr z => rw [hx] at h; cases h
      | inl v =>
        rw [hx] at h
        have h1 := lvS_blk k v t h (rowS_blk _ _ _ _ hx h32)
        obtain ⟨h2, h3, _⟩ := rowS_some _ _ _ _ hx
        have h4 := (inn_sum (15 - k) (s.2.map (·.1))).2.1
        rw [cutN_len] at h2 h3
        simp only [List.length_map, List.length_nil, Nat.zero_add] at h2 h3 h4
        refine ⟨h1.1, ?_⟩
        have h5 : k * v.2.length ≤ k * s.2.length := Nat.mul_le_mul_left _ (by omega)
        have h6 := h1.2
        rw [Nat.succ_mul]
        omega
    · cases h; exact ⟨h32, Nat.le_add_right _ _⟩
theorem bldS_blk {l : List Pr} {t : List UInt8 × Bk} (hl : l.length ≤ 7500) (h : bldS l = .inl t) : (∀ x ∈ t.2, x.1.length = 32) ∧ t.2.length ≤ 1000000 := by
  unfold bldS at h
  split at h
  · cases hx : rowS 0 (cutN (lvs l) l) ([], []) with
    | inr z => rw [hx] at h; cases h
    | inl s =>
      rw [hx] at h
      simp only [Sum.elim_inl] at h
      cases hy : lvS 15 s with
      | inr z => rw [hy] at h; cases h
      | inl u =>
        rw [hy] at h
        cases h
        have h1 := lvS_blk 15 s u hy (rowS_blk _ _ _ _ hx (by simp))
        obtain ⟨h2, h3, _⟩ := rowS_some _ _ _ _ hx
        have h4 := (lvs_sum l).2.1
        rw [cutN_len] at h2 h3
        simp only [List.length_nil, Nat.zero_add] at h2 h3
        exact ⟨h1.1, by have := h1.2; simp only at this ⊢; omega⟩
  · cases h
theorem tWhole_eq {bag : Mp} (hF : Fits bag) (root : List UInt8) : trWhole bag root = some ((allS bag root).elim (fun t => (t.1, mapOf t.2, 0)) (fun e => ([], fnil, e))) := by
  unfold trWhole trWalk allS
  obtain ⟨x, hx⟩ := tWalk_eq hF 20 root (-1) [] (Met.nil bag) (by omega) (by omega)
  rw [hx]
  simp only [Option.bind_some]
  cases hw : wkS bag 20 root (-1) [] with
  | inr e => exact (if_neg (wkS_err _ _ _ _ _ hw)).trans rfl
  | inl m =>
    have hM := (wkS_met 20 root (-1) [] m (Met.nil bag) hw).small hF
    simp only [Sum.elim_inl, if_true]
    rw [tBuild_eq m hM.2.1 (by omega)]
    simp only [Option.bind_some]
    cases hb : bldS m with
    | inr e => exact (if_neg (bldS_err hb)).trans rfl
    | inl t =>
      simp only [Sum.elim_inl, if_true]
      by_cases h : t.1 = root
      · refine (if_pos h).trans ?_
        rw [if_pos h]; rfl
      · refine (if_neg h).trans ?_
        rw [if_neg h]; rfl
theorem tAll_eq {bag : Mp} (hF : Fits bag) (root : List UInt8) : trAll bag root = some ((allS bag root).elim (fun t => (t.1, 0)) (fun e => ([], e))) := by
  unfold trAll
  rw [tWhole_eq hF]
  cases allS bag root <;> rfl
theorem rAll_eq {bag : Mp} (hF : Fits bag) (root : List UInt8) : rAll bag root = some ((allS bag root).elim (fun t => (t.1, 0)) (fun e => ([], e))) := by
  unfold rAll rCollect allS
  rw [rColl_eq hF 20 root (-1) [] (Met.nil bag) (by omega) (by omega)]
  simp only [Option.bind_some]
  cases hw : wkS bag 20 root (-1) [] with
  | inr e => exact (if_neg (wkS_err _ _ _ _ _ hw)).trans rfl
  | inl m =>
    have hM := (wkS_met 20 root (-1) [] m (Met.nil bag) hw).small hF
    simp only [Sum.elim_inl, if_true]
    rw [rBuild_eq m hM.2.1 (by omega)]
    simp only [Option.bind_some]
    cases hb : bldS m with
    | inr e => exact (if_neg (bldS_err hb)).trans rfl
    | inl t =>
      simp only [Sum.elim_inl, if_true]
      by_cases h : t.1 = root
      · refine (if_pos h).trans ?_
        rw [if_pos h]; rfl
      · refine (if_neg h).trans ?_
        rw [if_neg h]; rfl
theorem allS_some {bag : Mp} (hF : Fits bag) {root : List UInt8} {t : List Pr × Bk} (h : allS bag root = .inl t) : t.1.length ≤ 7500 ∧ SmallP t.1 ∧ Rises t.1 ∧ bldS t.1 = .inl (root, t.2) := by
  unfold allS at h
  cases hw : wkS bag 20 root (-1) [] with
  | inr e => rw [hw] at h; cases h
  | inl m =>
    have hM := (wkS_met 20 root (-1) [] m (Met.nil bag) hw).small hF
    rw [hw] at h
    simp only [Sum.elim_inl] at h
    cases hb : bldS m with
    | inr e => rw [hb] at h; cases h
    | inl u =>
      rw [hb] at h
      simp only [Sum.elim_inl] at h
      split at h
      · rename_i hr
        cases h
        exact ⟨hM.1, hM.2.1, (risB_iff m).1 hM.2.2, by rw [hb, ← hr]⟩
      · cases h
theorem allS_err {bag : Mp} {root : List UInt8} {e : Int} (h : allS bag root = .inr e) : e ≠ 0 := by
  unfold allS at h
  cases hw : wkS bag 20 root (-1) [] with
  | inr z => rw [hw] at h; cases h; exact wkS_err _ _ _ _ _ hw
  | inl m =>
    rw [hw] at h
    simp only [Sum.elim_inl] at h
    cases hb : bldS m with
    | inr z => rw [hb] at h; cases h; decide
    | inl u =>
      rw [hb] at h
      simp only [Sum.elim_inl] at h
      split at h
      · cases h
      · cases h; decide
/-! ### A key is looked for -/
/-- How many keys come ahead. -/
def lb (key : List UInt8) : List Pr → Nat
  | [] => 0
  | p :: l => if Lib.compareBytes p.1 key < 0 then lb key l + 1 else 0
theorem lb_le (key : List UInt8) : ∀ l : List Pr, lb key l ≤ l.length
  | [] => Nat.le_refl _
  | p :: l => by unfold lb; split <;> simp; have := lb_le key l; omega
theorem lb_lt (key : List UInt8) : ∀ (l : List Pr) (i : Nat) (p : Pr), i < lb key l → l[i]? = some p → Lib.compareBytes p.1 key < 0
  | [], i, p, h, _ => by simp [lb] at h
  | q :: l, i, p, h, hp => by
    unfold lb at h
    split at h
    · rename_i hq
      cases i with
      | zero => simp at hp; subst hp; exact hq
      | succ i => exact lb_lt key l i p (by omega) (by simpa using hp)
    · omega
theorem lb_ge (key : List UInt8) : ∀ (l : List Pr), Rises l → ∀ (i : Nat) (p : Pr), lb key l ≤ i → l[i]? = some p → ¬ Lib.compareBytes p.1 key < 0
  | [], _, i, p, h, hp => by simp at hp
  | q :: l, hR, i, p, h, hp => by
    unfold lb at h
    split at h
    · cases i with
      | zero => omega
      | succ i => exact lb_ge key l (List.pairwise_cons.1 hR).2 i p (by omega) (by simpa using hp)
    · rename_i hq
      cases i with
      | zero => simp at hp; subst hp; exact hq
      | succ i =>
        have hm : p ∈ l := List.mem_of_getElem? (by simpa using hp)
        have h1 : ltK q.1 p.1 := List.rel_of_pairwise_cons hR hm
        intro h2
        exact hq (cmp_trans _ _ _ h1 h2)
theorem bs_loop {l : List Pr} {key : List UInt8} (hR : Rises l) {f : Int × Int → Option ((Int × Int) ⊕ Int)}
    (h0 : ∀ i j : Nat, j ≤ i → f ((i : Int), (j : Int)) = some (.inr (i : Int)))
    (h1 : ∀ (i j : Nat) (p : Pr), i < j → j ≤ l.length → l[(i + j) / 2]? = some p → f ((i : Int), (j : Int)) = some (.inl (if Lib.compareBytes p.1 key < 0 then ((((i + j) / 2 + 1 : Nat) : Int), (j : Int)) else ((i : Int), (((i + j) / 2 : Nat) : Int))))) :
    ∀ (n i j : Nat), j - i ≤ n → i ≤ lb key l → lb key l ≤ j → j ≤ l.length → loopO f ((i : Int), (j : Int)) = some ((lb key l : Nat) : Int)
  | 0, i, j, hn, hi, hj, hl => by
    rw [loopO_eq, h0 i j (by omega)]
    obtain rfl : i = lb key l := by omega
    rfl
  | n + 1, i, j, hn, hi, hj, hl => by
    by_cases h : j ≤ i
    · rw [loopO_eq, h0 i j h]
      obtain rfl : i = lb key l := by omega
      rfl
    · have hlt : (i + j) / 2 < l.length := by omega
      have hg : l[(i + j) / 2]? = some l[(i + j) / 2] := List.getElem?_eq_getElem hlt
      rw [loopO_eq, h1 i j _ (by omega) hl hg]
      simp only [Option.bind_some]
      by_cases hc : Lib.compareBytes l[(i + j) / 2].1 key < 0
      · rw [if_pos hc]
        refine bs_loop hR h0 h1 n _ _ (by omega) ?_ hj hl
        by_cases hx : lb key l ≤ (i + j) / 2
        · exact absurd hc (lb_ge key l hR _ _ hx hg)
        · omega
      · rw [if_neg hc]
        refine bs_loop hR h0 h1 n _ _ (by omega) hi ?_ (by omega)
        by_cases hx : (i + j) / 2 < lb key l
        · exact absurd (lb_lt key l _ _ hx hg) hc
        · omega
theorem bs_eq {l : List Pr} (hR : Rises l) (hl : l.length ≤ 100000) (key : List UInt8) : bsPair l (key, []) = some ((lb key l : Int), match l[lb key l]? with | none => false | some p => decide (Lib.compareBytes p.1 key = 0)) := by
  unfold bsPair
  refine (congrArg (fun o => Option.bind o _) (bs_loop (key := key) hR (fun i j h => by simp only; rw [if_neg (by omega)]) (fun i j p h1 h2 h3 => ?_) l.length 0 l.length (by omega) (Nat.zero_le _) (lb_le key l) (Nat.le_refl _))).trans ?_
  · simp only
    have e : IntKind.i64.wrap (shrI .u64 (IntKind.u64.wrap (IntKind.i64.wrap ((i : Int) + (j : Int)))) 1) = (((i + j) / 2 : Nat) : Int) := by
      rw [i64_id (n := (i : Int) + (j : Int)) (by omega) (by omega), u64_id (by omega) (by omega), show (i : Int) + (j : Int) = ((i + j : Nat) : Int) by omega, show (1 : Int) = ((1 : Nat) : Int) from rfl, shrI_nat .u64 _ _ (by decide), i64_id (by omega) (by omega)]

    rw [if_pos (by omega), e, idxO_nat h3]
    simp only [Option.bind_some, m_tree_compare, cmpB]
    by_cases hc : Lib.compareBytes p.1 key < 0
    · rw [if_pos hc, if_pos hc, i64_id (by omega) (by omega)]; rfl
    · rw [if_neg hc, if_neg hc]; rfl
  · simp only [Option.bind_some]
    have := lb_le key l
    by_cases h : lb key l < l.length
    · rw [if_pos (by omega), idxO_get h, List.getElem?_eq_getElem h]
      simp [m_tree_compare, cmpB]
    · rw [if_neg (by omega), List.getElem?_eq_none (by omega)]
/-! ### From a key on -/
def frS (key : List UInt8) (most : Int) (s : List Pr) (p : Pr) : List Pr := if ¬ Lib.compareBytes p.1 key < 0 ∧ (s.length : Int) < most then s ++ [p] else s
theorem from_run (key : List UInt8) (most : Int) : ∀ (l s : List Pr), (s.length : Int) ≤ max most 0 → Rises l → l.foldl (frS key most) s = s ++ (l.drop (lb key l)).take (most.toNat - s.length)
  | [], s, _, _ => by simp
  | p :: l, s, hs, hR => by
    have hR2 := (List.pairwise_cons.1 hR).2
    rw [List.foldl_cons]
    unfold lb
    by_cases hc : Lib.compareBytes p.1 key < 0
    · rw [if_pos hc, List.drop_succ_cons]
      have : frS key most s p = s := by unfold frS; rw [if_neg (by simp [hc])]
      rw [this]
      exact from_run key most l s hs hR2
    · rw [if_neg hc, List.drop_zero]
      have h0 : lb key l = 0 := by
        cases l with
        | nil => rfl
        | cons q l =>
          have h1 : ltK p.1 q.1 := List.rel_of_pairwise_cons hR (by simp)
          unfold lb
          rw [if_neg (fun h2 => hc (cmp_trans _ _ _ h1 h2))]
      by_cases hm : (s.length : Int) < most
      · have : frS key most s p = s ++ [p] := by unfold frS; rw [if_pos ⟨hc, hm⟩]
        rw [this, from_run key most l (s ++ [p]) (by simp; omega) hR2, h0, List.drop_zero]
        rw [show most.toNat - s.length = most.toNat - (s ++ [p]).length + 1 by simp; omega]
        simp
      · have : frS key most s p = s := by unfold frS; rw [if_neg (by simp [hm])]
        rw [this, from_run key most l s hs hR2]
        rw [show most.toNat - s.length = 0 by omega]
        simp
theorem from_eq {l : List Pr} (hR : Rises l) (hl : l.length ≤ 100000) (key : List UInt8) (most : Int) : m_triremeref08_From l key most = some ((l.drop (lb key l)).take most.toNat) := by
  unfold m_triremeref08_From
  refine (congrArg (fun o => Option.bind o _) (loop_xs0 (s0 := ([] : List Pr)) l (fun (s : List Pr) (i : Int) => (s, i)) (fun s p => .inl (frS key most s p)) (fun s => s) (fun i s => s.length ≤ i) (by simp) (fun i s p hp hI => ?_) (fun s hI => by rw [if_neg (by omega)]))).trans ?_
  · have hi := (List.getElem?_eq_some_iff.1 hp).1
    refine ⟨?_, fun s' hs' => by cases hs'; unfold frS; split <;> first | (rw [List.length_append, List.length_singleton]; omega) | omega⟩
    simp only
    rw [if_pos (by omega), idxO_nat hp]
    simp only [Option.bind_some, geq_cmp, decide_eq_true_eq]
    rw [i64_id (by omega) (by omega)]
    unfold frS
    by_cases hc : Lib.compareBytes p.1 key < 0
    · rw [if_neg (by omega), if_neg (by simp [hc])]; rfl
    · rw [if_pos (by omega)]
      by_cases hm : (s.length : Int) < most
      · rw [if_pos hm, if_pos ⟨hc, hm⟩, appO_of (by simp; omega)]; rfl
      · rw [if_neg hm, if_neg (by simp [hm])]; rfl
  · rw [run_inl (frS key most), from_run key most l [] (by simp; omega) hR]
    simp
end Go.Proofs.YtnjemlkcamdbfaaGreatDoor
