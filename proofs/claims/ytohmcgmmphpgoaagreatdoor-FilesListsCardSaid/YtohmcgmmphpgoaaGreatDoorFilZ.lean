/- Plain: what a directory lists. -/
import Derived.Test.YtohmcgmmphpgoaaGreatDoorFilY
set_option linter.unusedSimpArgs false
set_option linter.unusedVariables false
namespace Go.Proofs.YtohmcgmmphpgoaaGreatDoor
open Go.RowKit Go.Tri
theorem lss_iff : ∀ l m : List UInt8, lssB l m = true ↔ l < m
  | [], [] => by simp [lssB, Op.bytesLess]
  | [], b :: m => by simp [lssB, Op.bytesLess]
  | a :: l, [] => by simp [lssB, Op.bytesLess]
  | a :: l, b :: m => by
    have ih := lss_iff l m
    unfold lssB at ih ⊢
    rw [List.cons_lt_cons_iff, ← ih]
    simp [Op.bytesLess]
theorem leq_iff (l m : List UInt8) : leqB l m = true ↔ l ≤ m := by
  unfold leqB
  rw [Bool.or_eq_true, lss_iff, List.le_iff_lt_or_eq]
  simp
theorem leq_not {l m : List UInt8} (h : m < l) : leqB l m = false := by
  cases hx : leqB l m with
  | false => rfl
  | true => exact absurd ((leq_iff l m).1 hx) (List.not_le.2 h)
/-- The name behind which the next ones are asked for. -/
def lastN (B : List (List UInt8)) (m : Nat) : List UInt8 := if m = 0 then [] else B.getD (m - 1) []
theorem lastN_lt {B : List (List UInt8)} (hs : B.Pairwise (· < ·)) (hn : ∀ x ∈ B, x ≠ []) {m j : Nat} (hj : m ≤ j) (hjl : j < B.length) : lastN B m < B[j] := by
  unfold lastN
  by_cases h : m = 0
  · rw [if_pos h]
    have := hn _ (List.getElem_mem hjl)
    cases hx : B[j] with
    | nil => exact absurd hx this
    | cons a l => exact List.nil_lt_cons a l
  · rw [if_neg h, List.getD_eq_getElem?_getD, List.getElem?_eq_getElem (show m - 1 < B.length by omega), Option.getD_some]
    exact List.pairwise_iff_getElem.1 hs (m - 1) j (by omega) hjl (by omega)
theorem lastN_le {B : List (List UInt8)} (hs : B.Pairwise (· < ·)) {m j : Nat} (hj : j < m) (hm : m ≤ B.length) : leqB (B[j]'(by omega)) (lastN B m) = true := by
  rw [leq_iff]
  unfold lastN
  rw [if_neg (by omega), List.getD_eq_getElem?_getD, List.getElem?_eq_getElem (show m - 1 < B.length by omega), Option.getD_some]
  by_cases e : j = m - 1
  · subst e; exact List.le_iff_lt_or_eq.2 (.inr rfl)
  · exact List.le_iff_lt_or_eq.2 (.inl (List.pairwise_iff_getElem.1 hs j (m - 1) (by omega) (by omega) (by omega)))
theorem filter_drop {B : List (List UInt8)} (hs : B.Pairwise (· < ·)) (hn : ∀ x ∈ B, x ≠ []) {m : Nat} (hm : m ≤ B.length) : (B.filter fun x => !leqB x (lastN B m)) = B.drop m := by
  have h1 : ((B.take m).filter fun x => !leqB x (lastN B m)) = [] := by
    rw [List.filter_eq_nil_iff]
    intro x hx
    obtain ⟨j, hj, rfl⟩ := List.getElem_of_mem hx
    have hjm : j < m := by simp at hj; omega
    rw [List.getElem_take, lastN_le hs hjm hm]; simp
  have h2 : ((B.drop m).filter fun x => !leqB x (lastN B m)) = B.drop m := by
    rw [List.filter_eq_self]
    intro x hx
    obtain ⟨j, hj, rfl⟩ := List.getElem_of_mem hx
    rw [List.getElem_drop, leq_not (lastN_lt hs hn (Nat.le_add_right m j) (by simp at hj; omega))]; rfl
  have h3 : (B.filter fun x => !leqB x (lastN B m)) = ((B.take m ++ B.drop m).filter fun x => !leqB x (lastN B m)) := by rw [List.take_append_drop]
  rw [h3, List.filter_append, h1, h2]; rfl
theorem kid_eq {p x : List UInt8} (hp : okP p = true) : (if p = [47] then ([47] ++ x : List UInt8) else p ++ [47] ++ x) = kid p x := by
  unfold kid
  by_cases hr : p = [47]
  · rw [if_pos hr, hr, nmP_root]; simp [pth, jn_one]
  · rw [if_neg hr, pth_app (nmP_ne hp hr) [x], ← (okP_pth hp).2.1]
    simp [rst, pth, jn_one]
theorem loop_runE {σ ρ : Type} {f : σ → Option (σ ⊕ ρ)} (I : Nat → σ → Prop) (r0 : ρ) (n : Nat) {s0 : σ} (h0 : I 0 s0)
    (hs : ∀ i s, i < n → I i s → (∃ s', f s = some (.inl s') ∧ I (i + 1) s') ∨ (∃ r, f s = some (.inr r) ∧ r = r0))
    (he : ∀ s, I n s → ∃ r, f s = some (.inr r) ∧ r = r0) : loopO f s0 = some r0 := by
  obtain ⟨r, h1, h2⟩ := loop_run I (fun r => r = r0) n hs he n 0 s0 (by omega) h0
  rw [h1, h2]
section
variable {s : FS} {n : Nat} {p : List UInt8} {B : List (List UInt8)}
theorem list_loop (hs : Snd s) (hc : Crd s n) (hn : n ≤ 200000) (hp : okP p = true) (hB : bl s p = B) (hst : B.Pairwise (· < ·)) (hne : ∀ x ∈ B, x ≠ []) (hBl : B.length ≤ 1000) (hin : ∀ x ∈ B, ∃ f, s (kid p x) = some f) (m : Nat) (hm : m ≤ B.length) :
    loopO (fun (s2867 : (List UInt8) × Int × Int) => if s2867.2.2 < ((((B.drop m).take 6)).length : Int) then (Option.bind (α := ((List UInt8) × Int) ⊕ Bool) ((idxO ((B.drop m).take 6) s2867.2.2).bind fun x2890 =>
(appO p ([47])).bind fun x2893 =>
(appO x2893 x2890).bind fun x2894 =>
Option.bind (α := ((List UInt8))) (if p = ([47]) then ((appO ([47]) x2890).bind fun x2899 =>
some x2899)
 else (some x2894)) fun r2897 => (fDo (prsF s) (9, r2897, [], 0, 0, ([] : List UInt8))).bind fun x2900 =>
if (leqB x2890 s2867.1) = true then (some (.inr false))
 else (if x2900.2.1 = 0 then (some (.inl (x2890, IntKind.i64.wrap (s2867.2.1 + 1))))
 else (some (.inr false)))) fun o2889 => Sum.elim (fun r2889 => some (.inl (r2889.1, r2889.2, IntKind.i64.wrap (s2867.2.2 + 1)))) (fun rv => some (.inr (.inr rv))) o2889)
 else (some (.inr (.inl (s2867.1, s2867.2.1))))) (lastN B m, (m : Int), 0) = some (.inl (lastN B (m + ((B.drop m).take 6).length), ((m + ((B.drop m).take 6).length : Nat) : Int)) : (List UInt8 × Int) ⊕ Bool) := by
  have hl := okP_pth hp
  refine loop_runE (fun k (t : (List UInt8) × Int × Int) => t = (lastN B (m + k), ((m + k : Nat) : Int), (k : Int))) _ ((B.drop m).take 6).length rfl ?_ ?_
  · rintro k _ hk rfl
    refine .inl ⟨_, ?_, rfl⟩
    simp only
    have hkl : m + k < B.length := by simp at hk; omega
    have hx : ((B.drop m).take 6)[k] = B[m + k] := by rw [List.getElem_take, List.getElem_drop]
    rw [if_pos (by omega), idxO_get hk, hx]
    simp only [Option.bind_some]
    obtain ⟨f, hf⟩ := hin _ (List.getElem_mem hkl)
    have hk2 := hs.ok _ _ hf
    have hkl2 := (okP_pth hk2).2.2
    have he := kid_eq (x := B[m + k]) hp
    have hlx : B[m + k].length ≤ 24 := by
      rw [← he] at hkl2
      split at hkl2 <;> simp at hkl2 <;> omega
    rw [appO_byte (by simp; omega)]
    simp only [Option.bind_some]
    rw [appO_byte (by simp; omega)]
    simp only [Option.bind_some]
    have hq : (if p = [47] then (appO [47] B[m + k]).bind fun x => some x else some (p ++ [47] ++ B[m + k])) = some (kid p B[m + k]) := by
      rw [← he]
      split
      · rw [appO_byte (by simp; omega)]; rfl
      · rfl
    rw [hq]
    simp only [Option.bind_some]
    rw [fDo_eq hs hc hn (9, kid p B[m + k], [], 0, 0, []) (opOk (by simp only; omega) (by simp) (by simp))]
    simp only [Option.bind_some]
    rw [if_neg (by rw [leq_not (lastN_lt hst hne (Nat.le_refl _) hkl)]; decide)]
    have hd : (doP s (9, kid p B[m + k], [], 0, 0, [])).1.1 = 0 := by
      show (stt s (kid p B[m + k])).1 = 0
      unfold stt
      rw [lk_some hs hf, if_pos rfl]
      split <;> rfl
    rw [if_pos hd]
    simp only [Option.bind_some, Sum.elim_inl]
    rw [i64_id (by omega) (by omega), i64_id (by omega) (by omega)]
    have : lastN B (m + (k + 1)) = B[m + k] := by
      unfold lastN
      rw [if_neg (by omega), List.getD_eq_getElem?_getD, show m + (k + 1) - 1 = m + k by omega, List.getElem?_eq_getElem hkl]; rfl
    rw [this]
    rfl
  · rintro _ rfl
    refine ⟨_, ?_, rfl⟩
    simp only
    rw [if_neg (by omega)]
end
theorem lists_true (L : List P2) (p : List UInt8) : lLists L p = some true := by
  unfold lLists
  rw [speaks_eq]
  simp only [Option.bind_some, Bool.not_true, Bool.false_eq_true, if_false]
  rcases lGreat_eq L (0, p, [], 0, 0, []) with h | ⟨h, hl, hb, o1, _, _⟩
  · rw [h]; rfl
  rw [h]
  simp only [Option.bind_some, Bool.false_eq_true, if_false]
  rcases law_start L hl hb with h2 | ⟨h2, s, hs, hc, rfl⟩
  · rw [h2]; rfl
  rw [h2]
  simp only at o1
  simp only [Option.bind_some, if_true]
  have hB := hs.below hc (by omega) p
  generalize hBB : bl s p = B at hB
  have hle : B.Pairwise (· ≤ ·) := by have := hB.le; rwa [hBB] at this
  have hnd : B.Nodup := by have := hB.nd; rwa [hBB] at this
  have hlen : B.length ≤ 60 := by have := hB.len; rwa [hBB] at this
  have hst : B.Pairwise (· < ·) := by
    rw [List.nodup_iff_pairwise_ne] at hnd
    refine (hle.and hnd).imp fun {a b} h => ?_
    rcases List.le_iff_lt_or_eq.1 h.1 with h3 | h3
    · exact h3
    · exact absurd h3 h.2
  have hmem : ∀ x ∈ B, ∃ q f, s q = some f ∧ q ≠ [47] ∧ par q = p ∧ bas q = x := fun x hx => (hB.mem x).1 (by rw [hBB]; exact hx)
  have hin : ∀ x ∈ B, ∃ f, s (kid p x) = some f := fun x hx => by
    obtain ⟨q, f, q1, q2, q3, q4⟩ := hmem x hx
    have := kid_of (hs.ok _ _ q1) q2
    rw [q3, q4] at this
    exact ⟨f, by rw [← this]; exact q1⟩
  have hne : ∀ x ∈ B, x ≠ [] := fun x hx => by
    obtain ⟨q, f, q1, q2, q3, q4⟩ := hmem x hx
    have h3 := (okP_pth (hs.ok _ _ q1)).1
    have h4 := (nm_par (hs.ok _ _ q1) q2).2.1
    rw [← q4]
    exact isNm_nil (h3 _ (by rw [h4]; simp))
  by_cases hk : (lk s p).2 = 0 ∧ (lk s p).1.1 = true
  · obtain ⟨e1, e2⟩ := hk
    have hp := (lk_ok e1).1
    have hlist : ∀ to : List UInt8, (doP s (8, p, to, 0, 0, [])).1 = (0, (B.length : Int), [], (B.filter fun x => !leqB x to).take 6) := fun to => by
      show ls s (8, p, to, 0, 0, []) = _
      unfold ls
      simp only
      rw [if_pos e1, if_pos e2, hBB]
    have hlast : ∀ m, (lastN B m).length ≤ 400 := fun m => by
      unfold lastN
      split
      · simp
      · rw [List.getD_eq_getElem?_getD]
        cases hx : B[m - 1]? with
        | none => simp
        | some x =>
          obtain ⟨q, f, q1, q2, q3, q4⟩ := hmem x (List.mem_of_getElem? hx)
          have h3 := (okP_pth (hs.ok _ _ q1)).1
          have h4 := (nm_par (hs.ok _ _ q1) q2).2.1
          have h5 := h3 (bas q) (by rw [h4]; simp)
          unfold isNm at h5
          simp only [Bool.and_eq_true, decide_eq_true_eq] at h5
          simp only [Option.getD_some]
          rw [← q4]; omega
    refine bind_run (fun k (t : (List UInt8) × Int × Int × Int) => t = (lastN B (min (6 * k) B.length), ((min (6 * k) B.length : Nat) : Int), (if k = 0 then (-1 : Int) else (B.length : Int)), (k : Int))) (fun r => r = .inl ((B.length : Int), (B.length : Int))) 70 (by simp [lastN]) ?_ ?_ ?_
    · rintro k _ hk rfl
      simp only
      generalize hmm : min (6 * k) B.length = m
      have hml : m ≤ B.length := by omega
      rw [if_pos (by omega), fDo_eq hs hc (by omega) (8, p, lastN B m, 0, 0, []) (opOk (by simp only; omega) (by have := hlast m; simp only; omega) (by simp))]
      simp only [Option.bind_some]
      rw [hlist, filter_drop hst hne hml, if_pos rfl]
      simp only
      have hn6 : ¬ (6 < ((((B.drop m).take 6).length : Nat) : Int)) := by simp; omega
      have hinner := list_loop hs hc (by omega) hp hBB hst hne (by omega) hin m hml
      by_cases hz : (((B.drop m).take 6).length : Int) = 0
      · have hmB : m = B.length := by simp at hz; omega
        refine .inr ⟨.inl ((B.length : Int), (B.length : Int)), ?_, rfl⟩
        by_cases hk0 : k = 0
        · simp only [hk0, if_true]
          rw [if_neg (by omega), if_neg hn6, if_pos hz, hmB]
        · simp only [if_neg hk0]
          rw [if_pos (show (0 : Int) ≤ (B.length : Int) by omega)]
          simp only [if_true]
          rw [if_neg hn6, if_pos hz, hmB]
      · refine .inl ⟨_, ?_, rfl⟩
        have e6 : m + ((B.drop m).take 6).length = min (6 * (k + 1)) B.length := by simp; omega
        by_cases hk0 : k = 0
        · simp only [hk0, if_true]
          rw [if_neg (by omega), if_neg hn6, if_neg hz]
          rw [hinner]
          simp only [Option.bind_some, Sum.elim_inl]
          rw [e6, i64_id (by omega) (by omega), if_neg (by omega), hk0]
          rfl
        · simp only [if_neg hk0]
          rw [if_pos (show (0 : Int) ≤ (B.length : Int) by omega)]
          simp only [if_true]
          rw [if_neg hn6, if_neg hz]
          rw [hinner]
          simp only [Option.bind_some, Sum.elim_inl]
          rw [e6, i64_id (by omega) (by omega), if_neg (by omega)]
          rfl
    · rintro _ rfl
      simp only
      rw [if_neg (by omega), if_neg (by omega)]
      refine ⟨_, rfl, ?_⟩
      rw [show min (6 * 70) B.length = B.length by omega]
    · rintro _ rfl
      simp
  · have hcode : ∀ to : List UInt8, (doP s (8, p, to, 0, 0, [])).1.1 ≠ 0 := fun to => by
      show (ls s (8, p, to, 0, 0, [])).1 ≠ 0
      unfold ls
      simp only
      by_cases e1 : (lk s p).2 = 0
      · rw [if_pos e1, if_neg (fun e2 => hk ⟨e1, e2⟩)]; simp
      · rw [if_neg e1]; exact e1
    rw [loopO_eq]
    simp only
    rw [if_pos (by decide), fDo_eq hs hc (by omega) (8, p, [], 0, 0, []) (opOk (by simp only; omega) (by simp) (by simp))]
    simp only [Option.bind_some]
    rw [if_neg (hcode [])]
    rfl
end Go.Proofs.YtohmcgmmphpgoaaGreatDoor
