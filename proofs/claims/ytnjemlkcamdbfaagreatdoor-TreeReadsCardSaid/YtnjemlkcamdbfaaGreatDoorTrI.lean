/- Plain: how pairs and kids are parted into nodes. -/
import Derived.Test.YtnjemlkcamdbfaaGreatDoorTrH
set_option linter.unusedSimpArgs false
set_option linter.unusedVariables false
namespace Go.Proofs.YtnjemlkcamdbfaaGreatDoor
open Go.RowKit Go.Tri
/-! ### Leaves -/
def szP (p : Pr) : Nat := 4 + p.1.length + p.2.length
/-- The program's step: (sizes, how many, how great). -/
def lfS (s : List Nat × Nat × Nat) (p : Pr) : List Nat × Nat × Nat :=
  let t := if 0 < s.2.1 ∧ 200 < s.2.2 + szP p then (s.1 ++ [s.2.1], 0, 0) else s
  if mark p.1 0 then (t.1 ++ [t.2.1 + 1], 0, 0) else (t.1, t.2.1 + 1, t.2.2 + szP p)
theorem lfS_at (o : List Nat) (c s : Nat) (p : Pr) : lfS (o, c, s) p = if 0 < c ∧ 200 < s + szP p then (if mark p.1 0 then (o ++ [c] ++ [1], 0, 0) else (o ++ [c], 1, szP p)) else (if mark p.1 0 then (o ++ [c + 1], 0, 0) else (o, c + 1, s + szP p)) := by
  unfold lfS
  by_cases h : 0 < c ∧ 200 < s + szP p
  · simp only [if_pos h]; simp
  · simp only [if_neg h]
def lfF (s : List Nat × Nat × Nat) : List Nat := if 0 < s.2.1 ∨ s.1 = [] then s.1 ++ [s.2.1] else s.1
def lvs (l : List Pr) : List Nat := lfF (l.foldl lfS ([], 0, 0))
/-- How many more pairs stand in a group. -/
def grow (k : List UInt8) (s : Nat) : List Pr → Nat
  | [] => 0
  | p :: r => if mark k 0 = false ∧ s + szP p ≤ 200 then grow p.1 (s + szP p) r + 1 else 0
theorem grow_le : ∀ (l : List Pr) (k : List UInt8) (s : Nat), grow k s l ≤ l.length
  | [], _, _ => Nat.le_refl _
  | p :: r, k, s => by
    unfold grow
    split
    · have := grow_le r p.1 (s + szP p); simp; omega
    · exact Nat.zero_le _
/-- Behind a pair, in the midst of a group. -/
def midF (o : List Nat) (c s : Nat) (k : List UInt8) (r : List Pr) : List Nat := lfF (r.foldl lfS (if mark k 0 then (o ++ [c], 0, 0) else (o, c, s)))
theorem mid_grow : ∀ (r : List Pr) (o : List Nat) (c s : Nat) (k : List UInt8), 0 < c → midF o c s k r = match r.drop (grow k s r) with
    | [] => o ++ [c + grow k s r]
    | p :: r' => midF (o ++ [c + grow k s r]) 1 (szP p) p.1 r'
  | [], o, c, s, k, hc => by
    unfold midF grow
    simp only [List.foldl_nil, List.drop_nil]
    cases mark k 0
    · simp [lfF, hc]
    · simp [lfF]
  | p :: r, o, c, s, k, hc => by
    by_cases hk : mark k 0 = true
    · have hg : grow k s (p :: r) = 0 := by unfold grow; rw [if_neg (by simp [hk])]
      rw [hg]
      simp only [List.drop_zero, Nat.add_zero]
      unfold midF
      rw [if_pos hk, List.foldl_cons]
      congr 2
      unfold lfS
      simp
    · have hk : mark k 0 = false := by simpa using hk
      by_cases hs : s + szP p ≤ 200
      · have hg : grow k s (p :: r) = grow p.1 (s + szP p) r + 1 := by unfold grow; rw [if_pos ⟨hk, hs⟩]; cases r <;> rfl
        rw [hg, List.drop_succ_cons]
        have ih := mid_grow r o (c + 1) (s + szP p) p.1 (by omega)
        rw [show c + (grow p.1 (s + szP p) r + 1) = c + 1 + grow p.1 (s + szP p) r by omega, ← ih]
        unfold midF
        rw [if_neg (by simp [hk]), List.foldl_cons]
        congr 2
        rw [lfS_at, if_neg (by omega)]
      · have hg : grow k s (p :: r) = 0 := by unfold grow; rw [if_neg (by omega)]
        rw [hg]
        simp only [List.drop_zero, Nat.add_zero]
        unfold midF
        rw [if_neg (by simp [hk]), List.foldl_cons]
        congr 2
        rw [lfS_at, if_pos ⟨hc, by omega⟩]
theorem lvs_cons (p : Pr) (r : List Pr) : lvs (p :: r) = midF [] 1 (szP p) p.1 r := by
  unfold lvs midF
  rw [List.foldl_cons]
  congr 2
  rw [lfS_at, if_neg (by omega)]; simp
theorem lvs_nil : lvs [] = [0] := rfl
def izN (l : List Nat) : List Int := l.map (fun (n : Nat) => (n : Int))
theorem izN_len (l : List Nat) : (izN l).length = l.length := by simp [izN]
theorem izN_app (l : List Nat) (n : Nat) : izN l ++ [(n : Int)] = izN (l ++ [n]) := by simp [izN]
theorem lfS_len (s : List Nat × Nat × Nat) (p : Pr) : (lfS s p).1.length + (lfS s p).2.1 ≤ s.1.length + s.2.1 + 1 ∧ (lfS s p).2.2 ≤ s.2.2 + szP p := by
  unfold lfS
  by_cases h1 : 0 < s.2.1 ∧ 200 < s.2.2 + szP p
  · rw [if_pos h1]; cases mark p.1 0 <;> simp <;> omega
  · rw [if_neg h1]; cases mark p.1 0 <;> simp <;> omega
theorem pLeaves_eq (l : List Pr) (hl : SmallP l) : m_shape_Leaves l = some (izN (lvs l)) := by
  unfold m_shape_Leaves
  refine (congrArg (fun o => Option.bind o _) (loop_xs0 (s0 := (([], 0, 0) : List Nat × Nat × Nat)) l (fun (s : List Nat × Nat × Nat) (i : Int) => ((s.2.2 : Int), (s.2.1 : Int), izN s.1, i)) (fun s p => .inl (lfS s p)) (fun s => ((s.2.2 : Int), (s.2.1 : Int), izN s.1)) (fun i s => s.1.length + s.2.1 ≤ i ∧ s.2.2 ≤ 300000 * i) (by simp) (fun i s p hp hI => ?_) (fun s hI => by simp only; rw [if_neg (by omega)]))).trans ?_
  · obtain ⟨hi, hi2, hp1, hp2⟩ := hl.at hp
    have hsz : szP p ≤ 200004 := by unfold szP; omega
    have e1 : IntKind.i64.wrap (IntKind.i64.wrap (4 + (p.1.length : Int)) + (p.2.length : Int)) = (szP p : Int) := by
      rw [i64_id (n := 4 + (p.1.length : Int)) (by omega) (by omega), i64_id (by omega) (by omega)]; unfold szP; omega
    have hm := pMark_eq p.1 0 (by omega) (by omega)
    have hm : m_shape_Mark p.1 0 = some (mark p.1 0) := hm
    have hcap : ∀ (o : List Nat) (n : Int), o.length ≤ 1000000 → appO (izN o) [n] = some (izN o ++ [n]) := fun o n ho => appO_of (by simp [izN_len]; omega)
    refine ⟨?_, fun s' hs' => by
      cases hs'
      have := lfS_len s p
      omega⟩
    simp only
    rw [if_pos (by omega), idxO_nat hp]
    simp only [Option.bind_some, e1, hm, Sum.elim_inl]
    have e2 : IntKind.i64.wrap ((s.2.2 : Int) + (szP p : Int)) = ((s.2.2 + szP p : Nat) : Int) := by rw [i64_id (by omega) (by omega)]; omega
    have e3 : IntKind.i64.wrap ((s.2.1 : Int) + 1) = ((s.2.1 + 1 : Nat) : Int) := by rw [i64_id (by omega) (by omega)]; omega
    have e4 : IntKind.i64.wrap ((i : Int) + 1) = ((i + 1 : Nat) : Int) := by rw [i64_id (by omega) (by omega)]; omega
    rw [e2, e3, e4]
    have e5 : IntKind.i64.wrap (0 + (szP p : Int)) = (szP p : Int) := by rw [i64_id (by omega) (by omega)]; omega
    have e6 : IntKind.i64.wrap (0 + 1) = 1 := rfl
    by_cases h0 : 0 < s.2.1
    · rw [if_pos (by omega)]
      by_cases h1 : 200 < s.2.2 + szP p
      · rw [if_pos (by omega)]
        unfold lvEnd
        simp only [hcap s.1 _ (by omega), Option.bind_some, e5, e6]
        have hS : lfS s p = if mark p.1 0 then (s.1 ++ [s.2.1] ++ [1], 0, 0) else (s.1 ++ [s.2.1], 1, szP p) := by
          have := lfS_at s.1 s.2.1 s.2.2 p
          rw [if_pos ⟨h0, h1⟩] at this; exact this
        rw [hS, izN_app]
        cases hmk : mark p.1 0
        · simp
        · simp only [if_true, hcap (s.1 ++ [s.2.1]) _ (by simp; omega), Option.bind_some]
          rw [show (1 : Int) = ((1 : Nat) : Int) from rfl, izN_app]; rfl
      · rw [if_neg (by omega)]
        have hS : lfS s p = if mark p.1 0 then (s.1 ++ [s.2.1 + 1], 0, 0) else (s.1, s.2.1 + 1, s.2.2 + szP p) := by
          have := lfS_at s.1 s.2.1 s.2.2 p
          rw [if_neg (by omega)] at this; exact this
        rw [hS]
        unfold lvEnd
        simp only [Option.bind_some]
        rw [e3, e2]
        cases hmk : mark p.1 0
        · simp
        · simp only [if_true, hcap s.1 _ (by omega), Option.bind_some]
          rw [izN_app]; rfl
    · rw [if_neg (by omega)]
      have hS : lfS s p = if mark p.1 0 then (s.1 ++ [s.2.1 + 1], 0, 0) else (s.1, s.2.1 + 1, s.2.2 + szP p) := by
        have := lfS_at s.1 s.2.1 s.2.2 p
        rw [if_neg (by omega)] at this; exact this
      rw [hS]
      unfold lvEnd
      cases hmk : mark p.1 0
      · simp
      · simp only [if_true, hcap s.1 _ (by omega), Option.bind_some]
        rw [izN_app]; rfl
  · have hrun : ∀ (l : List Pr) (s : List Nat × Nat × Nat), runE (fun s p => (.inl (lfS s p) : _ ⊕ (Int × Int × List Int))) (fun s => ((s.2.2 : Int), (s.2.1 : Int), izN s.1)) l s = (((l.foldl lfS s).2.2 : Int), ((l.foldl lfS s).2.1 : Int), izN (l.foldl lfS s).1) := by
      intro l
      induction l with
      | nil => intro s; rfl
      | cons p l ih => intro s; simp only [runE, List.foldl_cons]; exact ih _
    have hlen : ∀ (l : List Pr) (s : List Nat × Nat × Nat), (l.foldl lfS s).1.length + (l.foldl lfS s).2.1 ≤ s.1.length + s.2.1 + l.length := by
      intro l
      induction l with
      | nil => intro s; simp
      | cons p l ih => intro s; have := ih (lfS s p); have := lfS_len s p; simp only [List.foldl_cons, List.length_cons]; omega
    rw [hrun]
    simp only [Option.bind_some]
    have h2 := hlen l ([], 0, 0)
    have h3 := hl.1
    unfold lvs lfF
    generalize l.foldl lfS ([], 0, 0) = t at *
    simp only [List.length_nil] at h2
    unfold lvEnd
    rw [appO_of (by simp [izN_len]; omega)]
    simp only [Option.bind_some]
    rw [izN_app]
    by_cases h0 : 0 < t.2.1
    · rw [if_pos (by omega), if_pos (.inl h0)]
    · rw [if_neg (by omega)]
      by_cases h1 : t.1 = []
      · rw [if_pos (by simp [h1, izN]), if_pos (.inr h1)]; rfl
      · rw [if_neg (by rw [izN_len]; intro h; exact h1 (List.eq_nil_of_length_eq_zero (by omega))), if_neg (by simp [h1, h0])]; rfl
theorem size_eq (p : Pr) (h1 : p.1.length ≤ 100000) (h2 : p.2.length ≤ 100000) : m_triremeref06_size p = some (szP p : Int) := by
  unfold m_triremeref06_size szP
  rw [i64_id (n := 4 + (p.1.length : Int)) (by omega) (by omega), i64_id (by omega) (by omega)]
  congr 1
/-- A group is gone through from its beginning. -/
theorem rGrow (l : List Pr) (hl : SmallP l) {f : Int × Int → Option ((Int × Int) ⊕ Int)} (A : Nat)
    (hf : ∀ (n s : Nat) (q : Pr), 1 ≤ n → s ≤ 200004 → l[A + n - 1]? = some q → f ((n : Int), (s : Int)) = match l[A + n]? with
      | some p => some (if mark q.1 0 = false ∧ s + szP p ≤ 200 then .inl (((n + 1 : Nat) : Int), ((s + szP p : Nat) : Int)) else .inr (n : Int))
      | none => some (.inr (n : Int))) : ∀ (m n s : Nat) (q : Pr), A + n + m = l.length → 1 ≤ n → s ≤ 200004 → l[A + n - 1]? = some q → loopO f ((n : Int), (s : Int)) = some (((n + grow q.1 s (l.drop (A + n)) : Nat)) : Int)
  | 0, n, s, q, hm, h1, h2, hq => by
    rw [loopO_eq, hf n s q h1 h2 hq, List.getElem?_eq_none (by omega), List.drop_eq_nil_of_le (by omega)]
    rfl
  | m + 1, n, s, q, hm, h1, h2, hq => by
    have hlt : A + n < l.length := by omega
    rw [loopO_eq, hf n s q h1 h2 hq, List.getElem?_eq_getElem hlt, List.drop_eq_getElem_cons hlt]
    simp only [grow]
    by_cases h : mark q.1 0 = false ∧ s + szP l[A + n] ≤ 200
    · rw [if_pos h, if_pos h]
      simp only [Option.bind_some]
      have := rGrow l hl A hf m (n + 1) (s + szP l[A + n]) l[A + n] (by omega) (by omega) (by omega) (by rw [show A + (n + 1) - 1 = A + n by omega]; exact List.getElem?_eq_getElem hlt)
      rw [this]
      congr 2
      rw [show A + (n + 1) = A + n + 1 by omega]; omega
    · rw [if_neg h, if_neg h]; rfl
theorem rLeaves_eq (l : List Pr) (hl : SmallP l) : m_triremeref06_Leaves l = some (izN (lvs l)) := by
  unfold m_triremeref06_Leaves
  have h3 := hl.1
  have key : ∀ (f : (List Int) × Int → Option (((List Int) × Int) ⊕ List Int)),
      (∀ (o : List Nat) (A : Nat), l.length ≤ A → f (izN o, (A : Int)) = some (.inr (izN o))) →
      (∀ (o : List Nat) (A : Nat) (p : Pr), o.length ≤ A → l[A]? = some p → f (izN o, (A : Int)) = some (.inl (izN (o ++ [1 + grow p.1 (szP p) (l.drop (A + 1))]), ((A + (1 + grow p.1 (szP p) (l.drop (A + 1))) : Nat) : Int)))) →
      ∀ (m A : Nat) (o : List Nat), l.length - A ≤ m → o.length ≤ A → loopO f (izN o, (A : Int)) = some (izN (match l.drop A with | [] => o | p :: r => midF o 1 (szP p) p.1 r)) := by
    intro f he hs m
    induction m with
    | zero =>
      intro A o hm ho
      rw [loopO_eq, he o A (by omega), List.drop_eq_nil_of_le (by omega)]; rfl
    | succ m ih =>
      intro A o hm ho
      by_cases hA : l.length ≤ A
      · rw [loopO_eq, he o A hA, List.drop_eq_nil_of_le hA]; rfl
      · have hlt : A < l.length := by omega
        rw [loopO_eq, hs o A _ ho (List.getElem?_eq_getElem hlt), List.drop_eq_getElem_cons hlt]
        simp only [Option.bind_some]
        rw [ih _ _ (by omega) (by simp; omega), mid_grow _ o 1 _ _ (by omega), List.drop_drop]
        rw [show A + 1 + grow l[A].1 (szP l[A]) (l.drop (A + 1)) = A + (1 + grow l[A].1 (szP l[A]) (l.drop (A + 1))) by omega]
  refine (congrArg (fun o => Option.bind o _) (key _ (fun o A hA => by rw [if_neg (by simp only; omega)]) (fun o A p ho hp => ?_) l.length 0 [] (by omega) (by simp))).trans ?_
  · obtain ⟨hi, hi2, hp1, hp2⟩ := hl.at hp
    have hsz : szP p ≤ 200004 := by unfold szP; omega
    have hg := grow_le (l.drop (A + 1)) p.1 (szP p)
    simp only [List.length_drop] at hg
    simp only
    rw [if_pos (by omega), idxO_nat hp]
    simp only [Option.bind_some]
    rw [size_eq p hp1 hp2]
    simp only [Option.bind_some]
    have h1 := rGrow l hl (f := (fun (s659 : Int × Int) => if (IntKind.i64.wrap ((A : Int) + s659.1)) < ((l).length : Int) then ((idxO l (IntKind.i64.wrap ((IntKind.i64.wrap ((A : Int) + s659.1)) - 1))).bind fun x661 =>
      (m_triremeref06_Mark x661.1 0).bind fun x668 =>
      if (!x668) = true then ((idxO l (IntKind.i64.wrap ((A : Int) + s659.1))).bind fun x670 =>
      (m_triremeref06_size x670).bind fun x672 =>
      if (IntKind.i64.wrap (s659.2 + x672)) ≤ 200 then ((idxO l (IntKind.i64.wrap ((A : Int) + s659.1))).bind fun x674 =>
      (m_triremeref06_size x674).bind fun x676 =>
      some (.inl (IntKind.i64.wrap (s659.1 + 1), IntKind.i64.wrap (s659.2 + x676))))
       else (some (.inr s659.1)))
       else (some (.inr s659.1)))
       else (some (.inr s659.1)))) A (fun n s q hn hs hq => ?_) (l.length - (A + 1)) 1 (szP p) p (by omega) (by omega) (by omega) (by rw [Nat.add_sub_cancel]; exact hp)
    · refine (congrArg (fun o => Option.bind o _) h1).trans ?_
      simp only [Option.bind_some]
      rw [appO_of (by simp [izN_len]; omega)]
      simp only [Option.bind_some]
      rw [izN_app, i64_id (by omega) (by omega)]
      rfl
    · obtain ⟨hq0, hq3, hq1, hq2⟩ := hl.at hq
      by_cases hlt : A + n < l.length
      · rw [List.getElem?_eq_getElem hlt]
        obtain ⟨_, _, hr1, hr2⟩ := hl.at (List.getElem?_eq_getElem hlt)
        have e1 : IntKind.i64.wrap ((A : Int) + (n : Int)) = ((A + n : Nat) : Int) := by rw [i64_id (by omega) (by omega)]; omega
        have e2 : IntKind.i64.wrap (((A + n : Nat) : Int) - 1) = ((A + n - 1 : Nat) : Int) := sub1 (by omega) (by omega)
        simp only [e1, e2]
        rw [if_pos (by omega), idxO_nat hq]
        simp only [Option.bind_some]
        have hm : m_triremeref06_Mark q.1 0 = some (mark q.1 0) := rMark_eq q.1 0 (by omega) (by omega)
        rw [hm, idxO_get hlt]
        simp only [Option.bind_some]
        rw [size_eq _ hr1 hr2]
        simp only [Option.bind_some]
        have e3 : IntKind.i64.wrap ((s : Int) + (szP l[A + n] : Int)) = ((s + szP l[A + n] : Nat) : Int) := by rw [i64_id (by omega) (by unfold szP; omega)]; omega
        have e4 : IntKind.i64.wrap ((n : Int) + 1) = ((n + 1 : Nat) : Int) := by rw [i64_id (by omega) (by omega)]; omega
        rw [e3, e4]
        cases mark q.1 0
        · simp only [Bool.not_false, if_true, true_and]
          by_cases h200 : s + szP l[A + n] ≤ 200
          · rw [if_pos (by omega), if_pos h200]
          · rw [if_neg (by omega), if_neg h200]
        · simp
      · rw [List.getElem?_eq_none (by omega)]
        simp only
        rw [if_neg (by rw [i64_id (by omega) (by omega)]; omega)]
  · simp only [Option.bind_some]
    cases l with
    | nil => rfl
    | cons p r =>
      simp only [List.drop_zero]
      rw [← lvs_cons]
      rw [if_neg]
      rw [izN_len]
      intro h
      have h0 : (lvs (p :: r)) = [] := List.eq_nil_of_length_eq_zero (by omega)
      unfold lvs lfF at h0
      split at h0
      · simp at h0
      · rename_i hx; exact hx (.inr h0)
end Go.Proofs.YtnjemlkcamdbfaaGreatDoor
