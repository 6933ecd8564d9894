/- Plain: how kids are parted into nodes. -/
import Derived.Test.YtnjemlkcamdbfaaGreatDoorTrI
set_option linter.unusedSimpArgs false
set_option linter.unusedVariables false
namespace Go.Proofs.YtnjemlkcamdbfaaGreatDoor
open Go.RowKit Go.Tri
def inS (lv : Nat) (s : List Nat × Nat) (k : List UInt8) : List Nat × Nat := if s.2 + 1 = 4 ∨ (2 ≤ s.2 + 1 ∧ mark k lv = true) then (s.1 ++ [s.2 + 1], 0) else (s.1, s.2 + 1)
def inF (s : List Nat × Nat) : List Nat := if 0 < s.2 then s.1 ++ [s.2] else s.1
def inn (lv : Nat) (l : List (List UInt8)) : List Nat := inF (l.foldl (inS lv) ([], 0))
def growI (lv c : Nat) (k : List UInt8) : List (List UInt8) → Nat
  | [] => 0
  | p :: r => if c < 4 ∧ (c < 2 ∨ mark k lv = false) then growI lv (c + 1) p r + 1 else 0
theorem growI_le (lv : Nat) : ∀ (l : List (List UInt8)) (c : Nat) (k : List UInt8), growI lv c k l ≤ l.length ∧ growI lv c k l ≤ 4 - c
  | [], _, _ => ⟨Nat.le_refl _, Nat.zero_le _⟩
  | p :: r, c, k => by
    unfold growI
    split
    · have := growI_le lv r (c + 1) p; simp; omega
    · exact ⟨Nat.zero_le _, Nat.zero_le _⟩
def midI (lv : Nat) (o : List Nat) (c : Nat) (k : List UInt8) (r : List (List UInt8)) : List Nat := inF (r.foldl (inS lv) (if c = 4 ∨ (2 ≤ c ∧ mark k lv = true) then (o ++ [c], 0) else (o, c)))
theorem midI_grow (lv : Nat) : ∀ (r : List (List UInt8)) (o : List Nat) (c : Nat) (k : List UInt8), 0 < c → c ≤ 4 → midI lv o c k r = match r.drop (growI lv c k r) with
    | [] => o ++ [c + growI lv c k r]
    | p :: r' => midI lv (o ++ [c + growI lv c k r]) 1 p r'
  | [], o, c, k, hc, h4 => by
    unfold midI growI
    simp only [List.foldl_nil, List.drop_nil]
    split
    · simp [inF]
    · simp [inF, hc]
  | p :: r, o, c, k, hc, h4 => by
    by_cases hk : c = 4 ∨ (2 ≤ c ∧ mark k lv = true)
    · have hg : growI lv c k (p :: r) = 0 := by
        unfold growI
        rw [if_neg]
        rintro ⟨h1, h2⟩
        rcases hk with h | ⟨h, h'⟩
        · omega
        · rcases h2 with h2 | h2
          · omega
          · rw [h'] at h2; cases h2
      rw [hg]
      simp only [List.drop_zero, Nat.add_zero]
      unfold midI
      rw [if_pos hk, List.foldl_cons]
      congr 2
    · have hk' : c < 4 ∧ (c < 2 ∨ mark k lv = false) := by
        cases hm : mark k lv
        · exact ⟨by omega, .inr rfl⟩
        · have : ¬ 2 ≤ c := fun h => hk (.inr ⟨h, hm⟩)
          exact ⟨by omega, .inl (by omega)⟩
      have hg : growI lv c k (p :: r) = growI lv (c + 1) p r + 1 := by
        show (if c < 4 ∧ (c < 2 ∨ mark k lv = false) then growI lv (c + 1) p r + 1 else 0) = _
        rw [if_pos hk']
      rw [hg, List.drop_succ_cons]
      have ih := midI_grow lv r o (c + 1) p (by omega) (by omega)
      rw [show c + (growI lv (c + 1) p r + 1) = c + 1 + growI lv (c + 1) p r by omega, ← ih]
      unfold midI
      rw [if_neg hk, List.foldl_cons]
      congr 2
theorem inn_cons (lv : Nat) (p : List UInt8) (r : List (List UInt8)) : inn lv (p :: r) = midI lv [] 1 p r := by
  unfold inn midI
  rw [List.foldl_cons]
  congr 2
def SmallB (l : List (List UInt8)) : Prop := l.length ≤ 100000 ∧ ∀ p ∈ l, p.length ≤ 100000
theorem SmallB.at {l : List (List UInt8)} (h : SmallB l) {i : Nat} {p : List UInt8} (hi : l[i]? = some p) : i < l.length ∧ i < 100000 ∧ p.length ≤ 100000 := by
  have h1 := (List.getElem?_eq_some_iff.1 hi).1
  exact ⟨h1, by have := h.1; omega, h.2 p (List.mem_of_getElem? hi)⟩
theorem inS_len (lv : Nat) (s : List Nat × Nat) (p : List UInt8) : (inS lv s p).1.length + (inS lv s p).2 ≤ s.1.length + s.2 + 1 := by
  unfold inS
  split <;> simp <;> omega
theorem pInner_eq (l : List (List UInt8)) (hl : SmallB l) (lv : Nat) (hv : lv ≤ 15) : m_shape_Inner l (lv : Int) = some (izN (inn lv l)) := by
  unfold m_shape_Inner
  refine (congrArg (fun o => Option.bind o _) (loop_xs0 (s0 := (([], 0) : List Nat × Nat)) l (fun (s : List Nat × Nat) (i : Int) => (izN s.1, (s.2 : Int), i)) (fun s p => .inl (inS lv s p)) (fun s => (izN s.1, (s.2 : Int))) (fun i s => s.1.length + s.2 ≤ i) (by simp) (fun i s p hp hI => ?_) (fun s hI => by simp only; rw [if_neg (by omega)]))).trans ?_
  · obtain ⟨hi, hi2, hp1⟩ := hl.at hp
    have hm := pMark_eq p lv hv (by omega)
    have hcap : ∀ (n : Int), appO (izN s.1) [n] = some (izN s.1 ++ [n]) := fun n => appO_of (by simp [izN_len]; omega)
    refine ⟨?_, fun s' hs' => by
      cases hs'
      have := inS_len lv s p
      omega⟩
    simp only
    rw [if_pos (by omega), idxO_nat hp]
    have e3 : IntKind.i64.wrap ((s.2 : Int) + 1) = ((s.2 + 1 : Nat) : Int) := by rw [i64_id (by omega) (by omega)]; omega
    have e4 : IntKind.i64.wrap ((i : Int) + 1) = ((i + 1 : Nat) : Int) := by rw [i64_id (by omega) (by omega)]; omega
    simp only [Option.bind_some, Sum.elim_inl, e3, e4, hm, hcap]
    unfold inS
    by_cases h4 : s.2 + 1 = 4
    · rw [if_pos (by omega), if_pos (.inl h4)]
      simp only [Option.bind_some, izN_app]; rfl
    · rw [if_neg (by omega)]
      by_cases h2 : 2 ≤ s.2 + 1
      · rw [if_pos (by omega)]
        cases hmk : mark p lv
        · simp [h4]
        · rw [if_pos (show s.2 + 1 = 4 ∨ (2 ≤ s.2 + 1 ∧ true = true) from .inr ⟨h2, rfl⟩)]
          simp only [Option.bind_some, if_true, izN_app]; rfl
      · rw [if_neg (by omega), if_neg (by omega)]; rfl
  · have hrun : ∀ (l : List (List UInt8)) (s : List Nat × Nat), runE (fun s p => (.inl (inS lv s p) : _ ⊕ (List Int × Int))) (fun s => (izN s.1, (s.2 : Int))) l s = (izN (l.foldl (inS lv) s).1, ((l.foldl (inS lv) s).2 : Int)) := by
      intro l
      induction l with
      | nil => intro s; rfl
      | cons p l ih => intro s; simp only [runE, List.foldl_cons]; exact ih _
    have hlen : ∀ (l : List (List UInt8)) (s : List Nat × Nat), (l.foldl (inS lv) s).1.length + (l.foldl (inS lv) s).2 ≤ s.1.length + s.2 + l.length := by
      intro l
      induction l with
      | nil => intro s; simp
      | cons p l ih => intro s; have := ih (inS lv s p); have := inS_len lv s p; simp only [List.foldl_cons, List.length_cons]; omega
    rw [hrun]
    simp only [Option.bind_some]
    have h2 := hlen l ([], 0)
    have h3 := hl.1
    unfold inn inF
    generalize l.foldl (inS lv) ([], 0) = t at *
    simp only [List.length_nil] at h2
    rw [appO_of (by simp [izN_len]; omega)]
    simp only [Option.bind_some]
    by_cases h0 : 0 < t.2
    · rw [if_pos (by omega), if_pos h0]; simp only [Option.bind_some, izN_app]
    · rw [if_neg (by omega), if_neg h0]; rfl
theorem rGrowI (l : List (List UInt8)) (hl : SmallB l) (lv : Nat) {f : Int → Option (Int ⊕ Int)} (A : Nat)
    (hf : ∀ (n : Nat) (q : List UInt8), 1 ≤ n → n ≤ 4 → l[A + n - 1]? = some q → f (n : Int) = if A + n < l.length then some (if n < 4 ∧ (n < 2 ∨ mark q lv = false) then .inl ((n + 1 : Nat) : Int) else .inr (n : Int)) else some (.inr (n : Int))) : ∀ (m n : Nat) (q : List UInt8), A + n + m = l.length → 1 ≤ n → n ≤ 4 → l[A + n - 1]? = some q → loopO f (n : Int) = some (((n + growI lv n q (l.drop (A + n)) : Nat)) : Int)
  | 0, n, q, hm, h1, h2, hq => by
    rw [loopO_eq, hf n q h1 h2 hq, if_neg (by omega), List.drop_eq_nil_of_le (by omega)]
    rfl
  | m + 1, n, q, hm, h1, h2, hq => by
    have hlt : A + n < l.length := by omega
    rw [loopO_eq, hf n q h1 h2 hq, if_pos hlt, List.drop_eq_getElem_cons hlt]
    simp only [growI]
    by_cases h : n < 4 ∧ (n < 2 ∨ mark q lv = false)
    · rw [if_pos h, if_pos h]
      simp only [Option.bind_some]
      have := rGrowI l hl lv A hf m (n + 1) l[A + n] (by omega) (by omega) (by omega) (by rw [show A + (n + 1) - 1 = A + n by omega]; exact List.getElem?_eq_getElem hlt)
      rw [this]
      congr 2
      rw [show A + (n + 1) = A + n + 1 by omega]; omega
    · rw [if_neg h, if_neg h]; rfl
theorem rInner_eq (l : List (List UInt8)) (hl : SmallB l) (lv : Nat) (hv : lv ≤ 15) : m_triremeref06_Inner l (lv : Int) = some (izN (inn lv l)) := by
  unfold m_triremeref06_Inner
  have h3 := hl.1
  have key : ∀ (f : (List Int) × Int → Option (((List Int) × Int) ⊕ List Int)),
      (∀ (o : List Nat) (A : Nat), l.length ≤ A → f (izN o, (A : Int)) = some (.inr (izN o))) →
      (∀ (o : List Nat) (A : Nat) (p : List UInt8), o.length ≤ A → l[A]? = some p → f (izN o, (A : Int)) = some (.inl (izN (o ++ [1 + growI lv 1 p (l.drop (A + 1))]), ((A + (1 + growI lv 1 p (l.drop (A + 1))) : Nat) : Int)))) →
      ∀ (m A : Nat) (o : List Nat), l.length - A ≤ m → o.length ≤ A → loopO f (izN o, (A : Int)) = some (izN (match l.drop A with | [] => o | p :: r => midI lv o 1 p r)) := by
    intro f he hs m
    induction m with
    | zero =>
      intro A o hm ho
      rw [loopO_eq, he o A (by omega), List.drop_eq_nil_of_le (by omega)]; rfl
    | succ m ih =>
      intro A o hm ho
      by_cases hA : l.length ≤ A
      · rw [loopO_eq, he o A hA, List.drop_eq_nil_of_le hA]; rfl
      · have hlt : A < l.length := by omega
        rw [loopO_eq, hs o A _ ho (List.getElem?_eq_getElem hlt), List.drop_eq_getElem_cons hlt]
        simp only [Option.bind_some]
        rw [ih _ _ (by omega) (by simp; omega), midI_grow lv _ o 1 _ (by omega) (by omega), List.drop_drop]
        rw [show A + 1 + growI lv 1 l[A] (l.drop (A + 1)) = A + (1 + growI lv 1 l[A] (l.drop (A + 1))) by omega]
  refine (congrArg (fun o => Option.bind o _) (key _ (fun o A hA => by rw [if_neg (by simp only; omega)]) (fun o A p ho hp => ?_) l.length 0 [] (by omega) (by simp))).trans ?_
  · obtain ⟨hi, hi2, hp1⟩ := hl.at hp
    have hg := (growI_le lv (l.drop (A + 1)) 1 p).1
    simp only [List.length_drop] at hg
    simp only
    rw [if_pos (by omega)]
    have h1 := rGrowI l hl lv (f := (fun (s367 : Int) => if s367 < 4 then (if (IntKind.i64.wrap ((A : Int) + s367)) < ((l).length : Int) then (if s367 < 2 then (some (.inl (IntKind.i64.wrap (s367 + 1))))
 else ((idxO l (IntKind.i64.wrap ((IntKind.i64.wrap ((A : Int) + s367)) - 1))).bind fun x371 =>
(m_triremeref06_Mark x371 (lv : Int)).bind fun x375 =>
if (!x375) = true then (some (.inl (IntKind.i64.wrap (s367 + 1))))
 else (some (.inr s367))))
 else (some (.inr s367)))
 else (some (.inr s367)))) A (fun n q hn hs hq => ?_) (l.length - (A + 1)) 1 p (by omega) (by omega) (by omega) (by rw [Nat.add_sub_cancel]; exact hp)
    · refine (congrArg (fun o => Option.bind o _) h1).trans ?_
      simp only [Option.bind_some]
      rw [appO_of (by simp [izN_len]; omega)]
      simp only [Option.bind_some]
      rw [izN_app, i64_id (by omega) (by omega)]
      rfl
    · obtain ⟨hq0, hq3, hq1⟩ := hl.at hq
      have e1 : IntKind.i64.wrap ((A : Int) + (n : Int)) = ((A + n : Nat) : Int) := by rw [i64_id (by omega) (by omega)]; omega
      have e2 : IntKind.i64.wrap (((A + n : Nat) : Int) - 1) = ((A + n - 1 : Nat) : Int) := sub1 (by omega) (by omega)
      have e4 : IntKind.i64.wrap ((n : Int) + 1) = ((n + 1 : Nat) : Int) := by rw [i64_id (by omega) (by omega)]; omega
      simp only [e1, e2, e4, idxO_nat hq, Option.bind_some, rMark_eq q lv hv (by omega)]
      by_cases h4 : n < 4
      · rw [if_pos (by omega)]
        by_cases hlt : A + n < l.length
        · rw [if_pos (by omega), if_pos hlt]
          by_cases h2 : n < 2
          · rw [if_pos (by omega), if_pos ⟨h4, .inl h2⟩]
          · rw [if_neg (by omega)]
            cases hmk : mark q lv
            · rw [if_pos (show (!false) = true from rfl), if_pos ⟨h4, .inr rfl⟩]
            · rw [if_neg (by decide), if_neg (by simp; omega)]
        · rw [if_neg (show ¬ (((A + n : Nat) : Int) < (l.length : Int)) by omega), if_neg hlt]
      · rw [if_neg (show ¬ ((n : Int) < 4) by omega), if_neg (show ¬ (n < 4 ∧ (n < 2 ∨ mark q lv = false)) by omega)]
        split <;> rfl
  · simp only [Option.bind_some]
    cases l with
    | nil => rfl
    | cons p r =>
      simp only [List.drop_zero]
      rw [← inn_cons]
end Go.Proofs.YtnjemlkcamdbfaaGreatDoor
