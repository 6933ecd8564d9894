/- Plain: operations on a state with snapshots. -/
import Derived.Test.YtnagibpmfabkjaaGreatDoorSpA
set_option linter.unusedSimpArgs false
set_option linter.unusedVariables false
namespace Go.Proofs.YtnagibpmfabkjaaGreatDoor
open Go.RowKit Go.Tri
theorem loop_wf {σ ρ : Type} {f : σ → Option (σ ⊕ ρ)} (I : σ → Prop) (Q : ρ → Prop) (m : σ → Nat) (hs : ∀ s, I s → (∃ s', f s = some (.inl s') ∧ I s' ∧ m s' < m s) ∨ ∃ r, f s = some (.inr r) ∧ Q r) : ∀ (n : Nat) (s : σ), m s < n → I s → ∃ r, loopO f s = some r ∧ Q r
  | 0, _, h, _ => by omega
  | n + 1, s, h, hi => by
    rcases hs s hi with ⟨s', h1, h2, h3⟩ | ⟨r, h1, h2⟩
    · obtain ⟨r, h4, h5⟩ := loop_wf I Q m hs n s' (by omega) h2
      exact ⟨r, by rw [loopO_eq, h1]; exact h4, h5⟩
    · exact ⟨r, by rw [loopO_eq, h1]; rfl, h2⟩
theorem bind_wf {σ ρ τ : Type} {f : σ → Option (σ ⊕ ρ)} {k : ρ → Option τ} {t : τ} (I : σ → Prop) (Q : ρ → Prop) (m : σ → Nat) {s0 : σ} (h0 : I s0)
    (hs : ∀ s, I s → (∃ s', f s = some (.inl s') ∧ I s' ∧ m s' < m s) ∨ ∃ r, f s = some (.inr r) ∧ Q r) (hk : ∀ r, Q r → k r = some t) : Option.bind (loopO f s0) k = some t := by
  obtain ⟨r, h1, h2⟩ := loop_wf I Q m hs _ s0 (Nat.lt_succ_self _) h0
  rw [h1]; exact hk r h2
theorem mid_eq {i j : Nat} (h : i + j ≤ 1000000) : IntKind.i64.wrap (shrI .u64 (IntKind.u64.wrap (IntKind.i64.wrap ((i : Int) + (j : Int)))) 1) = (((i + j) / 2 : Nat) : Int) := by
  rw [i64_id (n := (i : Int) + j) (by omega) (by omega), u64_id (by omega) (by omega)]
  have : shrI .u64 ((i : Int) + (j : Int)) 1 = (((i + j) / 2 : Nat) : Int) := by
    show Int.fdiv ((i : Int) + (j : Int)) 2 = _
    rw [Int.fdiv_eq_ediv_of_nonneg _ (by omega)]; omega
  rw [this, i64_id (by omega) (by omega)]
/-- The search in a list that is parted by a name. -/
theorem bs_run (A B : List Sn) (T : List UInt8) (hA : ∀ a ∈ A, a.1 < T) (hB : ∀ b ∈ B, ¬ b.1 < T) (hl : (A ++ B).length ≤ 100000) (t : Sn) (ht : t.1 = T) : bsSnap (A ++ B) t = some ((A.length : Int), decide ((B.head?.map (·.1)) = some T)) := by
  subst ht
  have low : ∀ (k : Nat) (h : k < (A ++ B).length), k < A.length → ((A ++ B)[k]).1 < t.1 := fun k h hk => by rw [List.getElem_append_left hk]; exact hA _ (List.getElem_mem _)
  have high : ∀ (k : Nat) (h : k < (A ++ B).length), A.length ≤ k → ¬ ((A ++ B)[k]).1 < t.1 := fun k h hk => by rw [List.getElem_append_right hk]; exact hB _ (List.getElem_mem _)
  unfold bsSnap
  refine bind_wf (fun s => ∃ i j : Nat, s = ((i : Int), (j : Int)) ∧ i ≤ A.length ∧ A.length ≤ j ∧ j ≤ (A ++ B).length) (fun r => r = (A.length : Int)) (fun s => (s.2 - s.1).toNat) ⟨0, _, rfl, by omega, by simp, by omega⟩ ?_ ?_
  · rintro _ ⟨i, j, rfl, h3, h4, h5⟩
    simp only
    by_cases h : (i : Int) < (j : Int)
    · rw [if_pos h, mid_eq (by omega), idxO_get (show (i + j) / 2 < (A ++ B).length by omega)]
      simp only [Option.bind_some, nCompare_eq, cmp_lt]
      by_cases h6 : ((A ++ B)[(i + j) / 2]'(by omega)).1 < t.1
      · rw [if_pos h6, i64_id (by omega) (by omega)]
        have h7 : (i + j) / 2 < A.length := by
          rcases Nat.lt_or_ge ((i + j) / 2) A.length with h8 | h8
          · exact h8
          · exact absurd h6 (high _ (by omega) h8)
        exact .inl ⟨_, rfl, ⟨(i + j) / 2 + 1, j, rfl, by omega, by omega, by omega⟩, by simp only; omega⟩
      · rw [if_neg h6]
        have h7 : A.length ≤ (i + j) / 2 := by
          rcases Nat.lt_or_ge ((i + j) / 2) A.length with h8 | h8
          · exact absurd (low _ (by omega) h8) h6
          · exact h8
        exact .inl ⟨_, rfl, ⟨i, (i + j) / 2, rfl, by omega, by omega, by omega⟩, by simp only; omega⟩
    · rw [if_neg h]
      exact .inr ⟨_, rfl, by omega⟩
  · rintro _ rfl
    cases B with
    | nil =>
      rw [if_neg (by simp)]; simp
    | cons b B =>
      rw [if_pos (by simp; omega), idxO_get (show A.length < (A ++ b :: B).length by simp)]
      simp only [Option.bind_some, nCompare_eq, List.getElem_append_right (Nat.le_refl A.length), Nat.sub_self, List.getElem_cons_zero, List.head?_cons, Option.map_some, Option.some.injEq]
      congr 2
      have : (Lib.compareBytes b.1 t.1 = 0) ↔ b.1 = t.1 := ⟨fun h => cmp_zero _ _ h, fun h => by rw [h]; exact cmp_self _⟩
      exact propext this
/-! ### What stands ahead of a name, at it, behind it -/
def loS (xs : List Sn) (T : List UInt8) : List Sn := xs.filter fun x => decide (x.1 < T)
def hiS (xs : List Sn) (T : List UInt8) : List Sn := xs.filter fun x => decide (T < x.1)
def atS (xs : List Sn) (T : List UInt8) : Option Sn := xs.find? fun x => decide (x.1 = T)
theorem lo_of {A B : List Sn} {T : List UInt8} (hA : ∀ a ∈ A, a.1 < T) (hB : ∀ b ∈ B, ¬ b.1 < T) : loS (A ++ B) T = A := by
  unfold loS
  rw [List.filter_append, List.filter_eq_self.2 fun a ha => decide_eq_true (hA a ha), List.filter_eq_nil_iff.2 fun b hb => by simpa using hB b hb, List.append_nil]
theorem hi_of {A B : List Sn} {T : List UInt8} (hA : ∀ a ∈ A, ¬ T < a.1) (hB : ∀ b ∈ B, T < b.1) : hiS (A ++ B) T = B := by
  unfold hiS
  rw [List.filter_append, List.filter_eq_nil_iff.2 fun a ha => by simpa using hA a ha, List.filter_eq_self.2 fun b hb => decide_eq_true (hB b hb), List.nil_append]
theorem part_of {xs : List Sn} (h : xs.Pairwise fun a b => a.1 < b.1) (T : List UInt8) : xs = loS xs T ++ ((atS xs T).toList ++ hiS xs T) := by
  induction xs with
  | nil => rfl
  | cons x xs ih =>
    obtain ⟨h1, h2⟩ := List.pairwise_cons.1 h
    rcases lt_or x.1 T with h3 | h3 | h3
    · have e1 : loS (x :: xs) T = x :: loS xs T := by unfold loS; rw [List.filter_cons, if_pos (decide_eq_true h3)]
      have e2 : hiS (x :: xs) T = hiS xs T := by unfold hiS; rw [List.filter_cons, if_neg (by simpa using fun h4 => lt_irr _ (lt_tr h3 h4))]
      have e3 : atS (x :: xs) T = atS xs T := by unfold atS; rw [List.find?_cons_of_neg (by simpa using fun h4 => lt_irr T (by rw [h4] at h3; exact h3))]
      rw [e1, e2, e3, List.cons_append, ← ih h2]
    · have e1 : loS (x :: xs) T = [] := List.filter_eq_nil_iff.2 fun y hy => by
        rcases List.mem_cons.1 hy with rfl | hy
        · simp [h3, lt_irr T]
        · have := h1 y hy; rw [h3] at this; simpa using fun h4 => lt_irr _ (lt_tr this h4)
      have e2 : hiS (x :: xs) T = xs := by
        unfold hiS
        rw [List.filter_cons, if_neg (by rw [h3]; simp [lt_irr T]), List.filter_eq_self.2 fun y hy => decide_eq_true (by rw [← h3]; exact h1 y hy)]
      have e3 : atS (x :: xs) T = some x := by unfold atS; rw [List.find?_cons_of_pos (by simpa using h3)]
      rw [e1, e2, e3]; rfl
    · have hall : ∀ y ∈ x :: xs, T < y.1 := fun y hy => by
        rcases List.mem_cons.1 hy with rfl | hy
        · exact h3
        · exact lt_tr h3 (h1 y hy)
      have e1 : loS (x :: xs) T = [] := List.filter_eq_nil_iff.2 fun y hy => by simpa using fun h4 => lt_irr _ (lt_tr (hall y hy) h4)
      have e2 : hiS (x :: xs) T = x :: xs := List.filter_eq_self.2 fun y hy => decide_eq_true (hall y hy)
      have e3 : atS (x :: xs) T = none := List.find?_eq_none.2 fun y hy => by simpa using fun h4 => lt_irr T (by have := hall y hy; rw [h4] at this; exact this)
      rw [e1, e2, e3]; rfl
theorem lo_lt {xs : List Sn} {T : List UInt8} : ∀ a ∈ loS xs T, a.1 < T := fun a ha => of_decide_eq_true (List.mem_filter.1 ha).2
theorem hi_lt {xs : List Sn} {T : List UInt8} : ∀ a ∈ hiS xs T, T < a.1 := fun a ha => of_decide_eq_true (List.mem_filter.1 ha).2
theorem at_eq {xs : List Sn} {T : List UInt8} {x : Sn} (h : atS xs T = some x) : x.1 = T ∧ x ∈ xs := ⟨by simpa using List.find?_some h, List.mem_of_find?_eq_some h⟩
theorem cut_at {α : Type} {xs A B : List α} {x : α} (h : xs = A ++ ([x] ++ B)) : xs.take A.length ++ xs.drop (A.length + 1) = A ++ B ∧ xs[A.length]? = some x := by
  subst h
  refine ⟨?_, by simp⟩
  rw [List.take_left' rfl, ← List.append_assoc, List.drop_left' (by simp)]
theorem put_at {α : Type} {xs A B : List α} (y : List α) (h : xs = A ++ B) : xs.take A.length ++ y ++ xs.drop A.length = A ++ (y ++ B) := by
  subst h
  rw [List.take_left' rfl, List.drop_left' rfl, List.append_assoc]
/-- An operation of one snapshot. -/
def snP (s : SS) (o : Opr) (gen : Int) : Int × SS :=
  if isNm o.2.1 = false then (90, s) else
  match atS s.2 o.2.1 with
  | some x => if o.1 = 10 then (92, s) else if o.1 = 11 then (0, (s.1, loS s.2 o.2.1 ++ hiS s.2 o.2.1)) else (0, (x.2.2, s.2))
  | none => if o.1 = 10 then (0, (s.1, loS s.2 o.2.1 ++ (o.2.1, gen, s.1) :: hiS s.2 o.2.1)) else (91, s)
theorem nSnap_eq (s : SS) (o : Opr) (gen : Int) (hs : s.2.Pairwise fun a b => a.1 < b.1) (h : SmS s) (ho : o.2.1.length ≤ 1000000) : nSnap s o gen = some (snP s o gen) := by
  unfold nSnap snP
  rw [name_eq _ ho]
  simp only [Option.bind_some]
  cases h1 : isNm o.2.1 with
  | false => rw [if_pos (show (!false) = true from rfl), if_pos rfl]
  | true =>
    rw [if_neg (by simp), if_neg (by simp)]
    have hp := part_of hs o.2.1
    have hl := h.len
    cases h2 : atS s.2 o.2.1 with
    | some x =>
      rw [h2] at hp
      have hx := at_eq h2
      have hb : bsSnap s.2 (o.2.1, 0, []) = some (((loS s.2 o.2.1).length : Int), true) := by
        have := bs_run (loS s.2 o.2.1) ((some x).toList ++ hiS s.2 o.2.1) o.2.1 lo_lt (fun b hb => by
          rcases List.mem_append.1 hb with hb | hb
          · obtain rfl : b = x := by simpa using hb
            rw [hx.1]; exact lt_irr _
          · exact fun h4 => lt_irr _ (lt_tr h4 (hi_lt b hb))) (by rw [← hp]; omega) (o.2.1, 0, []) rfl
        rw [← hp] at this
        rw [this]; simp [hx.1]
      rw [hb]
      simp only [Option.bind_some]
      have hlen : (loS s.2 o.2.1).length < s.2.length := by
        have := congrArg List.length hp
        simp only [List.length_append, Option.toList_some, List.length_cons, List.length_nil] at this; omega
      by_cases h3 : o.1 = 10
      · rw [if_pos h3, if_pos trivial]
        simp only [Option.bind_some, Sum.elim_inr]
        rw [if_pos h3]
      · rw [if_neg h3, if_neg h3, if_neg (show ¬ (!true) = true by simp)]
        by_cases h4 : o.1 = 11
        · have hd : delSnap s.2 ((loS s.2 o.2.1).length : Int) (((loS s.2 o.2.1).length : Int) + 1) = some (loS s.2 o.2.1 ++ hiS s.2 o.2.1) := by
            unfold delSnap cutO
            rw [if_pos ⟨by omega, rfl, by omega⟩]
            congr 1
            rw [Int.toNat_natCast]
            exact (cut_at hp).1
          rw [if_pos h4, i64_id (by omega) (by omega), hd]
          simp only [Option.bind_some, Sum.elim_inl, Sum.elim_inr]
          rw [if_neg h3, if_pos h4]
        · have hgx : s.2[(loS s.2 o.2.1).length]'hlen = x := by
            have : s.2[(loS s.2 o.2.1).length]? = some x := (cut_at hp).2
            rw [List.getElem?_eq_getElem hlen] at this
            exact Option.some.inj this
          rw [if_neg h4, idxO_get hlen, hgx]
          simp only [Option.bind_some]
          rw [nPairs_eq _ (h.sn x hx.2).1]
          simp only [Option.bind_some, Sum.elim_inl, Sum.elim_inr]
          rw [if_neg h3, if_neg h4]
    | none =>
      rw [h2] at hp
      simp only [Option.toList_none, List.nil_append] at hp
      have hb : bsSnap s.2 (o.2.1, 0, []) = some (((loS s.2 o.2.1).length : Int), false) := by
        have := bs_run (loS s.2 o.2.1) (hiS s.2 o.2.1) o.2.1 lo_lt (fun b hb h4 => lt_irr _ (lt_tr h4 (hi_lt b hb))) (by rw [← hp]; omega) (o.2.1, 0, []) rfl
        rw [← hp] at this
        rw [this]
        congr 2
        refine decide_eq_false fun h5 => ?_
        cases h6 : hiS s.2 o.2.1 with
        | nil => rw [h6] at h5; cases h5
        | cons b B =>
          rw [h6] at h5
          have := hi_lt b (by rw [h6]; exact List.mem_cons_self ..)
          simp at h5
          rw [h5] at this
          exact lt_irr _ this
      rw [hb]
      simp only [Option.bind_some]
      have hlen : (loS s.2 o.2.1).length ≤ s.2.length := by
        have := congrArg List.length hp
        simp only [List.length_append] at this; omega
      by_cases h3 : o.1 = 10
      · have hi : insSnap s.2 ((loS s.2 o.2.1).length : Int) [(o.2.1, gen, s.1)] = some (loS s.2 o.2.1 ++ (o.2.1, gen, s.1) :: hiS s.2 o.2.1) := by
          unfold insSnap insO
          rw [if_pos ⟨by omega, by omega, by omega, rfl⟩, Int.toNat_natCast]
          congr 1
          exact put_at [(o.2.1, gen, s.1)] hp
        rw [if_pos h3, if_neg (by simp), if_pos h3, nPairs_eq _ h.fl]
        simp only [Option.bind_some]
        rw [hi]
        simp only [Option.bind_some, Sum.elim_inl]
        rw [if_pos h3]
      · rw [if_neg h3, if_neg h3, if_pos (show (!false) = true from rfl)]
        simp only [Option.bind_some, Sum.elim_inr]
        rw [if_neg h3]
end Go.Proofs.YtnagibpmfabkjaaGreatDoor
