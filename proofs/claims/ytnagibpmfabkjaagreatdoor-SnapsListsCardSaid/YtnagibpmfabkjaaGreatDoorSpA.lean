/- Plain: a state with snapshots; what the program does to it. -/
import Derived.Test.YtnagibpmfabkjaaGreatDoorFilV
set_option linter.unusedSimpArgs false
set_option linter.unusedVariables false
namespace Go.Proofs.YtnagibpmfabkjaaGreatDoor
open Go.RowKit Go.Tri
abbrev Sn := List UInt8 × Int × List P2
abbrev SS := List P2 × List Sn
theorem cmp_lss : ∀ a b : List UInt8, lssB a b = true ↔ Lib.compareBytes a b < 0
  | [], [] => by simp [lssB, Op.bytesLess, Lib.compareBytes]
  | [], b :: m => by simp [lssB, Op.bytesLess, Lib.compareBytes]
  | a :: l, [] => by simp [lssB, Op.bytesLess, Lib.compareBytes]
  | a :: l, b :: m => by
    have ih := cmp_lss l m
    unfold lssB at ih ⊢
    simp only [Op.bytesLess, Lib.compareBytes, Bool.or_eq_true, Bool.and_eq_true, decide_eq_true_eq, beq_iff_eq]
    by_cases h1 : a < b
    · simp [h1]
    · rw [if_neg h1]
      by_cases h2 : b < a
      · rw [if_pos h2]
        have : a ≠ b := fun e => by rw [e] at h2; exact absurd h2 (UInt8.lt_irrefl _)
        simp [h1, this]
      · rw [if_neg h2]
        have : a = b := by
          rw [← UInt8.toNat_inj]
          rw [UInt8.lt_iff_toNat_lt] at h1 h2
          omega
        simp [this, ih]
theorem cmp_lt (a b : List UInt8) : Lib.compareBytes a b < 0 ↔ a < b := (cmp_lss a b).symm.trans (lss_iff a b)
theorem lt_irr (a : List UInt8) : ¬ a < a := fun h => by have := (cmp_lt a a).2 h; rw [cmp_self] at this; omega
theorem lt_tr {a b c : List UInt8} (h1 : a < b) (h2 : b < c) : a < c := (cmp_lt a c).1 (cmp_trans a b c ((cmp_lt a b).2 h1) ((cmp_lt b c).2 h2))
theorem lt_or (a b : List UInt8) : a < b ∨ a = b ∨ b < a := by
  rcases Int.lt_trichotomy (Lib.compareBytes a b) 0 with h | h | h
  · exact .inl ((cmp_lt a b).1 h)
  · exact .inr (.inl (cmp_zero a b h))
  · exact .inr (.inr ((cmp_lt b a).1 (by rw [cmp_swap]; omega)))
theorem nCompare_eq (a b : Sn) : nCompare a b = some (Lib.compareBytes a.1 b.1) := rfl
theorem cloneBy_eq (s : List UInt8) (h : s.length ≤ 1000000) : cloneBy s = some s := by
  unfold cloneBy; rw [appO_byte (by simp; omega)]; rfl
/-- Pairs that are not too many, nor too long. -/
def SmL (L : List P2) : Prop := L.length ≤ 1000 ∧ ∀ x ∈ L, x.1.length ≤ 10000 ∧ x.2.length ≤ 10000
theorem nPairs_eq (L : List P2) (h : SmL L) : nPairs L = some L := by
  obtain ⟨hl, hb⟩ := h
  unfold nPairs
  refine bind_run (fun k (s : List P2 × Int) => s = (L.take k, (k : Int))) (fun r => r = L) L.length rfl ?_ ?_ ?_
  · rintro k _ hk rfl
    have hx := hb _ (List.getElem_mem hk)
    simp only
    rw [if_pos (by omega), idxO_get hk]
    simp only [Option.bind_some]
    rw [cloneBy_eq _ (by omega), cloneBy_eq _ (by omega)]
    simp only [Option.bind_some]
    rw [appO_of (by simp only [List.length_take, List.length_cons, List.length_nil]; omega)]
    exact .inl ⟨_, rfl, by rw [i64_id (by omega) (by omega)]; exact Prod.ext (List.take_succ_eq_append_getElem hk).symm rfl⟩
  · rintro _ rfl
    simp only
    rw [if_neg (by omega), List.take_length]; exact ⟨_, rfl, rfl⟩
  · rintro _ rfl; rfl
structure SmS (s : SS) : Prop where
  fl : SmL s.1
  len : s.2.length ≤ 1000
  sn : ∀ x ∈ s.2, SmL x.2.2 ∧ x.1.length ≤ 1000
theorem nCopied_eq (s : SS) (h : SmS s) : nCopied s = some s := by
  obtain ⟨h1, h2, h3⟩ := h
  unfold nCopied
  rw [nPairs_eq _ h1]
  simp only [Option.bind_some]
  refine bind_run (fun k (q : SS × Int) => q = ((s.1, s.2.take k), (k : Int))) (fun r => r = s) s.2.length rfl ?_ ?_ ?_
  · rintro k _ hk rfl
    have hx := h3 _ (List.getElem_mem hk)
    simp only
    rw [if_pos (by omega), idxO_get hk]
    simp only [Option.bind_some]
    rw [nPairs_eq _ hx.1]
    simp only [Option.bind_some]
    rw [appO_of (by simp only [List.length_take, List.length_cons, List.length_nil]; omega)]
    exact .inl ⟨_, rfl, by rw [i64_id (by omega) (by omega)]; exact Prod.ext (Prod.ext rfl (List.take_succ_eq_append_getElem hk).symm) rfl⟩
  · rintro _ rfl
    simp only
    rw [if_neg (by omega), List.take_length]; exact ⟨_, rfl, rfl⟩
  · rintro _ rfl; rfl
def unN (s : SS) : Nat := s.1.length + (s.2.map fun x => 1 + x.2.2.length).sum
theorem sum_le {α : Type} (f : α → Nat) (m : Nat) : ∀ l : List α, (∀ x ∈ l, f x ≤ m) → (l.map f).sum ≤ l.length * m
  | [], _ => by simp
  | a :: l, h => by
    have := sum_le f m l fun x hx => h x (List.mem_cons_of_mem _ hx)
    have := h a (List.mem_cons_self ..)
    simp only [List.map_cons, List.sum_cons, List.length_cons, Nat.succ_mul]; omega
theorem sum_ge {α : Type} (f : α → Nat) (m : Nat) : ∀ l : List α, (∀ x ∈ l, m ≤ f x) → l.length * m ≤ (l.map f).sum
  | [], _ => by simp
  | a :: l, h => by
    have := sum_ge f m l fun x hx => h x (List.mem_cons_of_mem _ hx)
    have := h a (List.mem_cons_self ..)
    simp only [List.map_cons, List.sum_cons, List.length_cons, Nat.succ_mul]; omega
theorem sum_mem {α : Type} (f : α → Nat) : ∀ {l : List α} {x : α}, x ∈ l → f x ≤ (l.map f).sum
  | a :: l, x, h => by
    simp only [List.map_cons, List.sum_cons]
    rcases List.mem_cons.1 h with rfl | h
    · omega
    · have := sum_mem f h; omega
theorem nUnits_eq (s : SS) (h : SmS s) : nUnits s = some (unN s : Int) := by
  obtain ⟨⟨h1, _⟩, h2, h3⟩ := h
  unfold nUnits
  refine bind_run (fun k (q : Int × Int) => q = ((s.1.length : Int) + (((s.2.take k).map fun x => 1 + x.2.2.length).sum : Nat), (k : Int))) (fun r => r = (unN s : Int)) s.2.length (by simp) ?_ ?_ ?_
  · rintro k _ hk rfl
    have hx := (h3 _ (List.getElem_mem hk)).1.1
    have hs : ((s.2.take k).map fun x => 1 + x.2.2.length).sum ≤ 1000 * 1001 := Nat.le_trans (sum_le _ 1001 _ fun x hx => by have := (h3 x (List.mem_of_mem_take hx)).1.1; omega) (Nat.mul_le_mul_right _ (by rw [List.length_take]; omega))
    simp only
    rw [if_pos (by omega), idxO_get hk]
    simp only [Option.bind_some]
    refine .inl ⟨_, rfl, ?_⟩
    rw [i64_id (n := 1 + (s.2[k].2.2.length : Int)) (by omega) (by omega), i64_id (by omega) (by omega), i64_id (by omega) (by omega), List.take_succ_eq_append_getElem hk]
    refine Prod.ext ?_ rfl
    simp only [List.map_append, List.map_cons, List.map_nil, List.sum_append, List.sum_cons, List.sum_nil]; omega
  · rintro _ rfl
    simp only
    rw [if_neg (by omega), List.take_length]; exact ⟨_, rfl, by unfold unN; omega⟩
  · rintro _ rfl; rfl
/-! ### Right states -/
def RF (L : List P2) : Prop := Snd (rdF L) ∧ prsF (rdF L) = L
structure Rt (s : SS) : Prop where
  fl : RF s.1
  sn : ∀ x ∈ s.2, RF x.2.2 ∧ isNm x.1 = true
  srt : s.2.Pairwise fun a b => a.1 < b.1
  un : unN s ≤ 48
theorem RF.small {L : List P2} (h : RF L) (hl : L.length ≤ 1000) : SmL L := by
  have := (h.1.prs (rdF_crd L) (by omega)).2.2.2
  rw [h.2] at this
  exact ⟨hl, fun x hx => by have := this x hx; omega⟩
theorem isNm_len {x : List UInt8} (h : isNm x = true) : x.length ≤ 8 := by unfold isNm at h; simp at h; exact h.2
theorem Rt.len {s : SS} (h : Rt s) : s.1.length ≤ 48 ∧ s.2.length ≤ 48 ∧ ∀ x ∈ s.2, x.2.2.length ≤ 48 := by
  have h1 := h.un
  unfold unN at h1
  have h2 := sum_ge (fun x : Sn => 1 + x.2.2.length) 1 s.2 fun x _ => by omega
  refine ⟨by omega, by omega, fun x hx => ?_⟩
  have : 1 + x.2.2.length ≤ (s.2.map fun x => 1 + x.2.2.length).sum := sum_mem (fun x : Sn => 1 + x.2.2.length) hx
  omega
theorem Rt.small {s : SS} (h : Rt s) : SmS s := by
  obtain ⟨h1, h2, h3⟩ := h.len
  exact ⟨h.fl.small (by omega), by omega, fun x hx => ⟨(h.sn x hx).1.small (by have := h3 x hx; omega), by have := isNm_len (h.sn x hx).2; omega⟩⟩
theorem fCheck_iff (L : List P2) (h : SmL L) : (fCheck L = some 0 ∧ RF L) ∨ (fCheck L = some 22 ∧ ¬ RF L) := by
  rcases fCheck_eq L (by have := h.1; omega) h.2 with ⟨h1, h2⟩ | ⟨h1, h2⟩
  · exact .inl ⟨h1, h2⟩
  · exact .inr ⟨h1, h2⟩
theorem pair_of {xs : List Sn} (h : ∀ i (hi : i + 1 < xs.length), (xs[i]).1 < (xs[i + 1]).1) : xs.Pairwise fun a b => a.1 < b.1 := by
  rw [List.pairwise_iff_getElem]
  intro i j hi hj hij
  obtain ⟨m, rfl⟩ : ∃ m, j = i + 1 + m := ⟨j - (i + 1), by omega⟩
  clear hij
  induction m with
  | zero => exact h i hj
  | succ m ih => exact lt_tr (ih (by omega)) (h (i + 1 + m) (by omega))
/-- Is snapshot k right, and behind that ahead of it? -/
def GoodS (s : SS) (k : Nat) : Prop := ∃ hk : k < s.2.length, RF (s.2[k]).2.2 ∧ isNm (s.2[k]).1 = true ∧ (0 < k → (s.2[k - 1]'(by omega)).1 < (s.2[k]).1)
theorem Rt_iff (s : SS) : Rt s ↔ RF s.1 ∧ unN s ≤ 48 ∧ ∀ k, k < s.2.length → GoodS s k := by
  constructor
  · intro h
    exact ⟨h.fl, h.un, fun k hk => ⟨hk, (h.sn _ (List.getElem_mem hk)).1, (h.sn _ (List.getElem_mem hk)).2, fun h0 => List.pairwise_iff_getElem.1 h.srt (k - 1) k (by omega) hk (by omega)⟩⟩
  · rintro ⟨h1, h2, h3⟩
    refine ⟨h1, fun x hx => ?_, pair_of fun i hi => ?_, h2⟩
    · obtain ⟨k, hk, rfl⟩ := List.getElem_of_mem hx
      obtain ⟨_, h4, h5, _⟩ := h3 k hk; exact ⟨h4, h5⟩
    · obtain ⟨_, _, _, h6⟩ := h3 (i + 1) hi; exact h6 (by omega)
theorem nCheck_eq (s : SS) (h : SmS s) : (nCheck s = some 0 ∧ Rt s) ∨ (nCheck s = some 22 ∧ ¬ Rt s) := by
  unfold nCheck
  have hn := h.len
  rcases fCheck_iff s.1 h.fl with ⟨h1, h2⟩ | ⟨h1, h2⟩
  · rw [h1]
    simp only [Option.bind_some]
    rw [if_pos trivial, nUnits_eq _ h]
    simp only [Option.bind_some]
    refine bind_runP (C := fun o => (o = some (0 : Int) ∧ Rt s) ∨ (o = some 22 ∧ ¬ Rt s)) (fun k (q : Bool × Int) => q.2 = (k : Int) ∧ (q.1 = false ↔ unN s ≤ 48 ∧ ∀ j, j < k → GoodS s j)) (fun r => r = false ↔ Rt s) s.2.length ⟨rfl, ?_⟩ ?_ ?_ ?_
    · simp only [decide_eq_false_iff_not]
      exact ⟨fun h => ⟨by omega, fun j hj => by omega⟩, fun h => by omega⟩
    · rintro k ⟨b, i⟩ hk ⟨h3, h4⟩
      simp only at h3 h4
      subst h3
      simp only
      have hx := h.sn _ (List.getElem_mem hk)
      have bad : ∀ {c : Bool}, c = true → ¬ GoodS s k → ((c, ((k : Int) + 1)).2 = ((k + 1 : Nat) : Int) ∧ (((c, ((k : Int) + 1)) : Bool × Int).1 = false ↔ unN s ≤ 48 ∧ ∀ j, j < k + 1 → GoodS s j)) := fun hc hg => ⟨rfl, by simp only [hc]; exact ⟨fun h => (by cases h), fun h => absurd (h.2 k (by omega)) hg⟩⟩
      rw [if_pos (by omega), idxO_get hk]
      simp only [Option.bind_some]
      rw [i64_id (n := (k : Int) + 1) (by omega) (by omega)]
      cases b with
      | true =>
        rw [if_pos rfl]
        exact .inl ⟨_, rfl, rfl, ⟨fun h => (by cases h), fun h => absurd (h4.2 ⟨h.1, fun j hj => h.2 j (by omega)⟩) (by simp)⟩⟩
      | false =>
        rw [if_neg (by simp)]
        have h5 := h4.1 rfl
        rcases fCheck_iff _ hx.1 with ⟨h6, h7⟩ | ⟨h6, h7⟩
        · rw [h6]
          simp only [Option.bind_some]
          rw [if_pos trivial, name_eq _ (by omega)]
          simp only [Option.bind_some]
          cases h8 : isNm s.2[k].1 with
          | false =>
            rw [if_pos (show (!false) = true from rfl)]
            exact .inl ⟨_, rfl, bad rfl fun ⟨_, _, h9, _⟩ => by rw [h8] at h9; cases h9⟩
          | true =>
            rw [if_neg (by simp)]
            by_cases h9 : 0 < (k : Int)
            · rw [if_pos h9, i64_id (n := (k : Int) - 1) (by omega) (by omega), show (k : Int) - 1 = ((k - 1 : Nat) : Int) by omega, idxO_get (show k - 1 < s.2.length by omega)]
              simp only [Option.bind_some, nCompare_eq]
              refine .inl ⟨_, rfl, rfl, ?_⟩
              simp only [decide_eq_false_iff_not, Int.not_le, cmp_lt]
              constructor
              · intro h10
                refine ⟨h5.1, fun j hj => ?_⟩
                by_cases e : j = k
                · subst e; exact ⟨hk, h7, h8, fun _ => h10⟩
                · exact h5.2 j (by omega)
              · rintro ⟨_, h10⟩
                obtain ⟨_, _, _, h11⟩ := h10 k (by omega)
                exact h11 (by omega)
            · rw [if_neg h9]
              refine .inl ⟨_, rfl, rfl, ⟨fun _ => ⟨h5.1, fun j hj => ?_⟩, fun _ => rfl⟩⟩
              by_cases e : j = k
              · subst e; exact ⟨hk, h7, h8, fun h => by omega⟩
              · exact h5.2 j (by omega)
        · rw [h6]
          simp only [Option.bind_some]
          rw [if_neg (by decide)]
          exact .inl ⟨_, rfl, bad rfl fun ⟨_, h9, _⟩ => h7 h9⟩
    · rintro ⟨b, i⟩ ⟨h3, h4⟩
      simp only at h3 h4
      subst h3
      simp only
      rw [if_neg (by omega)]
      exact ⟨_, rfl, h4.trans ⟨fun h => (Rt_iff s).2 ⟨h2, h.1, h.2⟩, fun h => ((Rt_iff s).1 h).2⟩⟩
    · rintro b hb
      cases b with
      | true => exact .inr ⟨by rw [if_pos rfl], fun h => by have := hb.2 h; cases this⟩
      | false => exact .inl ⟨by rw [if_neg (by simp)], hb.1 rfl⟩
  · rw [h1]
    simp only [Option.bind_some]
    rw [if_neg (by decide)]
    refine .inr ⟨?_, fun h => h2 h.fl⟩
    refine bind_run (fun k (q : Int) => q = (k : Int)) (fun _ => True) s.2.length rfl ?_ ?_ ?_
    · rintro k _ hk rfl
      rw [if_pos (by omega), idxO_get hk]
      exact .inl ⟨_, rfl, by rw [i64_id (by omega) (by omega)]; rfl⟩
    · rintro _ rfl
      rw [if_neg (by omega)]; exact ⟨_, rfl, trivial⟩
    · intros; rfl
end Go.Proofs.YtnagibpmfabkjaaGreatDoor
