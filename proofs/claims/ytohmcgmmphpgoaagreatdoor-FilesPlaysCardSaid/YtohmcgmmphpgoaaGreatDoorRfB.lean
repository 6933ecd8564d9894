/- Plain: the document's files are the program's: places, sorting, pairs. -/
import Derived.Test.YtohmcgmmphpgoaaGreatDoorRfA
set_option linter.unusedSimpArgs false
set_option linter.unusedVariables false
namespace Go.Tri
open Go.RowKit
theorem set_swap {α : Type} (a : List α) (y x : α) (c : List α) : ((a ++ y :: x :: c).set (a.length + 1) y).set a.length x = a ++ x :: y :: c := by
  rw [List.set_append_right _ _ (by omega), List.set_append_right _ _ (Nat.le_refl _)]
  simp
/-- An element sinks to its place. -/
theorem sink {α : Type} (lt : α → α → Bool) {f : List α × Int → Option ((List α × Int) ⊕ List α)} (hf0 : ∀ xs, f (xs, 0) = some (.inr xs)) (hf : ∀ (a : List α) (y x : α) (c : List α), a.length + c.length ≤ 100000000 → f (a ++ y :: x :: c, ((a.length + 1 : Nat) : Int)) = some (if lt x y = true then .inl (a ++ x :: y :: c, (a.length : Int)) else .inr (a ++ y :: x :: c))) :
    ∀ (n : Nat) (a : List α) (x : α) (c : List α), a.length = n → a.length + c.length ≤ 100000000 → ∃ a1 a2, a = a1 ++ a2 ∧ loopO f (a ++ x :: c, (a.length : Int)) = some (a1 ++ x :: (a2 ++ c)) ∧ (∀ y ∈ a2, lt x y = true) ∧ ∀ y, a1.getLast? = some y → lt x y = false
  | 0, a, x, c, h, _ => by
    have : a = [] := List.eq_nil_of_length_eq_zero h
    subst this
    refine ⟨[], [], rfl, ?_, by simp, by simp⟩
    rw [loopO_eq, show ((([] : List α).length : Nat) : Int) = 0 from rfl, hf0]; rfl
  | n + 1, a, x, c, h, hb => by
    have hne : a ≠ [] := fun e => by rw [e] at h; simp at h
    obtain ⟨b, y, rfl⟩ : ∃ b y, a = b ++ [y] := ⟨a.dropLast, a.getLast hne, (List.dropLast_concat_getLast hne).symm⟩
    simp only [List.length_append, List.length_cons, List.length_nil] at h hb
    have e1 : (b ++ [y]) ++ x :: c = b ++ y :: x :: c := by simp
    have e2 : (((b ++ [y]).length : Nat) : Int) = ((b.length + 1 : Nat) : Int) := by simp
    rw [e1, e2, loopO_eq, hf b y x c (by omega)]
    by_cases hl : lt x y = true
    · rw [if_pos hl]
      obtain ⟨a1, a2, h1, h2, h3, h4⟩ := sink lt hf0 hf n b x (y :: c) (by omega) (by simp; omega)
      refine ⟨a1, a2 ++ [y], by rw [h1]; simp, ?_, ?_, h4⟩
      · simp only [Option.bind_some]
        rw [h2]; simp
      · intro z hz
        rcases List.mem_append.1 hz with hz | hz
        · exact h3 z hz
        · simp at hz; rw [hz]; exact hl
    · rw [if_neg hl]
      refine ⟨b ++ [y], [], by simp, by simp, by simp, fun z hz => ?_⟩
      simp at hz; rw [← hz]; simpa using hl
/-- What was in order, is in order with it. -/
theorem sink_sorted {α : Type} {lt : α → α → Bool} (htr : ∀ a b c, lt b a = false → lt c b = false → lt c a = false) (hlt : ∀ a b, lt a b = true → lt b a = false) {a1 a2 : List α} {x : α} (h : (a1 ++ a2).Pairwise (fun p q => lt q p = false)) (h2 : ∀ y ∈ a2, lt x y = true) (h1 : ∀ y, a1.getLast? = some y → lt x y = false) : (a1 ++ x :: a2).Pairwise (fun p q => lt q p = false) := by
  rw [List.pairwise_append] at h ⊢
  obtain ⟨p1, p2, p3⟩ := h
  refine ⟨p1, List.pairwise_cons.2 ⟨fun y hy => hlt _ _ (h2 y hy), p2⟩, fun y hy z hz => ?_⟩
  rcases List.mem_cons.1 hz with rfl | hz
  · have hne : a1 ≠ [] := fun e => by rw [e] at hy; cases hy
    have hl := h1 (a1.getLast hne) (List.getLast?_eq_some_getLast hne)
    rw [← List.dropLast_concat_getLast hne] at hy p1
    rcases List.mem_append.1 hy with hy | hy
    · exact htr _ _ _ ((List.pairwise_append.1 p1).2.2 y hy _ (by simp)) hl
    · simp at hy; rw [hy]; exact hl
  · exact p3 y hy z hz
theorem lss_cmp : ∀ a b : List UInt8, lssB a b = true ↔ Lib.compareBytes a b < 0
  | [], [] => by simp [lssB, Op.bytesLess, Lib.compareBytes]
  | [], b :: m => by simp [lssB, Op.bytesLess, Lib.compareBytes]
  | a :: l, [] => by simp [lssB, Op.bytesLess, Lib.compareBytes]
  | a :: l, b :: m => by
    have ih := lss_cmp l m
    unfold lssB at ih ⊢
    simp only [Op.bytesLess, Lib.compareBytes, Bool.or_eq_true, Bool.and_eq_true, decide_eq_true_eq, beq_iff_eq]
    by_cases h1 : a < b
    · simp [h1]
    · rw [if_neg h1]
      by_cases h2 : b < a
      · rw [if_pos h2]
        have : a ≠ b := fun e => by rw [e] at h2; exact absurd h2 (UInt8.lt_irrefl _)
        simp [h1, this]
      · rw [if_neg h2]
        have : a = b := by
          rw [← UInt8.toNat_inj]
          rw [UInt8.lt_iff_toNat_lt] at h1 h2
          omega
        simp [this, ih]
theorem lss_tr (a b c : List UInt8) (h1 : lssB b a = false) (h2 : lssB c b = false) : lssB c a = false := by
  have n1 : ¬ Lib.compareBytes b a < 0 := fun h => by rw [(lss_cmp b a).2 h] at h1; cases h1
  have n2 : ¬ Lib.compareBytes c b < 0 := fun h => by rw [(lss_cmp c b).2 h] at h2; cases h2
  cases h : lssB c a with
  | false => rfl
  | true =>
    have h3 := (lss_cmp c a).1 h
    have s1 := cmp_swap a b
    have s2 := cmp_swap b c
    by_cases e1 : Lib.compareBytes a b = 0
    · rw [cmp_zero _ _ e1] at h3; exact absurd h3 n2
    · by_cases e2 : Lib.compareBytes b c = 0
      · rw [← cmp_zero _ _ e2] at h3; exact absurd h3 n1
      · have := cmp_trans a b c (by omega) (by omega)
        have s3 := cmp_swap a c
        omega
theorem lss_as (a b : List UInt8) (h : lssB a b = true) : lssB b a = false := by
  cases h2 : lssB b a with
  | false => rfl
  | true =>
    have h3 := (lss_cmp a b).1 h
    have h4 := (lss_cmp b a).1 h2
    have := cmp_swap a b
    omega
end Go.Tri
namespace Go.Proofs.YtohmcgmmphpgoaaGreatDoor
open Go.RowKit Go.Tri
section
variable {s : FS} {l : List Ent}
theorem rFind_eq (hE : Enum s l) (hl : l.length ≤ 1000000) (p : List UInt8) : (m_triremeref11_Find l p = some (-1) ∧ s p = none) ∨ ∃ (i : Nat) (f : Bool × List UInt8), m_triremeref11_Find l p = some (i : Int) ∧ l[i]? = some (p, f) ∧ s p = some f := by
  unfold m_triremeref11_Find
  refine bind_runP (C := fun o => (o = some (-1) ∧ s p = none) ∨ ∃ (i : Nat) (f : Bool × List UInt8), o = some (i : Int) ∧ l[i]? = some (p, f) ∧ s p = some f) (fun k (t : Int) => t = (k : Int) ∧ ∀ j (hj : j < l.length), j < k → l[j].1 ≠ p) (fun r => (r = .inl () ∧ s p = none) ∨ ∃ (i : Nat) (f : Bool × List UInt8), r = .inr (i : Int) ∧ l[i]? = some (p, f) ∧ s p = some f) l.length ⟨rfl, fun j hj hk => by omega⟩ ?_ ?_ ?_
  · rintro k _ hk ⟨rfl, hne⟩
    rw [if_pos (by omega), idxO_get hk]
    simp only [Option.bind_some]
    by_cases h : l[k].1 = p
    · rw [if_pos h]
      refine .inr ⟨_, rfl, .inr ⟨k, l[k].2, rfl, ?_, ?_⟩⟩
      · rw [List.getElem?_eq_getElem hk, ← h]
      · exact (enum_mem hE).1 (by rw [← h]; exact List.getElem_mem hk)
    · rw [if_neg h, i64_id (by omega) (by omega)]
      refine .inl ⟨_, rfl, rfl, fun j hj hjk => ?_⟩
      by_cases e : j = k
      · subst e; exact h
      · exact hne j hj (by omega)
  · rintro _ ⟨rfl, hne⟩
    refine ⟨_, by rw [if_neg (by omega)], .inl ⟨rfl, ?_⟩⟩
    cases hs : s p with
    | none => rfl
    | some f =>
      obtain ⟨j, hj, e⟩ := List.getElem_of_mem ((enum_mem hE).2 hs)
      exact absurd (by rw [e]) (hne j hj hj)
  · rintro _ (⟨rfl, h⟩ | ⟨i, f, rfl, h⟩)
    · exact .inl ⟨rfl, h⟩
    · exact .inr ⟨i, f, rfl, h⟩
theorem rLook_eq (hE : Enum s l) (hl : l.length ≤ 1000000) (p : List UInt8) : ∃ a : Int, m_triremeref11_Look l p = some (a, (lk s p).2) ∧ ((lk s p).2 = 0 → ∃ (i : Nat) (f : Bool × List UInt8), a = (i : Int) ∧ l[i]? = some (p, f) ∧ s p = some f ∧ lk s p = (f, 0)) := by
  unfold m_triremeref11_Look
  rw [rSplit_eq]
  simp only [Option.bind_some]
  by_cases hk : okP p = true
  · rw [if_neg (by rw [hk]; decide)]
    obtain ⟨hn24, hj24⟩ := nmP_len24 p
    have hlen : (ancL p).length = (nmP p).length := by simp [ancL]
    rw [show ((nmP p).length : Int) = ((ancL p).length : Int) by rw [hlen]]
    rw [loop_fs (ancL p) (fun a => (ag s a).map fun e => (Sum.inr ((-1 : Int), e) : Unit ⊕ (Int × Int))) (.inl ()) (fun i hi => ?_) ?_]
    · have : (ancL p).findSome? (fun a => (ag s a).map fun e => (Sum.inr ((-1 : Int), e) : Unit ⊕ (Int × Int))) = ((ancL p).findSome? (ag s)).map fun e => (Sum.inr ((-1 : Int), e) : Unit ⊕ (Int × Int)) := by
        generalize ancL p = l
        induction l with
        | nil => rfl
        | cons x l ih =>
          rw [List.findSome?_cons, List.findSome?_cons]
          cases ag s x with
          | none => exact ih
          | some e => rfl
      rw [this]
      unfold lk
      rw [if_pos hk]
      cases hf : (ancL p).findSome? (ag s) with
      | some e =>
        refine ⟨-1, rfl, fun h0 => ?_⟩
        simp only at h0
        subst h0
        obtain ⟨a, _, ha⟩ := List.exists_of_findSome?_eq_some hf
        unfold ag at ha
        split at ha
        · cases ha
        · split at ha <;> cases ha
      | none =>
        simp only [Option.map_none, Option.getD_none, Option.bind_some, Sum.elim_inl]
        rcases rFind_eq hE hl p with ⟨h1, h2⟩ | ⟨i, f, h1, h2, h3⟩
        · rw [h1, h2]
          exact ⟨-1, rfl, fun h0 => by cases h0⟩
        · rw [h1, h3]
          simp only [Option.bind_some]
          rw [if_neg (by omega)]
          exact ⟨(i : Int), rfl, fun _ => ⟨i, f, rfl, h2, rfl, rfl⟩⟩
    · rw [if_neg (by omega)]
    · have hi2 : i < (nmP p).length := by omega
      rw [if_pos (by omega), show (0 : Int) = ((0 : Nat) : Int) from rfl, slcO_of (Nat.zero_le _) (by omega)]
      simp only [Option.bind_some, List.drop_zero]
      have ht := jn_take (xs := nmP p) i
      simp only [pth, List.length_cons] at hj24
      rw [rJoin_eq _ (by simp only [pth, List.length_cons]; omega) (by simp; omega)]
      simp only [Option.bind_some]
      have hx : (ancL p)[i] = pth ((nmP p).take i) := by simp [ancL]
      rw [hx]
      unfold ag
      rcases rFind_eq hE hl (pth ((nmP p).take i)) with ⟨h1, h2⟩ | ⟨j, f, h1, h2, h3⟩
      · rw [h1, h2]; rfl
      · rw [h1, h3]
        simp only [Option.bind_some]
        rw [if_neg (by omega), idxO_nat h2]
        simp only [Option.bind_some]
        obtain ⟨b, d⟩ := f
        cases b with
        | true => rw [if_neg (by simp), i64_id (by omega) (by omega)]; rfl
        | false => rfl
  · have hk' : okP p = false := by simpa using hk
    rw [hk', if_pos (show (!false) = true from rfl)]
    unfold lk
    rw [if_neg hk]
    exact ⟨-1, rfl, fun h => by cases h⟩
theorem rRoom_eq (hE : Enum s l) (hl : l.length ≤ 1000000) (p : List UInt8) : m_triremeref11_Room l p = some (rm s p) := by
  unfold m_triremeref11_Room rm
  rw [rRight_eq]
  simp only [Option.bind_some]
  by_cases hk : okP p = true
  · rw [if_neg (by rw [hk]; decide), if_pos hk]
    by_cases hr : p = [47]
    · rw [if_pos hr, if_pos hr]
    rw [if_neg hr, if_neg hr, rParent_eq]
    simp only [Option.bind_some]
    obtain ⟨a, h1, h2⟩ := rLook_eq hE hl (par p)
    rw [h1]
    simp only [Option.bind_some]
    by_cases h0 : (lk s (par p)).2 = 0
    · rw [if_pos h0, if_pos h0]
      obtain ⟨i, f, rfl, h3, h4, h5⟩ := h2 h0
      rw [idxO_nat h3, h5]
      simp only [Option.bind_some]
      obtain ⟨b, d⟩ := f
      cases b with
      | false => rfl
      | true =>
        rw [if_neg (by simp), if_pos rfl]
        rcases rFind_eq hE hl p with ⟨g1, g2⟩ | ⟨j, g, g1, g2, g3⟩
        · rw [g1, g2]; rfl
        · rw [g1, g3]
          simp only [Option.bind_some]
          rw [if_pos (by omega)]; rfl
    · rw [if_neg h0, if_neg h0]
  · have hk' : okP p = false := by simpa using hk
    rw [hk', if_pos (show (!false) = true from rfl), if_neg (by decide)]
theorem rBelow_eq (hl : l.length ≤ 1000000) (p : List UInt8) : m_triremeref11_Below l p = some (blL l p) := by
  unfold m_triremeref11_Below
  refine bind_run (fun k (t : List (List UInt8) × Int) => t.2 = (k : Int) ∧ t.1.Pairwise (fun a b => lssB b a = false) ∧ t.1.Perm (((l.take k).filter (inD p)).map fun x => bas x.1)) (fun r => r = blL l p) l.length ⟨rfl, List.Pairwise.nil, by simp⟩ ?_ ?_ ?_
  · rintro k ⟨out, i⟩ hk ⟨h1, h2, h3⟩
    simp only at h1 h2 h3
    subst h1
    simp only
    rw [if_pos (by omega), idxO_get hk]
    simp only [Option.bind_some]
    have htk : l.take (k + 1) = l.take k ++ [l[k]] := List.take_succ_eq_append_getElem hk
    have hol : out.length ≤ 1000000 := by
      rw [h3.length_eq, List.length_map]
      have := List.length_filter_le (inD p) (l.take k)
      simp at this; omega
    by_cases hr : l[k].1 = [47]
    · rw [if_pos hr]
      simp only [Option.bind_some]
      rw [i64_id (by omega) (by omega)]
      refine .inl ⟨_, rfl, by simp only; omega, h2, ?_⟩
      rw [htk, List.filter_append, List.map_append]
      have : [l[k]].filter (inD p) = [] := by simp [inD, hr]
      rw [this]; simpa using h3
    rw [if_neg hr, rParent_eq]
    simp only [Option.bind_some]
    by_cases hq : par l[k].1 = p
    · rw [if_pos hq, rBase_eq]
      simp only [Option.bind_some]
      rw [appO_of (by simp only [List.length_cons, List.length_nil]; omega)]
      simp only [Option.bind_some]
      have hlen : IntKind.i64.wrap (((out ++ [bas l[k].1]).length : Int) - 1) = (out.length : Int) := by
        rw [i64_id (by simp only [List.length_append, List.length_cons, List.length_nil]; omega) (by simp only [List.length_append, List.length_cons, List.length_nil]; omega)]; simp
      rw [hlen]
      have hfil : [l[k]].filter (inD p) = [l[k]] := by simp [inD, hr, hq]
      have hsk := fun f hf0 hf => sink (α := List UInt8) (fun x y => lssB x y) (f := f) hf0 hf out.length out (bas l[k].1) [] rfl (by simp; omega)
      obtain ⟨a1, a2, e1, e2, e3, e4⟩ := hsk (fun (s1359 : (List (List UInt8)) × Int) => if 0 < s1359.2 then ((idxO s1359.1 s1359.2).bind fun x1362 =>
(idxO s1359.1 (IntKind.i64.wrap (s1359.2 - 1))).bind fun x1365 =>
if (lssB x1362 x1365) = true then ((idxO s1359.1 s1359.2).bind fun x1368 =>
(idxO s1359.1 (IntKind.i64.wrap (s1359.2 - 1))).bind fun x1370 =>
(idxO s1359.1 s1359.2).bind fun x1372 =>
(idxO ((s1359.1).set (s1359.2 : Int).toNat x1370) (IntKind.i64.wrap (s1359.2 - 1))).bind fun x1374 =>
some (.inl (((s1359.1).set (s1359.2 : Int).toNat x1370).set (IntKind.i64.wrap (s1359.2 - 1) : Int).toNat x1368, IntKind.i64.wrap (s1359.2 - 1))))
 else (some (.inr s1359.1)))
 else (some (.inr s1359.1))) (fun xs => rfl) (fun a y x c hb => by
        simp only
        rw [if_pos (by omega)]
        have g1 : idxO (a ++ y :: x :: c) ((a.length + 1 : Nat) : Int) = some x := idxO_nat (by simp)
        have g2 : idxO (a ++ y :: x :: c) (IntKind.i64.wrap (((a.length + 1 : Nat) : Int) - 1)) = some y := by
          rw [i64_id (by omega) (by omega), show ((a.length + 1 : Nat) : Int) - 1 = (a.length : Int) by omega]
          exact idxO_nat (by simp)
        rw [g1, g2]
        simp only [Option.bind_some]
        by_cases hlt : lssB x y = true
        · rw [if_pos hlt, if_pos hlt]
          have g3 : idxO ((a ++ y :: x :: c).set (((a.length + 1 : Nat) : Int)).toNat y) (IntKind.i64.wrap (((a.length + 1 : Nat) : Int) - 1)) = some y := by
            rw [i64_id (by omega) (by omega), show ((a.length + 1 : Nat) : Int) - 1 = (a.length : Int) by omega]
            refine idxO_nat ?_
            rw [Int.toNat_natCast, List.getElem?_set_ne (by omega)]
            simp
          rw [g3]
          simp only [Option.bind_some]
          rw [i64_id (by omega) (by omega), show ((a.length + 1 : Nat) : Int) - 1 = (a.length : Int) by omega, Int.toNat_natCast, Int.toNat_natCast, set_swap]
        · rw [if_neg hlt, if_neg hlt])
      rw [e2]
      simp only [Option.bind_some]
      rw [i64_id (by omega) (by omega)]
      refine .inl ⟨_, rfl, by simp only; omega, ?_, ?_⟩
      · simp only [List.append_nil]
        exact sink_sorted (lt := fun x y => lssB x y) (fun a b c h1 h2 => lss_tr a b c h1 h2) (fun a b h => lss_as a b h) (by rw [← e1]; exact h2) e3 e4
      · rw [htk, List.filter_append, List.map_append, hfil]
        simp only [List.append_nil, List.map_cons, List.map_nil]
        refine List.Perm.trans ?_ (h3.append_right _)
        rw [e1]
        refine List.perm_middle.trans ?_
        rw [← List.singleton_append]
        exact List.perm_append_comm
    · rw [if_neg hq]
      simp only [Option.bind_some]
      rw [i64_id (by omega) (by omega)]
      refine .inl ⟨_, rfl, by simp only; omega, h2, ?_⟩
      rw [htk, List.filter_append, List.map_append]
      have : [l[k]].filter (inD p) = [] := by simp [inD, hq]
      rw [this]; simpa using h3
  · rintro ⟨out, i⟩ ⟨h1, h2, h3⟩
    simp only at h1 h2 h3
    subst h1
    simp only
    rw [if_neg (by omega)]
    refine ⟨_, rfl, ?_⟩
    rw [List.take_length] at h3
    unfold blL
    refine List.Perm.eq_of_pairwise (le := (· ≤ ·)) (fun a b _ _ h1 h2 => List.le_antisymm h1 h2) (h2.imp fun {a b} h => ?_) (tsort _) (h3.trans (List.mergeSort_perm _ tle).symm)
    rw [← List.not_lt, ← lss_iff]
    rw [h]; decide
  · rintro _ rfl; rfl
theorem rPut_eq {out : List P2} (hs : out.Pairwise (fun a b => lssB b.1 a.1 = false)) (hl : out.length ≤ 10000000) (x : P2) : ∃ out', m_triremeref11_put out x = some out' ∧ out'.Pairwise (fun a b => lssB b.1 a.1 = false) ∧ out'.Perm (out ++ [x]) := by
  unfold m_triremeref11_put
  rw [appO_of (by simp only [List.length_nil]; omega)]
  simp only [Option.bind_some, List.nil_append]
  rw [appO_of (by simp only [List.length_cons, List.length_nil]; omega)]
  simp only [Option.bind_some]
  have hlen : IntKind.i64.wrap (((out ++ [x]).length : Int) - 1) = (out.length : Int) := by
    rw [i64_id (by simp only [List.length_append, List.length_cons, List.length_nil]; omega) (by simp only [List.length_append, List.length_cons, List.length_nil]; omega)]; simp
  rw [hlen]
  have hsk := fun f hf0 hf => sink (α := P2) (fun x y => lssB x.1 y.1) (f := f) hf0 hf out.length out x [] rfl (by simp; omega)
  obtain ⟨a1, a2, e1, e2, e3, e4⟩ := hsk (fun (s169 : (List T_api_Pair) × Int) => if 0 < s169.2 then ((idxO s169.1 s169.2).bind fun x172 =>
(idxO s169.1 (IntKind.i64.wrap (s169.2 - 1))).bind fun x179 =>
if (lssB x172.1 x179.1) = true then ((idxO s169.1 s169.2).bind fun x186 =>
(idxO s169.1 (IntKind.i64.wrap (s169.2 - 1))).bind fun x189 =>
(idxO s169.1 s169.2).bind fun x191 =>
(idxO ((s169.1).set (s169.2 : Int).toNat x189) (IntKind.i64.wrap (s169.2 - 1))).bind fun x193 =>
some (.inl (((s169.1).set (s169.2 : Int).toNat x189).set (IntKind.i64.wrap (s169.2 - 1) : Int).toNat x186, IntKind.i64.wrap (s169.2 - 1))))
 else (some (.inr s169.1)))
 else (some (.inr s169.1))) (fun xs => rfl) (fun a y x c hb => by
    simp only
    rw [if_pos (by omega)]
    have g1 : idxO (a ++ y :: x :: c) ((a.length + 1 : Nat) : Int) = some x := idxO_nat (by simp)
    have g2 : idxO (a ++ y :: x :: c) (IntKind.i64.wrap (((a.length + 1 : Nat) : Int) - 1)) = some y := by
      rw [i64_id (by omega) (by omega), show ((a.length + 1 : Nat) : Int) - 1 = (a.length : Int) by omega]
      exact idxO_nat (by simp)
    rw [g1, g2]
    simp only [Option.bind_some]
    by_cases hlt : lssB x.1 y.1 = true
    · rw [if_pos hlt, if_pos hlt]
      have g3 : idxO ((a ++ y :: x :: c).set (((a.length + 1 : Nat) : Int)).toNat y) (IntKind.i64.wrap (((a.length + 1 : Nat) : Int) - 1)) = some y := by
        rw [i64_id (by omega) (by omega), show ((a.length + 1 : Nat) : Int) - 1 = (a.length : Int) by omega]
        refine idxO_nat ?_
        rw [Int.toNat_natCast, List.getElem?_set_ne (by omega)]
        simp
      rw [g3]
      simp only [Option.bind_some]
      rw [i64_id (by omega) (by omega), show ((a.length + 1 : Nat) : Int) - 1 = (a.length : Int) by omega, Int.toNat_natCast, Int.toNat_natCast, set_swap]
    · rw [if_neg hlt, if_neg hlt])
  rw [e2]
  refine ⟨_, rfl, ?_, ?_⟩
  · simp only [List.append_nil]
    exact sink_sorted (lt := fun (x y : P2) => lssB x.1 y.1) (fun a b c h1 h2 => lss_tr a.1 b.1 c.1 h1 h2) (fun a b h => lss_as a.1 b.1 h) (by rw [← e1]; exact hs) e3 e4
  · simp only [List.append_nil]
    rw [e1]
    refine List.perm_middle.trans ?_
    rw [← List.singleton_append]
    exact List.perm_append_comm
end
end Go.Proofs.YtohmcgmmphpgoaaGreatDoor
