/- Plain: both trees are one. -/
import Derived.Test.YtnjemlkcamdbfaaGreatDoorTrK
set_option linter.unusedSimpArgs false
set_option linter.unusedVariables false
namespace Go.Proofs.YtnjemlkcamdbfaaGreatDoor
open Go.RowKit Go.Tri
/-- The levels above the leaves, so many at most. -/
def lvS : Nat → Bk × List Pr → (Bk × List Pr) ⊕ Int
  | 0, s => if 1 < s.2.length then .inr 23 else .inl s
  | k + 1, s => if 1 < s.2.length then (rowS (15 - k) (cutN (inn (15 - k) (s.2.map (·.1))) s.2) (s.1, [])).elim (fun t => lvS k t) .inr else .inl s
def bldS (l : List Pr) : (List UInt8 × Bk) ⊕ Int :=
  if risB l = true then (rowS 0 (cutN (lvs l) l) ([], [])).elim (fun s => (lvS 15 s).elim (fun t => .inl ((t.2.headD ([], [])).2, t.1)) .inr) .inr else .inr 1
theorem lv_ne : ∀ (k : Nat) (s u : Bk × List Pr), 1 ≤ s.2.length → lvS k s = .inl u → 1 ≤ u.2.length := by
  intro k
  induction k with
  | zero =>
    intro s u hs h
    unfold lvS at h
    split at h
    · cases h
    · cases h; exact hs
  | succ k ih =>
    intro s u hs h
    unfold lvS at h
    split at h
    · rename_i h1
      cases hx : rowS (15 - k) (cutN (inn (15 - k) (s.2.map (·.1))) s.2) (s.1, []) with
      | inr e => rw [hx] at h; cases h
      | inl v =>
        rw [hx] at h
        refine ih v u ?_ h
        have h3 := rowS_some _ _ _ _ hx
        have h4 := (inn_sum (15 - k) (s.2.map (·.1))).2.2.1 (fun e => by have := congrArg List.length e; simp at this; rw [this] at h1; simp at h1)
        rw [h3.2.1, cutN_len]; simp; omega
    · cases h; exact hs
/-! ### The document's rows -/
def stR (lv : Nat) (l : List Pr) (s : Bk × List Pr × Nat) (n : Nat) : (Bk × List Pr × Nat) ⊕ Int :=
  if (wrN (nd lv ((l.drop s.2.2).take n))).2 = 0 then .inl (s.1 ++ [(Hs (wrN (nd lv ((l.drop s.2.2).take n))).1, (wrN (nd lv ((l.drop s.2.2).take n))).1)], s.2.1 ++ [(hdF ((l.drop s.2.2).take n), Hs (wrN (nd lv ((l.drop s.2.2).take n))).1)], s.2.2 + n)
  else .inr (wrN (nd lv ((l.drop s.2.2).take n))).2
theorem runR {ρ : Type} (lv : Nat) (l : List Pr) (F : Bk → List Pr → ρ) (E : Int → ρ) : ∀ (ns : List Nat) (s : Bk × List Pr × Nat),
    runE (fun s n => (stR lv l s n).elim (fun s => .inl s) (fun e => .inr (E e))) (fun s => F s.1 s.2.1) ns s = (rowS lv (cutN ns (l.drop s.2.2)) (s.1, s.2.1)).elim (fun t => F t.1 t.2) E
  | [], s => rfl
  | n :: ns, s => by
    simp only [runE, cutN, rowS]
    unfold stR
    by_cases h : (wrN (nd lv ((l.drop s.2.2).take n))).2 = 0
    · rw [if_pos h, if_pos h]
      simp only [Sum.elim_inl]
      have := runR lv l F E ns (s.1 ++ [(Hs (wrN (nd lv ((l.drop s.2.2).take n))).1, (wrN (nd lv ((l.drop s.2.2).take n))).1)], s.2.1 ++ [(hdF ((l.drop s.2.2).take n), Hs (wrN (nd lv ((l.drop s.2.2).take n))).1)], s.2.2 + n)
      simp only [← List.drop_drop] at this
      exact this
    · rw [if_neg h, if_neg h]; rfl
def stG (lv : Nat) (s : Bk × List Pr) (g : List Pr) : (Bk × List Pr) ⊕ Int :=
  if (wrN (nd lv g)).2 = 0 then .inl (s.1 ++ [(Hs (wrN (nd lv g)).1, (wrN (nd lv g)).1)], s.2 ++ [(hdF g, Hs (wrN (nd lv g)).1)]) else .inr (wrN (nd lv g)).2
theorem runG {ρ : Type} (lv : Nat) (F : Bk × List Pr → ρ) (E : Int → ρ) : ∀ (gs : List (List Pr)) (s : Bk × List Pr),
    runE (fun s g => (stG lv s g).elim (fun s => .inl s) (fun e => .inr (E e))) F gs s = (rowS lv gs s).elim F E
  | [], s => rfl
  | g :: gs, s => by
    simp only [runE, rowS]
    unfold stG
    by_cases h : (wrN (nd lv g)).2 = 0
    · rw [if_pos h, if_pos h]; exact runG lv F E gs _
    · rw [if_neg h, if_neg h]; rfl
theorem sum_take {ns : List Nat} {i n : Nat} (h : ns[i]? = some n) : (ns.take i).sum + n = (ns.take (i + 1)).sum ∧ (ns.take (i + 1)).sum ≤ ns.sum := by
  have hsum : (ns.take (i + 1)).sum = (ns.take i).sum + n := by rw [List.take_add_one, h]; simp
  refine ⟨hsum.symm, ?_⟩
  conv => rhs; rw [← List.take_append_drop (i + 1) ns, List.sum_append]
  omega
theorem izN_get {ns : List Nat} {i n : Nat} (h : ns[i]? = some n) : idxO (izN ns) (i : Int) = some (n : Int) := idxO_nat (by simp [izN, h])
theorem stR_inl {lv : Nat} {l : List Pr} {s s' : Bk × List Pr × Nat} {n : Nat} {ρ : Type} {E : Int → ρ} (h : ((stR lv l s n).elim (fun s => .inl s) (fun e => .inr (E e)) : (Bk × List Pr × Nat) ⊕ ρ) = .inl s') : s'.1.length = s.1.length + 1 ∧ s'.2.1.length = s.2.1.length + 1 ∧ s'.2.2 = s.2.2 + n := by
  unfold stR at h
  split at h
  · cases h; simp
  · cases h
theorem stG_inl {lv : Nat} {s s' : Bk × List Pr} {g : List Pr} {ρ : Type} {E : Int → ρ} (h : ((stG lv s g).elim (fun s => .inl s) (fun e => .inr (E e)) : (Bk × List Pr) ⊕ ρ) = .inl s') : s'.1.length = s.1.length + 1 ∧ s'.2.length = s.2.length + 1 := by
  unfold stG at h
  split at h
  · cases h; simp
  · cases h
theorem firsts_eq (l : List Pr) (hl : l.length ≤ 100000) : loopO (fun (s1924 : (List (List UInt8)) × Int) => if s1924.2 < ((l).length : Int) then ((idxO l s1924.2).bind fun x1927 =>
    (appO s1924.1 ([x1927.1])).bind fun x1935 => some (.inl (x1935, IntKind.i64.wrap (s1924.2 + 1)))) else (some (.inr s1924.1))) (([] : List (List UInt8)), 0) = some (l.map (·.1)) := by
  refine (loop_xs0 (s0 := ([] : List (List UInt8))) l (fun (s : List (List UInt8)) (i : Int) => (s, i)) (fun s p => .inl (s ++ [p.1])) (fun s => s) (fun i s => s.length ≤ i) (by simp) (fun i s p hp hI => ?_) (fun s hI => by rw [if_neg (by omega)])).trans ?_
  · have hi := (List.getElem?_eq_some_iff.1 hp).1
    simp only
    rw [if_pos (by omega), idxO_nat hp]
    simp only [Option.bind_some]
    rw [appO_of (by simp; omega)]
    simp only [Option.bind_some]
    rw [i64_id (by omega) (by omega)]
    exact ⟨rfl, fun s' hs' => by cases hs'; simp; omega⟩
  · congr 1
    have hrun : ∀ (l : List Pr) (s : List (List UInt8)), runE (fun s p => (.inl (s ++ [p.1]) : _ ⊕ List (List UInt8))) (fun s => s) l s = s ++ l.map (·.1) := by
      intro l
      induction l with
      | nil => intro s; simp [runE]
      | cons n ns ih => intro s; simp only [runE]; rw [ih]; simp
    rw [hrun]; rfl
theorem hdF_at {l : List Pr} {a n : Nat} (h : a < l.length) (hn : 0 < n) : hdF ((l.drop a).take n) = l[a].1 := by
  unfold hdF
  rw [List.drop_eq_getElem_cons h]
  cases n with
  | zero => omega
  | succ n => rfl
abbrev BR := (List (List UInt8)) × (List (List UInt8))
abbrev bR (b : Bk) : BR := (b.map (·.1), b.map (·.2))
/-- All that the document's levels do. -/
theorem rLv_loop {f : BR × (List Pr) × Int → Option ((BR × (List Pr) × Int) ⊕ ((BR × (List Pr)) ⊕ (List UInt8 × BR × Int)))} (E : Int → List UInt8 × BR × Int)
    (h0 : ∀ (b : Bk) (row : List Pr) (lv : Nat), row.length ≤ 1 → f (bR b, row, (lv : Int)) = some (.inr (.inl (bR b, row))))
    (h1 : ∀ (b : Bk) (row : List Pr), 1 < row.length → f (bR b, row, ((16 : Nat) : Int)) = some (.inr (.inr (E 23))))
    (h2 : ∀ (b : Bk) (row : List Pr) (lv : Nat), 1 < row.length → SmallP row → b.length ≤ 100000 * lv → 1 ≤ lv → lv ≤ 15 → f (bR b, row, (lv : Int)) = some ((rowS lv (cutN (inn lv (row.map (·.1))) row) (b, [])).elim (fun t => .inl (bR t.1, t.2, ((lv + 1 : Nat) : Int))) (fun e => .inr (.inr (E e))))) :
    ∀ (k : Nat) (b : Bk) (row : List Pr), k ≤ 15 → SmallP row → b.length ≤ 100000 * (16 - k) → loopO f (bR b, row, ((16 - k : Nat) : Int)) = some ((lvS k (b, row)).elim (fun t => .inl (bR t.1, t.2)) (fun e => .inr (E e)))
  | 0, b, row, hk, hr, hb => by
    rw [loopO_eq]
    unfold lvS
    by_cases h : 1 < row.length
    · rw [h1 b row h, if_pos h]; rfl
    · rw [h0 b row _ (by omega), if_neg h]; rfl
  | k + 1, b, row, hk, hr, hb => by
    rw [loopO_eq]
    unfold lvS
    by_cases h : 1 < row.length
    · rw [h2 b row _ h hr hb (by omega) (by omega), if_pos h]
      rw [show 16 - (k + 1) = 15 - k by omega]
      cases hx : rowS (15 - k) (cutN (inn (15 - k) (row.map (·.1))) row) (b, []) with
      | inr e => rfl
      | inl t =>
        have hi := inn_sum (15 - k) (row.map (·.1))
        simp only [List.length_map] at hi
        have h3 := row_small hr (by have := hr.1; omega) hx
        have := rLv_loop E h0 h1 h2 k t.1 t.2 (by omega) h3.1 (by have := hr.1; omega)
        simp only [Sum.elim_inl]
        rw [show 15 - k + 1 = 16 - k by omega]
        exact this
    · rw [h0 b row _ (by omega), if_neg h]; rfl
theorem rBuild_eq (l : List Pr) (hl : SmallP l) (hl2 : l.length ≤ 90000) : m_triremeref08_Build l = some ((bldS l).elim (fun t => (t.1, bR t.2, 0)) (fun e => (z32, ([], []), e))) := by
  unfold m_triremeref08_Build bldS
  rw [rRising_eq l (by omega)]
  simp only [Option.bind_some]
  by_cases hr : risB l = true
  case neg => rw [if_neg hr]; simp [hr, z32]
  rw [if_pos hr, if_neg (by simp [hr]), rLeaves_eq l hl]
  simp only [Option.bind_some]
  obtain ⟨hs1, hs2, _, hs4⟩ := lvs_sum l
  have hN : (lvs l).length ≤ 100000 := by omega
  refine (congrArg (fun o => Option.bind o _) (loop_xs0 (s0 := (([], [], 0) : Bk × List Pr × Nat)) (lvs l) (fun (s : Bk × List Pr × Nat) (i : Int) => (bR s.1, s.2.1, (s.2.2 : Int), i))
    (fun s n => (stR 0 l s n).elim (fun s => .inl s) (fun e => .inr (.inr (z32, (([], []) : BR), e)))) (fun s => .inl (bR s.1, s.2.1)) (fun i s => s.2.2 = ((lvs l).take i).sum ∧ s.1.length ≤ i ∧ s.2.1.length ≤ i) (by simp) (fun i s n hn hI => ?_) (fun s hI => by rw [if_neg (by rw [izN_len]; simp)]))).trans ?_
  · have hi := (List.getElem?_eq_some_iff.1 hn).1
    obtain ⟨hsum, hle⟩ := sum_take hn
    obtain ⟨hA, hB, hC⟩ := hI
    have hg := hl.cut s.2.2 n
    have hnd := nd_small hg 0
    refine ⟨?_, fun s' hs' => by
      have := stR_inl hs'
      omega⟩
    simp only
    rw [if_pos (by rw [izN_len]; omega), izN_get hn]
    simp only [Option.bind_some]
    have e1 : (if 0 < (n : Int) then ((idxO l (s.2.2 : Int)).bind fun x533 => some x533.1) else (some ([] : List UInt8))) = some (hdF ((l.drop s.2.2).take n)) := by
      by_cases h0 : 0 < n
      · rw [if_pos (by omega)]
        have hlt : s.2.2 < l.length := by omega
        rw [idxO_get hlt, hdF_at hlt h0]; rfl
      · obtain rfl : n = 0 := by omega
        simp [hdF]
    rw [e1]
    simp only [Option.bind_some]
    rw [i64_id (n := (s.2.2 : Int) + (n : Int)) (by omega) (by omega)]
    have e2 : slcO l (s.2.2 : Int) ((s.2.2 : Int) + (n : Int)) = some ((l.drop s.2.2).take n) := by
      rw [show (s.2.2 : Int) + (n : Int) = ((s.2.2 + n : Nat) : Int) by omega, slcO_of (by omega) (by omega), List.drop_take]
      congr 2; omega
    rw [e2]
    simp only [Option.bind_some]
    have e3 := rbPut_eq s.1 (by omega) (nd 0 ((l.drop s.2.2).take n)) hnd.1 hnd.2
    unfold stR
    have e4 : (nd 0 ((l.drop s.2.2).take n)) = (0, (l.drop s.2.2).take n, []) := rfl
    rw [e4] at e3
    rw [e4, e3]
    simp only [Option.bind_some]
    by_cases hw : (wrN (0, (l.drop s.2.2).take n, [])).2 = 0
    · simp only [if_pos hw]
      rw [if_pos trivial, appO_of (by simp; omega)]
      simp only [Option.bind_some, Sum.elim_inl]
      rw [i64_id (n := (i : Int) + 1) (by omega) (by omega)]
      rw [show (s.2.2 : Int) + (n : Int) = ((s.2.2 + n : Nat) : Int) by omega]
      rfl
    · simp only [if_neg hw]
      rfl
  · have hR := runR (ρ := (BR × List Pr) ⊕ (List UInt8 × BR × Int)) 0 l (fun b r => .inl (bR b, r)) (fun e => .inr (z32, ([], []), e)) (lvs l) ([], [], 0)
    rw [hR]
    simp only [Option.bind_some, List.drop_zero]
    cases hx : rowS 0 (cutN (lvs l) l) ([], []) with
    | inr e => rfl
    | inl t =>
      have h3 := row_small hl hN hx
      simp only [Sum.elim_inl]
      simp only [List.length_nil, Nat.zero_add] at h3
      have hrow : 1 ≤ t.2.length := by omega
      refine (congrArg (fun o => Option.bind o _) (rLv_loop (fun e => (z32, ([], []), e)) (fun b row lv h => ?_) (fun b row h => ?_) (fun b row lv h hr hb h1 h2 => ?_) 15 t.1 t.2 (by omega) h3.1 (by omega))).trans ?_
      · simp only
        rw [if_neg (by omega)]
      · simp only
        rw [if_pos (by omega), if_pos (by omega)]
        rfl
      · simp only
        rw [if_pos (by omega), if_neg (by omega), firsts_eq row hr.1]
        simp only [Option.bind_some]
        have hsb : SmallB (row.map (·.1)) := ⟨by simpa using hr.1, fun p hp => by obtain ⟨q, hq, rfl⟩ := List.mem_map.1 hp; exact (hr.2 q hq).1⟩
        rw [rInner_eq _ hsb lv h2]
        simp only [Option.bind_some]
        obtain ⟨is1, is2, is3, is4⟩ := inn_sum lv (row.map (·.1))
        simp only [List.length_map] at is1 is2
        have hr1 := hr.1
        refine (congrArg (fun o => Option.bind o _) (loop_xs0 (s0 := ((b, [], 0) : Bk × List Pr × Nat)) (inn lv (row.map (·.1))) (fun (s : Bk × List Pr × Nat) (i : Int) => (bR s.1, row, (s.2.2 : Int), s.2.1, i))
          (fun s n => (stR lv row s n).elim (fun s => .inl s) (fun e => .inr (.inr (z32, (([], []) : BR), e)))) (fun s => .inl (bR s.1, s.2.1)) (fun i s => s.2.2 = ((inn lv (row.map (·.1))).take i).sum ∧ s.1.length ≤ 1500000 + i ∧ s.2.1.length ≤ i) (by simp; omega) (fun i s n hn hI => ?_) (fun s hI => by rw [if_neg (by rw [izN_len]; simp)]))).trans ?_
        · have hi := (List.getElem?_eq_some_iff.1 hn).1
          obtain ⟨hsum, hle⟩ := sum_take hn
          obtain ⟨hA, hB, hC⟩ := hI
          have hn1 := is4 n (List.mem_of_getElem? hn)
          have hg := hr.cut s.2.2 n
          have hnd := nd_small hg lv
          refine ⟨?_, fun s' hs' => by
            have := stR_inl hs'
            omega⟩
          simp only
          rw [if_pos (by rw [izN_len]; omega), izN_get hn]
          simp only [Option.bind_some]
          rw [i64_id (n := (s.2.2 : Int) + (n : Int)) (by omega) (by omega)]
          have e2 : slcO row (s.2.2 : Int) ((s.2.2 : Int) + (n : Int)) = some ((row.drop s.2.2).take n) := by
            rw [show (s.2.2 : Int) + (n : Int) = ((s.2.2 + n : Nat) : Int) by omega, slcO_of (by omega) (by omega), List.drop_take]
            congr 2; omega
          rw [e2]
          simp only [Option.bind_some]
          have e3 := rbPut_eq s.1 (by omega) (nd lv ((row.drop s.2.2).take n)) hnd.1 hnd.2
          unfold stR
          have e4 : (nd lv ((row.drop s.2.2).take n)) = ((lv : Int), [], (row.drop s.2.2).take n) := by unfold nd; rw [if_neg (by omega)]
          rw [e4] at e3
          rw [e4, e3]
          simp only [Option.bind_some]
          have hlt : s.2.2 < row.length := by omega
          have hhd : hdF ((row.drop s.2.2).take n) = row[s.2.2].1 := hdF_at hlt hn1
          by_cases hw : (wrN ((lv : Int), [], (row.drop s.2.2).take n)).2 = 0
          · simp only [if_pos hw]
            rw [if_pos trivial, idxO_get hlt]
            simp only [Option.bind_some]
            rw [appO_of (by simp; omega)]
            simp only [Option.bind_some, Sum.elim_inl]
            rw [i64_id (n := (i : Int) + 1) (by omega) (by omega), hhd]
            rw [show (s.2.2 : Int) + (n : Int) = ((s.2.2 + n : Nat) : Int) by omega]
            rfl
          · simp only [if_neg hw]
            rfl
        · have hR := runR (ρ := (BR × List Pr) ⊕ (List UInt8 × BR × Int)) lv row (fun b r => .inl (bR b, r)) (fun e => .inr (z32, ([], []), e)) (inn lv (row.map (·.1))) (b, [], 0)
          rw [hR]
          simp only [Option.bind_some, List.drop_zero]
          cases hy : rowS lv (cutN (inn lv (row.map (·.1))) row) (b, []) with
          | inr e => rfl
          | inl u =>
            simp only [Sum.elim_inl]
            rw [i64_id (n := (lv : Int) + 1) (by omega) (by omega)]
            rfl
      · simp only [Option.bind_some]
        cases hy : lvS 15 t with
        | inr e =>
          rfl
        | inl u =>
          have hu : 1 ≤ u.2.length := lv_ne 15 t u hrow hy
          simp only [Sum.elim_inl]
          cases hu2 : u.2 with
          | nil => rw [hu2] at hu; simp at hu
          | cons p r => simp [idxO]
end Go.Proofs.YtnjemlkcamdbfaaGreatDoor
