/- Plain: the program's tree. -/
import Derived.Test.YtnjemlkcamdbfaaGreatDoorTrL
set_option linter.unusedSimpArgs false
set_option linter.unusedVariables false
namespace Go.Proofs.YtnjemlkcamdbfaaGreatDoor
open Go.RowKit Go.Tri
abbrev Mp := List UInt8 → Option (List UInt8)
theorem pLv_loop {f : Mp × (List Pr) × Int → Option ((Mp × (List Pr) × Int) ⊕ ((Mp × (List Pr)) ⊕ (List UInt8 × Mp × Int)))} (E : Int → List UInt8 × Mp × Int)
    (h0 : ∀ (b : Bk) (row : List Pr) (lv : Nat), row.length ≤ 1 → f (mapOf b, row, (lv : Int)) = some (.inr (.inl (mapOf b, row))))
    (h1 : ∀ (b : Bk) (row : List Pr), 1 < row.length → f (mapOf b, row, ((16 : Nat) : Int)) = some (.inr (.inr (E 23))))
    (h2 : ∀ (b : Bk) (row : List Pr) (lv : Nat), 1 < row.length → SmallP row → 1 ≤ lv → lv ≤ 15 → f (mapOf b, row, (lv : Int)) = some ((rowS lv (cutN (inn lv (row.map (·.1))) row) (b, [])).elim (fun t => .inl (mapOf t.1, t.2, ((lv + 1 : Nat) : Int))) (fun e => .inr (.inr (E e))))) :
    ∀ (k : Nat) (b : Bk) (row : List Pr), k ≤ 15 → SmallP row → loopO f (mapOf b, row, ((16 - k : Nat) : Int)) = some ((lvS k (b, row)).elim (fun t => .inl (mapOf t.1, t.2)) (fun e => .inr (E e)))
  | 0, b, row, hk, hr => by
    rw [loopO_eq]
    unfold lvS
    by_cases h : 1 < row.length
    · rw [h1 b row h, if_pos h]; rfl
    · rw [h0 b row _ (by omega), if_neg h]; rfl
  | k + 1, b, row, hk, hr => by
    rw [loopO_eq]
    unfold lvS
    by_cases h : 1 < row.length
    · rw [h2 b row _ h hr (by omega) (by omega), if_pos h]
      rw [show 16 - (k + 1) = 15 - k by omega]
      cases hx : rowS (15 - k) (cutN (inn (15 - k) (row.map (·.1))) row) (b, []) with
      | inr e => rfl
      | inl t =>
        have hi := inn_sum (15 - k) (row.map (·.1))
        simp only [List.length_map] at hi
        have h3 := row_small hr (by have := hr.1; omega) hx
        have := pLv_loop E h0 h1 h2 k t.1 t.2 (by omega) h3.1
        simp only [Sum.elim_inl]
        rw [show 15 - k + 1 = 16 - k by omega]
        exact this
    · rw [h0 b row _ (by omega), if_neg h]; rfl
theorem cutN_ne {α : Type} : ∀ (ns : List Nat) (l : List α), ns.sum ≤ l.length → (∀ n ∈ ns, 1 ≤ n) → ∀ g ∈ cutN ns l, 1 ≤ g.length ∧ g.length ≤ l.length
  | n :: ns, l, hs, h1, g, hg => by
    simp only [List.sum_cons] at hs
    have hn := h1 n (by simp)
    rcases List.mem_cons.1 hg with rfl | hg
    · simp; omega
    · have := cutN_ne ns (l.drop n) (by simp; omega) (fun m hm => h1 m (List.mem_cons_of_mem _ hm)) g hg
      simp at this; omega
theorem cutN_le {α : Type} : ∀ (ns : List Nat) (l : List α), ∀ g ∈ cutN ns l, g.length ≤ l.length
  | n :: ns, l, g, hg => by
    rcases List.mem_cons.1 hg with rfl | hg
    · simp; omega
    · have := cutN_le ns (l.drop n) g hg
      simp at this; omega
theorem tBuild_eq (l : List Pr) (hl : SmallP l) (hl2 : l.length ≤ 90000) : trBuild l = some ((bldS l).elim (fun t => (t.1, mapOf t.2, 0)) (fun e => (z32, fnil, e))) := by
  unfold trBuild bldS
  rw [tRises_eq l (by omega)]
  simp only [Option.bind_some]
  by_cases hr : risB l = true
  case neg => rw [if_neg hr]; simp [hr, z32]
  rw [if_pos hr, if_neg (by simp [hr]), pLeaves_eq l hl]
  simp only [Option.bind_some]
  obtain ⟨hs1, hs2, _, hs4⟩ := lvs_sum l
  have hN : (lvs l).length ≤ 100000 := by omega
  rw [cut_eq l _ (by omega) hN (by omega)]
  simp only [Option.bind_some]
  refine (congrArg (fun o => Option.bind o _) (loop_xs0 (s0 := (([], []) : Bk × List Pr)) (cutN (lvs l) l) (fun (s : Bk × List Pr) (i : Int) => (mapOf s.1, s.2, i))
    (fun s g => (stG 0 s g).elim (fun s => .inl s) (fun e => .inr (.inr (z32, (fnil : Mp), e)))) (fun s => .inl (mapOf s.1, s.2)) (fun i s => s.2.length ≤ i) (by simp) (fun i s g hg hI => ?_) (fun s hI => by rw [if_neg (by simp)]))).trans ?_
  · have hi := (List.getElem?_eq_some_iff.1 hg).1
    have hi' := hi
    rw [cutN_len] at hi'
    have hgm := List.mem_of_getElem? hg
    have hgs : SmallP g := hl.sub (cutN_mem _ _ g hgm) (cutN_le _ _ g hgm)
    have hnd := nd_small hgs 0
    refine ⟨?_, fun s' hs' => by
      have := stG_inl hs'
      omega⟩
    simp only
    rw [if_pos (by omega), idxO_nat hg]
    simp only [Option.bind_some]
    have e1 : (if 0 < (g.length : Int) then ((idxO g 0).bind fun x374 => some x374.1) else (some ([] : List UInt8))) = some (hdF g) := by
      cases g with
      | nil => simp [hdF]
      | cons p g =>
        rw [if_pos (by simp)]
        simp [idxO, hdF]
    rw [e1]
    simp only [Option.bind_some]
    have e3 := trPut_eq (mapOf s.1) (nd 0 g) (hdF g) hnd.1 hnd.2
    unfold stG
    have e4 : nd 0 g = (0, g, []) := rfl
    rw [e4] at e3
    rw [e4, e3]
    simp only [Option.bind_some]
    by_cases hw : (wrN (0, g, [])).2 = 0
    · simp only [if_pos hw]
      rw [if_pos trivial, appO_of (by simp; omega)]
      simp only [Option.bind_some, Sum.elim_inl]
      rw [i64_id (n := (i : Int) + 1) (by omega) (by omega), mapOf_app]
      rfl
    · simp only [if_neg hw]
      rfl
  · have hG := runG (ρ := (Mp × List Pr) ⊕ (List UInt8 × Mp × Int)) 0 (fun s => .inl (mapOf s.1, s.2)) (fun e => .inr (z32, fnil, e)) (cutN (lvs l) l) ([], [])
    rw [hG]
    simp only [Option.bind_some]
    cases hx : rowS 0 (cutN (lvs l) l) ([], []) with
    | inr e => rfl
    | inl t =>
      have h3 := row_small hl hN hx
      simp only [Sum.elim_inl]
      have hrow : 1 ≤ t.2.length := by omega
      refine (congrArg (fun o => Option.bind o _) (pLv_loop (fun e => (z32, fnil, e)) (fun b row lv h => ?_) (fun b row h => ?_) (fun b row lv h hr h1 h2 => ?_) 15 t.1 t.2 (by omega) h3.1)).trans ?_
      · simp only
        rw [if_neg (by omega)]
      · simp only
        rw [if_pos (by omega), if_pos (show ((16 : Nat) : Int) = 16 from rfl)]
        rfl
      · simp only
        rw [if_pos (by omega), if_neg (by omega)]
        have hfi := firsts_eq row hr.1
        rw [hfi]
        simp only [Option.bind_some]
        have hsb : SmallB (row.map (·.1)) := ⟨by simpa using hr.1, fun p hp => by obtain ⟨q, hq, rfl⟩ := List.mem_map.1 hp; exact (hr.2 q hq).1⟩
        rw [pInner_eq _ hsb lv h2]
        simp only [Option.bind_some]
        obtain ⟨is1, is2, is3, is4⟩ := inn_sum lv (row.map (·.1))
        simp only [List.length_map] at is1 is2
        have hr1 := hr.1
        rw [cutK_eq row _ hr1 (by omega) (by omega)]
        simp only [Option.bind_some]
        refine (congrArg (fun o => Option.bind o _) (loop_xs0 (s0 := ((b, []) : Bk × List Pr)) (cutN (inn lv (row.map (·.1))) row) (fun (s : Bk × List Pr) (i : Int) => (mapOf s.1, s.2, i))
          (fun s g => (stG lv s g).elim (fun s => .inl s) (fun e => .inr (.inr (z32, (fnil : Mp), e)))) (fun s => .inl (mapOf s.1, s.2)) (fun i s => s.2.length ≤ i) (by simp) (fun i s g hg hI => ?_) (fun s hI => by rw [if_neg (by simp)]))).trans ?_
        · have hi := (List.getElem?_eq_some_iff.1 hg).1
          have hi' := hi
          rw [cutN_len] at hi'
          have hgm := List.mem_of_getElem? hg
          have hgs : SmallP g := hr.sub (cutN_mem _ _ g hgm) (cutN_le _ _ g hgm)
          have hnd := nd_small hgs lv
          have hne := (cutN_ne _ row (by omega) is4 g hgm).1
          refine ⟨?_, fun s' hs' => by
            have := stG_inl hs'
            omega⟩
          simp only
          rw [if_pos (by omega), idxO_nat hg]
          simp only [Option.bind_some]
          have e1 : ∀ {ρ : Type} (k : Pr → Option ρ) (k2 : List UInt8 → Option ρ), (∀ p : Pr, k p = k2 p.1) → (idxO g 0).bind k = k2 (hdF g) := by
            intro ρ k k2 hk
            cases g with
            | nil => simp at hne
            | cons p g => simp [idxO, hdF, hk]
          have e3 := trPut_eq (mapOf s.1) (nd lv g) (hdF g) hnd.1 hnd.2
          unfold stG
          have e4 : nd lv g = ((lv : Int), [], g) := by unfold nd; rw [if_neg (by omega)]
          rw [e4] at e3
          rw [e4, e1 _ (fun first => (trPut (mapOf s.1) ((lv : Int), [], g) first).bind _) (fun p => rfl), e3]
          simp only [Option.bind_some]
          by_cases hw : (wrN ((lv : Int), [], g)).2 = 0
          · simp only [if_pos hw]
            rw [if_pos trivial, appO_of (by simp; omega)]
            simp only [Option.bind_some, Sum.elim_inl]
            rw [i64_id (n := (i : Int) + 1) (by omega) (by omega), mapOf_app]
            rfl
          · simp only [if_neg hw]
            rfl
        · have hG := runG (ρ := (Mp × List Pr) ⊕ (List UInt8 × Mp × Int)) lv (fun s => .inl (mapOf s.1, s.2)) (fun e => .inr (z32, fnil, e)) (cutN (inn lv (row.map (·.1))) row) (b, [])
          rw [hG]
          simp only [Option.bind_some]
          cases hy : rowS lv (cutN (inn lv (row.map (·.1))) row) (b, []) with
          | inr e => rfl
          | inl u =>
            simp only [Sum.elim_inl]
            rw [i64_id (n := (lv : Int) + 1) (by omega) (by omega)]
            rfl
      · simp only [Option.bind_some]
        cases hy : lvS 15 t with
        | inr e =>
          rfl
        | inl u =>
          have hu : 1 ≤ u.2.length := lv_ne 15 t u hrow hy
          simp only [Sum.elim_inl]
          cases hu2 : u.2 with
          | nil => rw [hu2] at hu; simp at hu
          | cons p r => simp [idxO]
end Go.Proofs.YtnjemlkcamdbfaaGreatDoor
