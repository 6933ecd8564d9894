/- Plain: what stands in a directory; what is removed, listed, asked. -/
import Derived.Test.YtnagibpmfabkjaaGreatDoorFilO
set_option linter.unusedSimpArgs false
set_option linter.unusedVariables false
namespace Go.Proofs.YtnagibpmfabkjaaGreatDoor
open Go.RowKit Go.Tri
/-- The path of a name in a directory. -/
def kid (p x : List UInt8) : List UInt8 := pth (nmP p ++ [x])
theorem nm_par {q : List UInt8} (h : okP q = true) (hr : q ≠ [47]) : nmP (par q) = (nmP q).dropLast ∧ nmP q = (nmP q).dropLast ++ [bas q] ∧ okP (par q) = true := by
  obtain ⟨h1, h2, h3⟩ := okP_pth h
  have hne := nmP_ne h hr
  have hl : (nmP q).dropLast ++ [bas q] = nmP q := by
    unfold bas
    rw [List.getLast?_eq_some_getLast hne]
    exact List.dropLast_concat_getLast hne
  have hnp : NP (nmP q).dropLast := fun x hx => h1 x (List.dropLast_subset _ hx)
  have hp := par_len h
  unfold par at hp ⊢
  rw [if_neg hne] at hp ⊢
  exact ⟨pth_nm hnp hp, hl.symm, pth_ok hnp hp⟩
theorem kid_of {q : List UInt8} (h : okP q = true) (hr : q ≠ [47]) : q = kid (par q) (bas q) := by
  obtain ⟨h1, h2, _⟩ := nm_par h hr
  unfold kid
  rw [h1, ← h2]
  exact (okP_pth h).2.1
noncomputable def bl (s : FS) (p : List UInt8) : List (List UInt8) := (sBelow s p).getD []
structure Bl (s : FS) (p : List UInt8) (n : Nat) : Prop where
  eq : sBelow s p = some (bl s p)
  mem : ∀ x, x ∈ bl s p ↔ ∃ q f, s q = some f ∧ q ≠ [47] ∧ par q = p ∧ bas q = x
  le : (bl s p).Pairwise (· ≤ ·)
  len : (bl s p).length ≤ n
  nd : (bl s p).Nodup
theorem Snd.below {s : FS} (hs : Snd s) {n : Nat} (hc : Crd s n) (hn : n ≤ 1000000) (p : List UInt8) : Bl s p n := by
  obtain ⟨l, hE, hl⟩ := hc
  have h1 := below_eq hE (by omega) (fun x hx => by have := (okP_pth (hs.ok _ _ ((enum_mem hE).1 hx))).2.2; omega) p
  have h2 : bl s p = blL l p := by unfold bl; rw [h1]; rfl
  have hpm := List.mergeSort_perm ((l.filter (inD p)).map fun x => bas x.1) tle
  refine ⟨by rw [h1, h2], fun x => ?_, by rw [h2]; exact tsort _, ?_, ?_⟩
  · rw [h2]
    unfold blL
    rw [hpm.mem_iff, List.mem_map]
    constructor
    · rintro ⟨⟨q, f⟩, hq, rfl⟩
      obtain ⟨h3, h4⟩ := List.mem_filter.1 hq
      simp only [inD, Bool.and_eq_true, decide_eq_true_eq] at h4
      exact ⟨q, f, (enum_mem hE).1 h3, h4.1, h4.2, rfl⟩
    · rintro ⟨q, f, h3, h4, h5, rfl⟩
      exact ⟨(q, f), List.mem_filter.2 ⟨(enum_mem hE).2 h3, by simp [inD, h4, h5]⟩, rfl⟩
  · rw [h2]
    unfold blL
    rw [hpm.length_eq, List.length_map]
    have := List.length_filter_le (inD p) l
    omega
  · rw [h2]
    unfold blL
    rw [hpm.nodup_iff, List.nodup_iff_pairwise_ne, List.pairwise_map, List.pairwise_filter]
    have hn := hE.1
    rw [List.nodup_iff_pairwise_ne, List.pairwise_map] at hn
    refine hn.imp_of_mem fun {a b} ha hb hne hda hdb e => hne ?_
    simp only [inD, Bool.and_eq_true, decide_eq_true_eq] at hda hdb
    rw [kid_of (hs.ok _ _ ((enum_mem hE).1 ha)) hda.1, kid_of (hs.ok _ _ ((enum_mem hE).1 hb)) hdb.1, hda.2, hdb.2, e]
noncomputable def rv (s : FS) (p : List UInt8) : Int × FS := if (lk s p).2 = 0 then (if p = [47] then (96, s) else if 0 < (bl s p).length then (95, s) else (0, fdel p s)) else ((lk s p).2, s)
theorem remove_eq {s : FS} (hs : Snd s) {n : Nat} (hc : Crd s n) (hn : n ≤ 1000000) (p : List UInt8) (h : p.length ≤ 90000) : sRemove s p = some (rv s p) := by
  unfold sRemove rv
  rw [look_eq s p h]
  simp only [Option.bind_some]
  split
  · split
    · rfl
    · rw [(hs.below hc hn p).eq]
      simp only [Option.bind_some]
      by_cases h0 : 0 < (bl s p).length
      · rw [if_pos h0, if_pos (by omega)]
      · rw [if_neg h0, if_neg (by omega)]
  · rfl
noncomputable def ls (s : FS) (o : Opr) : Ans := if (lk s o.2.1).2 = 0 then (if (lk s o.2.1).1.1 = true then (0, ((bl s o.2.1).length : Int), [], ((bl s o.2.1).filter fun x => !leqB x o.2.2.1).take 6) else (93, 0, [], [])) else ((lk s o.2.1).2, 0, [], [])
theorem cloneT_eq (s : List (List UInt8)) (h : s.length ≤ 274877906944) : cloneT s = some s := by
  unfold cloneT; rw [appO_of (by simp; omega)]; rfl
theorem list_eq {s : FS} (hs : Snd s) {n : Nat} (hc : Crd s n) (hn : n ≤ 1000000) (o : Opr) (h : o.2.1.length ≤ 90000) : sList s o = some (ls s o) := by
  unfold sList ls
  rw [look_eq s _ h]
  simp only [Option.bind_some]
  by_cases h1 : (lk s o.2.1).2 = 0
  · rw [if_pos h1, if_pos h1]
    cases hb : (lk s o.2.1).1.1 with
    | false => rfl
    | true =>
      have hB := hs.below hc hn o.2.1
      rw [if_neg (by decide), if_pos rfl, hB.eq]
      simp only [Option.bind_some]
      unfold delO
      rw [if_pos (by have := hB.len; omega)]
      simp only [Option.bind_some]
      have hfl := List.length_filter_le (fun x => !leqB x o.2.2.1) (bl s o.2.1)
      have hbl := hB.len
      obtain ⟨m, hm⟩ : ∃ m : Nat, min ((((bl s o.2.1).filter fun x => !leqB x o.2.2.1).length : Nat) : Int) 6 = m := ⟨(min ((((bl s o.2.1).filter fun x => !leqB x o.2.2.1).length : Nat) : Int) 6).toNat, by omega⟩
      rw [hm, show (0 : Int) = ((0 : Nat) : Int) from rfl, slcO_of (Nat.zero_le _) (by omega)]
      simp only [Option.bind_some, List.drop_zero]
      rw [cloneT_eq _ (by simp; omega)]
      simp only [Option.bind_some]
      have : ((bl s o.2.1).filter fun x => !leqB x o.2.2.1).take m = ((bl s o.2.1).filter fun x => !leqB x o.2.2.1).take 6 := by
        by_cases h6 : m = 6
        · rw [h6]
        · rw [List.take_of_length_le (by omega), List.take_of_length_le (by omega)]
      rw [this]; try rfl
  · rw [if_neg h1, if_neg h1]; rfl
noncomputable def stt (s : FS) (p : List UInt8) : Ans := if (lk s p).2 = 0 then (if (lk s p).1.1 = true then (0, ((bl s p).length : Int), [100], []) else (0, ((lk s p).1.2.length : Int), [102], [])) else ((lk s p).2, 0, [], [])
theorem stat_eq {s : FS} (hs : Snd s) {n : Nat} (hc : Crd s n) (hn : n ≤ 1000000) (p : List UInt8) (h : p.length ≤ 90000) : sStat s p = some (stt s p) := by
  unfold sStat stt
  rw [look_eq s _ h]
  simp only [Option.bind_some]
  by_cases h1 : (lk s p).2 = 0
  · rw [if_pos h1, if_pos h1]
    cases hb : (lk s p).1.1 with
    | false =>
      rw [if_neg (by decide), if_neg (by decide), show u8O 102 = some 102 from rfl]
      rfl
    | true =>
      rw [if_pos rfl, if_pos rfl, show u8O 100 = some 100 from rfl]
      simp only [Option.bind_some]
      rw [(hs.below hc hn p).eq]
      rfl
  · rw [if_neg h1, if_neg h1]; rfl
end Go.Proofs.YtnagibpmfabkjaaGreatDoor
