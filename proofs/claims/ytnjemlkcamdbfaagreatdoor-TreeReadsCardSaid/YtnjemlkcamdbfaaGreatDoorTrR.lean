/- Plain: the law of TreeReads. -/
import Derived.Test.YtnjemlkcamdbfaaGreatDoorTrQ
set_option linter.unusedSimpArgs false
set_option linter.unusedVariables false
namespace Go.Proofs.YtnjemlkcamdbfaaGreatDoor
open Go.RowKit Go.Tri
/-! ### Bags -/
def wt (l : List (List UInt8 × List UInt8)) : Nat := (l.map (fun x => x.2.length + 40)).sum
theorem wt_perm {l l' : List (List UInt8 × List UInt8)} (h : l.Perm l') : wt l = wt l' := (h.map _).sum_nat
theorem great_fold : ∀ (l : List (List UInt8 × List UInt8)) (n : Nat), n ≤ 70000 → (foldO (fun (s13 : Int) (x13 : (List UInt8) × (List UInt8)) => if 30000 < ((x13.2).length : Int) then (some (.inr true))
 else (if 30000 < s13 then (some (.inr true))
 else (some (.inl (IntKind.i64.wrap (s13 + (IntKind.i64.wrap (((x13.2).length : Int) + 40)))))))) (n : Int) l).bind (Sum.elim (fun (s13 : Int) => some (decide (30000 < s13))) some) = some (decide (30000 < n + wt l))
  | [], n, hn => by simp [foldO, wt]; omega
  | x :: l, n, hn => by
    have e : wt (x :: l) = x.2.length + 40 + wt l := by simp [wt]
    rw [e]
    simp only [foldO]
    by_cases h1 : 30000 < x.2.length
    · rw [if_pos (by omega)]; simp; omega
    · rw [if_neg (by omega)]
      by_cases h2 : 30000 < n
      · rw [if_pos (by omega)]; simp; omega
      · rw [if_neg (by omega), i64_id (n := (x.2.length : Int) + 40) (by omega) (by omega), i64_id (by omega) (by omega)]
        simp only [Option.bind_some]
        have := great_fold l (n + (x.2.length + 40)) (by omega)
        rw [show (n : Int) + ((x.2.length : Int) + 40) = ((n + (x.2.length + 40) : Nat) : Int) by omega]
        refine this.trans ?_
        congr 2
        rw [Nat.add_assoc]
theorem great_eq {bag : Mp} {kv : List (List UInt8 × List UInt8)} (hE : Enum bag kv) : rGreatBag bag = some (decide (30000 < wt kv)) := by
  unfold rGreatBag
  refine detM_of hE fun l hl => ?_
  have := great_fold l 0 (by omega)
  rw [wt_perm (hl.perm hE), Nat.zero_add] at this
  exact this
theorem wt_mem : ∀ {l : List (List UInt8 × List UInt8)} {x : List UInt8 × List UInt8}, x ∈ l → x.2.length ≤ wt l
  | y :: l, x, h => by
    have e : wt (y :: l) = y.2.length + 40 + wt l := by simp [wt]
    rcases List.mem_cons.1 h with rfl | h
    · omega
    · have := wt_mem h; omega
theorem sum_le (k : List UInt8) (v : List UInt8) (l : List (List UInt8 × List UInt8)) : ∀ vs : List (List UInt8), vs.Nodup →
    (vs.map (fun h => ((aget h ((k, v) :: l)).getD []).length)).sum ≤ (if k ∈ vs then v.length else 0) + (vs.map (fun h => ((aget h l).getD []).length)).sum
  | [], _ => by simp
  | h :: vs, hn => by
    have ih := sum_le k v l vs (List.nodup_cons.1 hn).2
    have hnm := (List.nodup_cons.1 hn).1
    simp only [List.map_cons, List.sum_cons]
    by_cases e : k = h
    · subst e
      rw [if_neg hnm] at ih
      rw [if_pos (by simp)]
      have e1 : aget k ((k, v) :: l) = some v := by simp [aget]
      rw [e1, Option.getD_some]
      omega
    · have e1 : aget h ((k, v) :: l) = aget h l := by simp [aget, e]
      rw [e1]
      have : (k ∈ h :: vs) ↔ k ∈ vs := by simp [e]
      simp only [this]
      omega
theorem sum_wt : ∀ (l : List (List UInt8 × List UInt8)) (vs : List (List UInt8)), vs.Nodup → (vs.map (fun h => ((aget h l).getD []).length)).sum ≤ wt l
  | [], vs, _ => by
    have : ∀ vs : List (List UInt8), (vs.map (fun h => ((aget h ([] : List (List UInt8 × List UInt8))).getD []).length)).sum = 0 := by
      intro vs
      induction vs with
      | nil => rfl
      | cons a vs ih => simp only [List.map_cons, List.sum_cons, ih]; rfl
    rw [this]; exact Nat.zero_le _
  | (k, v) :: l, vs, hn => by
    have h1 := sum_le k v l vs hn
    have h2 := sum_wt l vs hn
    have e : wt ((k, v) :: l) = v.length + 40 + wt l := by simp [wt]
    rw [e]
    split at h1 <;> omega
theorem fits_of {bag : Mp} {kv : List (List UInt8 × List UInt8)} (hE : Enum bag kv) (hw : wt kv ≤ 30000) : Fits bag := by
  refine ⟨fun h b hb => ?_, fun vs hn => ?_⟩
  · rw [hE.2 h] at hb
    have := wt_mem (aget_mem' hb)
    simp only at this; omega
  · have := sum_wt kv vs hn
    simp only [hE.2]
    omega
theorem copy_fold : ∀ (l : List (List UInt8 × List UInt8)) (m : Mp), (l.map (·.1)).Nodup → (∀ x ∈ l, x.2.length ≤ 30000) →
    foldO (fun (s42 : Mp) (x42 : (List UInt8) × (List UInt8)) => (appO ([] : List UInt8) x42.2).bind fun x49 => (some (.inl (fset x42.1 x49 s42)) : Option (Mp ⊕ Mp))) m l = some (.inl (fun k => match aget k l with | some v => some v | none => m k))
  | [], m, _, _ => rfl
  | (k, v) :: l, m, hn, hx => by
    simp only [foldO]
    rw [appO_of (by have := hx (k, v) (by simp); simp at this ⊢; omega)]
    simp only [Option.bind_some, List.nil_append]
    have hn2 := List.nodup_cons.1 hn
    rw [copy_fold l _ hn2.2 (fun x h => hx x (List.mem_cons_of_mem _ h))]
    congr 2
    funext j
    by_cases e : k = j
    · subst e
      have : aget k l = none := aget_none hn2.1
      simp [aget, this, fset]
    · have e' : ¬ j = k := fun h => e h.symm
      simp only [aget, if_neg e, fset, if_neg e']
theorem copy_eq {bag : Mp} {kv : List (List UInt8 × List UInt8)} (hE : Enum bag kv) (hw : wt kv ≤ 30000) : rCopyBag bag = some bag := by
  unfold rCopyBag
  rw [detM_of hE (r := bag) fun l hl => ?_]
  · rfl
  · have hp := wt_perm (hl.perm hE)
    have := copy_fold l fnil hl.1 (fun x hx => by have := wt_mem hx; omega)
    refine (congrArg (fun o => Option.bind o _) this).trans ?_
    simp only [Option.bind_some, Sum.elim_inl]
    congr 1
    funext k
    rw [hl.2 k]
    cases aget k l <;> rfl
theorem sameBag_eq {bag : Mp} {kv : List (List UInt8 × List UInt8)} (hE : Enum bag kv) : rSameBag bag bag = some true := by
  unfold rSameBag
  rw [if_pos rfl]
  refine detM_of hE fun l hl => ?_
  have key : ∀ l' : List (List UInt8 × List UInt8), (∀ x ∈ l', bag x.1 = some x.2) → foldO (fun (s21 : Unit) (x21 : (List UInt8) × (List UInt8)) => if (!((bag x21.1).isSome)) = true then (some (.inr false)) else (if x21.2 = ((bag x21.1).getD []) then (some (.inl ())) else (some (.inr false)) : Option (Unit ⊕ Bool))) () l' = some (.inl ()) := by
    intro l'
    induction l' with
    | nil => intro _; rfl
    | cons x l' ih =>
      intro h
      have hx := h x (by simp)
      simp only [foldO, hx, Option.isSome_some, Option.getD_some, if_true]
      exact ih fun y hy => h y (List.mem_cons_of_mem _ hy)
  have := key l (fun x hx => by rw [hl.2]; exact aget_of_mem hl.1 hx)
  refine (congrArg (fun o => Option.bind o _) this).trans ?_
  rfl
theorem samePairs_eq (l : List Pr) (hl : l.length ≤ 100000) : m_triremeref06_SamePairs l l = some true := by
  unfold m_triremeref06_SamePairs
  rw [if_pos rfl]
  refine bind_run (fun i (s : Int) => s = (i : Int)) (fun r => r = .inl ()) l.length rfl ?_ ?_ ?_
  · rintro i _ hi rfl
    refine .inl ⟨((i + 1 : Nat) : Int), ?_, rfl⟩
    rw [if_pos (by omega), idxO_get hi]
    simp only [Option.bind_some, if_true]
    rw [i64_id (by omega) (by omega)]; rfl
  · rintro _ rfl
    exact ⟨_, by rw [if_neg (by omega)], rfl⟩
  · rintro _ rfl; rfl
/-! ### The digests -/
theorem mapOf_some (b : Bk) : ∀ k, ((mapOf b) k).isSome = true ↔ k ∈ b.map (·.1) := by
  have : ∀ (b : Bk) (m : Mp) k, ((b.foldl (fun m x => fset x.1 x.2 m) m) k).isSome = true ↔ k ∈ b.map (·.1) ∨ (m k).isSome = true := by
    intro b
    induction b with
    | nil => intro m k; simp
    | cons x b ih =>
      intro m k
      rw [List.foldl_cons, ih]
      unfold fset
      by_cases e : k = x.1
      · simp [e]
      · simp [e]
  intro k
  have h := this b fnil k
  unfold mapOf
  rw [h]
  simp [fnil]
theorem hashes_eq (b : Bk) (hb : b.length ≤ 1000000) (h32 : ∀ x ∈ b, x.1.length = 32) : ∃ L, sortKeysO (mapOf b) = some L ∧ m_triremeref05_Sorted (b.map (·.1)) = some L ∧ L.length ≤ 1000000 := by
  obtain ⟨L, h1, h2, h3, h4⟩ := sorted_eq (b.map (·.1)) (by simpa using hb) (fun x hx => by obtain ⟨y, hy, rfl⟩ := List.mem_map.1 hx; exact h32 y hy)
  rw [List.take_length] at h3
  simp only [List.length_map] at h4
  have hk : ∀ k, k ∈ L ↔ ((mapOf b) k).isSome = true := fun k => (h3 k).trans (mapOf_some b k).symm
  have hn : L.Nodup := h2.imp fun {a c} h e => by subst e; unfold ltK at h; rw [cmp_self] at h; omega
  obtain ⟨l, h5, h6, h7⟩ := sortKeys_of (m := mapOf b) L hn hk (by omega)
  have : l = L := sorted_same h7.1 h2 fun k => (h7.2 k).trans (hk k).symm
  subst this
  exact ⟨l, h5, h1, by omega⟩
/-! ### The law -/
theorem w0 : wrN (0, [], []) = ([84, 0, 0], 0) := by decide +kernel
theorem bld0 : bldS [] = .inl (Hs [84, 0, 0], [(Hs [84, 0, 0], [84, 0, 0])]) := by
  have hr : rowS 0 (cutN (lvs []) []) ([], []) = .inl ([(Hs [84, 0, 0], [84, 0, 0])], [([], Hs [84, 0, 0])]) := by
    rw [lvs_nil]
    show (if (wrN (0, [], [])).2 = 0 then _ else _) = _
    rw [w0]; rfl
  unfold bldS
  rw [hr]
  rfl
theorem speaks_eq : lSpeaks = some true := by
  unfold lSpeaks
  rw [tBuild_eq [] SmallP.nil (by simp), bld0]
  have hE : Enum (mapOf [(Hs [84, 0, 0], [84, 0, 0])]) [(Hs [84, 0, 0], [84, 0, 0])] := by
    refine ⟨by simp, fun k => ?_⟩
    show fset _ _ fnil k = _
    unfold fset aget
    by_cases e : k = Hs [84, 0, 0]
    · rw [if_pos e, if_pos e.symm]
    · rw [if_neg e, if_neg (fun h => e h.symm)]; rfl
  simp only [Option.bind_some, Sum.elim_inl, if_true]
  rw [flen_eq hE]
  simp only [List.length_singleton]
  rw [if_pos (by rfl)]
  have hg : (mapOf [(Hs [84, 0, 0], [84, 0, 0])] (Hs [84, 0, 0])).getD [] = [84, 0, 0] := by
    rw [hE.2]; simp [aget]
  rw [hg, if_pos rfl]
  have h1 : u8O 84 = some 84 := rfl
  have h2 : u8O 0 = some 0 := rfl
  rw [h1, h2]
  simp only [Option.bind_some]
  rw [rSum_eq _ (by simp)]
  simp
theorem reads_eq {bag : Mp} {kv : List (List UInt8 × List UInt8)} (hE : Enum bag kv) (root : List UInt8) (q : T_triremelaw08_Query) : lReads bag root q = some true := by
  unfold lReads
  rw [speaks_eq]
  simp only [Option.bind_some, Bool.not_true, Bool.false_eq_true, if_false]
  rw [great_eq hE]
  simp only [Option.bind_some, decide_eq_true_eq]
  by_cases hg : 30000 < wt kv
  · rw [if_pos hg]
  rw [if_neg hg]
  by_cases hk : 300 < (q.1.length : Int)
  · rw [if_pos hk]
  rw [if_neg hk, copy_eq hE (by omega)]
  have hF := fits_of hE (by omega)
  simp only [Option.bind_some]
  rw [tAll_eq hF, rAll_eq hF, appO_of (by simp; omega)]
  simp only [Option.bind_some, List.nil_append]
  unfold trGet trRange trHashes
  rw [tAll_eq hF, tWhole_eq hF, sameBag_eq hE]
  simp only [Option.bind_some]
  cases hA : allS bag root with
  | inr e =>
    have he := allS_err hA
    simp only [Sum.elim_inr]
    rw [bs_eq (l := []) List.Pairwise.nil (by simp) q.1]
    simp only [Option.bind_some]
    have h1 : slcO ([] : List Pr) ((lb q.1 [] : Nat) : Int) (([] : List Pr).length : Int) = some [] := by unfold slcO lb; simp
    have h2 : slcO ([] : List Pr) 0 (max 0 (min q.2 (([] : List Pr).length : Int))) = some [] := by
      unfold slcO
      rw [if_pos ⟨by omega, by omega, by simp; omega⟩]; simp
    obtain ⟨L, h3, h4, _⟩ := hashes_eq [] (by simp) (by simp)
    have h5 : m_triremeref05_Sorted [] = some [] := by
      obtain ⟨l, h6, h7, h8, h9⟩ := sorted_eq [] (by simp) (by simp)
      have : l = [] := List.eq_nil_of_length_eq_zero (by simpa using h9)
      rw [h6, this]
    have hL : L = [] := by
      simp only [List.map_nil] at h4
      rw [h5] at h4; cases h4; rfl
    have h6 : sortKeysO (fnil : Mp) = some [] := by rw [← hL]; exact h3
    simp only [List.getElem?_nil, Bool.not_false, if_true, Option.bind_some, h1, h2, h6]
    unfold cloneP
    rw [appO_of (by simp)]
    simp only [Option.bind_some, List.nil_append, if_true]
    rw [samePairs_eq [] (by simp)]
    simp [he]
  | inl t =>
    obtain ⟨ht1, ht2, ht3, ht4⟩ := allS_some hF hA
    obtain ⟨hb1, hb2⟩ := bldS_blk ht1 ht4
    simp only at hb1 hb2
    obtain ⟨L, h3, h4, h5⟩ := hashes_eq t.2 hb2 hb1
    simp only [Sum.elim_inl]
    rw [bs_eq ht3 (by omega) q.1]
    simp only [Option.bind_some]
    have hle := lb_le q.1 t.1
    rw [slcO_of hle (Nat.le_refl _), List.take_length]
    simp only [Option.bind_some]
    have hs : slcO (t.1.drop (lb q.1 t.1)) 0 (max 0 (min q.2 ((t.1.drop (lb q.1 t.1)).length : Int))) = some ((t.1.drop (lb q.1 t.1)).take q.2.toNat) := by
      unfold slcO
      rw [if_pos ⟨by omega, by omega, by omega⟩]
      simp only [Int.toNat_zero, List.drop_zero]
      congr 1
      by_cases h : q.2.toNat ≤ (t.1.drop (lb q.1 t.1)).length
      · congr 1; omega
      · rw [List.take_of_length_le (by omega), List.take_of_length_le (by omega)]
    rw [hs]
    simp only [Option.bind_some]
    unfold cloneP
    have hdl : (t.1.drop (lb q.1 t.1)).length ≤ 7500 := by simp; omega
    have htl : ((t.1.drop (lb q.1 t.1)).take q.2.toNat).length ≤ 7500 := by rw [List.length_take]; omega
    rw [appO_of (by simp only [List.length_nil]; omega)]
    simp only [Option.bind_some, List.nil_append, h3]
    rw [samePairs_eq t.1 (by omega), from_eq ht3 (by omega), from_eq ht3 (by omega), rBuild_eq t.1 ht2 (by omega), ht4]
    simp only [Option.bind_some, Sum.elim_inl, if_true, Bool.not_true, Bool.false_eq_true, if_false]
    rw [samePairs_eq _ (by omega)]
    rw [h4]
    simp only [Option.bind_some, Bool.not_true, Bool.false_eq_true, if_false]
    rw [same_eq L L h5]
    simp only [Option.bind_some, decide_true, if_true]
    by_cases hlt : lb q.1 t.1 < t.1.length
    · have hd : t.1.drop (lb q.1 t.1) = t.1[lb q.1 t.1] :: t.1.drop (lb q.1 t.1 + 1) := List.drop_eq_getElem_cons hlt
      have h1 : (t.1.drop (lb q.1 t.1)).take (1 : Int).toNat = [t.1[lb q.1 t.1]] := by rw [hd]; rfl
      rw [h1, List.getElem?_eq_getElem hlt, idxO_get hlt]
      simp only [List.length_singleton]
      generalize t.1[lb q.1 t.1] = p
      have hi : idxO [p] 0 = some p := rfl
      have hc : decide (Lib.compareBytes p.1 q.1 = 0) = decide (p.1 = q.1) := by
        rw [decide_eq_decide]
        exact ⟨cmp_zero _ _, fun h => by rw [h]; exact cmp_self _⟩
      rw [hi]
      simp only [hc]
      by_cases he : p.1 = q.1
      · simp [he]
      · simp [he]
    · have h1 : t.1.drop (lb q.1 t.1) = [] := List.drop_eq_nil_of_le (by omega)
      rw [h1, List.getElem?_eq_none (by omega)]
      simp
end Go.Proofs.YtnjemlkcamdbfaaGreatDoor
