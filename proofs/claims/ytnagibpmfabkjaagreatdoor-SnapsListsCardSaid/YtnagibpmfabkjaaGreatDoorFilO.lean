/- Plain: what each operation does. -/
import Derived.Test.YtnagibpmfabkjaaGreatDoorFilQ
set_option linter.unusedSimpArgs false
set_option linter.unusedVariables false
namespace Go.Proofs.YtnagibpmfabkjaaGreatDoor
open Go.RowKit Go.Tri
def zf : Bool × List UInt8 := (false, [])
def ag (s : FS) (a : List UInt8) : Option Int := match s a with
  | none => some 91
  | some f => if f.1 = true then none else some 93
def ancL (p : List UInt8) : List (List UInt8) := (List.range (nmP p).length).map fun i => pth ((nmP p).take i)
def lk (s : FS) (p : List UInt8) : (Bool × List UInt8) × Int := if okP p = true then (match (ancL p).findSome? (ag s) with
  | some e => (zf, e)
  | none => match s p with
    | none => (zf, 91)
    | some f => (f, 0)) else (zf, 90)
theorem look_eq (s : FS) (p : List UInt8) (h : p.length ≤ 90000) : sLook s p = some (lk s p) := by
  unfold sLook lk
  rw [check_eq _ (by omega)]
  simp only [Option.bind_some]
  by_cases hk : okP p = true
  · rw [if_pos hk, if_pos rfl, if_pos hk, anc_eq _ h]
    simp only [Option.bind_some]
    have hlen : (ancL p).length ≤ 100001 := by have := nmP_len p; simp [ancL]; omega
    rw [show ((List.range (nmP p).length).map fun i => pth ((nmP p).take i)) = ancL p from rfl]
    rw [loop_fs (ancL p) (fun a => (ag s a).map fun e => (Sum.inr (zf, e) : Unit ⊕ (Bool × List UInt8) × Int)) (.inl ()) (fun i hi => ?_) ?_]
    · simp only [Option.bind_some]
      have : (ancL p).findSome? (fun a => (ag s a).map fun e => (Sum.inr (zf, e) : Unit ⊕ (Bool × List UInt8) × Int)) = ((ancL p).findSome? (ag s)).map fun e => (Sum.inr (zf, e) : Unit ⊕ (Bool × List UInt8) × Int) := by
        generalize ancL p = l
        induction l with
        | nil => rfl
        | cons x l ih =>
          rw [List.findSome?_cons, List.findSome?_cons]
          cases ag s x with
          | none => exact ih
          | some e => rfl
      rw [this]
      cases (ancL p).findSome? (ag s) with
      | some e => rfl
      | none =>
        simp only [Option.map_none, Option.getD_none, Sum.elim_inl]
        cases s p with
        | none => rfl
        | some f => rfl
    · rw [if_neg (by omega)]
    · rw [if_pos (by omega), idxO_get hi]
      simp only [Option.bind_some]
      unfold ag
      cases hs : s (ancL p)[i] with
      | none => rfl
      | some f =>
        obtain ⟨b, d⟩ := f
        cases b with
        | true => rw [if_neg (by simp), if_neg (by simp), i64_id (by omega) (by omega)]; rfl
        | false => rfl
  · rw [if_neg hk, if_neg (by omega), if_neg hk]; rfl
theorem lk_ok {s : FS} {p : List UInt8} (h : (lk s p).2 = 0) : okP p = true ∧ ∃ f, s p = some f ∧ lk s p = (f, 0) := by
  unfold lk at h ⊢
  by_cases hk : okP p = true
  · rw [if_pos hk] at h ⊢
    refine ⟨hk, ?_⟩
    cases hf : (ancL p).findSome? (ag s) with
    | some e =>
      rw [hf] at h
      simp only at h
      subst h
      obtain ⟨a, _, ha⟩ := List.exists_of_findSome?_eq_some hf
      unfold ag at ha
      split at ha
      · cases ha
      · split at ha <;> cases ha
    | none =>
      rw [hf] at h
      simp only at h ⊢
      cases hp : s p with
      | none => rw [hp] at h; cases h
      | some f => exact ⟨f, rfl, rfl⟩
  · rw [if_neg hk] at h; cases h
theorem take_pre {s : FS} (hs : Snd s) {p : List UInt8} {f : Bool × List UInt8} (hp : s p = some f) : ∀ i, i < (nmP p).length → ∃ d, s (pth ((nmP p).take i)) = some (true, d) := by
  obtain ⟨h1, h2, h3⟩ := okP_pth (hs.ok p f hp)
  have hlen : ∀ i, (pth ((nmP p).take i)).length ≤ 24 := fun i => by
    have := jn_take (xs := nmP p) i
    rw [h2] at h3
    simp only [pth, List.length_cons] at h3 ⊢
    omega
  have hnp : ∀ i, NP ((nmP p).take i) := fun i x hx => h1 x (List.mem_of_mem_take hx)
  have key : ∀ k i, i + k = (nmP p).length → 0 < k → ∃ d, s (pth ((nmP p).take i)) = some (true, d) := by
    intro k
    induction k with
    | zero => intro i _ h0; omega
    | succ k ih =>
      intro i hi _
      have hx : ∃ g, s (pth ((nmP p).take (i + 1))) = some g := by
        by_cases hk : k = 0
        · subst hk
          rw [List.take_of_length_le (show (nmP p).length ≤ i + 1 by omega), ← h2]; exact ⟨f, hp⟩
        · obtain ⟨d, hd⟩ := ih (i + 1) (by omega) (by omega); exact ⟨_, hd⟩
      obtain ⟨g, hg⟩ := hx
      have hn := pth_nm (hnp (i + 1)) (hlen (i + 1))
      have hne : (nmP p).take (i + 1) ≠ [] := by
        intro e
        have := congrArg List.length e
        rw [List.length_take, List.length_nil] at this; omega
      obtain ⟨d, hd⟩ := hs.up _ g hg (fun e => hne (by rw [← hn, e]; rfl))
      refine ⟨d, ?_⟩
      rw [← hd]
      unfold par
      rw [hn, if_neg hne, List.dropLast_eq_take, List.take_take, List.length_take]
      rw [show min (min (i + 1) (nmP p).length - 1) (i + 1) = i by omega]
  intro i hi
  exact key ((nmP p).length - i) i (by omega) (by omega)
def rg (s : FS) (p : List UInt8) : (Bool × List UInt8) × Int := if (lk s p).2 = 0 then (if (lk s p).1.1 = true then (zf, 94) else lk s p) else lk s p
theorem regular_eq (s : FS) (p : List UInt8) (h : p.length ≤ 90000) : sRegular s p = some (rg s p) := by
  unfold sRegular rg
  rw [look_eq s p h]
  simp only [Option.bind_some]
  split
  · split <;> rfl
  · rfl
theorem rg_ok {s : FS} {p : List UInt8} (h : (rg s p).2 = 0) : ∃ d, s p = some (false, d) ∧ rg s p = ((false, d), 0) := by
  unfold rg at h ⊢
  by_cases h1 : (lk s p).2 = 0
  · rw [if_pos h1] at h ⊢
    obtain ⟨_, f, h2, h3⟩ := lk_ok h1
    obtain ⟨b, d⟩ := f
    rw [h3] at h ⊢
    cases b with
    | true => cases h
    | false => exact ⟨d, h2, rfl⟩
  · rw [if_neg h1] at h; exact absurd h h1
def rm (s : FS) (p : List UInt8) : Int := if okP p = true then (if p = [47] then 92 else if (lk s (par p)).2 = 0 then (if (lk s (par p)).1.1 = true then (if (s p).isSome = true then 92 else 0) else 93) else (lk s (par p)).2) else 90
theorem par_len {p : List UInt8} (h : okP p = true) : (par p).length ≤ 24 := by
  obtain ⟨h1, h2, h3⟩ := okP_pth h
  unfold par
  split
  · simp
  · have := jn_take (xs := nmP p) ((nmP p).length - 1)
    rw [← List.dropLast_eq_take] at this
    rw [h2] at h3
    simp only [pth, List.length_cons] at h3 ⊢
    omega
theorem room_eq (s : FS) (p : List UInt8) (h : p.length ≤ 90000) : sRoom s p = some (rm s p) := by
  unfold sRoom rm
  rw [check_eq _ (by omega)]
  simp only [Option.bind_some]
  by_cases hk : okP p = true
  · rw [if_pos hk, if_pos rfl, if_pos hk]
    by_cases hr : p = [47]
    · rw [if_pos hr, if_pos hr]
    · rw [if_neg hr, if_neg hr, parent_eq _ h]
      simp only [Option.bind_some]
      rw [look_eq _ _ (by have := par_len hk; omega)]
      simp only [Option.bind_some]
      by_cases he : (lk s (par p)).2 = 0
      · rw [if_pos he, if_pos he]
        cases (lk s (par p)).1.1 with
        | false => rfl
        | true =>
          cases s p <;> rfl
      · rw [if_neg he, if_neg he]
  · rw [if_neg hk, if_neg (by omega), if_neg hk]
theorem rm_ok {s : FS} {p : List UInt8} (h : rm s p = 0) : okP p = true ∧ p ≠ [47] ∧ (∃ d, s (par p) = some (true, d)) ∧ s p = none := by
  unfold rm at h
  by_cases hk : okP p = true
  · rw [if_pos hk] at h
    by_cases hr : p = [47]
    · rw [if_pos hr] at h; cases h
    · rw [if_neg hr] at h
      by_cases he : (lk s (par p)).2 = 0
      · rw [if_pos he] at h
        obtain ⟨_, f, h2, h3⟩ := lk_ok he
        obtain ⟨b, d⟩ := f
        rw [h3] at h
        cases b with
        | false => cases h
        | true =>
          cases hp : s p with
          | none => exact ⟨hk, hr, ⟨d, h2⟩, rfl⟩
          | some g => rw [hp] at h; cases h
      · rw [if_neg he] at h; exact absurd h he
  · rw [if_neg hk] at h; cases h
/-! ### What stands in a directory -/
def tle (x y : List UInt8) : Bool := decide (x ≤ y)
theorem tsort (xs : List (List UInt8)) : (xs.mergeSort tle).Pairwise (· ≤ ·) := by
  refine (List.pairwise_mergeSort (le := tle) (fun a b c h1 h2 => ?_) (fun a b => ?_) xs).imp fun h => of_decide_eq_true h
  · exact decide_eq_true (List.le_trans (of_decide_eq_true h1) (of_decide_eq_true h2))
  · rcases List.le_total a b with h | h
    · simp [tle, h]
    · simp [tle, h]
theorem tsort_perm {xs ys : List (List UInt8)} (h : xs.Perm ys) : xs.mergeSort tle = ys.mergeSort tle :=
  List.Perm.eq_of_pairwise (le := (· ≤ ·)) (fun a b _ _ h1 h2 => List.le_antisymm h1 h2) (tsort xs) (tsort ys) ((List.mergeSort_perm xs tle).trans (h.trans (List.mergeSort_perm ys tle).symm))
def inD (p : List UInt8) (x : Ent) : Bool := decide (x.1 ≠ [47]) && decide (par x.1 = p)
def blL (l : List Ent) (p : List UInt8) : List (List UInt8) := ((l.filter (inD p)).map fun x => bas x.1).mergeSort tle
theorem below_eq {s : FS} {l : List Ent} (hE : Enum s l) (hl : l.length ≤ 1000000) (hb : ∀ x ∈ l, x.1.length ≤ 90000) (p : List UInt8) : sBelow s p = some (blL l p) := by
  unfold sBelow
  refine detM_of hE fun l' hE' => ?_
  have hp : l'.Perm l := hE'.perm hE
  have hl' : l'.length ≤ 1000000 := by rw [hp.length_eq]; exact hl
  rw [(foldO_inv (fun (out : List (List UInt8)) (x : Ent) => if inD p x = true then out ++ [bas x.1] else out) (fun pre out => out = (pre.filter (inD p)).map fun x => bas x.1) l' l' [] [] rfl rfl ?_).1]
  · have hfold : l'.foldl (fun (out : List (List UInt8)) (x : Ent) => if inD p x = true then out ++ [bas x.1] else out) [] = (l'.filter (inD p)).map fun x => bas x.1 := by
      have key : ∀ (l' : List Ent) (o : List (List UInt8)), l'.foldl (fun (out : List (List UInt8)) (x : Ent) => if inD p x = true then out ++ [bas x.1] else out) o = o ++ (l'.filter (inD p)).map fun x => bas x.1 := by
        intro l'
        induction l' with
        | nil => intro o; simp
        | cons x l' ih =>
          intro o
          rw [List.foldl_cons, ih, List.filter_cons]
          split <;> simp
      simpa using key l' []
    rw [hfold]
    simp only [Option.bind_some, Sum.elim_inl]
    unfold sortT sortTO
    have hlen : ((l'.filter (inD p)).map fun x => bas x.1).length ≤ 1000000 := by
      have := List.length_filter_le (inD p) l'
      simp only [List.length_map]; omega
    rw [if_pos (by omega)]
    simp only [Option.bind_some]
    congr 1
    exact tsort_perm ((hp.filter _).map _)
  · rintro pre x post out hpp rfl
    have hxl := hb x (hp.mem_iff.1 (by rw [← hpp]; simp))
    have hpl : (pre.filter (inD p)).length ≤ 1000000 := by
      have h1 := List.length_filter_le (inD p) pre
      have h2 := congrArg List.length hpp
      simp at h2; omega
    refine ⟨?_, ?_⟩
    · unfold inD
      by_cases hr : x.1 = [47]
      · rw [if_pos hr]
        simp [hr]
      · rw [if_neg hr, parent_eq _ hxl]
        simp only [Option.bind_some]
        by_cases hq : par x.1 = p
        · rw [if_pos hq, base_eq _ hxl]
          simp only [Option.bind_some]
          rw [appO_of (by simp only [List.length_map, List.length_cons, List.length_nil]; unfold inD at hpl; omega)]
          simp [hr, hq]
        · rw [if_neg hq]
          simp [hr, hq]
    · rw [List.filter_append, List.map_append]
      by_cases hi : inD p x = true
      · rw [if_pos hi]; simp [hi]
      · rw [if_neg hi]; simp [hi]
/-! ### Written, read -/
def szd (d : List UInt8) (n : Nat) : List UInt8 := d.take n ++ List.replicate (n - d.length) 0
theorem szd_len (d : List UInt8) (n : Nat) : (szd d n).length = n := by simp [szd]; omega
theorem sized_eq (d : List UInt8) (n : Nat) (h : n ≤ 1000000) : sized d (n : Int) = some (szd d n) := by
  unfold sized mkO
  rw [if_pos ⟨by omega, by omega⟩]
  simp only [Option.bind_some, Int.toNat_natCast]
  congr 1
  unfold putAt szd
  simp
  rw [Nat.min_comm]
  omega
abbrev Ans := Int × Int × List UInt8 × List (List UInt8)
abbrev Opr := Int × List UInt8 × List UInt8 × Int × Int × List UInt8
def wr (s : FS) (o : Opr) : Ans × FS :=
  if (rg s o.2.1).2 = 0 then
    (if (if o.1 = 3 then o.2.2.2.1 else o.2.2.2.2.1) < 0 then ((1, 0, [], []), s)
     else if 192 < (if o.1 = 3 then o.2.2.2.1 else o.2.2.2.2.1) ∨ (o.1 = 3 ∧ 192 < o.2.2.2.1 + (o.2.2.2.2.2.length : Int)) then ((97, 0, [], []), s)
     else if o.1 = 4 then ((0, 0, [], []), fset o.2.1 (false, szd (rg s o.2.1).1.2 o.2.2.2.2.1.toNat) s)
     else ((0, (o.2.2.2.2.2.length : Int), [], []), if 0 < o.2.2.2.2.2.length then fset o.2.1 (false, putAt (szd (rg s o.2.1).1.2 (max (rg s o.2.1).1.2.length ((if o.1 = 3 then o.2.2.2.1 else o.2.2.2.2.1).toNat + o.2.2.2.2.2.length))) (if o.1 = 3 then o.2.2.2.1 else o.2.2.2.2.1).toNat o.2.2.2.2.2) s else s))
  else (((rg s o.2.1).2, 0, [], []), s)
theorem write_eq (s : FS) (o : Opr) (hk : o.1 = 3 ∨ o.1 = 4) (hp : o.2.1.length ≤ 90000) (hd : o.2.2.2.2.2.length ≤ 100000) (hf : ∀ p f, s p = some f → f.2.length ≤ 192) : sWrite s o = some (wr s o) := by
  obtain ⟨k, p, t, off, n, d⟩ := o
  simp only at hk hp hd
  unfold sWrite wr
  simp only
  rw [regular_eq s p hp]
  simp only [Option.bind_some]
  by_cases he : (rg s p).2 = 0
  · obtain ⟨fd, h1, h2⟩ := rg_ok he
    have hfl := hf _ _ h1
    rw [h2]
    simp only [if_true] at hfl ⊢
    rcases hk with rfl | rfl
    · simp only [if_true]
      simp only [Option.bind_some]
      by_cases hn : off < 0
      · rw [if_pos hn, if_pos hn]; rfl
      · rw [if_neg hn, if_neg hn]
        by_cases hb : 192 < off
        · rw [if_pos hb, if_pos (.inl hb)]; rfl
        · rw [if_neg hb, i64_id (by omega) (by omega)]
          by_cases hb2 : 192 < off + (d.length : Int)
          · rw [if_pos hb2, if_pos (.inr ⟨trivial, hb2⟩)]; rfl
          · rw [if_neg hb2]
            rw [if_neg (show ¬ (192 < off ∨ True ∧ 192 < off + (d.length : Int)) from fun h => h.elim hb fun h => hb2 h.2)]
            simp only [show ((3 : Int) = 4) = False from by simp, if_false]
            by_cases hz : 0 < d.length
            · rw [if_pos (by omega), if_pos hz]
              obtain ⟨m, rfl⟩ : ∃ m : Nat, off = m := ⟨off.toNat, by omega⟩
              rw [show max ((fd.length : Nat) : Int) ((m : Int) + (d.length : Int)) = ((max fd.length (m + d.length) : Nat) : Int) by omega, sized_eq _ _ (by omega)]
              simp only [Option.bind_some]
              rw [slcO_of (by rw [szd_len]; omega) (Nat.le_refl _)]
              simp only [Option.bind_some, Int.toNat_natCast]
              rw [List.take_of_length_le (l := d) (by simp [szd_len]; omega)]
            · rw [if_neg (by omega), if_neg hz]; rfl
    · simp only [show ((4 : Int) = 3) = False from by simp, if_false, false_and, or_false]
      simp only [Option.bind_some]
      by_cases hn : n < 0
      · rw [if_pos hn, if_pos hn]; rfl
      · rw [if_neg hn, if_neg hn]
        by_cases hb : 192 < n
        · rw [if_pos hb, if_pos hb]; rfl
        · rw [if_neg hb, if_neg hb]
          simp only [if_true]
          obtain ⟨m, rfl⟩ : ∃ m : Nat, n = m := ⟨n.toNat, by omega⟩
          rw [sized_eq _ _ (by omega)]
          simp
  · rw [if_neg he]
    rcases hk with rfl | rfl
    · simp only [if_true, Option.bind_some, if_neg he]
    · simp only [show ((4 : Int) = 3) = False from by simp, if_false, Option.bind_some, if_neg he]
def rdA (s : FS) (o : Opr) : Ans :=
  if (rg s o.2.1).2 = 0 then (if o.2.2.2.1 < 0 ∨ o.2.2.2.2.1 < 0 then (1, 0, [], []) else (0, ((rg s o.2.1).1.2.length : Int), (((rg s o.2.1).1.2.drop o.2.2.2.1.toNat).take (min o.2.2.2.2.1.toNat 64)), [])) else ((rg s o.2.1).2, 0, [], [])
theorem readA_eq (s : FS) (o : Opr) (hp : o.2.1.length ≤ 90000) (hf : ∀ p f, s p = some f → f.2.length ≤ 192) : sRead s o = some (rdA s o) := by
  obtain ⟨k, p, t, off, n, d⟩ := o
  simp only at hp
  unfold sRead rdA
  simp only
  rw [regular_eq s p hp]
  simp only [Option.bind_some]
  by_cases he : (rg s p).2 = 0
  · obtain ⟨fd, h1, h2⟩ := rg_ok he
    have hfl := hf _ _ h1
    rw [h2]
    simp only [if_true] at hfl ⊢
    by_cases ho : off < 0
    · rw [if_pos ho, if_pos (.inl ho)]; rfl
    · rw [if_neg ho]
      by_cases hn : n < 0
      · rw [if_pos hn, if_pos (.inr hn)]; rfl
      · rw [if_neg hn, if_neg (by rintro (h | h); exact ho h; exact hn h)]
        obtain ⟨m, hm⟩ : ∃ m : Nat, min off ((fd.length : Nat) : Int) = m := ⟨(min off ((fd.length : Nat) : Int)).toNat, by omega⟩
        rw [hm, slcO_of (by omega) (Nat.le_refl _)]
        simp only [Option.bind_some, List.take_length]
        rw [i64_id (by omega) (by omega)]
        obtain ⟨q, hq⟩ : ∃ q : Nat, min (min n 64) (((fd.length : Nat) : Int) - (m : Int)) = q := ⟨(min (min n 64) (((fd.length : Nat) : Int) - (m : Int))).toNat, by omega⟩
        rw [hq, show (0 : Int) = ((0 : Nat) : Int) from rfl, slcO_of (Nat.zero_le _) (by simp; omega)]
        simp only [Option.bind_some, List.drop_zero]
        rw [cloneB_eq _ (by simp; omega)]
        simp only [Option.bind_some]
        have e1 : (fd.drop m).take q = (fd.drop off.toNat).take (min n.toNat 64) := by
          by_cases hom : off ≤ ((fd.length : Nat) : Int)
          · have : m = off.toNat := by omega
            rw [this]
            by_cases hq2 : q = min n.toNat 64
            · rw [hq2]
            · rw [List.take_of_length_le (by simp; omega), List.take_of_length_le (by simp; omega)]
          · rw [List.drop_eq_nil_of_le (by omega), List.drop_eq_nil_of_le (by omega)]; simp
        rw [e1]
  · rw [if_neg he, if_neg he]; rfl
end Go.Proofs.YtnagibpmfabkjaaGreatDoor
