/- Plain: files as pairs, and read of them. -/
import Derived.Test.YtnagibpmfabkjaaGreatDoorPth
set_option linter.unusedSimpArgs false
set_option linter.unusedVariables false
namespace Go.Proofs.YtnagibpmfabkjaaGreatDoor
open Go.RowKit Go.Tri
abbrev FS := List UInt8 → Option (Bool × List UInt8)
abbrev CS := List UInt8 → Option (List UInt8)
def tw (r : List UInt8) : List UInt8 := r.takeWhile (· ≠ 0)
theorem cut_eq (r : List UInt8) (h : r.length ≤ 1000000) : ∃ b c, m_strings_Cut r [0] = some (tw r, b, c) := by
  have key : ∀ r : List UInt8, (Lib.indexByte r 0 = -1 ∧ tw r = r) ∨ ∃ i : Nat, Lib.indexByte r 0 = i ∧ i < r.length ∧ tw r = r.take i := by
    intro r
    induction r with
    | nil => exact .inl ⟨rfl, rfl⟩
    | cons c r ih =>
      by_cases hc : c = 0
      · subst hc
        exact .inr ⟨0, by simp [Lib.indexByte], by simp, by simp [tw]⟩
      · have h1 : tw (c :: r) = c :: tw r := by simp [tw, hc]
        rcases ih with ⟨h2, h3⟩ | ⟨i, h2, h3, h4⟩
        · exact .inl ⟨by simp [Lib.indexByte, hc, h2], by rw [h1, h3]⟩
        · refine .inr ⟨i + 1, ?_, by simp; omega, by rw [h1, h4]; rfl⟩
          simp only [Lib.indexByte, h2]
          rw [if_neg (by simpa using hc), if_neg (by simp)]
          omega
  unfold m_strings_Cut m_internal_stringslite_Cut slIndex indexO
  simp only [Option.bind_some]
  rcases key r with ⟨h1, h2⟩ | ⟨i, h1, h2, h3⟩
  · rw [h1, if_neg (by omega)]
    exact ⟨_, _, by rw [h2]; rfl⟩
  · rw [h1, if_pos (by omega), show (0 : Int) = ((0 : Nat) : Int) from rfl, slcO_of (Nat.zero_le _) (by omega)]
    simp only [Option.bind_some, List.drop_zero, List.length_cons, List.length_nil]
    rw [i64_id (by omega) (by omega), show ((i : Int) + ((0 + 1 : Nat) : Int)) = ((i + 1 : Nat) : Int) by omega, slcO_of (by omega) (Nat.le_refl _)]
    exact ⟨_, _, by rw [h3]; rfl⟩
/-- One pair more is read. -/
def r1 (s : CS × FS) (x : P2) : CS × FS := match x.1 with
  | [] => s
  | a :: r => if a = 99 then (fset (tw r) ((s.1 (tw r)).getD [] ++ x.2) s.1, s.2) else if a = 110 then (s.1, fset r (decide (x.2 = [100]), []) s.2) else s
def fin2 (s : CS × FS) : FS := fun p => match s.2 p with
  | some (false, _) => some (false, (s.1 p).getD [])
  | x => x
def rdF (L : List P2) : FS := fin2 (L.foldl r1 (fnil, fnil))
theorem r1_len (s : CS × FS) (x : P2) (n m : Nat) (h : ∀ p, ((s.1 p).getD []).length ≤ n) (hx : x.2.length ≤ m) : ∀ p, (((r1 s x).1 p).getD []).length ≤ n + m := by
  intro p
  unfold r1
  split
  · have := h p; omega
  · split
    · simp only [fset]
      split
      · have := h (tw ‹List UInt8›); simp; omega
      · have := h p; omega
    · split
      · exact Nat.le_trans (h p) (Nat.le_add_right _ _)
      · exact Nat.le_trans (h p) (Nat.le_add_right _ _)
/-- A map has no more entries than so many. -/
def Crd {β : Type} (m : List UInt8 → Option β) (n : Nat) : Prop := ∃ l, Enum m l ∧ l.length ≤ n
theorem Crd.nil {β : Type} : Crd (fnil : List UInt8 → Option β) 0 := ⟨[], ⟨List.nodup_nil, fun _ => rfl⟩, Nat.le_refl _⟩
theorem Crd.mono {β : Type} {m : List UInt8 → Option β} {n k : Nat} (h : Crd m n) (hn : n ≤ k) : Crd m k := by
  obtain ⟨l, h1, h2⟩ := h; exact ⟨l, h1, by omega⟩
theorem enum_mem {β : Type} {m : List UInt8 → Option β} {l : List (List UInt8 × β)} (h : Enum m l) {k : List UInt8} {v : β} : (k, v) ∈ l ↔ m k = some v := by
  rw [h.2 k]; exact ⟨fun hm => aget_of_mem h.1 hm, aget_mem'⟩
theorem enum_del {β : Type} {m : List UInt8 → Option β} {l : List (List UInt8 × β)} (h : Enum m l) (k : List UInt8) : Enum (fdel k m) (l.filter fun x => x.1 ≠ k) := by
  have hn : ((l.filter fun x => x.1 ≠ k).map (·.1)).Nodup := List.Nodup.sublist (List.Sublist.map _ List.filter_sublist) h.1
  refine ⟨hn, fun j => ?_⟩
  unfold fdel
  by_cases e : j = k
  · rw [if_pos e]
    symm
    refine aget_none fun hm => ?_
    obtain ⟨x, hx, hj⟩ := List.mem_map.1 hm
    have := (List.mem_filter.1 hx).2
    simp only [decide_eq_true_eq] at this
    exact this (by rw [hj, e])
  · rw [if_neg e]
    cases hv : m j with
    | some v => exact (aget_of_mem hn (List.mem_filter.2 ⟨(enum_mem h).2 hv, by simpa using e⟩)).symm
    | none =>
      symm
      refine aget_none fun hm => ?_
      obtain ⟨x, hx, hj⟩ := List.mem_map.1 hm
      obtain ⟨a, b⟩ := x
      have := (enum_mem h).1 (List.mem_filter.1 hx).1
      simp only at hj
      rw [hj, hv] at this; cases this
theorem enum_set {β : Type} {m : List UInt8 → Option β} {l : List (List UInt8 × β)} (h : Enum m l) (k : List UInt8) (v : β) : Enum (fset k v m) ((k, v) :: l.filter fun x => x.1 ≠ k) := by
  have hd := enum_del h k
  refine ⟨?_, fun j => ?_⟩
  · simp only [List.map_cons, List.nodup_cons]
    refine ⟨fun hm => ?_, hd.1⟩
    obtain ⟨x, hx, hj⟩ := List.mem_map.1 hm
    have := (List.mem_filter.1 hx).2
    simp only [decide_eq_true_eq] at this
    exact this hj
  · simp only [aget]
    unfold fset
    by_cases e : j = k
    · rw [if_pos e, if_pos e.symm]
    · rw [if_neg e, if_neg (Ne.symm e), ← hd.2 j]
      unfold fdel; rw [if_neg e]
theorem Crd.set {β : Type} {m : List UInt8 → Option β} {n : Nat} (h : Crd m n) (k : List UInt8) (v : β) : Crd (fset k v m) (n + 1) := by
  obtain ⟨l, h1, h2⟩ := h
  refine ⟨_, enum_set h1 k v, ?_⟩
  have := List.length_filter_le (fun x : List UInt8 × β => decide (x.1 ≠ k)) l
  simp only [List.length_cons]
  omega
theorem Crd.del {β : Type} {m : List UInt8 → Option β} {n : Nat} (h : Crd m n) (k : List UInt8) : Crd (fdel k m) n := by
  obtain ⟨l, h1, h2⟩ := h
  refine ⟨_, enum_del h1 k, ?_⟩
  have := List.length_filter_le (fun x : List UInt8 × β => decide (x.1 ≠ k)) l
  omega
theorem r1_crd (s : CS × FS) (x : P2) (n : Nat) (h : Crd s.2 n) : Crd (r1 s x).2 (n + 1) := by
  unfold r1
  split
  · exact h.mono (by omega)
  · split
    · exact h.mono (by omega)
    · split
      · exact h.set _ _
      · exact h.mono (by omega)
open Classical in
/-- The files whose bytes are put in. -/
theorem fin2_fold (c : CS) (t : FS) : ∀ (l : List (List UInt8 × (Bool × List UInt8))), (∀ k v, (k, v) ∈ l → t k = some v) → ∀ p, (l.foldl (fun (s : FS) x => if x.2.1 = false then fset x.1 (false, (c x.1).getD []) s else s) t) p = if (∃ d, (p, false, d) ∈ l) then some (false, (c p).getD []) else t p := by
  have key : ∀ (l : List (List UInt8 × (Bool × List UInt8))) (u : FS) p, (l.foldl (fun (s : FS) x => if x.2.1 = false then fset x.1 (false, (c x.1).getD []) s else s) u) p = if (∃ d, (p, false, d) ∈ l) then some (false, (c p).getD []) else u p := by
    intro l
    induction l with
    | nil => intro u p; rw [if_neg (by simp)]; rfl
    | cons x l ih =>
      intro u p
      obtain ⟨k, b, d⟩ := x
      rw [List.foldl_cons, ih]
      by_cases h1 : ∃ d, (p, false, d) ∈ l
      · rw [if_pos h1, if_pos (by obtain ⟨d, h⟩ := h1; exact ⟨d, List.mem_cons_of_mem _ h⟩)]
      · rw [if_neg h1]
        by_cases hb : b = false
        · subst hb
          simp only [if_true]
          by_cases e : p = k
          · subst e
            rw [if_pos ⟨d, List.mem_cons_self⟩]
            simp [fset]
          · rw [if_neg]
            · simp [fset, e]
            · rintro ⟨d', h⟩
              rcases List.mem_cons.1 h with h | h
              · cases h; exact e rfl
              · exact h1 ⟨d', h⟩
        · rw [if_neg (by simpa using hb), if_neg]
          rintro ⟨d', h⟩
          rcases List.mem_cons.1 h with h | h
          · cases h; exact hb rfl
          · exact h1 ⟨d', h⟩
  intro l _ p
  exact key l t p
theorem fRead_eq (L : List P2) (hn : L.length ≤ 1000000) (hb : ∀ x ∈ L, x.1.length ≤ 100000 ∧ x.2.length ≤ 100000) : fRead L = some (rdF L) := by
  unfold fRead
  rw [(loop_foldM (fun (s : CS × FS) (i : Int) => (s.1, s.2, i)) L r1 id (fnil, fnil) (fun i s => (∀ p, ((s.1 p).getD []).length ≤ i * 100000) ∧ Crd s.2 i) ⟨fun p => by simp [fnil], Crd.nil⟩ (fun i s hi hI => ⟨?_, fun p => by have := r1_len s L[i] (i * 100000) 100000 hI.1 (hb _ (List.getElem_mem hi)).2 p; omega, r1_crd s _ i hI.2⟩) (fun s _ => ?_)).1]
  · have hI := (loop_foldM (f := fun (t : CS × FS × Int) => if t.2.2 < (L.length : Int) then (idxO L t.2.2).bind fun x => some (.inl ((r1 (t.1, t.2.1) x).1, (r1 (t.1, t.2.1) x).2, t.2.2 + 1)) else some (.inr (t.1, t.2.1))) (fun (s : CS × FS) (i : Int) => (s.1, s.2, i)) L r1 id (fnil, fnil) (fun i s => (∀ p, ((s.1 p).getD []).length ≤ i * 100000) ∧ Crd s.2 i) ⟨fun p => by simp [fnil], Crd.nil⟩ (fun i s hi hI => ⟨by
        show (if (i : Int) < _ then _ else _) = _
        rw [if_pos (by omega), show idxO L ((s.1, s.2, (i : Int)) : CS × FS × Int).2.2 = some L[i] from idxO_get hi]; rfl, fun p => by have := r1_len s L[i] (i * 100000) 100000 hI.1 (hb _ (List.getElem_mem hi)).2 p; omega, r1_crd s _ i hI.2⟩) (fun s _ => by
        show (if (L.length : Int) < _ then _ else _) = _
        rw [if_neg (by omega)]; rfl)).2
    simp only [Option.bind_some, id]
    generalize hS : L.foldl r1 (fnil, fnil) = S at hI ⊢
    obtain ⟨l, hE, hl⟩ := hI.2
    refine detM_of hE fun l' hE' => ?_
    rw [foldO_eq (fun (s : FS) x => if x.2.1 = false then fset x.1 (false, (S.1 x.1).getD []) s else s) l' S.2 (fun x _ s => by
      obtain ⟨k, b, d⟩ := x
      cases b <;> rfl)]
    simp only [Option.bind_some, Sum.elim_inl]
    congr 1
    funext p
    rw [fin2_fold S.1 S.2 l' (fun k v h => (enum_mem hE').1 h) p]
    unfold rdF fin2
    rw [hS]
    by_cases h : ∃ d, (p, false, d) ∈ l'
    · rw [if_pos h]
      obtain ⟨d, h⟩ := h
      rw [(enum_mem hE').1 h]
    · rw [if_neg h]
      cases hp : S.2 p with
      | none => rfl
      | some v =>
        obtain ⟨b, d⟩ := v
        cases b with
        | false => exact (h ⟨d, (enum_mem hE').2 hp⟩).elim
        | true => rfl
  · have hbi := hb _ (List.getElem_mem hi)
    show (if (i : Int) < (L.length : Int) then _ else _) = _
    rw [if_pos (by omega), show idxO L ((i : Nat) : Int) = some L[i] from idxO_get hi]
    generalize hx : L[i] = x at hbi ⊢
    obtain ⟨k, v⟩ := x
    simp only [Option.bind_some]
    rw [i64_id (by omega) (by omega)]
    cases k with
    | nil =>
      rw [if_neg (by simp)]
      simp only [Option.bind_some]
      rw [if_neg (by simp), if_neg (by simp)]
      rfl
    | cons a r =>
      have hs1 : slcO (a :: r) 0 1 = some [a] := by
        have := slcO_of (xs := a :: r) (i := 0) (j := 1) (by omega) (by simp)
        simpa using this
      have hs2 : slcO (a :: r) 1 ((a :: r).length : Int) = some r := by
        have := slcO_of (xs := a :: r) (i := 1) (j := (a :: r).length) (by simp) (Nat.le_refl _)
        simpa using this
      rw [if_pos (by simp), hs1, hs2]
      simp only [Option.bind_some, List.cons.injEq, and_true]
      simp only [List.length_cons] at hbi
      unfold r1
      by_cases h99 : a = 99
      · obtain ⟨b', c', hc⟩ := cut_eq r (by omega)
        have hl := hI.1 (tw r)
        rw [if_pos h99, hc]
        simp only [Option.bind_some, if_pos h99]
        rw [appO_byte (by omega)]
        rfl
      · rw [if_neg h99]
        simp only [if_neg h99]
        by_cases h110 : a = 110
        · simp only [if_pos h110]
          by_cases hv : (v.length : Int) = 1
          · obtain ⟨y, rfl⟩ : ∃ y, v = [y] := List.length_eq_one_iff.1 (by omega)
            rw [if_pos hv, show idxO [y] 0 = some y from rfl]
            simp only [Option.bind_some]
            have : ((y.toNat : Int) = 100) ↔ ([y] = ([100] : List UInt8)) := by
              rw [List.cons.injEq]
              simp only [and_true]
              rw [← UInt8.toNat_inj]
              show _ ↔ y.toNat = 100
              omega
            rw [decide_eq_decide.2 this]; rfl
          · rw [if_neg hv]
            have : ¬ v = [100] := fun e => hv (by rw [e]; rfl)
            rw [decide_eq_false this]; rfl
        · simp only [if_neg h110]; rfl
  · show (if (L.length : Int) < (L.length : Int) then _ else _) = _
    rw [if_neg (by omega)]; rfl
theorem rdF_crd (L : List P2) : Crd (rdF L) L.length := by
  have key : ∀ (L : List P2) (s : CS × FS) (n : Nat), Crd s.2 n → Crd (L.foldl r1 s).2 (n + L.length) := by
    intro L
    induction L with
    | nil => intro s n h; exact h
    | cons x L ih => intro s n h; exact (ih (r1 s x) (n + 1) (r1_crd s x n h)).mono (by simp; omega)
  obtain ⟨l, hE, hl⟩ := key L (fnil, fnil) 0 Crd.nil
  generalize hS : L.foldl r1 (fnil, fnil) = S at hE
  refine ⟨l.map fun x => (x.1, if x.2.1 = false then (false, (S.1 x.1).getD []) else x.2), ⟨by rw [List.map_map]; exact hE.1, fun p => ?_⟩, by simp; omega⟩
  unfold rdF fin2
  rw [hS]
  have hnd : ((l.map fun x : List UInt8 × (Bool × List UInt8) => (x.1, if x.2.1 = false then (false, (S.1 x.1).getD []) else x.2)).map (·.1)).Nodup := by rw [List.map_map]; exact hE.1
  cases hp : S.2 p with
  | none =>
    symm
    refine aget_none fun hm => ?_
    rw [List.map_map] at hm
    obtain ⟨⟨a, b⟩, hx, hj⟩ := List.mem_map.1 hm
    have := (enum_mem hE).1 hx
    replace hj : a = p := hj
    rw [hj, hp] at this; cases this
  | some v =>
    obtain ⟨b, d⟩ := v
    have hm := (enum_mem hE).2 hp
    symm
    refine (aget_of_mem hnd (List.mem_map.2 ⟨_, hm, rfl⟩)).trans ?_
    cases b <;> rfl
end Go.Proofs.YtnagibpmfabkjaaGreatDoor
