/- Plain: a list of digests parted into shipments. -/
import Derived.Test.YtgcgggjihhdonaaDoorP
import Derived.Test.YtgcgggjihhdonaaDoorMod
set_option linter.unusedSimpArgs false
set_option linter.unusedVariables false
namespace Go.Proofs.YtgcgggjihhdonaaDoor
open Go.RowKit Go.Tri
theorem same_eq (x y : List (List UInt8)) (hx : x.length ≤ 1000000) : m_triremeref05_Same x y = some (decide (x = y)) := by
  unfold m_triremeref05_Same
  by_cases hl : (x.length : Int) = (y.length : Int)
  · rw [if_pos hl]
    refine bind_run (fun k (s : Int) => s = (k : Int) ∧ ∀ j, j < k → x.getD j [] = y.getD j []) (fun r => (r = .inl () ∧ x = y) ∨ (r = .inr false ∧ x ≠ y)) x.length ⟨rfl, fun j hj => by omega⟩ ?_ ?_ ?_
    · rintro k _ hk ⟨rfl, hne⟩
      rw [if_pos (by omega), idxO_getD [] rfl hk, idxO_getD [] rfl (show k < y.length by omega)]
      simp only [Option.bind_some]
      by_cases e : x.getD k [] = y.getD k []
      · rw [if_pos e, i64_id (by omega) (by omega)]
        exact .inl ⟨_, rfl, rfl, fun j hj => by
          by_cases ej : j = k
          · subst ej; exact e
          · exact hne j (by omega)⟩
      · rw [if_neg e]
        exact .inr ⟨_, rfl, .inr ⟨rfl, fun h => e (by rw [h])⟩⟩
    · rintro _ ⟨rfl, hne⟩
      refine ⟨.inl (), ?_, .inl ⟨rfl, List.ext_getElem (by omega) fun j h1 h2 => ?_⟩⟩
      · rw [if_neg (by omega)]
      · have := hne j h1
        simpa [List.getD_eq_getElem?_getD, List.getElem?_eq_getElem h1, List.getElem?_eq_getElem h2] using this
    · rintro _ (⟨rfl, h1⟩ | ⟨rfl, h1⟩)
      · simp [h1]
      · simp [h1]
  · rw [if_neg hl, decide_eq_false fun h => hl (by rw [h])]
def s7 : List UInt8 := [7, 0, 0, 0, 0, 0, 0, 0, 0, 0, 0, 0, 0, 0, 0, 0, 0, 0, 0, 0, 0, 0, 0, 0, 0, 0, 0, 0, 0, 0, 0, 0]
theorem key7 : keyP3 32 (s7, 0, 0) = some () := by
  unfold keyP3
  rw [if_pos ⟨rfl, by show i64Ok 0; decide, by show i64Ok 0; decide⟩]
theorem meet7 : dfMeet (0, [], fnil, fnil) (s7, 0, 0) = some (0, [(s7, 0, 0)], fset (s7, 0, 0) 1 fnil, fnil) := by
  unfold dfMeet
  simp only [key7, Option.bind_some]
  have h1 : IntKind.i64.wrap (((fnil : T_diff_place → Option Int) (s7, 0, 0)).getD 0 + 1) = 1 := rfl
  rw [h1, if_pos (by simp [fset]), appO_of (by simp)]
  rfl
theorem rising7 : dfRising (fset s7 1 fnil) = some [s7] := by
  unfold dfRising
  obtain ⟨l, h1, h2, _⟩ := sortKeys_of (m := fset s7 1 (fnil : List UInt8 → Option Int)) [s7] (by simp) (fun k => by
    by_cases h : k = s7
    · simp [fset, h]
    · simp [fset, h, fnil]) (by simp)
  rw [h1, List.perm_singleton.1 h2]; rfl
theorem loop2 {σ ρ : Type} {f : σ → Option (σ ⊕ ρ)} {s0 : σ} (s1 : σ) (r : ρ) (h1 : f s0 = some (.inl s1)) (h2 : f s1 = some (.inr r)) : loopO f s0 = some r := by
  rw [loopO_eq, h1]
  show loopO f s1 = some r
  rw [loopO_eq, h2]
  rfl
theorem missing7 : m_diff_Missing fnil s7 0 = some ([s7], 0) := by
  unfold m_diff_Missing
  rw [meet7]
  simp only [Option.bind_some]
  rw [loop2 ((0, [(s7, 0, 0)], fset (s7, 0, 0) 1 fnil, fset s7 1 fnil), 1) (.inl (0, [(s7, 0, 0)], fset (s7, 0, 0) 1 fnil, fset s7 1 fnil)) rfl rfl]
  show ((dfRising (fset s7 1 fnil)).bind fun x => some (x, 0)) = _
  rw [rising7]; rfl
theorem speaks_true : m_triremelaw17_speaks = some true := by
  unfold m_triremelaw17_speaks
  have := missing7
  unfold s7 at this
  rw [this]
  rfl
theorem fold_clone {α : Type} {f : List (List α) → List α → Option (List (List α) ⊕ Empty)} : ∀ (l : List (List α)) (s : List (List α)), (∀ s x, s.length ≤ 1000 → x ∈ l → f s x = some (.inl (s ++ [x]))) → s.length + l.length ≤ 1000 → foldO f s l = some (.inl (s ++ l))
  | [], s, _, _ => by simp [foldO]
  | x :: l, s, hf, hl => by
    simp only [List.length_cons] at hl
    have h1 := hf s x (by omega) (by simp)
    simp only [foldO, h1, Option.bind_some]
    rw [fold_clone l (s ++ [x]) (fun s y hs hy => hf s y hs (by simp [hy])) (by simp; omega)]
    simp
theorem chunkL_len {γ : Type} (n : Nat) (xs : List γ) : (chunkL n xs).length = chunkC n xs.length := by simp [chunkL, chunkZ]
theorem chunkC_le {n len : Nat} (hn : 0 < n) : chunkC n len ≤ len := by
  refine Nat.le_of_not_lt fun h => ?_
  have := (chunkC_lt hn).1 h
  have : len ≤ len * n := Nat.le_mul_of_pos_right len hn
  omega
theorem chunkL_at {γ : Type} {n : Nat} {xs : List γ} (hn : 0 < n) {k : Nat} (hk : k * n < xs.length) (d : List γ) : (chunkL n xs).getD k d = (xs.drop (k * n)).take n := by
  have := chunkZ_at hn hk
  unfold chunkL
  rw [List.getD_eq_getElem?_getD, List.getElem?_map, this]; rfl
theorem cut_eq (x : List (List UInt8)) (m : Int) (hx : x.length ≤ 200) (hm : i64Ok m) : ∃ n : Nat, 0 < n ∧ (m < 1 → chunkC n x.length ≤ 1) ∧ (1 ≤ m → m = (n : Int)) ∧ m_diff_Cut x m = some (chunkL n x) := by
  obtain ⟨h1, h2⟩ := hm
  have key : ∀ (r : Int) (n : Nat), r = (n : Int) → 0 < n → n ≤ 9223372036854775807 → ((chunkN r x.length).bind fun x9 => Option.bind (α := ((List (List (List UInt8)))) ⊕ Empty) (foldO (fun (s25 : (List (List (List UInt8)))) (x25 : List (List UInt8)) => (m_slices_Clone___api_Hash_api_Hash_ x25).bind fun x27 => (appO s25 ([x27])).bind fun x31 => some (.inl x31)) ([] : List (List (List UInt8))) (chunkL x9 x)) fun o25 => Sum.elim (fun s25 => some s25) (fun r25 => none) o25) = some (chunkL n x) := by
    intro r n hr hn hb
    have : chunkN r x.length = some n := by
      unfold chunkN
      rw [if_pos (by omega), hr]; rfl
    rw [this]
    simp only [Option.bind_some]
    rw [fold_clone]
    · simp
    · intro s y hs hy
      have hyl : y.length ≤ x.length := by
        unfold chunkL chunkZ at hy
        rw [List.map_map] at hy
        obtain ⟨k, _, rfl⟩ := List.mem_map.1 hy
        simp; omega
      unfold m_slices_Clone___api_Hash_api_Hash_
      rw [appO_of (by simp; omega)]
      simp only [Option.bind_some, List.nil_append]
      rw [appO_of (by simp; omega)]
      rfl
    · rw [chunkL_len]
      have := chunkC_le (len := x.length) hn
      simp; omega
  by_cases h : m < 1
  · refine ⟨max 1 x.length, by omega, fun _ => ?_, fun h' => by omega, ?_⟩
    · refine Nat.le_of_not_lt fun h' => ?_
      have := (chunkC_lt (len := x.length) (k := 1) (show 0 < max 1 x.length by omega)).1 h'
      omega
    · unfold m_diff_Cut
      rw [if_pos h]
      simp only [Option.bind_some]
      exact key _ _ (by omega) (by omega) (by omega)
  · refine ⟨m.toNat, by omega, fun h' => absurd h' h, fun _ => by omega, ?_⟩
    unfold m_diff_Cut
    rw [if_neg h]
    simp only [Option.bind_some]
    exact key _ _ (by omega) (by omega) (by omega)
theorem cuts_true (x : List (List UInt8)) (m : Int) (hm : i64Ok m) : m_triremelaw17_DiffCuts x m = some true := by
  unfold m_triremelaw17_DiffCuts
  rw [speaks_true]
  simp only [Option.bind_some]
  rw [if_neg (by simp)]
  by_cases hl : 200 < (x.length : Int)
  · rw [if_pos hl]
  rw [if_neg hl]
  obtain ⟨n, hn, hc1, hc2, hcut⟩ := cut_eq x m (by omega) hm
  rw [hcut]
  simp only [Option.bind_some]
  have hcl := chunkC_le (len := x.length) hn
  refine bind_run (fun k s => s = (x.take (k * n), (k : Int))) (fun r => r = .inl x) (chunkC n x.length) (by simp) ?_ ?_ ?_
  · rintro k _ hk rfl
    left
    have hkn := (chunkC_lt hn).1 hk
    refine ⟨(x.take ((k + 1) * n), ((k + 1 : Nat) : Int)), ?_, rfl⟩
    simp only
    rw [if_pos (by rw [chunkL_len]; omega), idxO_getD [] rfl (by rw [chunkL_len]; exact hk), chunkL_at hn hkn]
    simp only [Option.bind_some]
    have hyl : ((x.drop (k * n)).take n).length = min n (x.length - k * n) := by simp
    have happ : appO (x.take (k * n)) ((x.drop (k * n)).take n) = some (x.take ((k + 1) * n)) := by
      rw [appO_of (by rw [hyl, List.length_take]; omega), Nat.succ_mul, List.take_add]
    have hw : IntKind.i64.wrap ((k : Int) + 1) = ((k + 1 : Nat) : Int) := wrap_i64 (by omega) (by omega) (by omega)
    rw [if_neg (by rw [hyl]; omega)]
    rw [happ, hw]
    simp only [Option.bind_some]
    by_cases h0 : 0 < m
    · rw [if_pos h0]
      have hmn := hc2 (by omega)
      rw [if_neg (by rw [hyl, hmn]; omega)]
      rw [if_neg (show ¬ m < 1 by omega)]
      by_cases h3 : (((x.drop (k * n)).take n).length : Int) < m
      · rw [if_pos h3]
        rw [if_neg]
        rw [chunkL_len, wrap_i64 (r := (chunkC n x.length : Int) - 1) rfl (by omega) (by omega)]
        intro h4
        have h5 := (chunkC_lt (len := x.length) (k := k + 1) hn).1 (by omega)
        rw [Nat.succ_mul] at h5
        rw [hyl, hmn] at h3
        omega
      · rw [if_neg h3]
    · rw [if_neg h0, if_pos (show m < 1 by omega)]
      have := hc1 (by omega)
      rw [if_pos (by rw [chunkL_len]; omega)]
  · rintro _ rfl
    refine ⟨_, ?_, rfl⟩
    simp only
    rw [if_neg (by rw [chunkL_len]; omega), List.take_of_length_le]
    have := not_congr (chunkC_lt (n := n) (len := x.length) (k := chunkC n x.length) hn)
    omega
  · rintro _ rfl
    simp only [Sum.elim_inl]
    rw [same_eq x x (by omega)]
    simp
end Go.Proofs.YtgcgggjihhdonaaDoor
