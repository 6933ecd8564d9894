/- Plain: the program's disk and the document's answer alike. -/
import Derived.Test.YtfepdfjhejkemaaDoorCnt
set_option linter.unusedSimpArgs false
set_option linter.unusedVariables false
namespace Go.Proofs.YtfepdfjhejkemaaDoor
open Go.RowKit Go.Tri
theorem rdUse_eq (d : T_disk_Disk_o) : rdUse d = diskCall d := by
  unfold rdUse diskCall
  rfl
theorem rdLimit_eq (d : T_disk_Disk_o) (n : Int) : rdLimit d n = diskLimit d n := by
  unfold rdLimit diskLimit
  by_cases h : n < 0
  · rw [if_pos h, show max n (-1) = -1 by omega]
  · rw [if_neg h, show max n (-1) = n by omega]
theorem rdWrite_eq (d : T_disk_Disk_o) (i : Int) (data : List UInt8) : rdWrite d i data = diskWrite d i data := by
  unfold rdWrite diskWrite
  by_cases h1 : d.2.2.2 = true
  · rw [if_pos h1, if_pos h1]
  rw [if_neg h1, if_neg h1]
  by_cases h2 : i < 0
  · rw [if_pos h2, if_pos h2]
  rw [if_neg h2, if_neg h2]
  by_cases h3 : ((d.1).length : Int) ≤ i
  · rw [if_pos h3, if_pos h3]
  rw [if_neg h3, if_neg h3]
  by_cases h4 : (data.length : Int) = 512
  · rw [if_pos h4, if_pos h4, rdUse_eq, cloneB_eq data (by omega), appO_of (by simp only [List.length_nil]; omega)]
    rfl
  · rw [if_neg h4, if_neg h4]
theorem rdNew_eq (n : Nat) (h1 : 1 ≤ n) (h2 : n ≤ 4096) : rdNew (n : Int) = some (List.replicate n (List.replicate 512 0), [], -1, false) := by
  unfold rdNew
  refine bind_run (fun i s => s = ((List.replicate i (List.replicate 512 0), [], -1, false), (i : Int))) (fun r => r = (List.replicate n (List.replicate 512 0), [], -1, false)) n rfl ?_ ?_ ?_
  · rintro i _ hi rfl
    refine .inl ⟨_, ?_, rfl⟩
    simp only
    rw [if_pos (by omega), show mkO 512 (0 : UInt8) = some (List.replicate 512 0) from rfl]
    simp only [Option.bind_some]
    rw [appO_of (by simp only [List.length_replicate, List.length_cons, List.length_nil]; omega), i64_id (by omega) (by omega), ← List.replicate_succ']
    rfl
  · rintro _ rfl
    refine ⟨_, ?_, rfl⟩
    simp only
    rw [if_neg (by omega)]
  · rintro _ rfl
    rfl
theorem rdRead_eff (pl : List (List UInt8)) (pen : List (Int × List UInt8)) (lim : Int) (i : Nat) (h : i < pl.length) (hp : PenOk pl.length pen) (h5 : All512 pl) (hl : pen.length ≤ 1000000) : rdRead (pl, pen, lim, false) (i : Int) = some ((eff pl pen).getD i [], 0) := by
  unfold rdRead
  simp only
  rw [if_neg (by simp), if_neg (by omega), if_neg (by omega), idxO_getD [] rfl h]
  simp only [Option.bind_some]
  have h512 := eff_512 pen pl h5 hp i (by rw [eff_len]; exact h)
  refine bind_run (fun k s => s = ((eff pl (pen.take k)).getD i [], (k : Int))) (fun r => r = (eff pl pen).getD i []) pen.length rfl ?_ ?_ ?_
  · rintro k _ hk rfl
    refine .inl ⟨_, ?_, rfl⟩
    obtain ⟨x, hx⟩ : ∃ x, pen[k]? = some x := ⟨_, List.getElem?_eq_getElem hk⟩
    have hg : pen.getD k (0, []) = x := by simp [List.getD_eq_getElem?_getD, hx]
    have hok := hp x (List.mem_of_getElem? hx)
    simp only
    rw [if_pos (by omega), idxO_getD (0, []) rfl hk, hg, List.take_add_one, hx]
    simp only [Option.bind_some, Option.toList_some]
    rw [eff_snoc, set_get, i64_id (by omega) (by omega)]
    have hlen := eff_len pl (pen.take k)
    by_cases e : x.1 = (i : Int)
    · rw [if_pos e, if_pos ⟨by omega, by rw [hlen]; omega⟩]
      rfl
    · rw [if_neg e, if_neg (fun h => e (by omega))]
      rfl
  · rintro _ rfl
    refine ⟨_, ?_, rfl⟩
    simp only
    rw [if_neg (by omega), List.take_length]
  · rintro _ rfl
    rw [appO_of (by simp only [List.length_nil]; omega)]
    rfl
theorem diskCall_gen (d : T_disk_Disk_o) : ∃ b d', diskCall d = some (b, d') ∧ d'.1 = d.1 ∧ d'.2.1 = d.2.1 := by
  unfold diskCall
  by_cases h : d.2.2.1 = 0
  · rw [if_pos h]; exact ⟨_, _, rfl, rfl, rfl⟩
  · rw [if_neg h]
    by_cases h2 : 0 < d.2.2.1
    · rw [if_pos h2]; exact ⟨_, _, rfl, rfl, rfl⟩
    · rw [if_neg h2]; exact ⟨_, _, rfl, rfl, rfl⟩
theorem rdFlush_eq (d : T_disk_Disk_o) (hp : PenOk d.1.length d.2.1) (hl : d.2.1.length ≤ 1000000) : rdFlush d = diskFlush d := by
  unfold rdFlush diskFlush
  by_cases h1 : d.2.2.2 = true
  · rw [if_pos h1, if_pos h1]
  rw [if_neg h1, if_neg h1, rdUse_eq]
  obtain ⟨b, ⟨pl', pen', lim, dn⟩, hc, e1, e2⟩ := diskCall_gen d
  simp only at e1 e2
  subst e1; subst e2
  rw [hc]
  simp only [Option.bind_some]
  generalize d.1 = pl at hp
  generalize d.2.1 = pen at hp hl
  cases b with
  | false => rfl
  | true =>
    simp only [Bool.not_true, Bool.false_eq_true, if_false]
    have key : ∀ k, k < pen.length → ∃ x, pen[k]? = some x ∧ pen.getD k (0, []) = x ∧ 0 ≤ x.1 ∧ x.1.toNat < pl.length ∧ eff pl (pen.take (k + 1)) = (eff pl (pen.take k)).set x.1.toNat x.2 := by
      intro k hk
      obtain ⟨x, hx⟩ : ∃ x, pen[k]? = some x := ⟨_, List.getElem?_eq_getElem hk⟩
      have hok := hp x (List.mem_of_getElem? hx)
      exact ⟨x, hx, by simp [List.getD_eq_getElem?_getD, hx], hok.1, hok.2.1, by rw [List.take_add_one, hx, Option.toList_some, eff_snoc]⟩
    refine Eq.trans (b := some ((0 : Int), (eff pl pen, ([] : List (Int × List UInt8)), lim, dn))) ?_ (Eq.symm ?_)
    · refine bind_run (fun k s => s = ((eff pl (pen.take k), pen, lim, dn), (k : Int))) (fun r => r = (eff pl pen, pen, lim, dn)) pen.length rfl ?_ ?_ ?_
      · rintro k _ hk rfl
        refine .inl ⟨_, ?_, rfl⟩
        obtain ⟨x, hx, hg, h0, hn, he⟩ := key k hk
        simp only
        rw [if_pos (by omega), idxO_getD (0, []) rfl hk, hg]
        simp only [Option.bind_some]
        rw [idxO_getD (n := x.1.toNat) [] (by omega) (by rw [eff_len]; exact hn)]
        simp only [Option.bind_some]
        rw [i64_id (by omega) (by omega), he]
        rfl
      · rintro _ rfl
        refine ⟨_, ?_, rfl⟩
        simp only
        rw [if_neg (by omega), List.take_length]
      · rintro _ rfl
        rfl
    · refine bind_run (fun k s => s = (eff pl (pen.take k), (k : Int))) (fun r => r = eff pl pen) pen.length rfl ?_ ?_ ?_
      · rintro k _ hk rfl
        refine .inl ⟨_, ?_, rfl⟩
        obtain ⟨x, hx, hg, h0, hn, he⟩ := key k hk
        simp only
        rw [if_pos (by omega), idxO_getD (0, []) rfl hk, hg]
        simp only [Option.bind_some]
        rw [idxO_getD (n := x.1.toNat) [] (by omega) (by rw [eff_len]; exact hn)]
        simp only [Option.bind_some]
        rw [i64_id (by omega) (by omega), he]
        rfl
      · rintro _ rfl
        refine ⟨_, ?_, rfl⟩
        simp only
        rw [if_neg (by omega), List.take_length]
      · rintro _ rfl
        rfl
/-! ### The document's store -/
theorem rsHolds_eq (d : T_disk_Disk_o) (kn : List Bool) (ha held : List (List UInt8)) (h : List UInt8) (hl : held.length ≤ 1000000) : rsHolds (d, kn, ha, held) h = some (decide (h ∈ held)) := by
  unfold rsHolds
  refine bind_run (fun k (s : Int) => s = (k : Int) ∧ ∀ j, j < k → held.getD j [] ≠ h) (fun r => (r = .inr true ∧ h ∈ held) ∨ (r = .inl () ∧ h ∉ held)) held.length ⟨rfl, fun j hj => by omega⟩ ?_ ?_ ?_
  · rintro k _ hk ⟨rfl, hne⟩
    have hm : held.getD k [] ∈ held := by rw [List.getD_eq_getElem?_getD, List.getElem?_eq_getElem hk]; exact List.getElem_mem hk
    simp only
    rw [if_pos (by omega), idxO_getD [] rfl hk]
    simp only [Option.bind_some]
    by_cases e : held.getD k [] = h
    · rw [if_pos e]; exact .inr ⟨_, rfl, .inl ⟨rfl, e ▸ hm⟩⟩
    · rw [if_neg e, i64_id (by omega) (by omega)]
      exact .inl ⟨_, rfl, rfl, fun j hj => by
        by_cases ej : j = k
        · subst ej; exact e
        · exact hne j (by omega)⟩
  · rintro _ ⟨rfl, hne⟩
    refine ⟨.inl (), ?_, .inr ⟨rfl, fun hm => ?_⟩⟩
    · simp only
      rw [if_neg (by omega)]
    · obtain ⟨j, hj, e⟩ := List.getElem_of_mem hm
      exact hne j hj (by rw [List.getD_eq_getElem?_getD, List.getElem?_eq_getElem hj]; exact e)
  · rintro _ (⟨rfl, h1⟩ | ⟨rfl, h1⟩)
    · simp [h1]
    · simp [h1]
/-- A sector that is known to have h. -/
def KnH (kn : List Bool) (ha : List (List UInt8)) (h : List UInt8) (j : Nat) : Prop := kn.getD j false = true ∧ ha.getD j [] = h
theorem rsAt_eq (d : T_disk_Disk_o) (kn : List Bool) (ha held : List (List UInt8)) (h : List UInt8) (hl : kn.length ≤ 1000000) (hk : ha.length = kn.length) :
    (rsAt (d, kn, ha, held) h = some (-1) ∧ ∀ j, j < kn.length → ¬ KnH kn ha h j) ∨ (∃ i : Nat, rsAt (d, kn, ha, held) h = some (i : Int) ∧ i < kn.length ∧ KnH kn ha h i ∧ ∀ j, j < i → ¬ KnH kn ha h j) := by
  unfold rsAt
  refine bind_runP (C := fun o => (o = some (-1) ∧ ∀ j, j < kn.length → ¬ KnH kn ha h j) ∨ (∃ i : Nat, o = some (i : Int) ∧ i < kn.length ∧ KnH kn ha h i ∧ ∀ j, j < i → ¬ KnH kn ha h j)) (fun k (s : Int) => s = (k : Int) ∧ ∀ j, j < k → ¬ KnH kn ha h j) (fun r => (r = .inl () ∧ ∀ j, j < kn.length → ¬ KnH kn ha h j) ∨ ∃ i : Nat, r = .inr (i : Int) ∧ i < kn.length ∧ KnH kn ha h i ∧ ∀ j, j < i → ¬ KnH kn ha h j) kn.length ⟨rfl, fun j hj => by omega⟩ ?_ ?_ ?_
  · rintro k _ hlt ⟨rfl, hne⟩
    simp only
    rw [if_pos (by omega), idxO_getD false rfl hlt]
    simp only [Option.bind_some]
    have next : ¬ KnH kn ha h k → ∀ j, j < k + 1 → ¬ KnH kn ha h j := fun hn j hj => by
      by_cases ej : j = k
      · subst ej; exact hn
      · exact hne j (by omega)
    by_cases e1 : kn.getD k false = true
    · rw [if_pos e1, idxO_getD [] rfl (by omega)]
      simp only [Option.bind_some]
      by_cases e2 : ha.getD k [] = h
      · rw [if_pos e2]
        exact .inr ⟨_, rfl, .inr ⟨k, rfl, hlt, ⟨e1, e2⟩, hne⟩⟩
      · rw [if_neg e2, i64_id (by omega) (by omega)]
        exact .inl ⟨_, rfl, rfl, next fun hh => e2 hh.2⟩
    · rw [if_neg e1, i64_id (by omega) (by omega)]
      exact .inl ⟨_, rfl, rfl, next fun hh => e1 hh.1⟩
  · rintro _ ⟨rfl, hne⟩
    refine ⟨.inl (), ?_, .inl ⟨rfl, hne⟩⟩
    simp only
    rw [if_neg (by omega)]
  · rintro _ (⟨rfl, h1⟩ | ⟨i, rfl, h1⟩)
    · exact .inl ⟨rfl, h1⟩
    · exact .inr ⟨i, rfl, h1⟩
theorem rsSpare_eq (d : T_disk_Disk_o) (kn : List Bool) (ha held : List (List UInt8)) (i : Nat) (hi : i < kn.length) (hk : ha.length = kn.length) (hl : held.length ≤ 1000000) :
    rsSpare (d, kn, ha, held) (i : Int) = some (decide (1 < i ∧ ¬ (kn.getD i false = true ∧ ha.getD i [] ∈ held))) := by
  unfold rsSpare
  by_cases h1 : 1 < i
  · rw [if_pos (by omega), idxO_getD false rfl hi]
    simp only [Option.bind_some]
    by_cases e1 : kn.getD i false = true
    · rw [if_pos e1, idxO_getD [] rfl (by omega)]
      simp only [Option.bind_some]
      rw [rsHolds_eq d kn ha held _ hl]
      simp only [Option.bind_some, h1, e1, true_and, decide_not]
    · rw [if_neg e1, decide_eq_true ⟨h1, fun hh => e1 hh.1⟩]
  · rw [if_neg (by omega), decide_eq_false fun hh => h1 hh.1]
theorem rsFree_eq (d : T_disk_Disk_o) (kn : List Bool) (ha held : List (List UInt8)) (hs : Int → Option (List UInt8)) (mk : List UInt8 → Option Int) (hk : ha.length = kn.length) (hl : held.length ≤ 1000000) (hn : kn.length ≤ 4096)
    (hB : ∀ i : Nat, i < kn.length → 2 ≤ i → (freeB hs mk (i : Int) = true ↔ ¬ (kn.getD i false = true ∧ ha.getD i [] ∈ held))) :
    rsFree (d, kn, ha, held) = some ((frN hs mk kn.length : Nat) : Int) := by
  unfold rsFree
  refine bind_run (fun i s => s = (((frN hs mk i : Nat) : Int), (i : Int))) (fun r => r = ((frN hs mk kn.length : Nat) : Int)) kn.length rfl ?_ ?_ ?_
  · rintro i _ hi rfl
    refine .inl ⟨_, ?_, rfl⟩
    simp only
    rw [if_pos (by omega), rsSpare_eq d kn ha held i hi hk hl]
    simp only [Option.bind_some]
    have hle := frN_le hs mk i
    rw [frN_succ]
    by_cases hf : 2 ≤ i ∧ freeB hs mk (i : Int) = true
    · rw [if_pos hf, if_pos (decide_eq_true ⟨by omega, (hB i hi hf.1).1 hf.2⟩), i64_id (by omega) (by omega)]
      simp only [Option.bind_some]
      rw [i64_id (by omega) (by omega)]
      rfl
    · rw [if_neg hf, if_neg (fun hh => hf (by
        have := of_decide_eq_true hh
        exact ⟨this.1, (hB i hi this.1).2 this.2⟩))]
      simp only [Option.bind_some]
      rw [i64_id (by omega) (by omega)]
      rfl
  · rintro _ rfl
    refine ⟨_, ?_, rfl⟩
    simp only
    rw [if_neg (by omega)]
  · rintro _ rfl
    rfl
theorem same_eq (x y : List (List UInt8)) (hx : x.length ≤ 1000000) : m_triremeref05_Same x y = some (decide (x = y)) := by
  unfold m_triremeref05_Same
  by_cases hl : (x.length : Int) = (y.length : Int)
  · rw [if_pos hl]
    refine bind_run (fun k (s : Int) => s = (k : Int) ∧ ∀ j, j < k → x.getD j [] = y.getD j []) (fun r => (r = .inl () ∧ x = y) ∨ (r = .inr false ∧ x ≠ y)) x.length ⟨rfl, fun j hj => by omega⟩ ?_ ?_ ?_
    · rintro k _ hk ⟨rfl, hne⟩
      rw [if_pos (by omega), idxO_getD [] rfl hk, idxO_getD [] rfl (show k < y.length by omega)]
      simp only [Option.bind_some]
      by_cases e : x.getD k [] = y.getD k []
      · rw [if_pos e, i64_id (by omega) (by omega)]
        exact .inl ⟨_, rfl, rfl, fun j hj => by
          by_cases ej : j = k
          · subst ej; exact e
          · exact hne j (by omega)⟩
      · rw [if_neg e]
        exact .inr ⟨_, rfl, .inr ⟨rfl, fun h => e (by rw [h])⟩⟩
    · rintro _ ⟨rfl, hne⟩
      refine ⟨.inl (), ?_, .inl ⟨rfl, List.ext_getElem (by omega) fun j h1 h2 => ?_⟩⟩
      · rw [if_neg (by omega)]
      · have := hne j h1
        simpa [List.getD_eq_getElem?_getD, List.getElem?_eq_getElem h1, List.getElem?_eq_getElem h2] using this
    · rintro _ (⟨rfl, h1⟩ | ⟨rfl, h1⟩)
      · simp [h1]
      · simp [h1]
  · rw [if_neg hl, decide_eq_false fun h => hl (by rw [h])]
theorem cmp_app : ∀ p a b : List UInt8, Lib.compareBytes (p ++ a) (p ++ b) = Lib.compareBytes a b
  | [], _, _ => rfl
  | c :: p, a, b => by simp [Lib.compareBytes, cmp_app p a b]
theorem less_eq (x y : List UInt8) (hx : x.length = 32) (hy : y.length = 32) : m_triremeref05_Less x y = some (decide (Lib.compareBytes x y < 0)) := by
  unfold m_triremeref05_Less
  refine bind_run (fun k (s : Int) => s = (k : Int) ∧ x.take k = y.take k) (fun r => (r = .inl () ∧ x = y) ∨ (r = .inr (decide (Lib.compareBytes x y < 0)))) 32 ⟨rfl, rfl⟩ ?_ ?_ ?_
  · rintro k _ hk ⟨rfl, hne⟩
    have h1 : k < x.length := by omega
    have h2 : k < y.length := by omega
    have ex : x = x.take k ++ x.getD k 0 :: x.drop (k + 1) := by rw [List.getD_eq_getElem?_getD, List.getElem?_eq_getElem h1, Option.getD_some, ← List.drop_eq_getElem_cons h1, List.take_append_drop]
    have ey : y = y.take k ++ y.getD k 0 :: y.drop (k + 1) := by rw [List.getD_eq_getElem?_getD, List.getElem?_eq_getElem h2, Option.getD_some, ← List.drop_eq_getElem_cons h2, List.take_append_drop]
    rw [if_pos (by omega), idxO_getD 0 rfl h1, idxO_getD 0 rfl h2]
    simp only [Option.bind_some]
    by_cases e : ((x.getD k 0).toNat : Int) = ((y.getD k 0).toNat : Int)
    · rw [if_pos e, i64_id (by omega) (by omega)]
      refine .inl ⟨_, rfl, rfl, ?_⟩
      have e' : x.getD k 0 = y.getD k 0 := UInt8.toNat_inj.1 (by omega)
      rw [List.take_add_one, List.take_add_one, hne, List.getElem?_eq_getElem h1, List.getElem?_eq_getElem h2]
      simp only [List.getD_eq_getElem?_getD, List.getElem?_eq_getElem h1, List.getElem?_eq_getElem h2, Option.getD_some] at e'
      rw [e']
    · rw [if_neg e]
      refine .inr ⟨_, rfl, .inr ?_⟩
      have hc : Lib.compareBytes x y = Lib.compareBytes (x.getD k 0 :: x.drop (k + 1)) (y.getD k 0 :: y.drop (k + 1)) := by
        have h3 := cmp_app (x.take k) (x.getD k 0 :: x.drop (k + 1)) (y.getD k 0 :: y.drop (k + 1))
        rw [← ex, hne, ← ey] at h3
        exact h3
      rw [hc]
      simp only [Lib.compareBytes, UInt8.lt_iff_toNat_lt]
      by_cases hlt : (x.getD k 0).toNat < (y.getD k 0).toNat
      · rw [if_pos hlt, decide_eq_true (by omega), decide_eq_true (by omega)]
      · rw [if_neg hlt, if_pos (by omega), decide_eq_false (by omega), decide_eq_false (by omega)]
  · rintro _ ⟨rfl, hne⟩
    refine ⟨.inl (), ?_, .inl ⟨rfl, ?_⟩⟩
    · rw [if_neg (by omega)]
    · rw [List.take_of_length_le (by omega), List.take_of_length_le (by omega)] at hne
      exact hne
  · rintro _ (⟨rfl, rfl⟩ | rfl)
    · simp [cmp_self]
    · rfl
end Go.Proofs.YtfepdfjhejkemaaDoor
