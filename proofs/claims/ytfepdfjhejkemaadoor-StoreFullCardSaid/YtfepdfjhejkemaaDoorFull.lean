/- Plain: StoreFull. -/
import Derived.Test.YtfepdfjhejkemaaDoorTwice
set_option linter.unusedSimpArgs false
set_option linter.unusedVariables false
namespace Go.Proofs.YtfepdfjhejkemaaDoor
open Go.RowKit Go.Tri
def nameB (m : Nat) : List UInt8 := Hs [UInt8.ofNat m]
def nameM : List UInt8 := Hs [109, 111, 114, 101]
theorem names_nodup : ((List.range 15).map nameB ++ [nameM]).Nodup := by decide +kernel
theorem nameB_inj {i j : Nat} (hi : i < 15) (hj : j < 15) (h : nameB i = nameB j) : i = j := by
  have hn := (List.nodup_append.1 names_nodup).1
  have := List.pairwise_map.1 hn
  rcases Nat.lt_trichotomy i j with hlt | hlt | hlt
  · have h2 := List.pairwise_iff_getElem.1 this i j (by simp; omega) (by simp; omega) hlt
    simp only [List.getElem_range] at h2
    exact absurd h h2
  · exact hlt
  · have h2 := List.pairwise_iff_getElem.1 this j i (by simp; omega) (by simp; omega) hlt
    simp only [List.getElem_range] at h2
    exact absurd h.symm h2
theorem nameB_ne {i : Nat} (hi : i < 15) : nameB i ≠ nameM := by
  have hn := (List.nodup_append.1 names_nodup).2.2
  exact hn _ (List.mem_map_of_mem (by simpa using hi)) _ (by simp)
theorem and15 (x : Int) : ∃ k : Nat, k ≤ 15 ∧ andI .i64 x 15 = (k : Int) := by
  have h : (BitVec.ofInt IntKind.i64.bits x &&& BitVec.ofInt IntKind.i64.bits 15).toNat ≤ 15 := by
    rw [BitVec.toNat_and]
    exact Nat.le_trans Nat.and_le_right (by decide)
  refine ⟨_, h, ?_⟩
  unfold andI
  exact i64_id (by omega) (by omega)
/-- Behind i blocks. -/
structure FF (wh : List UInt8 → Option Int) (hs : Int → Option (List UInt8)) (mk : List UInt8 → Option Int) (i : Nat) : Prop where
  hh : ∀ j : Nat, 2 ≤ j → hs (j : Int) = if j < 2 + i then some (nameB (j - 2)) else none
  hw : ∀ h, (wh h).isSome = true ↔ ∃ m, m < i ∧ h = nameB m
  hm : ∀ m, m < i → mk (nameB m) = some 1
theorem FF.start : FF fnil fnil fnil 0 := ⟨fun j h => by rw [if_neg (by omega)]; rfl, fun h => by simp [fnil], fun m h => by omega⟩
theorem FF.held {wh hs mk i} (h : FF wh hs mk i) (j : Nat) (h2 : 2 ≤ j) : freeB hs mk (j : Int) = true ↔ 2 + i ≤ j := by
  unfold freeB
  rw [h.hh j h2]
  by_cases hj : j < 2 + i
  · rw [if_pos hj]
    simp only [h.hm (j - 2) (by omega), Option.getD_some]
    constructor
    · intro h; simp at h
    · intro h; omega
  · rw [if_neg hj]
    simp only [true_iff]; omega
theorem FF.step {wh hs mk i} (h : FF wh hs mk i) (hi : i < 15) : FF (fset (nameB i) ((2 + i : Nat) : Int) wh) (fset ((2 + i : Nat) : Int) (nameB i) hs) (fset (nameB i) 1 mk) (i + 1) := by
  refine ⟨fun j h2 => ?_, fun x => ?_, fun m hm => ?_⟩
  · unfold fset
    by_cases e : j = 2 + i
    · subst e; rw [if_pos rfl, if_pos (by omega)]; congr 2; omega
    · rw [if_neg (by omega), h.hh j h2]
      by_cases h3 : j < 2 + i
      · rw [if_pos h3, if_pos (by omega)]
      · rw [if_neg h3, if_neg (by omega)]
  · unfold fset
    by_cases e : x = nameB i
    · rw [if_pos e]
      exact ⟨fun _ => ⟨i, by omega, e⟩, fun _ => rfl⟩
    · rw [if_neg e, h.hw x]
      constructor
      · rintro ⟨m, h1, h2⟩; exact ⟨m, by omega, h2⟩
      · rintro ⟨m, h1, h2⟩
        refine ⟨m, ?_, h2⟩
        by_cases em : m = i
        · subst em; exact absurd h2 e
        · omega
  · unfold fset
    by_cases e : nameB m = nameB i
    · rw [if_pos e]
    · rw [if_neg e]
      refine h.hm m ?_
      by_cases em : m = i
      · subst em; exact absurd rfl e
      · omega
theorem FF.none {wh hs mk i} (h : FF wh hs mk i) {x : List UInt8} (hx : ∀ m, m < i → x ≠ nameB m) : wh x = none := by
  rcases e : wh x with _ | v
  · rfl
  · obtain ⟨m, h1, h2⟩ := (h.hw x).1 (by rw [e]; rfl)
    exact absurd h2 (hx m h1)
theorem full_true (x : Int) : m_triremelaw05_StoreFull x = some true := by
  unfold m_triremelaw05_StoreFull
  rw [speaks_true]
  simp only [Option.bind_some]
  rw [if_neg (by simp)]
  obtain ⟨k, hk, hx⟩ := and15 x
  rw [hx, i64_id (n := 2 + (k : Int)) (by omega) (by omega), i64_id (n := 2 + (k : Int) - 2) (by omega) (by omega), i64_id (n := 2 + (k : Int) - 3) (by omega) (by omega), show 2 + (k : Int) = ((2 + k : Nat) : Int) by omega, diskNew_eq (2 + k) (by omega) (by omega)]
  simp only [Option.bind_some]
  rw [fresh_open (2 + k) (by omega)]
  simp only [Option.bind_some]
  have hpl : (List.replicate (2 + k) (List.replicate 512 (0 : UInt8))).length = 2 + k := List.length_replicate
  generalize List.replicate (2 + k) (List.replicate 512 (0 : UInt8)) = pl at hpl ⊢
  refine bind_run (fun i s => ∃ pen wh hs mk, s = ((wh, hs, mk), (pl, pen, -1, false), (i : Int)) ∧ pen.length = i ∧ FF wh hs mk i)
    (fun r => ∃ pen wh hs mk, r = .inl ((wh, hs, mk), (pl, pen, -1, false)) ∧ pen.length = k ∧ FF wh hs mk k) k ⟨[], fnil, fnil, fnil, rfl, rfl, FF.start⟩ ?hs ?he ?hk
  case hs =>
    rintro i _ hi ⟨pen, wh, hs, mk, rfl, hp, hF⟩
    simp only
    rw [if_pos (by omega), show IntKind.u8.wrap ((i : Nat) : Int) = ((i : Nat) : Int) by rw [wrap_u8']; omega, u8lit i (by omega)]
    simp only [Option.bind_some]
    have hn : wh (Hs [UInt8.ofNat i]) = none := hF.none fun m hm e => by
      have := nameB_inj (i := i) (j := m) (by omega) (by omega) e
      omega
    rw [stPut_at pl pen wh hs mk [UInt8.ofNat i] (by simp) hn (by omega) (by omega) (by omega) (2 + i) (by omega) (by omega) ((hF.held _ (by omega)).2 (Nat.le_refl _)) (fun j h1 h2 => by
      have := hF.held j h1
      rcases e : freeB hs mk (j : Int) with _ | _
      · rfl
      · have := this.1 e; omega)]
    simp only [Option.bind_some, if_true]
    have hS := hF.step (by omega)
    have hu : unwh hs ((2 + i : Nat) : Int) wh = wh := unwh_none (by rw [hF.hh _ (by omega), if_neg (by omega)])
    rw [hu, stFree_eq _ _ _ _ _ _ _ (by omega) (by omega)]
    have hfr := frN_eq (i + 1) pl.length (fun j h1 _ => hS.held j h1)
    simp only [nameB] at hfr hS
    rw [hfr]
    simp only [Option.bind_some]
    rw [if_pos (by rw [i64_id (by omega) (by omega)]; omega), i64_id (by omega) (by omega)]
    exact .inl ⟨_, rfl, _, _, _, _, rfl, by simp [hp], hS⟩
  case he =>
    rintro _ ⟨pen, wh, hs, mk, rfl, hp, hF⟩
    simp only
    rw [if_neg (by omega)]
    exact ⟨_, rfl, pen, wh, hs, mk, rfl, hp, hF⟩
  case hk =>
    rintro _ ⟨pen, wh, hs, mk, rfl, hp, hF⟩
    simp only [Sum.elim_inl]
    rw [show u8O 109 = some 109 from rfl, show u8O 111 = some 111 from rfl, show u8O 114 = some 114 from rfl, show u8O 101 = some 101 from rfl]
    simp only [Option.bind_some]
    have hn : wh (Hs [109, 111, 114, 101]) = none := hF.none fun m hm e => nameB_ne (i := m) (by omega) e.symm
    rw [stPut_full pl pen wh hs mk _ (by simp) hn (by omega) (by omega) (by omega) (fun j h1 h2 => by
      have := hF.held j h1
      rcases e : freeB hs mk (j : Int) with _ | _
      · rfl
      · have := this.1 e; omega)]
    simp only [Option.bind_some]
    rw [stHold_eq _ _ _ _ [] (by simp)]
    simp only [Option.bind_some, List.foldl_nil, if_true]
    have hfree : ∀ j : Nat, freeB hs fnil (j : Int) = true := fun j => by
      unfold freeB
      rcases hs (j : Int) with _ | h
      · rfl
      · rfl
    by_cases h0 : k = 0
    · subst h0
      rw [stPut_full pl pen wh hs fnil _ (by simp) hn (by omega) (by omega) (by omega) (fun j h1 h2 => by omega)]
      simp
    · rw [stPut_at pl pen wh hs fnil _ (by simp) hn (by omega) (by omega) (by omega) 2 (by omega) (by omega) (hfree 2) (fun j h1 h2 => by omega)]
      simp only [Option.bind_some]
      rw [if_pos (by simp; omega), if_neg (by omega), stFree_eq _ _ _ _ _ _ _ (by omega) (by omega)]
      have hfr : frN (fset ((2 : Nat) : Int) (Hs [109, 111, 114, 101]) hs) (fset (Hs [109, 111, 114, 101]) 1 fnil) pl.length = pl.length - 3 := by
        refine frN_eq 1 pl.length fun j h1 h2 => ?_
        unfold freeB fset
        by_cases e : j = 2
        · subst e; simp
        · rw [if_neg (by omega), hF.hh j h1, if_pos (by omega)]
          simp only
          rw [if_neg (show ¬ nameB (j - 2) = Hs [109, 111, 114, 101] from nameB_ne (by omega))]
          simp [fnil]; omega
      rw [hfr]
      simp only [Option.bind_some]
      rw [if_pos (by omega)]
      have h20 : hs ((2 : Nat) : Int) = some (nameB 0) := by rw [hF.hh 2 (by omega), if_pos (by omega)]
      have hun : unwh hs ((2 : Nat) : Int) wh = fdel (nameB 0) wh := by unfold unwh; rw [h20]
      rw [hun]
      obtain ⟨l, hl1, hl2⟩ := stHashes_of (pl, pen ++ [(((2 : Nat) : Int), Wr [109, 111, 114, 101])], -1, false) (fset (Hs [109, 111, 114, 101]) ((2 : Nat) : Int) (fdel (nameB 0) wh)) (fset ((2 : Nat) : Int) (Hs [109, 111, 114, 101]) hs) (fset (Hs [109, 111, 114, 101]) 1 fnil) (nameM :: (List.range (k - 1)).map (fun m => nameB (m + 1))) (by
        refine List.nodup_cons.2 ⟨fun h => ?_, ?_⟩
        · obtain ⟨m, h1, h2⟩ := List.mem_map.1 h
          exact nameB_ne (i := m + 1) (by simp at h1; omega) h2
        · refine List.pairwise_map.2 (List.nodup_range.imp_of_mem fun {a b} ha hb hne e => hne ?_)
          have := nameB_inj (i := a + 1) (j := b + 1) (by simp at ha; omega) (by simp at hb; omega) e
          omega) (fun h => by
        rw [List.mem_cons, List.mem_map]
        unfold fset fdel
        by_cases e : h = Hs [109, 111, 114, 101]
        · rw [if_pos e]; exact ⟨fun _ => rfl, fun _ => .inl e⟩
        · rw [if_neg e]
          by_cases e0 : h = nameB 0
          · rw [if_pos e0]
            constructor
            · rintro (h1 | ⟨m, h1, h2⟩)
              · exact absurd h1 e
              · have := nameB_inj (i := m + 1) (j := 0) (by simp at h1; omega) (by omega) (h2.trans e0)
                omega
            · intro h; cases h
          · rw [if_neg e0, hF.hw h]
            constructor
            · rintro (h1 | ⟨m, h1, h2⟩)
              · exact absurd h1 e
              · exact ⟨m + 1, by simp at h1; omega, h2.symm⟩
            · rintro ⟨m, h1, h2⟩
              have : m ≠ 0 := fun em => e0 (by rw [h2, em])
              exact .inr ⟨m - 1, by simp; omega, by rw [show m - 1 + 1 = m by omega]; exact h2.symm⟩) (by simp; omega)
      rw [hl1]
      simp only [Option.bind_some, hl2.length_eq, List.length_cons, List.length_map, List.length_range]
      rw [decide_eq_true (by omega)]
end Go.Proofs.YtfepdfjhejkemaaDoor
