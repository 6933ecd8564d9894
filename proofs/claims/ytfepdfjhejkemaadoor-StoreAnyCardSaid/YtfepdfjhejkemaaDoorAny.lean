/- Plain: StoreAny. -/
import Derived.Test.YtfepdfjhejkemaaDoorTwice
set_option linter.unusedSimpArgs false
set_option linter.unusedVariables false
namespace Go.Proofs.YtfepdfjhejkemaaDoor
open Go.RowKit Go.Tri
theorem stOpen_gen (d : T_disk_Disk_o) (pl : List (List UInt8)) (hd : d.1.length = pl.length) (hR : ∀ i : Nat, i < pl.length → diskRead d (i : Int) = some (pl.getD i [], 0)) (h5 : All512 pl) (hn : pl.length ≤ 4096) :
    ∃ wh hs, stOpen d = some ((wh, hs, fnil), 0) ∧ Known pl pl.length wh hs := by
  unfold stOpen diskSectors
  rw [hd]
  simp only [Option.bind_some]
  refine bind_runP (C := fun o => ∃ wh hs, o = some ((wh, hs, fnil), 0) ∧ Known pl pl.length wh hs) (fun i s => s.2 = (i : Int) ∧ Known pl i s.1.1 s.1.2.1 ∧ s.1.2.2 = fnil) (fun r => ∃ wh hs, r = .inl (wh, hs, fnil) ∧ Known pl pl.length wh hs) pl.length ⟨rfl, known0 pl, rfl⟩ ?hs ?he ?hk
  case hk =>
    rintro _ ⟨wh, hs, rfl, hK⟩
    exact ⟨wh, hs, rfl, hK⟩
  case he =>
    rintro ⟨⟨wh, hs, mk⟩, k⟩ ⟨h1, h2, h3⟩
    simp only at h1 h2 h3
    subst h1; subst h3
    exact ⟨_, by simp only; rw [if_neg (by omega)], wh, hs, rfl, h2⟩
  case hs =>
    rintro i ⟨⟨wh, hs, mk⟩, k⟩ hi ⟨h1, hK, h3⟩
    simp only at h1 hK h3
    subst h1; subst h3
    obtain ⟨k1, k2, k3⟩ := hK
    left
    simp only
    have hl := h5 i hi
    rw [if_pos (by omega), hR i hi]
    simp only [Option.bind_some, if_true]
    obtain ⟨b, r, hu, hb⟩ := unwrap_total _ hl
    rw [hu, i64_id (by omega) (by omega)]
    simp only [Option.bind_some]
    have up : ∀ j h, hs j = some h → ∃ i' : Nat, j = (i' : Int) ∧ 2 ≤ i' ∧ i' < i + 1 ∧ i' < pl.length ∧ ∃ b, b.length ≤ 470 ∧ pl.getD i' [] = Wr b ∧ Hs b = h := fun j h e => by
      obtain ⟨i', a1, a2, a3, a4⟩ := k2 j h e
      exact ⟨i', a1, a2, by omega, a4⟩
    by_cases h2 : i < 2
    · rw [if_pos (by omega)]
      refine ⟨((wh, hs, fnil), ((i + 1 : Nat) : Int)), rfl, rfl, ⟨k1, up, fun i' b' c1 c2 c3 c4 => by omega⟩, rfl⟩
    · rw [if_neg (by omega)]
      by_cases hr : r = 0
      · obtain ⟨hbl, hbw⟩ := hb hr
        rw [if_pos hr, shaSum_eq b (by omega)]
        simp only [Option.bind_some]
        have same : ∀ b', b'.length ≤ 470 → pl.getD i [] = Wr b' → b' = b := fun b' c3 c4 => by
          have := unwrap_Wr b' c3
          rw [← c4, hu] at this
          injection this with this
          injection this with e1 e2
          exact e1.symm
        by_cases hw : (wh (Hs b)).isSome = true
        · rw [if_neg (by simp [hw])]
          refine ⟨((wh, hs, fnil), ((i + 1 : Nat) : Int)), rfl, rfl, ⟨k1, up, fun i' b' c1 c2 c3 c4 => ?_⟩, rfl⟩
          by_cases e : i' = i
          · subst e; rw [same b' c3 c4]; exact hw
          · exact k3 i' b' c1 (by omega) c3 c4
        · rw [if_pos (by simpa using hw)]
          have hno : ∀ h, wh h ≠ some (i : Int) := fun h e => by
            obtain ⟨i', a1, _, a3, _⟩ := k2 _ _ (k1 h _ e)
            omega
          refine ⟨((fset (Hs b) (i : Int) wh, fset (i : Int) (Hs b) hs, fnil), ((i + 1 : Nat) : Int)), rfl, rfl, ⟨?_, ?_, ?_⟩, rfl⟩
          · intro h j e
            simp only [fset] at e ⊢
            split at e
            · rename_i eh
              injection e with e
              rw [if_pos e.symm, eh]
            · rw [if_neg (fun ej => hno h (by rw [e, ej]))]
              exact k1 h j e
          · intro j h e
            simp only [fset] at e
            split at e
            · rename_i ej
              injection e with e
              exact ⟨i, ej, by omega, by omega, hi, b, hbl, hbw, e⟩
            · exact up j h e
          · intro i' b' c1 c2 c3 c4
            simp only [fset]
            split
            · rfl
            · rename_i hne
              by_cases e : i' = i
              · subst e; exact absurd (by rw [same b' c3 c4]) hne
              · exact k3 i' b' c1 (by omega) c3 c4
      · rw [if_neg hr]
        refine ⟨((wh, hs, fnil), ((i + 1 : Nat) : Int)), rfl, rfl, ⟨k1, up, fun i' b' c1 c2 c3 c4 => ?_⟩, rfl⟩
        by_cases e : i' = i
        · subst e
          have := unwrap_Wr b' c3
          rw [← c4, hu] at this
          injection this with this
          injection this with e1 e2
          exact absurd e2 hr
        · exact k3 i' b' c1 (by omega) c3 c4
theorem stOpen_eff (pl : List (List UInt8)) (pen : List (Int × List UInt8)) (lim : Int) (h5 : All512 pl) (hp : PenOk pl.length pen) (hn : pl.length ≤ 4096) :
    ∃ wh hs, stOpen (pl, pen, lim, false) = some ((wh, hs, fnil), 0) ∧ Known (eff pl pen) (eff pl pen).length wh hs :=
  stOpen_gen (pl, pen, lim, false) (eff pl pen) (eff_len pl pen).symm (fun i hi => diskRead_eff pl pen lim i (by rw [eff_len] at hi; exact hi) hp h5) (eff_512 pen pl h5 hp) (by rw [eff_len]; exact hn)
theorem known_keys {q : List (List UInt8)} {n : Nat} {wh : List UInt8 → Option Int} {hs : Int → Option (List UInt8)} (hK : Known q n wh hs) : ∃ ks : List (List UInt8), ks.Nodup ∧ (∀ k, k ∈ ks ↔ (wh k).isSome = true) ∧ ks.length ≤ n - 2 := by
  obtain ⟨k1, k2, k3⟩ := hK
  let f : Nat → Option (List UInt8) := fun i => match hs ((i + 2 : Nat) : Int) with
    | none => none
    | some h => if wh h = some ((i + 2 : Nat) : Int) then some h else none
  have hf : ∀ i h, f i = some h ↔ wh h = some ((i + 2 : Nat) : Int) := by
    intro i h
    show (match hs ((i + 2 : Nat) : Int) with | none => none | some h => if wh h = some ((i + 2 : Nat) : Int) then some h else none) = some h ↔ _
    constructor
    · intro e
      split at e
      · cases e
      · split at e
        · injection e with e; subst e; assumption
        · cases e
    · intro e
      rw [k1 h _ e]
      simp [e]
  refine ⟨(List.range (n - 2)).filterMap f, ?_, fun k => ?_, ?_⟩
  · refine List.Pairwise.filterMap f (fun a a' hne b hb b' hb' e => hne ?_) List.nodup_range
    subst e
    have h1 := (hf a b).1 hb
    have h2 := (hf a' b).1 hb'
    rw [h1] at h2
    injection h2 with h2
    omega
  · rw [List.mem_filterMap]
    constructor
    · rintro ⟨i, _, h⟩
      rw [(hf i k).1 h]; rfl
    · intro h
      obtain ⟨j, hj⟩ := Option.isSome_iff_exists.1 h
      obtain ⟨i, rfl, a2, a3, _⟩ := k2 j k (k1 k j hj)
      exact ⟨i - 2, by simp; omega, (hf _ _).2 (by rw [show i - 2 + 2 = i by omega]; exact hj)⟩
  · refine Nat.le_trans (List.length_filterMap_le _ _) ?_
    simp
theorem any_true (raw : List (List UInt8)) : m_triremelaw05_StoreAny raw = some true := by
  unfold m_triremelaw05_StoreAny
  rw [speaks_true]
  simp only [Option.bind_some]
  rw [if_neg (by simp)]
  by_cases h12 : 12 < (raw.length : Int)
  · rw [if_pos h12]
  rw [if_neg h12, show (16 : Int) = ((16 : Nat) : Int) from rfl, diskNew_eq 16 (by omega) (by omega)]
  simp only [Option.bind_some]
  have hpl : (List.replicate 16 (List.replicate 512 (0 : UInt8))).length = 16 := List.length_replicate
  have h5 := fresh_512 16
  generalize List.replicate 16 (List.replicate 512 (0 : UInt8)) = pl at hpl h5 ⊢
  refine bind_run (fun i s => ∃ pen, s = ((pl, pen, -1, false), (i : Int)) ∧ pen.length = i ∧ PenOk pl.length pen) (fun r => ∃ pen, r = (pl, pen, -1, false) ∧ PenOk pl.length pen) raw.length ⟨[], rfl, rfl, fun p hp => by cases hp⟩ ?hs ?he ?hk
  case hs =>
    rintro i _ hi ⟨pen, rfl, hl, hp⟩
    simp only
    rw [if_pos (by omega), idxO_getD [] rfl hi, show mkO 512 (0 : UInt8) = some (List.replicate 512 0) from rfl]
    simp only [Option.bind_some]
    have hlen : (putAt (List.replicate 512 (0 : UInt8)) 0 ((raw.getD i []).take (List.replicate 512 (0 : UInt8)).length)).length = 512 := putAt_512 _ _ 0 List.length_replicate (by rw [List.length_take, List.length_replicate]; omega)
    generalize putAt (List.replicate 512 (0 : UInt8)) 0 ((raw.getD i []).take (List.replicate 512 (0 : UInt8)).length) = y at hlen ⊢
    rw [diskWrite_eq pl pen i y (by omega) hlen (by omega)]
    simp only [Option.bind_some]
    rw [i64_id (by omega) (by omega)]
    exact .inl ⟨_, rfl, _, rfl, by simp [hl], pen_snoc hp i (by omega) y hlen⟩
  case he =>
    rintro _ ⟨pen, rfl, hl, hp⟩
    simp only
    rw [if_neg (by omega)]
    exact ⟨_, rfl, pen, rfl, hp⟩
  case hk =>
    rintro _ ⟨pen, rfl, hp⟩
    obtain ⟨wh, hs, ho, hK⟩ := stOpen_eff pl pen (-1) h5 hp (by omega)
    rw [ho]
    simp only [Option.bind_some, if_true]
    have hel : (eff pl pen).length = 16 := by rw [eff_len, hpl]
    obtain ⟨ks, n1, n2, n3⟩ := known_keys hK
    rw [hel] at n3
    obtain ⟨l, hl1, hl2⟩ := stHashes_of (pl, pen, -1, false) wh hs fnil ks n1 n2 (by omega)
    rw [hl1]
    simp only [Option.bind_some]
    have hll : l.length ≤ 14 := by rw [hl2.length_eq]; exact n3
    refine bind_run (fun i (s : Int) => s = (i : Int)) (fun r => r = .inl ()) l.length rfl ?hs ?he ?hk
    case hs =>
      rintro i _ hi rfl
      rw [if_pos (by omega), idxO_getD [] rfl hi]
      simp only [Option.bind_some]
      have hmem : l.getD i [] ∈ l := by rw [List.getD_eq_getElem?_getD, List.getElem?_eq_getElem hi]; exact List.getElem_mem hi
      generalize l.getD i [] = x at hmem ⊢
      have hw := (n2 x).1 (hl2.mem_iff.1 hmem)
      obtain ⟨j, hj⟩ := Option.isSome_iff_exists.1 hw
      obtain ⟨k1, k2, k3⟩ := hK
      obtain ⟨i', rfl, a2, a3, a4, b, b1, b2, b3⟩ := k2 j x (k1 x j hj)
      rw [stGet_eff pl pen (-1) wh hs fnil x b i' (by omega) hp h5 hj b1 b2 b3]
      simp only [Option.bind_some, if_true]
      rw [rSum_eq b (by omega), b3]
      simp only [Option.bind_some, if_true]
      rw [if_neg (by omega), i64_id (by omega) (by omega)]
      exact .inl ⟨_, rfl, rfl⟩
    case he =>
      rintro _ rfl
      rw [if_neg (by omega)]
      exact ⟨_, rfl, rfl⟩
    case hk =>
      rintro _ rfl
      simp only [Sum.elim_inl]
      rw [stFree_eq _ _ _ _ _ _ _ (by omega) (by omega), frN_eq 0 pl.length (fun j h1 h2 => by
        unfold freeB
        rcases hs (j : Int) with _ | h
        · simp; omega
        · simp [fnil]; omega), hpl]
      simp only [Option.bind_some]
      rw [if_pos (by rfl)]
      simp; omega
end Go.Proofs.YtfepdfjhejkemaaDoor
