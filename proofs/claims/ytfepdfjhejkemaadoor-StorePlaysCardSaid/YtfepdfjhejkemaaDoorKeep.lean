/- Plain: what is held stays. -/
import Derived.Test.YtfepdfjhejkemaaDoorSto
set_option linter.unusedSimpArgs false
set_option linter.unusedVariables false
namespace Go.Proofs.YtfepdfjhejkemaaDoor
open Go.RowKit Go.Tri
theorem getD_rep {α : Type} (n i : Nat) (x d : α) (h : i < n) : (List.replicate n x).getD i d = x := by
  rw [List.getD_eq_getElem?_getD, List.getElem?_replicate, if_pos h]; rfl
theorem fresh_512 (n : Nat) : All512 (List.replicate n (List.replicate 512 0)) := by
  intro i hi
  rw [List.length_replicate] at hi
  rw [getD_rep _ _ _ _ hi, List.length_replicate]
theorem Wr_ne (b : List UInt8) : List.replicate 512 (0 : UInt8) ≠ Wr b := by
  intro h
  have := congrArg List.head? h
  rw [List.head?_replicate] at this
  simp [Wr] at this
theorem fresh_open (n : Nat) (hn : n ≤ 4096) : stOpen (List.replicate n (List.replicate 512 0), [], -1, false) = some ((fnil, fnil, fnil), 0) := by
  obtain ⟨wh, hs, e, k1, k2, k3⟩ := stOpen_eq (List.replicate n (List.replicate 512 0)) (-1) (fresh_512 n) (by rw [List.length_replicate]; exact hn)
  have h1 : hs = fnil := by
    funext j
    rcases Option.eq_none_or_eq_some (hs j) with h | ⟨x, h⟩
    · rw [h]; rfl
    · obtain ⟨i, _, _, _, hi, b, _, h2, _⟩ := k2 j x h
      rw [List.length_replicate] at hi
      rw [getD_rep _ _ _ _ hi] at h2
      exact absurd h2 (Wr_ne b)
  have h2 : wh = fnil := by
    funext h
    rcases Option.eq_none_or_eq_some (wh h) with h' | ⟨x, h'⟩
    · rw [h']; rfl
    · have := k1 h x h'
      rw [h1] at this
      cases this
  rw [e, h1, h2]
theorem stPut_at (pl : List (List UInt8)) (pen : List (Int × List UInt8)) (wh : List UInt8 → Option Int) (hs : Int → Option (List UInt8)) (mk : List UInt8 → Option Int) (b : List UInt8) (hb : b.length ≤ 470) (hw : wh (Hs b) = none) (h2 : 2 ≤ pl.length) (hn : pl.length ≤ 4096) (hl : pen.length ≤ 1000000)
    (i : Nat) (hi : 2 ≤ i) (hil : i < pl.length) (hf : freeB hs mk (i : Int) = true) (hb4 : ∀ j : Nat, 2 ≤ j → j < i → freeB hs mk (j : Int) = false) :
    stPut ((pl, pen, -1, false), wh, hs, mk) b = some (Hs b, 0, ((pl, pen ++ [((i : Int), Wr b)], -1, false), fset (Hs b) (i : Int) (unwh hs i wh), fset (i : Int) (Hs b) hs, fset (Hs b) 1 mk)) := by
  rcases stPut_new pl pen wh hs mk b hb hw h2 hn hl with ⟨k, a1, a2, a3, a4, a5⟩ | ⟨a1, _⟩
  · have : k = i := by
      rcases Nat.lt_trichotomy k i with h | h | h
      · rw [hb4 k a1 h] at a3; cases a3
      · exact h
      · rw [a4 i hi h] at hf; cases hf
    rw [← this]; exact a5
  · rw [a1 i hi hil] at hf; cases hf
theorem stPut_full (pl : List (List UInt8)) (pen : List (Int × List UInt8)) (wh : List UInt8 → Option Int) (hs : Int → Option (List UInt8)) (mk : List UInt8 → Option Int) (b : List UInt8) (hb : b.length ≤ 470) (hw : wh (Hs b) = none) (h2 : 2 ≤ pl.length) (hn : pl.length ≤ 4096) (hl : pen.length ≤ 1000000)
    (hb4 : ∀ j : Nat, 2 ≤ j → j < pl.length → freeB hs mk (j : Int) = false) :
    stPut ((pl, pen, -1, false), wh, hs, mk) b = some (z32, 50, ((pl, pen, -1, false), wh, hs, mk)) := by
  rcases stPut_new pl pen wh hs mk b hb hw h2 hn hl with ⟨k, a1, a2, a3, a4, a5⟩ | ⟨_, a2⟩
  · rw [hb4 k a1 a2] at a3; cases a3
  · exact a2
/-! ### What the rest holds -/
structure P1 (pl : List (List UInt8)) (pen : List (Int × List UInt8)) (wh : List UInt8 → Option Int) (hs : Int → Option (List UInt8)) (mk : List UInt8 → Option Int) (names : List (List UInt8)) (i m : Nat) : Prop where
  hl : pl.length = 16
  h5 : All512 pl
  hp : PenOk pl.length pen
  hpl : pen.length ≤ i
  hm : m ≤ i
  hu : ∀ j : Int, hs j ≠ none ↔ 2 ≤ j ∧ j < 2 + (m : Int)
  hA : ∀ h j, wh h = some j → hs j = some h
  hB : ∀ j h, hs j = some h → mk h = some 1 ∧ ∃ b, b.length ≤ 470 ∧ (eff pl pen).getD j.toNat [] = Wr b ∧ Hs b = h
  hC : ∀ h ∈ names, (wh h).isSome = true
  hn : names.length = i
structure P2 (pl : List (List UInt8)) (pen : List (Int × List UInt8)) (hs : Int → Option (List UInt8)) (mk : List UInt8 → Option Int) (names : List (List UInt8)) (i : Nat) : Prop where
  hl : pl.length = 16
  h5 : All512 pl
  hp : PenOk pl.length pen
  hpl : pen.length ≤ i
  hH : ∀ h ∈ names, ∃ k : Nat, 2 ≤ k ∧ k < 16 ∧ hs (k : Int) = some h ∧ mk h = some 1 ∧ (∃ b, b.length ≤ 470 ∧ pl.getD k [] = Wr b ∧ Hs b = h) ∧ ∀ p ∈ pen, p.1 ≠ (k : Int)
theorem pen_snoc {n : Nat} {pen : List (Int × List UInt8)} (h : PenOk n pen) (i : Nat) (hi : i < n) (x : List UInt8) (hx : x.length = 512) : PenOk n (pen ++ [((i : Int), x)]) := by
  intro p hp
  rcases List.mem_append.1 hp with hp | hp
  · exact h p hp
  · rw [List.mem_singleton.1 hp]; exact ⟨by simp only; omega, by simp only; omega, hx⟩
/-! ### The statement -/
theorem ne_ab : Hs [97] ≠ Hs [98] := by decide +kernel
theorem ne_ac : Hs [97] ≠ Hs [99] := by decide +kernel
theorem ne_bc : Hs [98] ≠ Hs [99] := by decide +kernel
theorem speaks_true : m_triremelaw05_speaks = some true := by
  have hab := ne_ab
  have hac := ne_ac
  have hbc := ne_bc
  have hra := rSum_eq [97] (by simp)
  have l1 : ([97] : List UInt8).length ≤ 470 := by simp
  have l2 : ([98] : List UInt8).length ≤ 470 := by simp
  have l3 : ([99] : List UInt8).length ≤ 470 := by simp
  unfold m_triremelaw05_speaks
  rw [show (4 : Int) = ((4 : Nat) : Int) from rfl, diskNew_eq 4 (by omega) (by omega)]
  simp only [Option.bind_some]
  rw [fresh_open 4 (by omega)]
  simp only [Option.bind_some, if_true]
  rw [show u8O 97 = some 97 from rfl, show u8O 98 = some 98 from rfl, show u8O 99 = some 99 from rfl]
  simp only [Option.bind_some]
  have hpl : (List.replicate 4 (List.replicate 512 (0 : UInt8))).length = 4 := List.length_replicate
  generalize List.replicate 4 (List.replicate 512 (0 : UInt8)) = pl at hpl ⊢
  have e1 := stPut_at pl [] fnil fnil fnil [97] l1 rfl (by omega) (by omega) (by simp) 2 (by omega) (by omega) rfl (fun j h1 h2 => by omega)
  rw [e1]
  simp only [Option.bind_some, List.nil_append]
  have e2 := stPut_at pl [(((2 : Nat) : Int), Wr [97])] (fset (Hs [97]) ((2 : Nat) : Int) (unwh fnil ((2 : Nat) : Int) fnil)) (fset ((2 : Nat) : Int) (Hs [97]) fnil) (fset (Hs [97]) 1 fnil) [98] l2 (by simp [fset, unwh, fnil, Ne.symm hab]) (by omega) (by omega) (by simp) 3 (by omega) (by omega) (by simp [freeB, fset, fnil]) (fun j h1 h2 => by
    obtain rfl : j = 2 := by omega
    simp [freeB, fset])
  rw [e2]
  simp only [Option.bind_some]
  generalize Hs [97] = ha at *
  generalize Hs [98] = hb at *
  have e3 := fun pen hp h4 h5 => stPut_full pl pen (fset hb ((3 : Nat) : Int) (unwh (fset ((2 : Nat) : Int) ha fnil) ((3 : Nat) : Int) (fset ha ((2 : Nat) : Int) (unwh fnil ((2 : Nat) : Int) fnil)))) (fset ((3 : Nat) : Int) hb (fset ((2 : Nat) : Int) ha fnil)) (fset hb 1 (fset ha 1 fnil)) [99] l3 h4 (by omega) (by omega) hp h5
  rw [e3 _ (by simp) (by simp [fset, unwh, fnil, Ne.symm hac, Ne.symm hbc]) (fun j h1 h2 => by
    have : j = 2 ∨ j = 3 := by omega
    rcases this with rfl | rfl
    · simp [freeB, fset]
    · simp [freeB, fset])]
  simp only [Option.bind_some]
  rw [stHold_eq _ _ _ _ [] (by simp)]
  simp only [Option.bind_some, List.foldl_nil]
  have e4 := fun pen hp h4 h5 => stPut_at pl pen (fset hb ((3 : Nat) : Int) (unwh (fset ((2 : Nat) : Int) ha fnil) ((3 : Nat) : Int) (fset ha ((2 : Nat) : Int) (unwh fnil ((2 : Nat) : Int) fnil)))) (fset ((3 : Nat) : Int) hb (fset ((2 : Nat) : Int) ha fnil)) fnil [99] l3 h4 (by omega) (by omega) hp 2 (by omega) (by omega) h5 (fun j h1 h2 => by omega)
  rw [e4 _ (by simp) (by simp [fset, unwh, fnil, Ne.symm hac, Ne.symm hbc]) (by simp [freeB, fset, fnil])]
  simp only [Option.bind_some, if_true]
  rw [hra]
  simp only [Option.bind_some, if_true]
  generalize Hs [99] = hc at *
  have hh : (fset hc ((2 : Nat) : Int) (unwh (fset ((3 : Nat) : Int) hb (fset ((2 : Nat) : Int) ha fnil)) ((2 : Nat) : Int) (fset hb ((3 : Nat) : Int) (unwh (fset ((2 : Nat) : Int) ha fnil) ((3 : Nat) : Int) (fset ha ((2 : Nat) : Int) (unwh fnil ((2 : Nat) : Int) fnil)))))) ha = none := by
    simp [fset, unwh, fnil, fdel, hac, hab]
  simp only [stHas, hh, Option.bind_some, Option.isSome_none, Bool.not_false, if_true]
  have hf : ∀ (d : (List (List UInt8)) × (List (Int × (List UInt8))) × Int × Bool) wh, d.1.length = 4 → stFree (d, wh, fset ((2 : Nat) : Int) hc (fset ((3 : Nat) : Int) hb (fset ((2 : Nat) : Int) ha fnil)), fset hc 1 fnil) = some 1 := by
    intro d wh hd
    unfold stFree
    simp only [diskSectors, Option.bind_some, stfree_eq, hd]
    rw [loopO_eq, if_pos (by simp only; omega), show freeB (fset ((2 : Nat) : Int) hc (fset ((3 : Nat) : Int) hb (fset ((2 : Nat) : Int) ha fnil))) (fset hc 1 fnil) 2 = false by simp [freeB, fset]]
    simp only [Option.bind_some]
    rw [show IntKind.i64.wrap (2 + 1) = 3 from rfl]
    rw [if_neg (by simp)]
    simp only [Option.bind_some]
    rw [loopO_eq, if_pos (by simp only; omega), show freeB (fset ((2 : Nat) : Int) hc (fset ((3 : Nat) : Int) hb (fset ((2 : Nat) : Int) ha fnil))) (fset hc 1 fnil) 3 = true by simp [freeB, fset, fnil, hbc]]
    simp only [Option.bind_some]
    rw [show IntKind.i64.wrap (3 + 1) = 4 from rfl, if_pos trivial, show IntKind.i64.wrap (0 + 1) = 1 from rfl]
    simp only [Option.bind_some]
    rw [loopO_eq, if_neg (by simp only; omega)]
    rfl
  rw [hf _ _ hpl]
  rfl
end Go.Proofs.YtfepdfjhejkemaaDoor
