/- Plain: what is held stays. -/
import Derived.Test.YtfepdfjhejkemaaDoorSto
set_option linter.unusedSimpArgs false
set_option linter.unusedVariables false
namespace Go.Proofs.YtfepdfjhejkemaaDoor
open Go.RowKit Go.Tri
theorem getD_rep {α : Type} (n i : Nat) (x d : α) (h : i < n) : (List.replicate n x).getD i d = x := by
  rw [List.getD_eq_getElem?_getD, List.getElem?_replicate, if_pos h]; rfl
theorem fresh_512 (n : Nat) : All512 (List.replicate n (List.replicate 512 0)) := by
  intro i hi
  rw [List.length_replicate] at hi
  rw [getD_rep _ _ _ _ hi, List.length_replicate]
theorem Wr_ne (b : List UInt8) : List.replicate 512 (0 : UInt8) ≠ Wr b := by
  intro h
  have := congrArg List.head? h
  rw [List.head?_replicate] at this
  simp [Wr] at this
theorem fresh_open (n : Nat) (hn : n ≤ 4096) : stOpen (List.replicate n (List.replicate 512 0), [], -1, false) = some ((fnil, fnil, fnil), 0) := by
  obtain ⟨wh, hs, e, k1, k2, k3⟩ := stOpen_eq (List.replicate n (List.replicate 512 0)) (-1) (fresh_512 n) (by rw [List.length_replicate]; exact hn)
  have h1 : hs = fnil := by
    funext j
    rcases Option.eq_none_or_eq_some (hs j) with h | ⟨x, h⟩
    · rw [h]; rfl
    · obtain ⟨i, _, _, _, hi, b, _, h2, _⟩ := k2 j x h
      rw [List.length_replicate] at hi
      rw [getD_rep _ _ _ _ hi] at h2
      exact absurd h2 (Wr_ne b)
  have h2 : wh = fnil := by
    funext h
    rcases Option.eq_none_or_eq_some (wh h) with h' | ⟨x, h'⟩
    · rw [h']; rfl
    · have := k1 h x h'
      rw [h1] at this
      cases this
  rw [e, h1, h2]
theorem stPut_at (pl : List (List UInt8)) (pen : List (Int × List UInt8)) (wh : List UInt8 → Option Int) (hs : Int → Option (List UInt8)) (mk : List UInt8 → Option Int) (b : List UInt8) (hb : b.length ≤ 470) (hw : wh (Hs b) = none) (h2 : 2 ≤ pl.length) (hn : pl.length ≤ 4096) (hl : pen.length ≤ 1000000)
    (i : Nat) (hi : 2 ≤ i) (hil : i < pl.length) (hf : freeB hs mk (i : Int) = true) (hb4 : ∀ j : Nat, 2 ≤ j → j < i → freeB hs mk (j : Int) = false) :
    stPut ((pl, pen, -1, false), wh, hs, mk) b = some (Hs b, 0, ((pl, pen ++ [((i : Int), Wr b)], -1, false), fset (Hs b) (i : Int) (unwh hs i wh), fset (i : Int) (Hs b) hs, fset (Hs b) 1 mk)) := by
  rcases stPut_new pl pen wh hs mk b hb hw h2 hn hl with ⟨k, a1, a2, a3, a4, a5⟩ | ⟨a1, _⟩
  · have : k = i := by
      rcases Nat.lt_trichotomy k i with h | h | h
      · rw [hb4 k a1 h] at a3; cases a3
      · exact h
      · rw [a4 i hi h] at hf; cases hf
    rw [← this]; exact a5
  · rw [a1 i hi hil] at hf; cases hf
theorem stPut_full (pl : List (List UInt8)) (pen : List (Int × List UInt8)) (wh : List UInt8 → Option Int) (hs : Int → Option (List UInt8)) (mk : List UInt8 → Option Int) (b : List UInt8) (hb : b.length ≤ 470) (hw : wh (Hs b) = none) (h2 : 2 ≤ pl.length) (hn : pl.length ≤ 4096) (hl : pen.length ≤ 1000000)
    (hb4 : ∀ j : Nat, 2 ≤ j → j < pl.length → freeB hs mk (j : Int) = false) :
    stPut ((pl, pen, -1, false), wh, hs, mk) b = some (z32, 50, ((pl, pen, -1, false), wh, hs, mk)) := by
  rcases stPut_new pl pen wh hs mk b hb hw h2 hn hl with ⟨k, a1, a2, a3, a4, a5⟩ | ⟨_, a2⟩
  · rw [hb4 k a1 a2] at a3; cases a3
  · exact a2
/-! ### What the rest holds -/
structure P1 (pl : List (List UInt8)) (pen : List (Int × List UInt8)) (wh : List UInt8 → Option Int) (hs : Int → Option (List UInt8)) (mk : List UInt8 → Option Int) (names : List (List UInt8)) (i m : Nat) : Prop where
  hl : pl.length = 16
  h5 : All512 pl
  hp : PenOk pl.length pen
  hpl : pen.length ≤ i
  hm : m ≤ i
  hu : ∀ j : Int, hs j ≠ none ↔ 2 ≤ j ∧ j < 2 + (m : Int)
  hA : ∀ h j, wh h = some j → hs j = some h
  hB : ∀ j h, hs j = some h → mk h = some 1 ∧ ∃ b, b.length ≤ 470 ∧ (eff pl pen).getD j.toNat [] = Wr b ∧ Hs b = h
  hC : ∀ h ∈ names, (wh h).isSome = true
  hn : names.length = i
structure P2 (pl : List (List UInt8)) (pen : List (Int × List UInt8)) (hs : Int → Option (List UInt8)) (mk : List UInt8 → Option Int) (names : List (List UInt8)) (i : Nat) : Prop where
  hl : pl.length = 16
  h5 : All512 pl
  hp : PenOk pl.length pen
  hpl : pen.length ≤ i
  hH : ∀ h ∈ names, ∃ k : Nat, 2 ≤ k ∧ k < 16 ∧ hs (k : Int) = some h ∧ mk h = some 1 ∧ (∃ b, b.length ≤ 470 ∧ pl.getD k [] = Wr b ∧ Hs b = h) ∧ ∀ p ∈ pen, p.1 ≠ (k : Int)
theorem pen_snoc {n : Nat} {pen : List (Int × List UInt8)} (h : PenOk n pen) (i : Nat) (hi : i < n) (x : List UInt8) (hx : x.length = 512) : PenOk n (pen ++ [((i : Int), x)]) := by
  intro p hp
  rcases List.mem_append.1 hp with hp | hp
  · exact h p hp
  · rw [List.mem_singleton.1 hp]; exact ⟨by simp only; omega, by simp only; omega, hx⟩
theorem step1 {pl pen wh hs mk names} {i m : Nat} (h : P1 pl pen wh hs mk names i m) (b : List UInt8) (hb : b.length ≤ 470) (hi : i < 10) :
    ∃ pen' wh' hs' mk' m', stPut ((pl, pen, -1, false), wh, hs, mk) b = some (Hs b, 0, ((pl, pen', -1, false), wh', hs', mk')) ∧ P1 pl pen' wh' hs' mk' (names ++ [Hs b]) (i + 1) m' := by
  have mk1 : ∀ x, mk x = some 1 → fset (Hs b) 1 mk x = some 1 := fun x hx => by simp only [fset]; split <;> simp [hx]
  rcases Option.eq_none_or_eq_some (wh (Hs b)) with hw | ⟨j, hw⟩
  · have fr : ∀ j : Int, freeB hs mk j = true ↔ hs j = none := by
      intro j
      unfold freeB
      rcases Option.eq_none_or_eq_some (hs j) with h' | ⟨x, h'⟩
      · simp [h']
      · simp [h', (h.hB j x h').1]
    have hno : hs ((2 + m : Nat) : Int) = none := by
      rcases Option.eq_none_or_eq_some (hs ((2 + m : Nat) : Int)) with h' | ⟨x, h'⟩
      · exact h'
      · have := (h.hu _).1 (by rw [h']; simp)
        omega
    have hm := h.hm
    have hl := h.hl
    have e := stPut_at pl pen wh hs mk b hb hw (by omega) (by omega) (by have := h.hpl; omega) (2 + m) (by omega) (by omega) ((fr _).2 hno) (fun j h1 h2 => by
      have h3 := (h.hu (j : Int)).2 ⟨by omega, by omega⟩
      cases hf : freeB hs mk (j : Int)
      · rfl
      · exact absurd ((fr _).1 hf) h3)
    rw [show unwh hs ((2 + m : Nat) : Int) wh = wh by unfold unwh; rw [hno]] at e
    refine ⟨_, _, _, _, m + 1, e, ?_⟩
    have hsome : ∀ j x, hs j = some x → j ≠ ((2 + m : Nat) : Int) := fun j x hx hj => by rw [hj, hno] at hx; cases hx
    refine ⟨hl, h.h5, pen_snoc h.hp _ (by omega) _ (Wr_len b hb), by simp; exact h.hpl, by omega, ?_, ?_, ?_, ?_, by simp [h.hn]⟩
    · intro j
      simp only [fset]
      split
      · rename_i hj
        exact ⟨fun _ => ⟨by omega, by omega⟩, fun _ => by simp⟩
      · rename_i hj
        rw [h.hu j]
        omega
    · intro x j hx
      simp only [fset] at hx ⊢
      split at hx
      · rename_i e1
        injection hx with hx
        rw [if_pos hx.symm, e1]
      · have := h.hA x j hx
        rw [if_neg (hsome j x this)]
        exact this
    · intro j x hx
      rw [eff_snoc]
      simp only [fset] at hx
      split at hx
      · rename_i hj
        injection hx with hx
        refine ⟨by simp [fset, hx], b, hb, ?_, hx⟩
        rw [set_get, if_pos ⟨by rw [hj], by rw [eff_len]; simp only; omega⟩]
      · rename_i hj
        obtain ⟨a1, b', a2, a3, a4⟩ := h.hB j x hx
        refine ⟨mk1 x a1, b', a2, ?_, a4⟩
        have hj2 := (h.hu j).1 (by rw [hx]; simp)
        rw [set_get, if_neg (fun hh => hj (by have := hh.1; simp only at this; omega))]
        exact a3
    · intro x hx
      simp only [fset]
      split
      · rfl
      · rename_i hne
        rcases List.mem_append.1 hx with hx | hx
        · exact h.hC x hx
        · exact absurd (List.mem_singleton.1 hx) hne
  · have hw' : (wh (Hs b)).isSome = true := by rw [hw]; rfl
    refine ⟨pen, wh, hs, _, m, stPut_has pl pen wh hs mk b hb hw', h.hl, h.h5, h.hp, by have := h.hpl; omega, by have := h.hm; omega, h.hu, h.hA, fun j x hx => ⟨mk1 x (h.hB j x hx).1, (h.hB j x hx).2⟩, ?_, by simp [h.hn]⟩
    intro x hx
    rcases List.mem_append.1 hx with hx | hx
    · exact h.hC x hx
    · rw [List.mem_singleton.1 hx]; exact hw'
theorem step2 {pl pen hs mk names} {i : Nat} (wh : List UInt8 → Option Int) (h : P2 pl pen hs mk names i) (b : List UInt8) (hi : i ≤ 100) :
    ∃ n e pen' wh' hs' mk', stPut ((pl, pen, -1, false), wh, hs, mk) b = some (n, e, ((pl, pen', -1, false), wh', hs', mk')) ∧ P2 pl pen' hs' mk' names (i + 1) := by
  have stay : P2 pl pen hs mk names (i + 1) := ⟨h.hl, h.h5, h.hp, by have := h.hpl; omega, h.hH⟩
  have mk1 : ∀ x, mk x = some 1 → fset (Hs b) 1 mk x = some 1 := fun x hx => by simp only [fset]; split <;> simp [hx]
  by_cases hb : b.length ≤ 470
  · rcases Option.eq_none_or_eq_some (wh (Hs b)) with hw | ⟨j, hw⟩
    · rcases stPut_new pl pen wh hs mk b hb hw (by rw [h.hl]; omega) (by rw [h.hl]; omega) (by have := h.hpl; omega) with ⟨k, a1, a2, a3, a4, a5⟩ | ⟨_, a2⟩
      · refine ⟨_, _, _, _, _, _, a5, h.hl, h.h5, pen_snoc h.hp k a2 _ (Wr_len b hb), by simp; exact h.hpl, ?_⟩
        intro x hx
        obtain ⟨q, q1, q2, q3, q4, q5, q6⟩ := h.hH x hx
        have hne : (q : Int) ≠ (k : Int) := fun e => by
          unfold freeB at a3
          rw [← e, q3] at a3
          simp [q4] at a3
        refine ⟨q, q1, q2, by simp only [fset]; rw [if_neg hne]; exact q3, mk1 x q4, q5, ?_⟩
        intro p hp
        rcases List.mem_append.1 hp with hp | hp
        · exact q6 p hp
        · rw [List.mem_singleton.1 hp]; exact fun e => hne e.symm
      · exact ⟨_, _, _, _, _, _, a2, stay⟩
    · refine ⟨_, _, _, _, _, _, stPut_has pl pen wh hs mk b hb (by rw [hw]; rfl), h.hl, h.h5, h.hp, stay.hpl, ?_⟩
      intro x hx
      obtain ⟨q, q1, q2, q3, q4, q5, q6⟩ := h.hH x hx
      exact ⟨q, q1, q2, q3, mk1 x q4, q5, q6⟩
  · exact ⟨_, _, _, _, _, _, stPut_big pl pen wh hs mk b (by omega), stay⟩
theorem p12 {pl pen wh hs mk names} {i m : Nat} (h : P1 pl pen wh hs mk names i m) (hi : i ≤ 10) : P2 (eff pl pen) [] hs (names.foldl (fun m h => fset h 1 m) fnil) names 0 := by
  refine ⟨by rw [eff_len]; exact h.hl, eff_512 _ _ h.h5 h.hp, (fun p hp => by cases hp), by simp, ?_⟩
  intro x hx
  obtain ⟨j, hj⟩ := Option.isSome_iff_exists.1 (h.hC x hx)
  have h1 := h.hA x j hj
  have h2 := (h.hu j).1 (by rw [h1]; simp)
  have hm := h.hm
  refine ⟨j.toNat, by omega, by omega, by rw [show ((j.toNat : Nat) : Int) = j by omega]; exact h1, hold_marks names fnil x (.inl hx), (h.hB j x h1).2, (fun p hp => by cases hp)⟩
/-! ### The statement -/
theorem ne_ab : Hs [97] ≠ Hs [98] := by decide +kernel
theorem ne_ac : Hs [97] ≠ Hs [99] := by decide +kernel
theorem ne_bc : Hs [98] ≠ Hs [99] := by decide +kernel
theorem speaks_true : m_triremelaw05_speaks = some true := by
  have hab := ne_ab
  have hac := ne_ac
  have hbc := ne_bc
  have hra := rSum_eq [97] (by simp)
  have l1 : ([97] : List UInt8).length ≤ 470 := by simp
  have l2 : ([98] : List UInt8).length ≤ 470 := by simp
  have l3 : ([99] : List UInt8).length ≤ 470 := by simp
  unfold m_triremelaw05_speaks
  rw [show (4 : Int) = ((4 : Nat) : Int) from rfl, diskNew_eq 4 (by omega) (by omega)]
  simp only [Option.bind_some]
  rw [fresh_open 4 (by omega)]
  simp only [Option.bind_some, if_true]
  rw [show u8O 97 = some 97 from rfl, show u8O 98 = some 98 from rfl, show u8O 99 = some 99 from rfl]
  simp only [Option.bind_some]
  have hpl : (List.replicate 4 (List.replicate 512 (0 : UInt8))).length = 4 := List.length_replicate
  generalize List.replicate 4 (List.replicate 512 (0 : UInt8)) = pl at hpl ⊢
  have e1 := stPut_at pl [] fnil fnil fnil [97] l1 rfl (by omega) (by omega) (by simp) 2 (by omega) (by omega) rfl (fun j h1 h2 => by omega)
  rw [e1]
  simp only [Option.bind_some, List.nil_append]
  have e2 := stPut_at pl [(((2 : Nat) : Int), Wr [97])] (fset (Hs [97]) ((2 : Nat) : Int) (unwh fnil ((2 : Nat) : Int) fnil)) (fset ((2 : Nat) : Int) (Hs [97]) fnil) (fset (Hs [97]) 1 fnil) [98] l2 (by simp [fset, unwh, fnil, Ne.symm hab]) (by omega) (by omega) (by simp) 3 (by omega) (by omega) (by simp [freeB, fset, fnil]) (fun j h1 h2 => by
    obtain rfl : j = 2 := by omega
    simp [freeB, fset])
  rw [e2]
  simp only [Option.bind_some]
  generalize Hs [97] = ha at *
  generalize Hs [98] = hb at *
  have e3 := fun pen hp h4 h5 => stPut_full pl pen (fset hb ((3 : Nat) : Int) (unwh (fset ((2 : Nat) : Int) ha fnil) ((3 : Nat) : Int) (fset ha ((2 : Nat) : Int) (unwh fnil ((2 : Nat) : Int) fnil)))) (fset ((3 : Nat) : Int) hb (fset ((2 : Nat) : Int) ha fnil)) (fset hb 1 (fset ha 1 fnil)) [99] l3 h4 (by omega) (by omega) hp h5
  rw [e3 _ (by simp) (by simp [fset, unwh, fnil, Ne.symm hac, Ne.symm hbc]) (fun j h1 h2 => by
    have : j = 2 ∨ j = 3 := by omega
    rcases this with rfl | rfl
    · simp [freeB, fset]
    · simp [freeB, fset])]
  simp only [Option.bind_some]
  rw [stHold_eq _ _ _ _ [] (by simp)]
  simp only [Option.bind_some, List.foldl_nil]
  have e4 := fun pen hp h4 h5 => stPut_at pl pen (fset hb ((3 : Nat) : Int) (unwh (fset ((2 : Nat) : Int) ha fnil) ((3 : Nat) : Int) (fset ha ((2 : Nat) : Int) (unwh fnil ((2 : Nat) : Int) fnil)))) (fset ((3 : Nat) : Int) hb (fset ((2 : Nat) : Int) ha fnil)) fnil [99] l3 h4 (by omega) (by omega) hp 2 (by omega) (by omega) h5 (fun j h1 h2 => by omega)
  rw [e4 _ (by simp) (by simp [fset, unwh, fnil, Ne.symm hac, Ne.symm hbc]) (by simp [freeB, fset, fnil])]
  simp only [Option.bind_some, if_true]
  rw [hra]
  simp only [Option.bind_some, if_true]
  generalize Hs [99] = hc at *
  have hh : (fset hc ((2 : Nat) : Int) (unwh (fset ((3 : Nat) : Int) hb (fset ((2 : Nat) : Int) ha fnil)) ((2 : Nat) : Int) (fset hb ((3 : Nat) : Int) (unwh (fset ((2 : Nat) : Int) ha fnil) ((3 : Nat) : Int) (fset ha ((2 : Nat) : Int) (unwh fnil ((2 : Nat) : Int) fnil)))))) ha = none := by
    simp [fset, unwh, fnil, fdel, hac, hab]
  simp only [stHas, hh, Option.bind_some, Option.isSome_none, Bool.not_false, if_true]
  have hf : ∀ (d : (List (List UInt8)) × (List (Int × (List UInt8))) × Int × Bool) wh, d.1.length = 4 → stFree (d, wh, fset ((2 : Nat) : Int) hc (fset ((3 : Nat) : Int) hb (fset ((2 : Nat) : Int) ha fnil)), fset hc 1 fnil) = some 1 := by
    intro d wh hd
    unfold stFree
    simp only [diskSectors, Option.bind_some, stfree_eq, hd]
    rw [loopO_eq, if_pos (by simp only; omega), show freeB (fset ((2 : Nat) : Int) hc (fset ((3 : Nat) : Int) hb (fset ((2 : Nat) : Int) ha fnil))) (fset hc 1 fnil) 2 = false by simp [freeB, fset]]
    simp only [Option.bind_some]
    rw [show IntKind.i64.wrap (2 + 1) = 3 from rfl]
    rw [if_neg (by simp)]
    simp only [Option.bind_some]
    rw [loopO_eq, if_pos (by simp only; omega), show freeB (fset ((2 : Nat) : Int) hc (fset ((3 : Nat) : Int) hb (fset ((2 : Nat) : Int) ha fnil))) (fset hc 1 fnil) 3 = true by simp [freeB, fset, fnil, hbc]]
    simp only [Option.bind_some]
    rw [show IntKind.i64.wrap (3 + 1) = 4 from rfl, if_pos trivial, show IntKind.i64.wrap (0 + 1) = 1 from rfl]
    simp only [Option.bind_some]
    rw [loopO_eq, if_neg (by simp only; omega)]
    rfl
  rw [hf _ _ hpl]
  rfl
theorem keeps_true (kept more : List (List UInt8)) (fates : List Int) : m_triremelaw05_StoreKeeps kept more fates = some true := by
  unfold m_triremelaw05_StoreKeeps
  rw [speaks_true]
  simp only [Option.bind_some]
  rw [if_neg (by simp)]
  by_cases h10 : 10 < (kept.length : Int)
  · rw [if_pos h10]
  rw [if_neg h10]
  by_cases h30 : 30 < (more.length : Int)
  · rw [if_pos h30]
  rw [if_neg h30, show (16 : Int) = ((16 : Nat) : Int) from rfl, diskNew_eq 16 (by omega) (by omega)]
  simp only [Option.bind_some]
  rw [fresh_open 16 (by omega)]
  simp only [Option.bind_some]
  refine bind_run (fun i s => ∃ pl pen wh hs mk names m, s = ((wh, hs, mk), (pl, pen, -1, false), names, (i : Int)) ∧ P1 pl pen wh hs mk names i m)
    (fun r => r = .inr true ∨ ∃ pl pen wh hs mk names m, r = .inl ((wh, hs, mk), (pl, pen, -1, false), names) ∧ P1 pl pen wh hs mk names kept.length m) kept.length ?h0 ?hs ?he ?hk
  case h0 =>
    refine ⟨_, _, _, _, _, _, 0, rfl, by rw [List.length_replicate], fresh_512 16, (fun p hp => by cases hp), by simp, by omega, ?_, (fun h j e => by simp [fnil] at e), (fun h j e => by simp [fnil] at e), (fun h e => by cases e), rfl⟩
    intro j
    exact ⟨fun h => absurd rfl h, fun h => by omega⟩
  case hs =>
    rintro i _ hi ⟨pl, pen, wh, hs, mk, names, m, rfl, hP⟩
    simp only
    rw [if_pos (by omega), idxO_getD [] rfl hi]
    simp only [Option.bind_some]
    by_cases hb : 470 < ((kept.getD i []).length : Int)
    · rw [if_pos hb]
      exact .inr ⟨_, rfl, .inl rfl⟩
    · rw [if_neg hb]
      obtain ⟨pen', wh', hs', mk', m', e, hP'⟩ := step1 hP (kept.getD i []) (by omega) (by omega)
      rw [e]
      simp only [Option.bind_some, if_true]
      rw [rSum_eq _ (by omega)]
      simp only [Option.bind_some, if_true]
      rw [appO_of (by rw [hP.hn]; simp only [List.length_cons, List.length_nil]; omega), i64_id (by omega) (by omega)]
      exact .inl ⟨_, rfl, pl, pen', wh', hs', mk', _, m', rfl, hP'⟩
  case he =>
    rintro _ ⟨pl, pen, wh, hs, mk, names, m, rfl, hP⟩
    simp only
    rw [if_neg (by omega)]
    exact ⟨_, rfl, .inr ⟨pl, pen, wh, hs, mk, names, m, rfl, hP⟩⟩
  case hk =>
    rintro r (rfl | ⟨pl, pen, wh, hs, mk, names, m, rfl, hP⟩)
    · rfl
    have hn := hP.hn
    simp only [Sum.elim_inl]
    rw [diskFlush_eq pl pen hP.hp (by have := hP.hpl; omega)]
    simp only [Option.bind_some]
    rw [stHold_eq _ _ _ _ names (by omega)]
    simp only [Option.bind_some]
    have hQ := p12 hP (by omega)
    refine bind_run (fun i s => ∃ pen' wh' hs' mk', s = ((wh', hs', mk'), (eff pl pen, pen', -1, false), (i : Int)) ∧ P2 (eff pl pen) pen' hs' mk' names i)
      (fun r => ∃ pen' wh' hs' mk', r = ((wh', hs', mk'), (eff pl pen, pen', -1, false)) ∧ P2 (eff pl pen) pen' hs' mk' names more.length) more.length ?h0 ?hs ?he ?hk
    case h0 => exact ⟨_, _, _, _, rfl, hQ⟩
    case hs =>
      rintro i _ hi ⟨pen', wh', hs', mk', rfl, hP2⟩
      simp only
      rw [if_pos (by omega), idxO_getD [] rfl hi]
      simp only [Option.bind_some]
      obtain ⟨n, e, pen2, wh2, hs2, mk2, he, hP3⟩ := step2 wh' hP2 (more.getD i []) (by omega)
      rw [he, i64_id (by omega) (by omega)]
      exact .inl ⟨_, rfl, pen2, wh2, hs2, mk2, rfl, hP3⟩
    case he =>
      rintro _ ⟨pen', wh', hs', mk', rfl, hP2⟩
      simp only
      rw [if_neg (by omega)]
      exact ⟨_, rfl, pen', wh', hs', mk', rfl, hP2⟩
    case hk =>
      rintro _ ⟨pen', wh', hs', mk', rfl, hP2⟩
      simp only
      obtain ⟨q, hq, q1, q2, q3⟩ := diskCrash_eq (eff pl pen) pen' fates hP2.hp hP2.h5 (by rw [hP2.hl]; omega) (by have := hP2.hpl; omega)
      rw [hq]
      simp only [Option.bind_some]
      have hl16 : q.length = 16 := by rw [q1, hP2.hl]
      obtain ⟨wh3, hs3, ho, hK⟩ := stOpen_eq q (-1) q2 (by omega)
      rw [ho]
      simp only [Option.bind_some, if_true]
      refine bind_run (fun i (s : Int) => s = (i : Int)) (fun r => r = .inl ()) names.length rfl ?hs ?he ?hk
      case hs =>
        rintro i _ hi rfl
        rw [if_pos (by omega), idxO_getD [] rfl hi]
        simp only [Option.bind_some]
        have hmem : names.getD i [] ∈ names := by rw [List.getD_eq_getElem?_getD, List.getElem?_eq_getElem hi]; exact List.getElem_mem hi
        generalize names.getD i [] = x at hmem ⊢
        obtain ⟨k, k1, k2, k3, k4, ⟨b, b1, b2, b3⟩, k6⟩ := hP2.hH x hmem
        have hw : (wh3 x).isSome = true := by
          have := hK.2.2 k b k1 (by omega) b1 (by rw [q3 k k6]; exact b2)
          rwa [b3] at this
        obtain ⟨b', c1, c2, c3⟩ := stGet_eq q (-1) wh3 hs3 fnil x q2 hK hw
        rw [c3]
        simp only [Option.bind_some, if_true]
        rw [idxO_getD [] rfl (show i < kept.length by omega)]
        simp only [Option.bind_some]
        rw [i64_id (by omega) (by omega), rSum_eq b' (by omega), c2]
        simp only [Option.bind_some, if_true]
        left
        refine ⟨((i + 1 : Nat) : Int), ?_, rfl⟩
        split <;> rfl
      case he =>
        rintro _ rfl
        rw [if_neg (by omega)]
        exact ⟨_, rfl, rfl⟩
      case hk =>
        rintro _ rfl
        rfl
end Go.Proofs.YtfepdfjhejkemaaDoor
