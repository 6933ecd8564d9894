/- Plain: StoreTwice. -/
import Derived.Test.YtfepdfjhejkemaaDoorCnt
set_option linter.unusedSimpArgs false
set_option linter.unusedVariables false
namespace Go.Proofs.YtfepdfjhejkemaaDoor
open Go.RowKit Go.Tri
theorem unwh_none {hs : Int → Option (List UInt8)} {i : Int} {wh : List UInt8 → Option Int} (h : hs i = none) : unwh hs i wh = wh := by unfold unwh; rw [h]
theorem pen_one {n : Nat} (i : Nat) (hi : i < n) (x : List UInt8) (hx : x.length = 512) : PenOk n [((i : Int), x)] := pen_snoc (pen := []) (fun p hp => by cases hp) i hi x hx
theorem twice_true (a b : List UInt8) : m_triremelaw05_StoreTwice a b = some true := by
  unfold m_triremelaw05_StoreTwice
  rw [speaks_true]
  simp only [Option.bind_some]
  rw [if_neg (by simp)]
  by_cases ha : 470 < (a.length : Int)
  · rw [if_pos ha]
  rw [if_neg ha]
  by_cases hb : 470 < (b.length : Int)
  · rw [if_pos hb]
  rw [if_neg hb, show (9 : Int) = ((9 : Nat) : Int) from rfl, diskNew_eq 9 (by omega) (by omega)]
  simp only [Option.bind_some]
  rw [fresh_open 9 (by omega)]
  simp only [Option.bind_some]
  have hpl : (List.replicate 9 (List.replicate 512 (0 : UInt8))).length = 9 := List.length_replicate
  have h5 := fresh_512 9
  generalize List.replicate 9 (List.replicate 512 (0 : UInt8)) = pl at hpl h5 ⊢
  have la : a.length ≤ 470 := by omega
  have lb : b.length ≤ 470 := by omega
  rw [stPut_at pl [] fnil fnil fnil a la rfl (by omega) (by omega) (by simp) 2 (by omega) (by omega) rfl (fun j h1 h2 => by omega)]
  simp only [Option.bind_some, List.nil_append]
  rw [unwh_none (hs := fnil) rfl, stFree_eq _ _ _ _ _ _ _ (by omega) (by omega)]
  have f6 : ∀ mk : List UInt8 → Option Int, mk (Hs a) = some 1 → frN (fset ((2 : Nat) : Int) (Hs a) fnil) mk pl.length = 6 := by
    intro mk hm
    rw [hpl]
    refine frN_eq 1 9 fun i h1 h2 => ?_
    by_cases e : i = 2
    · subst e; simp [freeB, fset, hm]
    · have : ¬ ((i : Int) = 2) := by omega
      simp [freeB, fset, fnil, this]; omega
  rw [f6 _ (by simp [fset])]
  simp only [Option.bind_some]
  rw [stPut_has pl _ _ _ _ a la (by simp [fset])]
  simp only [Option.bind_some]
  have hm : fset (Hs a) (1 : Int) (fset (Hs a) 1 fnil) (Hs a) = some 1 := by simp [fset]
  generalize fset (Hs a) (1 : Int) (fset (Hs a) 1 fnil) = mk at hm ⊢
  have hWa := Wr_len a la
  have hWb := Wr_len b lb
  by_cases hab : Hs a = Hs b
  · rw [stPut_has pl _ _ _ _ b lb (by simp [fset, hab])]
    simp only [Option.bind_some]
    rw [stGet_eff pl [(((2 : Nat) : Int), Wr a)] (-1) _ _ _ (Hs a) a 2 (by omega) (pen_one 2 (by omega) _ hWa) h5 (by simp [fset]) la (by simp [eff, List.getD_eq_getElem?_getD, hpl]) rfl]
    simp only [Option.bind_some, if_true]
    rw [if_pos (by rfl), if_pos hab, stFree_eq _ _ _ _ _ _ _ (by omega) (by omega), f6 _ (by simp [fset, hab])]
    simp only [Option.bind_some]
    rw [if_pos (by rfl)]
  · rw [stPut_at pl _ _ _ _ b lb (by simp [fset, fnil, Ne.symm hab]) (by omega) (by omega) (by simp) 3 (by omega) (by omega) (by simp [freeB, fset, fnil]) (fun j h1 h2 => by
      obtain rfl : j = 2 := by omega
      simp [freeB, fset, hm])]
    simp only [Option.bind_some]
    rw [unwh_none (by simp [fset, fnil])]
    rw [stGet_eff pl ([(((2 : Nat) : Int), Wr a)] ++ [(((3 : Nat) : Int), Wr b)]) (-1) _ _ _ (Hs a) a 2 (by omega) (pen_snoc (pen_one 2 (by omega) _ hWa) 3 (by omega) _ hWb) h5 (by simp [fset, hab]) la (by simp [eff, List.getD_eq_getElem?_getD, hpl]) rfl]
    simp only [Option.bind_some, if_true]
    rw [if_pos (by rfl), if_neg hab, if_neg hab, stFree_eq _ _ _ _ _ _ _ (by omega) (by omega)]
    have f5 : frN (fset ((3 : Nat) : Int) (Hs b) (fset ((2 : Nat) : Int) (Hs a) fnil)) (fset (Hs b) 1 mk) pl.length = 5 := by
      rw [hpl]
      refine frN_eq 2 9 fun i h1 h2 => ?_
      by_cases e : i = 2
      · subst e; simp [freeB, fset, hm, hab]
      · by_cases e3 : i = 3
        · subst e3; simp [freeB, fset]
        · have t2 : ¬ ((i : Int) = 2) := by omega
          have t3 : ¬ ((i : Int) = 3) := by omega
          simp [freeB, fset, fnil, t2, t3]; omega
    rw [f5]
    simp only [Option.bind_some]
    rw [if_pos (by rfl)]
    obtain ⟨l, hl1, hl2⟩ := stHashes_of (pl, [(((2 : Nat) : Int), Wr a)] ++ [(((3 : Nat) : Int), Wr b)], -1, false) (fset (Hs b) ((3 : Nat) : Int) (fset (Hs a) ((2 : Nat) : Int) fnil)) (fset ((3 : Nat) : Int) (Hs b) (fset ((2 : Nat) : Int) (Hs a) fnil)) (fset (Hs b) 1 mk) [Hs a, Hs b] (by simp [hab]) (fun k => by
      simp only [fset, fnil, List.mem_cons, List.not_mem_nil, or_false]
      by_cases k1 : k = Hs b
      · simp [k1]
      · by_cases k2 : k = Hs a
        · simp [k2, hab]
        · simp [k1, k2]) (by simp)
    rw [hl1]
    simp only [Option.bind_some, hl2.length_eq]
    rfl
end Go.Proofs.YtfepdfjhejkemaaDoor
