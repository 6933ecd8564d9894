/- Plain: free sectors, digests in order, reads of what is not flushed. -/
import Derived.Test.YtfepdfjhejkemaaDoorKeep
set_option linter.unusedSimpArgs false
set_option linter.unusedVariables false
namespace Go.Proofs.YtfepdfjhejkemaaDoor
open Go.RowKit Go.Tri
/-! ### Free sectors -/
def frN (hs : Int → Option (List UInt8)) (mk : List UInt8 → Option Int) : Nat → Nat
  | 0 => 0
  | i + 1 => frN hs mk i + if 2 ≤ i ∧ freeB hs mk (i : Int) = true then 1 else 0
theorem frN_succ (hs : Int → Option (List UInt8)) (mk : List UInt8 → Option Int) (i : Nat) : frN hs mk (i + 1) = frN hs mk i + if 2 ≤ i ∧ freeB hs mk (i : Int) = true then 1 else 0 := rfl
theorem frN_le (hs : Int → Option (List UInt8)) (mk : List UInt8 → Option Int) : ∀ n, frN hs mk n ≤ n
  | 0 => Nat.le_refl _
  | n + 1 => by
    have := frN_le hs mk n
    simp only [frN]
    split <;> omega
theorem stFree_eq (pl : List (List UInt8)) (pen : List (Int × List UInt8)) (lim : Int) (dn : Bool) (wh : List UInt8 → Option Int) (hs : Int → Option (List UInt8)) (mk : List UInt8 → Option Int) (h2 : 2 ≤ pl.length) (hn : pl.length ≤ 4096) :
    stFree ((pl, pen, lim, dn), wh, hs, mk) = some ((frN hs mk pl.length : Nat) : Int) := by
  unfold stFree
  refine bind_run (fun i s => s = (((frN hs mk (i + 2) : Nat) : Int), ((i + 2 : Nat) : Int))) (fun r => r = ((frN hs mk pl.length : Nat) : Int)) (pl.length - 2) rfl ?_ ?_ ?_
  · rintro i _ hi rfl
    refine .inl ⟨_, ?_, rfl⟩
    simp only [diskSectors, Option.bind_some]
    rw [if_pos (by omega), stfree_eq]
    simp only [Option.bind_some]
    obtain ⟨j, hj⟩ : ∃ j, j = i + 2 := ⟨_, rfl⟩
    rw [show i + 1 + 2 = j + 1 by omega, ← hj, frN_succ]
    have hle := frN_le hs mk j
    by_cases hf : freeB hs mk (j : Int) = true
    · rw [if_pos hf, if_pos ⟨by omega, hf⟩, i64_id (by omega) (by omega)]
      simp only [Option.bind_some]
      rw [i64_id (by omega) (by omega)]
      rfl
    · rw [if_neg hf, if_neg (fun h => hf h.2)]
      simp only [Option.bind_some]
      rw [i64_id (by omega) (by omega)]
      rfl
  · rintro _ rfl
    refine ⟨_, ?_, rfl⟩
    simp only [diskSectors, Option.bind_some]
    rw [if_neg (by omega), show pl.length - 2 + 2 = pl.length by omega]
  · rintro _ rfl
    rfl
/-! ### Reads of what is not flushed -/
theorem backL_snoc {γ : Type} (xs : List γ) (x : γ) : backL (xs ++ [x]) = ((xs.length : Int), x) :: backL xs := by
  simp [backL, List.zipIdx_append]
theorem back_find (pl : List (List UInt8)) (i : Nat) (h : i < pl.length) {k : Unit ⊕ List UInt8 → Option ((List UInt8) × Int)} {f : Unit → Int × (Int × List UInt8) → Option (Unit ⊕ List UInt8)}
    (hf : ∀ x : Int × (Int × List UInt8), x.2.2.length ≤ 274877906944 → f () x = if x.2.1 = (i : Int) then some (.inr x.2.2) else some (.inl ())) (k0 : k (.inl ()) = some (pl.getD i [], 0)) (k1 : ∀ b, k (.inr b) = some (b, 0)) :
    ∀ pen : List (Int × List UInt8), PenOk pl.length pen → Option.bind (foldO f () (backL pen)) k = some ((eff pl pen).getD i [], 0) := by
  suffices H : ∀ n (pen : List (Int × List UInt8)), pen.length = n → PenOk pl.length pen → Option.bind (foldO f () (backL pen)) k = some ((eff pl pen).getD i [], 0) from fun pen => H _ pen rfl
  intro n
  induction n with
  | zero =>
    intro pen hp _
    obtain rfl := List.eq_nil_of_length_eq_zero hp
    exact k0
  | succ n ih =>
    intro pen hp hok
    obtain ⟨xs, x, rfl⟩ : ∃ xs x, pen = xs ++ [x] := ⟨pen.dropLast, pen.getLast (by intro e; rw [e] at hp; cases hp), (List.dropLast_concat_getLast _).symm⟩
    have hx := hok x (by simp)
    rw [backL_snoc, eff_snoc, set_get]
    simp only [foldO]
    rw [hf _ (by simp only; omega)]
    simp only
    have hlen := eff_len pl xs
    by_cases e : x.1 = (i : Int)
    · rw [if_pos e, if_pos ⟨by omega, by rw [hlen]; omega⟩]
      exact k1 x.2
    · rw [if_neg e, if_neg (fun h => e (by omega))]
      exact ih xs (by simp at hp; exact hp) fun p hp => hok p (by simp [hp])
theorem diskRead_eff (pl : List (List UInt8)) (pen : List (Int × List UInt8)) (lim : Int) (i : Nat) (h : i < pl.length) (hp : PenOk pl.length pen) (h5 : All512 pl) : diskRead (pl, pen, lim, false) (i : Int) = some ((eff pl pen).getD i [], 0) := by
  unfold diskRead
  simp only
  rw [if_neg (by simp), if_neg (by omega), if_neg (by omega)]
  refine back_find pl i h (fun x hx => ?_) ?_ (fun b => rfl) pen hp
  · rw [cloneB_eq _ hx]
    rfl
  · simp only [Sum.elim_inl]
    rw [idxO_getD [] rfl h]
    simp only [Option.bind_some]
    rw [cloneB_eq _ (by rw [h5 i h]; omega)]
    rfl
end Go.Proofs.YtfepdfjhejkemaaDoor
