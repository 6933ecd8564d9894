/- Names and paths, in plain terms. -/
import Derived.Test.YtodggokkklfopaaDoorT
import Derived.Test.YtodggokkklfopaaDoorRows
import Derived.Lib.SplitLaws
set_option linter.unusedSimpArgs false
set_option linter.unusedVariables false
namespace Go.Proofs.YtodggokkklfopaaDoor
open Go.ChangeShapes Go.WideShapes Go.ChangeAt Go.RowKit Go.Tri
def okc (c : UInt8) : Bool := decide (33 ≤ c.toNat) && decide (c.toNat ≤ 126) && !decide (c.toNat = 47)
theorem okc_true {c : UInt8} (h1 : ¬ ((c.toNat : Nat) : Int) < 33) (h2 : ¬ (126 : Int) < ((c.toNat : Nat) : Int)) (h3 : ¬ ((c.toNat : Nat) : Int) = 47) : okc c = true := by
  simp [okc]; omega
def nameB (l : List UInt8) : Bool := decide (1 ≤ l.length) && decide (l.length ≤ 8) && l.all okc
theorem name_bad {l : List UInt8} {k : Nat} {c : UInt8} (hc : l[k]? = some c) (h : okc c = false) : nameB l = false := by
  have : l.all okc = false := by
    rw [List.all_eq_false]
    exact ⟨c, List.mem_of_getElem? hc, by simp [h]⟩
  simp [nameB, this]
theorem okc_lo {c : UInt8} (h : ((c.toNat : Nat) : Int) < 33) : okc c = false := by simp [okc]; omega
theorem okc_hi {c : UInt8} (h : (126 : Int) < ((c.toNat : Nat) : Int)) : okc c = false := by simp [okc]; omega
theorem okc_sl {c : UInt8} (h : ((c.toNat : Nat) : Int) = 47) : okc c = false := by simp [okc]; omega
theorem all_succ {l : List UInt8} {k : Nat} {c : UInt8} (hc : l[k]? = some c) (h : (l.take k).all okc = true) (h1 : okc c = true) : (l.take (k + 1)).all okc = true := by
  rw [List.take_add_one, hc, List.all_append, h]; simp [h1]
theorem name_good {l : List UInt8} (h : l.all okc = true) (h1 : 1 ≤ l.length) (h2 : l.length ≤ 8) : nameB l = true := by simp [nameB, h, h1, h2]
theorem elemStr : ElemT Tryd.prog 23 9 1 16 (.string ByteArray.empty) := ⟨Tryd.underlying23, by kernel_rfl, rfl, by decide⟩
theorem plStr : Plain Tryd.prog 9 := by unfold Plain; kernel_rfl
theorem z1Str : Zero1 Tryd.prog 9 (.string ByteArray.empty) := ⟨by kernel_rfl, rfl⟩
/-- A text cut at each stroke. -/
def sp : List UInt8 → List (List UInt8)
  | [] => [[]]
  | c :: r => if c = 47 then [] :: sp r else match sp r with | h :: t => (c :: h) :: t | [] => [[c]]
theorem split_sp : ∀ s : List UInt8, Lib.splitK [47] 0 (Lib.count s [47]) s = sp s
  | [] => by rw [Lib.count_miss (by simp [Lib.index])]; rfl
  | c :: r => by
    have ih := split_sp r
    by_cases h : c = 47
    · subst h
      rw [Lib.count_cons_eq, Nat.add_comm, Lib.splitK]
      have hix : Lib.index (47 :: r) [47] = 0 := by rw [Lib.index]; simp [List.isPrefixOf]
      rw [hix]
      simp only [sp, if_true]
      rw [if_neg (by decide)]
      simpa using ih
    · have hp : ([47] : List UInt8).isPrefixOf (c :: r) = false := by simp [List.isPrefixOf, Ne.symm h]
      have hix : Lib.index (c :: r) [47] = if Lib.index r [47] == -1 then -1 else Lib.index r [47] + 1 := by rw [Lib.index, hp]; simp
      rw [Lib.count_cons_ne c 47 r h]
      simp only [sp, h, if_false]
      by_cases hm : Lib.index r [47] = -1
      · rw [Lib.count_miss hm] at ih ⊢
        rw [← ih]; rfl
      · have hge := Lib.index_ge r [47]
        obtain ⟨j, hj⟩ : ∃ j : Nat, Lib.index r [47] = j := ⟨(Lib.index r [47]).toNat, by omega⟩
        rw [Lib.count_hit (by simp) hj, Nat.add_comm] at ih ⊢
        rw [Lib.splitK, hj, if_neg (by simp)] at ih
        rw [Lib.splitK, hix, hj, if_neg (show ¬ (((j : Int) == -1) = true) by simp), if_neg (by simp; omega), ← ih]
        simp only [Int.toNat_natCast, Nat.add_zero]
        rw [show ((j : Int) + 1).toNat = j + 1 by omega]
        rfl
/-- A text as one cell. -/
def txC (l : List UInt8) : List Value := [.string (txb l)]
theorem txC_len (x : List UInt8) (_ : True) : (txC x).length = 1 := rfl
theorem txC_flat (x : List UInt8) : Flat (txC x) := by intro v hv; simp [txC] at hv; subst hv; rfl
theorem rows_txC (xs : List (List UInt8)) : rows txC xs = xs.map fun l => Value.string (txb l) := by
  induction xs with
  | nil => rfl
  | cons x xs ih => rw [rows_cons, ih]; rfl
end Go.Proofs.YtodggokkklfopaaDoor
