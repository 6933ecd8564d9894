/- Plain: nodes are read. -/
import Derived.Test.YtnjemlkcamdbfaaGreatDoorTrC
set_option linter.unusedSimpArgs false
set_option linter.unusedVariables false
namespace Go.Proofs.YtnjemlkcamdbfaaGreatDoor
open Go.RowKit Go.Tri
/-! ### Texts are read -/
def num2 (a b : UInt8) : Nat := a.toNat * 256 + b.toNat
theorem num2_lt (a b : UInt8) : num2 a b < 65536 := by have := a.toNat_lt; have := b.toNat_lt; unfold num2; omega
theorem u8_toNat (c : UInt8) : u8 (c.toNat : Int) = c := by simp [u8]
theorem len2_num2 (a b : UInt8) : len2 (num2 a b) = [a, b] := by
  have h1 := a.toNat_lt
  have h2 := b.toNat_lt
  unfold len2 num2
  rw [show (a.toNat * 256 + b.toNat) / 256 ^ 1 % 256 = a.toNat by omega, show (a.toNat * 256 + b.toNat) / 256 ^ 0 % 256 = b.toNat by omega, u8_toNat, u8_toNat]
theorem num2_len2 (n : Nat) (hn : n < 65536) : ∃ a b, len2 n = [a, b] ∧ num2 a b = n := by
  refine ⟨_, _, rfl, ?_⟩
  unfold num2
  simp only [u8, Int.toNat_natCast]
  have e1 : (UInt8.ofNat (n / 256 ^ 1 % 256)).toNat = n / 256 ^ 1 % 256 := by simp
  have e2 : (UInt8.ofNat (n / 256 ^ 0 % 256)).toNat = n / 256 ^ 0 % 256 := by simp
  rw [e1, e2]
  omega
/-- A text ahead, and what is behind. -/
def rdT : List UInt8 → Option (List UInt8 × List UInt8)
  | a :: b :: r => if num2 a b ≤ r.length then some (r.take (num2 a b), r.drop (num2 a b)) else none
  | _ => none
theorem rdT_cons (a b : UInt8) (r : List UInt8) : rdT (a :: b :: r) = if num2 a b ≤ r.length then some (r.take (num2 a b), r.drop (num2 a b)) else none := rfl
theorem rdT_tx (b r : List UInt8) (h : b.length < 65536) : rdT (tx b ++ r) = some (b, r) := by
  obtain ⟨x, y, e1, e2⟩ := num2_len2 b.length h
  unfold tx
  rw [e1]
  show (if num2 x y ≤ (b ++ r).length then some ((b ++ r).take (num2 x y), (b ++ r).drop (num2 x y)) else none) = _
  rw [e2, if_pos (by simp), List.take_left' rfl, List.drop_left' rfl]
theorem rdT_some {e t r : List UInt8} (h : rdT e = some (t, r)) : e = tx t ++ r ∧ t.length < 65536 := by
  unfold rdT at h
  split at h
  · rename_i a b r'
    split at h
    · rename_i hl
      cases h
      have h3 : (r'.take (num2 a b)).length = num2 a b := by rw [List.length_take]; omega
      refine ⟨?_, by rw [h3]; exact num2_lt a b⟩
      unfold tx
      rw [h3, len2_num2]
      simp
    · cases h
  · cases h
theorem eyeRaw_ok (e : List UInt8) (n : Nat) (h : n ≤ e.length) (hl : e.length ≤ 274877906944) : eyeRaw e (n : Int) = some (e.take n, 0, e.drop n) := by
  unfold eyeRaw
  rw [if_neg (by omega), if_neg (by omega), show slcO e 0 (n : Int) = some ((e.take n).drop 0) from slcO_of (i := 0) (by omega) h]
  simp only [Option.bind_some, List.drop_zero]
  rw [cloneB_eq _ (by simp; omega), slcO_of h (Nat.le_refl _), List.take_length]
  rfl
theorem eyeRaw_no (e : List UInt8) (n : Nat) (h : e.length < n) : eyeRaw e (n : Int) = some ([], 20, e) := by
  unfold eyeRaw
  rw [if_neg (by omega), if_pos (by omega)]
theorem shlor (x : Nat) (c : UInt8) (hx : x < 256) : orI .u64 (shlI .u64 (x : Int) 8) (IntKind.u64.wrap (c.toNat : Int)) = ((x * 256 + c.toNat : Nat) : Int) := by
  have hc := c.toNat_lt
  rw [u64_id (by omega) (by omega)]
  generalize c.toNat = m at hc
  have e1 : shlI .u64 (x : Int) 8 = ((x * 256 : Nat) : Int) := by
    unfold shlI
    rw [wrap_u64']
    have : (2 : Int) ^ min (8 : Int).toNat IntKind.u64.bits = 256 := by decide
    rw [this]
    omega
  rw [e1]
  unfold orI
  have e2 : (BitVec.ofInt IntKind.u64.bits ((x * 256 : Nat) : Int) ||| BitVec.ofInt IntKind.u64.bits (m : Int)).toNat = x * 256 + m := by
    rw [BitVec.toNat_or, BitVec.toNat_ofInt, BitVec.toNat_ofInt]
    have h0 : ((2 ^ IntKind.u64.bits : Nat) : Int) = 18446744073709551616 := by decide
    have h1 : (((x * 256 : Nat) : Int) % ((2 ^ IntKind.u64.bits : Nat) : Int)).toNat = x * 256 := by rw [h0]; omega
    have h2 : ((m : Int) % ((2 ^ IntKind.u64.bits : Nat) : Int)).toNat = m := by rw [h0]; omega
    rw [h1, h2]
    have h3 : m < 2 ^ 8 := by omega
    have := Nat.shiftLeft_add_eq_or_of_lt h3 x
    rw [Nat.shiftLeft_eq] at this
    exact this.symm
  rw [e2, wrap_u64']
  omega
theorem eyeUint1 (e : List UInt8) (hl : e.length ≤ 274877906944) : eyeUint e 1 = some (match e with | a :: r => ((a.toNat : Int), 0, r) | [] => (0, 20, [])) := by
  unfold eyeUint
  rw [if_neg (by omega), if_neg (by omega)]
  cases e with
  | nil =>
    rw [show eyeRaw [] 1 = some ([], 20, []) from rfl]
    simp only [Option.bind_some]
    rw [loopO_eq, if_neg (by simp)]
    rfl
  | cons a r =>
    rw [show eyeRaw (a :: r) 1 = some ((a :: r).take 1, 0, (a :: r).drop 1) from eyeRaw_ok _ 1 (by simp) hl]
    simp only [Option.bind_some, List.take_succ_cons, List.take_zero, List.drop_succ_cons, List.drop_zero]
    rw [loopO_eq]
    simp only
    rw [if_pos (by simp), show idxO [a] 0 = some a from rfl]
    simp only [Option.bind_some]
    rw [show orI .u64 (shlI .u64 0 8) (IntKind.u64.wrap (a.toNat : Int)) = _ from shlor 0 a (by omega), loopO_eq]
    simp only
    rw [show IntKind.i64.wrap (0 + 1) = 1 from rfl, if_neg (by simp)]
    simp
theorem eyeUint2 (e : List UInt8) (hl : e.length ≤ 274877906944) : eyeUint e 2 = some (match e with | a :: b :: r => ((num2 a b : Int), 0, r) | _ => (0, 20, e)) := by
  unfold eyeUint
  rw [if_neg (by omega), if_neg (by omega)]
  match e, hl with
  | [], _ =>
    rw [show eyeRaw [] 2 = some ([], 20, []) from rfl]
    simp only [Option.bind_some]
    rw [loopO_eq, if_neg (by simp)]
    rfl
  | [a], _ =>
    rw [show eyeRaw [a] 2 = some ([], 20, [a]) from rfl]
    simp only [Option.bind_some]
    rw [loopO_eq, if_neg (by simp)]
    rfl
  | a :: b :: r, hl =>
    rw [show eyeRaw (a :: b :: r) 2 = some ((a :: b :: r).take 2, 0, (a :: b :: r).drop 2) from eyeRaw_ok _ 2 (by simp) hl]
    simp only [Option.bind_some, List.take_succ_cons, List.take_zero, List.drop_succ_cons, List.drop_zero]
    rw [loopO_eq]
    simp only
    rw [if_pos (by simp), show idxO [a, b] 0 = some a from rfl]
    simp only [Option.bind_some]
    rw [show orI .u64 (shlI .u64 0 8) (IntKind.u64.wrap (a.toNat : Int)) = _ from shlor 0 a (by omega), loopO_eq]
    simp only
    rw [show IntKind.i64.wrap (0 + 1) = 1 from rfl, if_pos (by simp), show idxO [a, b] 1 = some b from rfl]
    simp only [Option.bind_some]
    rw [show ((0 * 256 + a.toNat : Nat) : Int) = (a.toNat : Int) by omega, shlor a.toNat b a.toNat_lt, loopO_eq]
    simp only
    rw [show IntKind.i64.wrap (1 + 1) = 2 from rfl, if_neg (by simp)]
    rfl
theorem eyeText_eq (e : List UInt8) (hl : e.length ≤ 274877906944) : eyeText e = some (match rdT e with | some (t, r) => (t, 0, r) | none => ([], 20, e)) := by
  unfold eyeText
  rw [eyeUint2 e hl]
  simp only [Option.bind_some]
  match e, hl with
  | [], _ => simp [rdT]
  | [a], _ => simp [rdT]
  | a :: b :: r, hl =>
    simp only [if_true]
    have hn := num2_lt a b
    rw [i64_id (by omega) (by omega)]
    rw [rdT_cons]
    simp only [List.length_cons] at hl
    by_cases h : num2 a b ≤ r.length
    · rw [eyeRaw_ok _ _ h (by omega), if_pos h]
      simp
    · rw [eyeRaw_no _ _ (by omega), if_neg h]
      simp
theorem r2Number_eq (a b : UInt8) : r2Number [a, b] = some (num2 a b : Int) := by
  have h1 := a.toNat_lt
  have h2 := b.toNat_lt
  unfold r2Number
  rw [loopO_eq]
  simp only
  rw [if_pos (by simp), show idxO [a, b] 0 = some a from rfl]
  simp only [Option.bind_some]
  rw [loopO_eq]
  simp only
  rw [show IntKind.i64.wrap (0 + 1) = 1 from rfl, if_pos (by simp), show idxO [a, b] 1 = some b from rfl]
  simp only [Option.bind_some]
  rw [loopO_eq]
  simp only
  rw [show IntKind.i64.wrap (1 + 1) = 2 from rfl, if_neg (by simp)]
  simp only [Option.bind_some, wrap_u64', num2]
  congr 1
  omega
theorem r2Raw_ok (B : List UInt8) (I n : Nat) (h : I + n ≤ B.length) (hl : B.length ≤ 100000000) : r2Raw (B, (I : Int)) (n : Int) = some ((B.drop I).take n, 0, (B, ((I + n : Nat) : Int))) := by
  unfold r2Raw
  simp only
  rw [if_neg (by omega), i64_id (n := (B.length : Int) - I) (by omega) (by omega), if_neg (by omega), i64_id (n := (I : Int) + n) (by omega) (by omega), i64_id (n := (I : Int) + n - n) (by omega) (by omega), show (I : Int) + n - n = (I : Int) by omega, show (I : Int) + n = ((I + n : Nat) : Int) by omega, slcO_of (by omega) h]
  simp only [Option.bind_some]
  rw [appO_of (by simp; omega)]
  simp only [Option.bind_some, List.nil_append]
  rw [List.drop_take, show I + n - I = n by omega]
theorem r2Raw_no (B : List UInt8) (I n : Nat) (h : B.length < I + n) (hI : I ≤ B.length) (hl : B.length ≤ 100000000) : r2Raw (B, (I : Int)) (n : Int) = some ([], 20, (B, (I : Int))) := by
  unfold r2Raw
  simp only
  rw [if_neg (by omega), i64_id (n := (B.length : Int) - I) (by omega) (by omega), if_pos (by omega)]
theorem r2Text_eq (B : List UInt8) (I : Nat) (hI : I ≤ B.length) (hl : B.length ≤ 100000000) : r2Text (B, (I : Int)) = some (match rdT (B.drop I) with | some (t, r) => (t, 0, (B, ((I + 2 + t.length : Nat) : Int))) | none => ([], 20, (B, (I : Int)))) := by
  unfold r2Text
  simp only
  rw [i64_id (n := (B.length : Int) - I) (by omega) (by omega)]
  by_cases h2 : B.length < I + 2
  · rw [if_pos (by omega)]
    have : rdT (B.drop I) = none := by
      have hlen : (B.drop I).length < 2 := by rw [List.length_drop]; omega
      match hd : B.drop I with
      | [] => rfl
      | [_] => rfl
      | _ :: _ :: _ => rw [hd] at hlen; simp at hlen; omega
    rw [this]
  · rw [if_neg (by omega), i64_id (n := (I : Int) + 2) (by omega) (by omega), show (I : Int) + 2 = ((I + 2 : Nat) : Int) by omega, slcO_of (by omega) (by omega)]
    simp only [Option.bind_some]
    obtain ⟨a, b, r, hr⟩ : ∃ a b r, B.drop I = a :: b :: r := by
      match hd : B.drop I with
      | [] => have := congrArg List.length hd; rw [List.length_drop] at this; simp at this; omega
      | [_] => have := congrArg List.length hd; rw [List.length_drop] at this; simp at this; omega
      | a :: b :: r => exact ⟨a, b, r, rfl⟩
    have hr2 : B.drop (I + 2) = r := by rw [← List.drop_drop, hr]; rfl
    have hrl : r.length = B.length - (I + 2) := by rw [← hr2, List.length_drop]
    rw [List.drop_take, show I + 2 - I = 2 by omega, hr]
    simp only [List.take_succ_cons, List.take_zero]
    rw [r2Number_eq]
    simp only [Option.bind_some]
    have hn := num2_lt a b
    rw [i64_id (n := (num2 a b : Int)) (by omega) (by omega), i64_id (n := (B.length : Int) - I - 2) (by omega) (by omega)]
    rw [rdT_cons]
    by_cases h : num2 a b ≤ r.length
    · rw [if_neg (by omega), if_pos h, r2Raw_ok B (I + 2) _ (by omega) hl]
      simp only [Option.bind_some]
      rw [hr2, show (r.take (num2 a b)).length = num2 a b by rw [List.length_take]; omega]
    · rw [if_pos (by omega), if_neg h]
end Go.Proofs.YtnjemlkcamdbfaaGreatDoor
