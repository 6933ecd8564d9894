/- Plain: the readers of nodes are these. -/
import Derived.Test.YtnjemlkcamdbfaaGreatDoorTrE
set_option linter.unusedSimpArgs false
set_option linter.unusedVariables false
namespace Go.Proofs.YtnjemlkcamdbfaaGreatDoor
open Go.RowKit Go.Tri
theorem equalB_eq (x y : List UInt8) (hx : x.length ≤ 274877906944) : equalB x y = some (decide (x = y)) := by
  unfold equalB
  by_cases hl : x.length = y.length
  · rw [if_pos (by omega)]
    have key : ∀ (m i : Nat), i + m = x.length → loopO (fun (s46 : Int) => if s46 < ((x).length : Int) then ((idxO x s46).bind fun x48 =>
      (idxO y s46).bind fun x51 =>
      if ((x48).toNat : Int) = ((x51).toNat : Int) then (some (.inl (IntKind.i64.wrap (s46 + 1))))
      else (some (.inr (.inr false))))
      else (some (.inr (.inl ())))) (i : Int) = some (if x.drop i = y.drop i then (.inl () : Unit ⊕ Bool) else .inr false) := by
      intro m
      induction m with
      | zero =>
        intro i hi
        rw [loopO_eq, if_neg (by omega)]
        simp [List.drop_eq_nil_of_le (show x.length ≤ i by omega), List.drop_eq_nil_of_le (show y.length ≤ i by omega)]
      | succ m ih =>
        intro i hi
        have h1 : i < x.length := by omega
        have h2 : i < y.length := by omega
        rw [loopO_eq, if_pos (by omega), idxO_getD 0 rfl h1, idxO_getD 0 rfl h2]
        simp only [Option.bind_some]
        have g1 : x.getD i 0 = x[i] := by simp [List.getD_eq_getElem?_getD, h1]
        have g2 : y.getD i 0 = y[i] := by simp [List.getD_eq_getElem?_getD, h2]
        rw [g1, g2, show x.drop i = x[i] :: x.drop (i + 1) from List.drop_eq_getElem_cons h1, show y.drop i = y[i] :: y.drop (i + 1) from List.drop_eq_getElem_cons h2]
        by_cases hc : x[i] = y[i]
        · rw [if_pos (by rw [hc]), i64_id (by omega) (by omega)]
          simp only [Option.bind_some]
          rw [show ((i : Int) + 1) = ((i + 1 : Nat) : Int) by omega, ih (i + 1) (by omega)]
          simp only [List.cons.injEq, hc, true_and]
        · rw [if_neg (fun h => hc (UInt8.toNat_inj.1 (by omega)))]
          simp only [List.cons.injEq, hc, false_and, if_false, Option.bind_some]
    have := key x.length 0 (by omega)
    rw [show (0 : Int) = ((0 : Nat) : Int) from rfl, this]
    simp only [Option.bind_some, List.drop_zero]
    by_cases h : x = y <;> simp [h]
  · rw [if_neg (by omega)]
    simp [show ¬ x = y from fun h => hl (by rw [h])]
theorem rdT_le {e t r : List UInt8} (h : rdT e = some (t, r)) : t.length ≤ e.length ∧ r.length ≤ e.length := by
  obtain ⟨h1, _⟩ := rdT_some h
  have := congrArg List.length h1
  rw [List.length_append, tx_len] at this
  omega
theorem lenT_le (e : List UInt8) : (lenT e).1.length ≤ e.length ∧ (lenT e).2.length ≤ e.length := by
  unfold lenT
  cases h : rdT e with
  | none => simp
  | some a => exact rdT_le (t := a.1) (r := a.2) h
theorem len32_le (e : List UInt8) : (len32 e).1.length ≤ e.length ∧ (len32 e).2.length ≤ e.length := by
  unfold len32
  split
  · simp only [List.length_take, List.length_drop]; omega
  · simp
theorem eyeText_len (e : List UInt8) (hl : e.length ≤ 274877906944) : ∃ c, eyeText e = some ((lenT e).1, c, (lenT e).2) := by
  rw [eyeText_eq e hl]
  unfold lenT
  cases h : rdT e with
  | none => exact ⟨20, rfl⟩
  | some a => exact ⟨0, rfl⟩
theorem eyeRaw_len (e : List UInt8) (hl : e.length ≤ 274877906944) : ∃ c, eyeRaw e 32 = some ((len32 e).1, c, (len32 e).2) := by
  unfold len32
  by_cases h : 32 ≤ e.length
  · rw [if_pos h]; exact ⟨0, eyeRaw_ok e 32 h hl⟩
  · rw [if_neg h]; exact ⟨20, eyeRaw_no e 32 (by omega)⟩
theorem eyeUint1_len (e : List UInt8) (hl : e.length ≤ 274877906944) : ∃ c, eyeUint e 1 = some (((hd1 e).1 : Int), c, (hd1 e).2) := by
  rw [eyeUint1 e hl]
  cases e with
  | nil => exact ⟨20, rfl⟩
  | cons a r => exact ⟨0, rfl⟩
theorem hd1_le (e : List UInt8) : (hd1 e).2.length ≤ e.length ∧ (hd1 e).1 < 256 := by
  cases e with
  | nil => simp [hd1]
  | cons a r => have := a.toNat_lt; simp [hd1]; omega
theorem lenP_small : ∀ (k : Nat) (e : List UInt8), (∀ p ∈ (lenP k e).1, p.1.length ≤ e.length ∧ p.2.length ≤ e.length)
  | 0, e => by simp [lenP]
  | k + 1, e => by
    intro p hp
    have h1 := lenT_le e
    have h2 := lenT_le (lenT e).2
    simp only [lenP] at hp
    rcases List.mem_cons.1 hp with rfl | hp
    · exact ⟨h1.1, by simp only; omega⟩
    · have := lenP_small k _ p hp
      omega
theorem lenK_small : ∀ (k : Nat) (e : List UInt8), (∀ p ∈ (lenK k e).1, p.1.length ≤ e.length ∧ p.2.length ≤ 32)
  | 0, e => by simp [lenK]
  | k + 1, e => by
    intro p hp
    have h1 := lenT_le e
    have h2 := len32_le (lenT e).2
    simp only [lenK] at hp
    rcases List.mem_cons.1 hp with rfl | hp
    · exact ⟨h1.1, by rw [put32_len]; exact Nat.le_refl _⟩
    · have := lenK_small k _ p hp
      omega
/-- One round of a reader. -/
def ndS (z : Bool) (s : (List Pr × List Pr) × List UInt8) (_ : Unit) : ((List Pr × List Pr) × List UInt8) ⊕ ((List Pr × List Pr) × List UInt8) :=
  if z then .inl ((s.1.1 ++ [((lenT s.2).1, (lenT (lenT s.2).2).1)], s.1.2), (lenT (lenT s.2).2).2)
  else .inl ((s.1.1, s.1.2 ++ [((lenT s.2).1, putAt (List.replicate 32 0) 0 ((len32 (lenT s.2).2).1.take 32))]), (len32 (lenT s.2).2).2)
theorem runNd : ∀ (k : Nat) (z : Bool) (s : (List Pr × List Pr) × List UInt8), runE (ndS z) id (List.replicate k ()) s = if z then ((s.1.1 ++ (lenP k s.2).1, s.1.2), (lenP k s.2).2) else ((s.1.1, s.1.2 ++ (lenK k s.2).1), (lenK k s.2).2)
  | 0, z, s => by cases z <;> simp [runE, lenP, lenK]
  | k + 1, z, s => by
    cases z with
    | true => simp only [List.replicate_succ, runE, ndS, if_true]; rw [runNd k true]; simp [lenP]
    | false => simp only [List.replicate_succ, runE, ndS, Bool.false_eq_true, if_false]; rw [runNd k false]; simp [lenK]
theorem wr_fin (n : Nd) (b : List UInt8) : (if (wrN n).2 = 0 then ((equalB (wrN n).1 b).bind fun x => if (!x) = true then some ((0, ([] : List Pr), ([] : List Pr)), (22 : Int)) else some ((n.1, n.2.1, n.2.2), 0)) else some ((0, [], []), 22)) = some (if wrN n = (b, 0) then (n, 0) else (zNd, 22)) := by
  obtain ⟨x, c, hx⟩ : ∃ x c, wrN n = (x, c) := ⟨_, _, rfl⟩
  rw [hx]
  simp only
  by_cases hw : c = 0
  · subst hw
    obtain ⟨_, _, _, h4, h5⟩ := wrN_ok hx
    rw [if_pos rfl, equalB_eq _ _ (by omega)]
    simp only [Option.bind_some]
    by_cases hq : x = b
    · subst hq; simp
    · rw [if_neg (fun h => hq (congrArg Prod.fst h))]; simp [hq, zNd]
  · rw [if_neg hw, if_neg (fun h => hw (congrArg Prod.snd h))]; rfl
theorem ndRead_eq (b : List UInt8) (hb : b.length ≤ 30000) : ndRead b = some (if wrN (lenN b) = (b, 0) then (lenN b, 0) else (zNd, 22)) := by
  unfold ndRead newEye
  rw [cloneB_eq _ (by omega)]
  simp only [Option.bind_some]
  have a1 := hd1_le b
  have a2 := hd1_le (hd1 b).2
  have a3 := hd1_le (hd1 (hd1 b).2).2
  obtain ⟨c1, h1⟩ := eyeUint1_len b (by omega)
  obtain ⟨c2, h2⟩ := eyeUint1_len (hd1 b).2 (by omega)
  obtain ⟨c3, h3⟩ := eyeUint1_len (hd1 (hd1 b).2).2 (by omega)
  rw [h1]
  simp only [Option.bind_some]
  rw [h2]
  simp only [Option.bind_some]
  rw [h3]
  simp only [Option.bind_some]
  obtain ⟨lv, hlv⟩ : ∃ lv, lv = (hd1 (hd1 b).2).1 := ⟨_, rfl⟩
  obtain ⟨ct, hct⟩ : ∃ ct, ct = (hd1 (hd1 (hd1 b).2).2).1 := ⟨_, rfl⟩
  obtain ⟨e, he⟩ : ∃ e, e = (hd1 (hd1 (hd1 b).2).2).2 := ⟨_, rfl⟩
  have hN : lenN b = if lv = 0 then (0, (lenP ct e).1, []) else ((lv : Int), [], (lenK ct e).1) := by unfold lenN; rw [hlv, hct, he]
  rw [hN, ← hlv, ← hct, ← he]
  rw [← he] at a3
  rw [← hlv] at a2
  rw [← hct] at a3
  rw [loop_xs0 (s0 := ((([] : List Pr), ([] : List Pr)), e)) (List.replicate ct ()) (fun (s : (List Pr × List Pr) × List UInt8) (i : Int) => (s.1, s.2, i)) (ndS (decide (lv = 0))) id (fun i s => s.1.1.length ≤ i ∧ s.1.2.length ≤ i ∧ s.2.length ≤ 30000) ⟨by simp, by simp, by simp only; omega⟩ (fun i s u hu hI => ?_) (fun s hI => by simp only [List.length_replicate]; rw [if_neg (by omega)]; rfl)]
  · rw [runNd]
    simp only [Option.bind_some, List.nil_append]
    by_cases h0 : lv = 0
    · subst h0
      simp only [decide_true, if_true]
      have sP : SmallP (lenP ct e).1 := ⟨by rw [lenP_len]; omega, fun p hp => by have := lenP_small ct e p hp; omega⟩
      rw [show IntKind.i64.wrap ((0 : Nat) : Int) = 0 from rfl, ndWrite_eq (0, (lenP ct e).1, []) sP ⟨by simp, by simp⟩]
      simp only [Option.bind_some]
      exact wr_fin (0, (lenP ct e).1, []) b
    · simp only [h0, decide_false, Bool.false_eq_true, if_false]
      have sK : SmallP (lenK ct e).1 := ⟨by rw [lenK_len]; omega, fun p hp => by have := lenK_small ct e p hp; omega⟩
      rw [show IntKind.i64.wrap ((lv : Nat) : Int) = (lv : Int) from i64_nat (by omega), ndWrite_eq ((lv : Int), [], (lenK ct e).1) ⟨by simp, by simp⟩ sK]
      simp only [Option.bind_some]
      exact wr_fin ((lv : Int), [], (lenK ct e).1) b
  · have hi := (List.getElem?_eq_some_iff.1 hu).1
    rw [List.length_replicate] at hi
    obtain ⟨I1, I2, I3⟩ := hI
    have b1 := lenT_le s.2
    have b2 := lenT_le (lenT s.2).2
    have b3 := len32_le (lenT s.2).2
    simp only
    rw [if_pos (by omega)]
    obtain ⟨d1, g1⟩ := eyeText_len s.2 (by omega)
    rw [g1]
    simp only [Option.bind_some]
    unfold ndS
    by_cases h0 : lv = 0
    · simp only [h0, decide_true, if_true, Int.natCast_zero]
      obtain ⟨d2, g2⟩ := eyeText_len (lenT s.2).2 (by omega)
      rw [g2]
      simp only [Option.bind_some]
      rw [appO_of (by simp; omega)]
      simp only [Option.bind_some, Sum.elim_inl]
      rw [u64_id (by omega) (by omega)]
      refine ⟨rfl, fun s' hs' => ?_⟩
      cases hs'
      refine ⟨by simp; omega, by simp; omega, by simp only; omega⟩
    · simp only [h0, decide_false, Bool.false_eq_true, if_false]
      rw [if_neg (by omega)]
      obtain ⟨d2, g2⟩ := eyeRaw_len (lenT s.2).2 (by omega)
      rw [g2]
      simp only [Option.bind_some]
      rw [appO_of (by simp; omega)]
      simp only [Option.bind_some, Sum.elim_inl]
      rw [u64_id (by omega) (by omega)]
      refine ⟨rfl, fun s' hs' => ?_⟩
      cases hs'
      refine ⟨by simp; omega, by simp; omega, by simp only; omega⟩
end Go.Proofs.YtnjemlkcamdbfaaGreatDoor
