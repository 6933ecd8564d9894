/- Plain: the document's reader of nodes. -/
import Derived.Test.YtnjemlkcamdbfaaGreatDoorTrF
set_option linter.unusedSimpArgs false
set_option linter.unusedVariables false
namespace Go.Proofs.YtnjemlkcamdbfaaGreatDoor
open Go.RowKit Go.Tri
theorem copy32 (x : List UInt8) (hx : x.length = 32) : loopO (fun (s950 : (List UInt8) × Int) => if s950.2 < 32 then ((idxO x s950.2).bind fun x953 => (idxO s950.1 s950.2).bind fun x956 => (u8O ((x953).toNat : Int)).bind fun x958 => some (.inl ((s950.1).set (s950.2 : Int).toNat x958, IntKind.i64.wrap (s950.2 + 1)))) else (some (.inr s950.1))) ((List.replicate 32 0), 0) = some x := by
  rw [(loop_for0 (fun i s => s.set i (x.getD i 0)) (fun s => s) 32 (fun _ s => s.length = 32) ?hs ?he (by simp)).1]
  case he => intro s _; rw [if_neg (by omega)]
  case hs =>
    intro i s hi hI
    refine ⟨?_, by simp [hI]⟩
    simp only
    rw [if_pos (by omega), idxO_getD 0 rfl (by omega), idxO_getD 0 rfl (by omega)]
    simp only [Option.bind_some, u8_ok, Int.toNat_natCast]
    rw [i64_id (by omega) (by omega)]
    rfl
  rw [iter_set_all _ 32 _ (by simp)]
  congr 1
  apply List.ext_getElem
  · simp [hx]
  · intro i h1 h2
    simp [List.getD_eq_getElem?_getD, h2]
def rnS (b : List UInt8) (z : Bool) (s : Nat × List Pr × List Pr) (_ : Unit) : (Nat × List Pr × List Pr) ⊕ (((List UInt8 × Int) × (List Pr × List Pr)) ⊕ (Nd × Int)) :=
  match rdT (b.drop s.1) with
  | none => .inr (.inr (zNd, 22))
  | some (t, r) => if z then (match rdT r with
      | none => .inr (.inr (zNd, 22))
      | some (v, _) => .inl (s.1 + 2 + t.length + 2 + v.length, s.2.1 ++ [(t, v)], s.2.2))
    else if 32 ≤ r.length then .inl (s.1 + 2 + t.length + 32, s.2.1, s.2.2 ++ [(t, r.take 32)]) else .inr (.inr (zNd, 22))
def rnF (b : List UInt8) (s : Nat × List Pr × List Pr) : ((List UInt8 × Int) × (List Pr × List Pr)) ⊕ (Nd × Int) := .inl ((b, (s.1 : Int)), (s.2.1, s.2.2))
theorem rdT_drop {b t r : List UInt8} {i : Nat} (h : rdT (b.drop i) = some (t, r)) : r = b.drop (i + 2 + t.length) ∧ i + 2 + t.length ≤ b.length := by
  obtain ⟨h1, _⟩ := rdT_some h
  have h2 := congrArg List.length h1
  rw [List.length_drop, List.length_append, tx_len] at h2
  refine ⟨?_, by omega⟩
  rw [show i + 2 + t.length = i + (2 + t.length) by omega, ← List.drop_drop, h1, List.drop_left' (by rw [tx_len]; omega)]
theorem runRn (b : List UInt8) : ∀ (k : Nat) (z : Bool) (s : Nat × List Pr × List Pr), s.1 ≤ b.length → runE (rnS b z) (rnF b) (List.replicate k ()) s =
    if z then (match strP k (b.drop s.1) with | none => .inr (zNd, 22) | some (l, r) => .inl ((b, ((b.length - r.length : Nat) : Int)), (s.2.1 ++ l, s.2.2)))
    else (match strK k (b.drop s.1) with | none => .inr (zNd, 22) | some (l, r) => .inl ((b, ((b.length - r.length : Nat) : Int)), (s.2.1, s.2.2 ++ l)))
  | 0, z, s, hs => by
    have e : b.length - (b.drop s.1).length = s.1 := by rw [List.length_drop]; omega
    cases z
    · simp only [runE, List.replicate_zero, rnF, strK, Bool.false_eq_true, if_false, e, List.append_nil]
    · simp only [runE, List.replicate_zero, rnF, strP, if_true, e, List.append_nil]
  | k + 1, z, s, hs => by
    simp only [List.replicate_succ, runE, rnS]
    cases h1 : rdT (b.drop s.1) with
    | none => cases z <;> simp [strP, strK, h1]
    | some a =>
      obtain ⟨t, r⟩ := a
      obtain ⟨e1, e2⟩ := rdT_drop h1
      cases z with
      | true =>
        simp only [if_true]
        cases h2 : rdT r with
        | none => simp [strP, h1, h2]
        | some c =>
          obtain ⟨v, r2⟩ := c
          rw [e1] at h2
          obtain ⟨e3, e4⟩ := rdT_drop h2
          simp only
          rw [runRn b k true _ (by simp only; omega)]
          simp only [if_true, strP, h1, Option.bind_some]
          rw [e1, h2]
          simp only [Option.bind_some]
          rw [e3]
          cases strP k (b.drop (s.1 + 2 + t.length + 2 + v.length)) with
          | none => rfl
          | some d => simp
      | false =>
        simp only [Bool.false_eq_true, if_false]
        by_cases hl : 32 ≤ r.length
        · have hl' := hl
          rw [e1, List.length_drop] at hl'
          simp only [if_pos hl]
          rw [runRn b k false _ (by simp only; omega)]
          simp only [Bool.false_eq_true, if_false, strK, h1, Option.bind_some, if_pos hl]
          rw [e1, List.drop_drop]
          cases strK k (b.drop (s.1 + 2 + t.length + 32)) with
          | none => rfl
          | some d => simp
        · simp only [if_neg hl, strK, h1, Option.bind_some, Bool.false_eq_true, if_false]
theorem r07Read_eq (b : List UInt8) (hb : b.length ≤ 30000) : m_triremeref07_Read b = some (match strN b with | some n => (n, 0) | none => (zNd, 22)) := by
  unfold m_triremeref07_Read
  match b, hb with
  | [], _ => rw [if_pos (by simp)]; rfl
  | [_], _ => rw [if_pos (by simp)]; rfl
  | [_, _], _ => rw [if_pos (by simp)]; rfl
  | t :: lv :: ct :: r, hb =>
    obtain ⟨b, hbe⟩ : ∃ b, b = t :: lv :: ct :: r := ⟨_, rfl⟩
    have i0 : idxO b 0 = some t := by rw [hbe]; rfl
    have i1 : idxO b 1 = some lv := by rw [hbe]; rfl
    have i2 : idxO b 2 = some ct := by rw [hbe]; rfl
    have hd3 : b.drop 3 = r := by rw [hbe]; rfl
    have hlb : b.length = r.length + 3 := by rw [hbe]; simp
    have hct := ct.toNat_lt
    have hlv := lv.toNat_lt
    have hS : strN b = if b.length ≤ 470 ∧ t = 84 ∧ lv.toNat ≤ 15 then
      (if lv.toNat = 0 then (strP ct.toNat r).bind fun c => if c.2 = [] ∧ rightN (0, c.1, []) = true then some (0, c.1, []) else none
       else (strK ct.toNat r).bind fun c => if c.2 = [] ∧ rightN ((lv.toNat : Int), [], c.1) = true then some ((lv.toNat : Int), [], c.1) else none)
      else none := by rw [hbe]; rfl
    rw [← hbe] at hb ⊢
    rw [if_neg (by omega), hS]
    by_cases h470 : b.length ≤ 470
    · rw [if_neg (by omega), i0]
      simp only [Option.bind_some]
      by_cases h84 : t = 84
      · rw [if_pos (show ((t.toNat : Nat) : Int) = 84 by rw [h84]; rfl), i1]
        simp only [Option.bind_some]
        by_cases h15 : lv.toNat ≤ 15
        · rw [if_neg (by omega), if_pos ⟨h470, h84, h15⟩, show IntKind.i64.wrap ((lv.toNat : Nat) : Int) = (lv.toNat : Int) from i64_nat (by omega)]
          refine (congrArg (fun o => Option.bind o _) (loop_xs0 (s0 := (3, ([] : List Pr), ([] : List Pr))) (List.replicate ct.toNat ()) (fun (s : Nat × List Pr × List Pr) (i : Int) => ((b, (s.1 : Int)), (s.2.1, s.2.2), i)) (rnS b (decide (lv.toNat = 0))) (rnF b) (fun i s => s.1 ≤ b.length ∧ s.2.1.length ≤ i ∧ s.2.2.length ≤ i) ⟨by simp only; omega, by simp, by simp⟩ (fun i s u hu hI => ?_) (fun s hI => by
            simp only [List.length_replicate]
            rw [i2]
            simp only [Option.bind_some]
            rw [i64_nat (by omega), if_neg (by omega)]; rfl))).trans ?_
          rotate_left
          · rw [runRn b _ _ _ (by simp only; omega)]
            simp only [Option.bind_some, List.nil_append, hd3]
            by_cases h0 : lv.toNat = 0
            · simp only [h0, decide_true, if_true]
              cases hp : strP ct.toNat r with
              | none => rfl
              | some c =>
                obtain ⟨l, r2⟩ := c
                obtain ⟨e1, e2, e3⟩ := strP_some _ _ _ _ hp
                have hr2 : r2.length ≤ r.length := by rw [e1]; simp
                simp only [Sum.elim_inl, Option.bind_some]
                by_cases hz : r2 = []
                · subst hz
                  rw [if_pos (by simp), rRight_eq _ (by simp only; omega) (by simp)]
                  simp only [Option.bind_some, true_and]
                  by_cases hr : rightN (0, l, []) = true
                  · simp [hr]
                  · simp [hr, zNd]
                · have : 0 < r2.length := List.length_pos_iff.2 hz
                  rw [if_neg (by omega), if_neg (fun h => hz h.1)]
                  rfl
            · simp only [h0, decide_false, Bool.false_eq_true, if_false]
              cases hp : strK ct.toNat r with
              | none => rfl
              | some c =>
                obtain ⟨l, r2⟩ := c
                obtain ⟨e1, e2, e3, _⟩ := strK_some _ _ _ _ hp
                have hr2 : r2.length ≤ r.length := by rw [e1]; simp
                simp only [Sum.elim_inl, Option.bind_some]
                by_cases hz : r2 = []
                · subst hz
                  rw [if_pos (by simp), rRight_eq _ (by simp) (by simp only; omega)]
                  simp only [Option.bind_some, true_and]
                  by_cases hr : rightN ((lv.toNat : Int), [], l) = true
                  · simp [hr]
                  · simp [hr, zNd]
                · have : 0 < r2.length := List.length_pos_iff.2 hz
                  rw [if_neg (by omega), if_neg (fun h => hz h.1)]
                  rfl
          · have hi := (List.getElem?_eq_some_iff.1 hu).1
            rw [List.length_replicate] at hi
            obtain ⟨I1, I2, I3⟩ := hI
            simp only
            rw [i2]
            simp only [Option.bind_some]
            rw [i64_nat (by omega), if_pos (by omega), r2Text_eq b s.1 I1 (by omega)]
            simp only [Option.bind_some]
            unfold rnS
            cases h1 : rdT (b.drop s.1) with
            | none => simp [zNd]
            | some a =>
              obtain ⟨x, r'⟩ := a
              obtain ⟨e1, e2⟩ := rdT_drop h1
              simp only [if_true]
              by_cases h0 : lv.toNat = 0
              · rw [if_pos (by omega)]
                simp only [h0, decide_true, if_true]
                rw [r2Text_eq b _ e2 (by omega), ← e1]
                simp only [Option.bind_some]
                cases h2 : rdT r' with
                | none => simp [zNd]
                | some c =>
                  obtain ⟨v, r3⟩ := c
                  rw [e1] at h2
                  obtain ⟨e3, e4⟩ := rdT_drop h2
                  simp only [if_true]
                  rw [appO_of (by simp; omega)]
                  simp only [Option.bind_some, Sum.elim_inl]
                  rw [i64_id (by omega) (by omega)]
                  refine ⟨rfl, fun s' hs' => ?_⟩
                  cases hs'
                  exact ⟨by simp only; omega, by simp; omega, by simp only; omega⟩
              · rw [if_neg (by omega)]
                simp only [h0, decide_false, Bool.false_eq_true, if_false]
                have hrl : r'.length = b.length - (s.1 + 2 + x.length) := by rw [e1, List.length_drop]
                by_cases hl : 32 ≤ r'.length
                · rw [show r2Raw (b, ((s.1 + 2 + x.length : Nat) : Int)) 32 = _ from r2Raw_ok b (s.1 + 2 + x.length) 32 (by omega) (by omega), ← e1]
                  simp only [Option.bind_some, if_true]
                  rw [copy32 _ (by rw [List.length_take]; omega)]
                  simp only [Option.bind_some]
                  rw [appO_of (by simp; omega)]
                  simp only [Option.bind_some, Sum.elim_inl, if_pos hl]
                  rw [i64_id (by omega) (by omega)]
                  refine ⟨rfl, fun s' hs' => ?_⟩
                  cases hs'
                  exact ⟨by simp only; omega, by simp only; omega, by simp; omega⟩
                · rw [show r2Raw (b, ((s.1 + 2 + x.length : Nat) : Int)) 32 = _ from r2Raw_no b (s.1 + 2 + x.length) 32 (by omega) e2 (by omega)]
                  simp [hl, zNd]
        · rw [if_pos (by omega), if_neg (fun h => h15 h.2.2)]; rfl
      · rw [if_neg (fun h => h84 (UInt8.toNat_inj.1 (by have : (84 : UInt8).toNat = 84 := rfl
                                                        omega))), if_neg (fun h => h84 h.2.1)]; rfl
    · rw [if_pos (by omega), if_neg (fun h => h470 h.1)]; rfl
end Go.Proofs.YtnjemlkcamdbfaaGreatDoor
