/- Plain: nodes are read, by the program and by the document. -/
import Derived.Test.YtnjemlkcamdbfaaGreatDoorTrD
set_option linter.unusedSimpArgs false
set_option linter.unusedVariables false
namespace Go.Proofs.YtnjemlkcamdbfaaGreatDoor
open Go.RowKit Go.Tri
def zNd : Nd := (0, [], [])
/-! ### Strictly -/
def strP : Nat → List UInt8 → Option (List Pr × List UInt8)
  | 0, e => some ([], e)
  | k + 1, e => (rdT e).bind fun a => (rdT a.2).bind fun b => (strP k b.2).bind fun c => some ((a.1, b.1) :: c.1, c.2)
def strK : Nat → List UInt8 → Option (List Pr × List UInt8)
  | 0, e => some ([], e)
  | k + 1, e => (rdT e).bind fun a => if 32 ≤ a.2.length then (strK k (a.2.drop 32)).bind fun c => some ((a.1, a.2.take 32) :: c.1, c.2) else none
def K32 (l : List Pr) : Prop := ∀ k ∈ l, k.2.length = 32
theorem strP_some : ∀ (k : Nat) (e : List UInt8) (l : List Pr) (r : List UInt8), strP k e = some (l, r) → e = l.flatMap encP ++ r ∧ l.all okP = true ∧ l.length = k
  | 0, e, l, r, h => by cases h; simp
  | k + 1, e, l, r, h => by
    simp only [strP] at h
    cases h1 : rdT e with
    | none => rw [h1] at h; cases h
    | some a =>
      rw [h1] at h
      simp only [Option.bind_some] at h
      cases h2 : rdT a.2 with
      | none => rw [h2] at h; cases h
      | some b =>
        rw [h2] at h
        simp only [Option.bind_some] at h
        cases h3 : strP k b.2 with
        | none => rw [h3] at h; cases h
        | some c =>
          rw [h3] at h
          simp only [Option.bind_some] at h
          cases h
          obtain ⟨e1, l1⟩ := rdT_some (t := a.1) (r := a.2) h1
          obtain ⟨e2, l2⟩ := rdT_some (t := b.1) (r := b.2) h2
          obtain ⟨e3, l3, l4⟩ := strP_some k b.2 c.1 c.2 h3
          refine ⟨?_, ?_, ?_⟩
          · rw [e1, e2, e3]; simp [encP]
          · simp [okP, l1, l2, l3]
          · simp [l4]
theorem strK_some : ∀ (k : Nat) (e : List UInt8) (l : List Pr) (r : List UInt8), strK k e = some (l, r) → e = l.flatMap encK ++ r ∧ l.all okK = true ∧ l.length = k ∧ K32 l
  | 0, e, l, r, h => by cases h; simp [K32]
  | k + 1, e, l, r, h => by
    simp only [strK] at h
    cases h1 : rdT e with
    | none => rw [h1] at h; cases h
    | some a =>
      rw [h1] at h
      simp only [Option.bind_some] at h
      by_cases hl : 32 ≤ a.2.length
      · rw [if_pos hl] at h
        cases h3 : strK k (a.2.drop 32) with
        | none => rw [h3] at h; cases h
        | some c =>
          rw [h3] at h
          simp only [Option.bind_some] at h
          cases h
          obtain ⟨e1, l1⟩ := rdT_some (t := a.1) (r := a.2) h1
          obtain ⟨e3, l3, l4, l5⟩ := strK_some k _ c.1 c.2 h3
          refine ⟨?_, ?_, ?_, ?_⟩
          · rw [e1]
            have : a.2 = a.2.take 32 ++ (c.1.flatMap encK ++ c.2) := by rw [← e3, List.take_append_drop]
            rw [List.flatMap_cons, List.append_assoc]
            show tx a.1 ++ a.2 = (tx a.1 ++ a.2.take 32) ++ (c.1.flatMap encK ++ c.2)
            rw [List.append_assoc, ← this]
          · simp [okK, l1, l3]
          · simp [l4]
          · intro q hq
            rcases List.mem_cons.1 hq with rfl | hq
            · simp; omega
            · exact l5 q hq
      · rw [if_neg hl] at h; cases h
theorem strP_enc : ∀ (l : List Pr) (r : List UInt8), l.all okP = true → strP l.length (l.flatMap encP ++ r) = some (l, r)
  | [], r, _ => rfl
  | p :: l, r, h => by
    simp only [List.all_cons, Bool.and_eq_true, okP, decide_eq_true_eq] at h
    simp only [List.length_cons, strP, List.flatMap_cons, encP, List.append_assoc]
    rw [rdT_tx _ _ h.1.1]
    simp only [Option.bind_some]
    rw [rdT_tx _ _ h.1.2]
    simp only [Option.bind_some]
    rw [strP_enc l r h.2]
    rfl
theorem strK_enc : ∀ (l : List Pr) (r : List UInt8), l.all okK = true → K32 l → strK l.length (l.flatMap encK ++ r) = some (l, r)
  | [], r, _, _ => rfl
  | p :: l, r, h, h32 => by
    simp only [List.all_cons, Bool.and_eq_true, okK, decide_eq_true_eq] at h
    have hp := h32 p List.mem_cons_self
    simp only [List.length_cons, strK, List.flatMap_cons, encK, List.append_assoc]
    rw [rdT_tx _ _ h.1]
    simp only [Option.bind_some]
    rw [if_pos (by simp; omega), List.drop_left' hp, strK_enc l r h.2 (fun k hk => h32 k (List.mem_cons_of_mem _ hk)), List.take_left' hp]
    rfl
/-- A block as a node, strictly. -/
def strN (b : List UInt8) : Option Nd := match b with
  | t :: lv :: ct :: r => if b.length ≤ 470 ∧ t = 84 ∧ lv.toNat ≤ 15 then
      (if lv.toNat = 0 then (strP ct.toNat r).bind fun c => if c.2 = [] ∧ rightN (0, c.1, []) = true then some (0, c.1, []) else none
       else (strK ct.toNat r).bind fun c => if c.2 = [] ∧ rightN ((lv.toNat : Int), [], c.1) = true then some ((lv.toNat : Int), [], c.1) else none)
    else none
  | _ => none
/-! ### As it comes -/
def lenT (e : List UInt8) : List UInt8 × List UInt8 := (rdT e).getD ([], e)
def len32 (e : List UInt8) : List UInt8 × List UInt8 := if 32 ≤ e.length then (e.take 32, e.drop 32) else ([], e)
def lenP : Nat → List UInt8 → List Pr × List UInt8
  | 0, e => ([], e)
  | k + 1, e => (((lenT e).1, (lenT (lenT e).2).1) :: (lenP k (lenT (lenT e).2).2).1, (lenP k (lenT (lenT e).2).2).2)
def lenK : Nat → List UInt8 → List Pr × List UInt8
  | 0, e => ([], e)
  | k + 1, e => (((lenT e).1, putAt (List.replicate 32 0) 0 ((len32 (lenT e).2).1.take 32)) :: (lenK k (len32 (lenT e).2).2).1, (lenK k (len32 (lenT e).2).2).2)
def hd1 (e : List UInt8) : Nat × List UInt8 := match e with | a :: r => (a.toNat, r) | [] => (0, [])
def lenN (b : List UInt8) : Nd :=
  if (hd1 (hd1 b).2).1 = 0 then (0, (lenP (hd1 (hd1 (hd1 b).2).2).1 (hd1 (hd1 (hd1 b).2).2).2).1, [])
  else (((hd1 (hd1 b).2).1 : Int), [], (lenK (hd1 (hd1 (hd1 b).2).2).1 (hd1 (hd1 (hd1 b).2).2).2).1)
theorem lenP_str : ∀ (k : Nat) (e : List UInt8) (c : List Pr × List UInt8), strP k e = some c → lenP k e = c
  | 0, e, c, h => by cases h; rfl
  | k + 1, e, c, h => by
    simp only [strP] at h
    cases h1 : rdT e with
    | none => rw [h1] at h; cases h
    | some a =>
      rw [h1] at h
      simp only [Option.bind_some] at h
      cases h2 : rdT a.2 with
      | none => rw [h2] at h; cases h
      | some b =>
        rw [h2] at h
        simp only [Option.bind_some] at h
        cases h3 : strP k b.2 with
        | none => rw [h3] at h; cases h
        | some d =>
          rw [h3] at h
          simp only [Option.bind_some] at h
          cases h
          have := lenP_str k b.2 d h3
          simp only [lenP, lenT, h1, h2, Option.getD_some, this]
theorem put32 (x : List UInt8) (h : x.length = 32) : putAt (List.replicate 32 0) 0 (x.take 32) = x := by
  rw [List.take_of_length_le (by omega)]
  unfold putAt
  rw [List.take_zero, List.nil_append, Nat.zero_add, List.drop_of_length_le (by simp; omega), List.append_nil]
theorem put32_len (x : List UInt8) : (putAt (List.replicate 32 (0 : UInt8)) 0 (x.take 32)).length = 32 := by
  rw [putAt_len _ _ _ (by simp; omega)]; simp
theorem lenK_str : ∀ (k : Nat) (e : List UInt8) (c : List Pr × List UInt8), strK k e = some c → lenK k e = c
  | 0, e, c, h => by cases h; rfl
  | k + 1, e, c, h => by
    simp only [strK] at h
    cases h1 : rdT e with
    | none => rw [h1] at h; cases h
    | some a =>
      rw [h1] at h
      simp only [Option.bind_some] at h
      by_cases hl : 32 ≤ a.2.length
      · rw [if_pos hl] at h
        cases h3 : strK k (a.2.drop 32) with
        | none => rw [h3] at h; cases h
        | some d =>
          rw [h3] at h
          simp only [Option.bind_some] at h
          cases h
          have := lenK_str k _ d h3
          simp only [lenK, lenT, len32, h1, Option.getD_some, if_pos hl, this]
          rw [put32 _ (by simp; omega)]
      · rw [if_neg hl] at h; cases h
theorem lenK_32 : ∀ (k : Nat) (e : List UInt8), K32 (lenK k e).1
  | 0, e => by simp [lenK, K32]
  | k + 1, e => by
    intro q hq
    simp only [lenK] at hq
    rcases List.mem_cons.1 hq with rfl | hq
    · exact put32_len _
    · exact lenK_32 k _ q hq
theorem lenP_len : ∀ (k : Nat) (e : List UInt8), (lenP k e).1.length = k
  | 0, _ => rfl
  | k + 1, e => by simp [lenP, lenP_len k]
theorem lenK_len : ∀ (k : Nat) (e : List UInt8), (lenK k e).1.length = k
  | 0, _ => rfl
  | k + 1, e => by simp [lenK, lenK_len k]
/-- What a strict reader takes is what is written. -/
theorem strN_some {b : List UInt8} {n : Nd} (h : strN b = some n) : lenN b = n ∧ wrN n = (b, 0) ∧ K32 n.2.2 := by
  match b, h with
  | t :: lv :: ct :: r, h =>
    simp only [strN] at h
    by_cases hc : (t :: lv :: ct :: r).length ≤ 470 ∧ t = 84 ∧ lv.toNat ≤ 15
    · rw [if_pos hc] at h
      obtain ⟨h470, rfl, h15⟩ := hc
      have hct := ct.toNat_lt
      by_cases h0 : lv.toNat = 0
      · rw [if_pos h0] at h
        cases h1 : strP ct.toNat r with
        | none => rw [h1] at h; cases h
        | some c =>
          rw [h1] at h
          simp only [Option.bind_some] at h
          split at h
          · rename_i h2
            cases h
            obtain ⟨e1, e2, e3⟩ := strP_some _ _ _ _ h1
            have hlv : lv = 0 := UInt8.toNat_inj.1 h0
            have he : enc (0, c.1, []) = 84 :: lv :: ct :: r := by
              simp only [enc, hd3, e3]
              rw [e1, h2.1, hlv]
              simp only [List.length_nil, Int.natCast_zero, Int.add_zero, List.flatMap_nil, List.append_nil, List.cons_append, List.nil_append]
              rw [i64_id (by omega) (by omega), wrap_u8', wrap_u8', show ((ct.toNat : Int)) % 256 = ct.toNat by omega, u8_toNat]
              rfl
            refine ⟨?_, ?_, ?_⟩
            · have := lenP_str _ _ _ h1
              simp only [lenN, hd1, h0, if_true, this]
            · unfold wrN
              rw [h2.2, if_neg (by decide), he]
              simp only [e2, List.all_nil, Bool.and_self, if_true]
              rw [if_neg (by omega)]
            · simp [K32]
          · cases h
      · rw [if_neg h0] at h
        cases h1 : strK ct.toNat r with
        | none => rw [h1] at h; cases h
        | some c =>
          rw [h1] at h
          simp only [Option.bind_some] at h
          split at h
          · rename_i h2
            cases h
            obtain ⟨e1, e2, e3, e4⟩ := strK_some _ _ _ _ h1
            have he : enc ((lv.toNat : Int), [], c.1) = 84 :: lv :: ct :: r := by
              simp only [enc, hd3, e3]
              rw [e1, h2.1]
              simp only [List.length_nil, Int.natCast_zero, Int.zero_add, List.flatMap_nil, List.append_nil, List.cons_append, List.nil_append]
              rw [i64_id (by omega) (by omega), wrap_u8', wrap_u8', show ((ct.toNat : Int)) % 256 = ct.toNat by omega, show ((lv.toNat : Int)) % 256 = lv.toNat by omega, u8_toNat, u8_toNat]
            refine ⟨?_, ?_, e4⟩
            · have := lenK_str _ _ _ h1
              simp only [lenN, hd1, if_neg h0, this]
            · unfold wrN
              rw [h2.2, if_neg (by decide), he]
              simp only [e2, List.all_nil, Bool.and_self, if_true]
              rw [if_neg (by omega)]
          · cases h
    · rw [if_neg hc] at h; cases h
theorem wrN_ok {n : Nd} {b : List UInt8} (h : wrN n = (b, 0)) : rightN n = true ∧ n.2.1.all okP = true ∧ n.2.2.all okK = true ∧ enc n = b ∧ b.length ≤ 470 := by
  unfold wrN at h
  by_cases hr : rightN n = true
  · rw [hr, if_neg (by decide)] at h
    by_cases ho : (n.2.1.all okP && n.2.2.all okK) = true
    · rw [if_pos ho] at h
      simp only [Bool.and_eq_true] at ho
      by_cases h4 : 470 < (enc n).length
      · rw [if_pos h4] at h; simp at h
      · rw [if_neg h4] at h
        cases h
        exact ⟨hr, ho.1, ho.2, rfl, by omega⟩
    · rw [if_neg ho] at h; simp at h
  · simp only [Bool.not_eq_true] at hr
    rw [if_pos hr] at h; simp at h
theorem rightN_lv {n : Nd} (h : rightN n = true) : 0 ≤ n.1 ∧ n.1 ≤ 15 ∧ (n.1 = 0 → n.2.2 = [] ∧ n.2.1.length < 256 ∧ Rises n.2.1) ∧ (n.1 ≠ 0 → n.2.1 = [] ∧ 1 ≤ n.2.2.length ∧ n.2.2.length ≤ 4) := by
  unfold rightN at h
  by_cases a : n.1 < 0
  · rw [if_pos a] at h; cases h
  rw [if_neg a] at h
  by_cases b : 15 < n.1
  · rw [if_pos b] at h; cases h
  rw [if_neg b] at h
  by_cases c : n.1 = 0
  · rw [if_pos c] at h
    simp only [Bool.and_eq_true, decide_eq_true_eq, risB_iff] at h
    exact ⟨by omega, by omega, fun _ => ⟨List.length_eq_zero_iff.1 h.1.1, h.1.2, h.2⟩, fun h' => absurd c h'⟩
  · rw [if_neg c] at h
    simp only [Bool.and_eq_true, decide_eq_true_eq] at h
    exact ⟨by omega, by omega, fun h' => absurd h' c, fun _ => ⟨List.length_eq_zero_iff.1 h.1.1.1, h.1.1.2, h.1.2⟩⟩
/-- What is written is taken by a strict reader. -/
theorem strN_wr {n : Nd} {b : List UInt8} (h : wrN n = (b, 0)) (h32 : K32 n.2.2) : strN b = some n := by
  obtain ⟨hr, ho1, ho2, rfl, h4⟩ := wrN_ok h
  obtain ⟨l0, l15, hz, hnz⟩ := rightN_lv hr
  obtain ⟨lv, ps, ks⟩ := n
  obtain ⟨m, rfl⟩ := Int.eq_ofNat_of_zero_le l0
  simp only at *
  have hm : m ≤ 15 := by omega
  have e1 : (u8 (IntKind.u8.wrap ((m : Nat) : Int))).toNat = m := by
    rw [wrap_u8', show ((m : Nat) : Int) % 256 = ((m : Nat) : Int) by omega]
    simp [u8]; omega
  by_cases h0 : m = 0
  · obtain ⟨rfl, hlt, _⟩ := hz (by omega)
    have e2 : (u8 (IntKind.u8.wrap (IntKind.i64.wrap ((ps.length : Int) + (([] : List Pr).length : Int))))).toNat = ps.length := by
      rw [List.length_nil, i64_id (by omega) (by omega), wrap_u8', show ((ps.length : Int) + ((0 : Nat) : Int)) % 256 = ((ps.length : Nat) : Int) by omega]
      simp [u8]; omega
    have he : enc ((m : Int), ps, []) = 84 :: u8 (IntKind.u8.wrap ((m : Nat) : Int)) :: u8 (IntKind.u8.wrap (IntKind.i64.wrap ((ps.length : Int) + (([] : List Pr).length : Int)))) :: (ps.flatMap encP ++ []) := by simp [enc, hd3]
    rw [he] at h4 ⊢
    unfold strN
    simp only
    rw [if_pos ⟨h4, trivial, by rw [e1]; exact hm⟩, e1, if_pos h0, e2, strP_enc ps [] ho1]
    subst h0
    simp only [Option.bind_some]
    rw [if_pos ⟨trivial, hr⟩]
    rfl
  · obtain ⟨rfl, h1, hle⟩ := hnz (by omega)
    have e2 : (u8 (IntKind.u8.wrap (IntKind.i64.wrap ((([] : List Pr).length : Int) + (ks.length : Int))))).toNat = ks.length := by
      rw [List.length_nil, i64_id (by omega) (by omega), wrap_u8', show (((0 : Nat) : Int) + (ks.length : Int)) % 256 = ((ks.length : Nat) : Int) by omega]
      simp [u8]; omega
    have he : enc ((m : Int), [], ks) = 84 :: u8 (IntKind.u8.wrap ((m : Nat) : Int)) :: u8 (IntKind.u8.wrap (IntKind.i64.wrap ((([] : List Pr).length : Int) + (ks.length : Int)))) :: (ks.flatMap encK ++ []) := by simp [enc, hd3]
    rw [he] at h4 ⊢
    unfold strN
    simp only
    rw [if_pos ⟨h4, trivial, by rw [e1]; exact hm⟩, e1, if_neg h0, e2, strK_enc ks [] ho2 h32]
    simp only [Option.bind_some]
    rw [if_pos ⟨trivial, hr⟩]
theorem lenN_32 (b : List UInt8) : K32 (lenN b).2.2 := by
  unfold lenN
  split
  · simp [K32]
  · exact lenK_32 _ _
/-- Both readers agree. -/
theorem read_agree (b : List UInt8) : (if wrN (lenN b) = (b, 0) then (lenN b, (0 : Int)) else (zNd, 22)) = (match strN b with | some n => (n, 0) | none => (zNd, 22)) := by
  cases h : strN b with
  | some n =>
    obtain ⟨h1, h2, _⟩ := strN_some h
    rw [h1, if_pos h2]
  | none =>
    rw [if_neg]
    intro h'
    have := strN_wr h' (lenN_32 b)
    rw [h] at this; cases this
end Go.Proofs.YtnjemlkcamdbfaaGreatDoor
